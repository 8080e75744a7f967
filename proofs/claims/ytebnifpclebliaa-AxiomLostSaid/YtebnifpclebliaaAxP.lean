/- clepsydralaw27.puts: answers made of numbers: a contract. Condition: the list's length fits an int. -/
import Derived.Test.YtebnifpclebliaaAxE
import Derived.Test.YtebnifpclebliaaBits
namespace Go.Proofs.Ytebnifpclebliaa
set_option linter.unusedVariables false
set_option linter.unusedSimpArgs false
open Go.ChangeShapes Go.WideShapes Go.ChangeAt Go.RowKit

def putA (i : Nat) (x : Int) : An := if x / 64 % 4 = 0 then ⟨i + 1, 2, x % 2, 0, 0, 0, 8 * i + 9, none, 0, 0⟩ else ⟨i + 1, 1, x % 2, x / 2 % 4, x / 8 % 8, 0, 8 * i + 9, none, 0, 0⟩
def putsN (L : List Int) (k : Nat) : List An := (List.range k).map fun i => putA i (L.getD i 0)
theorem putsN_len (L : List Int) (k : Nat) : (putsN L k).length = k := by simp [putsN]
theorem putsN_snoc (L : List Int) (k : Nat) : putsN L (k + 1) = putsN L k ++ [putA k (L.getD k 0)] := by simp [putsN, List.range_succ]
theorem An.cells_len (a : An) : (An.cells a).length = 8 := rfl
theorem An.cells_one (a : An) : ∀ u ∈ An.cells a, u.oneCell' = true := by
  intro u hu
  simp only [An.cells, List.mem_cons, List.not_mem_nil, or_false] at hu
  rcases hu with rfl | rfl | rfl | rfl | rfl | rfl | rfl | rfl <;> rfl
/-- One more answer appended to a slice of the call's own. -/
theorem wpList_append_an {ops : Array Oper} {rest : List Oper} {o : Oper} {a : Act} {Q : Exit → Act → World → Prop} (hgd : o.guard = none) (s x : Operand)
    (ho : o.op = .call { callee := .builtin .append, args := #[s, x], argTypes := #[26, 26] })
    (B base : Nat) (w0 w W : World) (v : Value) (L : List An) (y : An) (hs : a.eval s = v) (g : Nat) (hg : g = w.heap.size) (hx : a.eval x = .slice (some ⟨g, 0, none⟩) 1 1) (hW : W = w.alloc (.cells y.cells.toArray 41))
    (hown : OwnL An.cells 8 41 base w v L) (hb : Below B w0 w) (hB : B ≤ base) (hbase : base ≤ w.heap.size) (hn : L.length ≤ 1099511627776)
    (h : ∀ v' w', OwnL An.cells 8 41 base w' v' (L ++ [y]) → Below B w0 w' → w.grownBy w' v.ownBlock → wpList Try.prog ops Q rest (a.put o.dst v') w') : wpList Try.prog ops Q (o :: rest) a W := by
  subst hW hg
  obtain ⟨i0, hi, hz0, hz1, hz2⟩ := info_parts Try.infoAns
  refine wpList_append_row (w.alloc _) hgd s x 26 ho base 41 i0 _ 8 80 Try.underlying26 hi hz0 hz1 hz2 rfl (by omega) An.cells_len v L hs (OwnL.alloc hown _) (some ⟨w.heap.size, 0, none⟩) 1 [y] hx (RowAt.new_one (t := 41) (fr := (0, 0)) (heap_alloc_new w _)) (by simp) (fun m _ => An.cells_one m) (by simp only [List.length_singleton, maxLen]; omega) (by simp only [List.length_singleton]; omega) (by simp; omega) ?_
  intro v1 w1 h1 hg _
  refine h v1 w1 h1 ?_ ?_
  · exact (hb.alloc (Nat.le_trans hB hbase) _).grown hg (by simp; omega) (fun k hk => Nat.le_trans hB (OwnL.lt hown k hk).1)
  · exact ⟨hg.os, hg.tape, hg.output, Nat.le_trans (by simp) hg.size, fun k hk hne => (hg.block k (by simp; omega) hne).trans (Below.heap_alloc w _ k hk)⟩
set_option maxHeartbeats 3200000 in
theorem puts_any (A : Option Addr) (c : Nat) (L : List Int) (w : World) (hL : ValsAt i64v w A L) (hl : L.length ≤ 9223372036854775807) :
    Calls Try.prog 9 #[.slice A L.length c] w fun e w' => (∃ v, e = .returned v ∧ OwnL An.cells 8 41 w.heap.size w' v (putsN L (min L.length 30))) ∧ Below w.heap.size w w' := by
  have HL := hide hL
  clear hL
  obtain ⟨N, hN⟩ : ∃ N, N = min L.length 30 := ⟨_, rfl⟩
  have hNL : N ≤ L.length := by omega
  have HNN := hide hN
  rw [← hN]
  clear hN
  go_enter Try.func9, Try.ntmps9
  go_wp2_with fail
  go_loopw [3, 4] (fun v i wr => ∃ k : Nat, k ≤ N ∧ i = .int .i64 k ∧ OwnL An.cells 8 41 w.heap.size wr v (putsN L k) ∧ Below w.heap.size w wr) (fun _ i _ => N - (intOf i).toNat)
  case atStart => exact ⟨0, by omega, rfl, OwnL.nil_ _ _ _ _ _, Below.refl _ _⟩
  case round =>
    obtain ⟨k, hk, rfl, hown, hb⟩ := hrel
    have HO := hide hown
    have HB := hide hb
    clear hown
    by_cases hlt : k < N
    · have hkL : k < L.length := by omega
      have hkc : (k : Int) < (L.length : Int) := by omega
      have hkd : (k : Int) < 30 := by have := HNN.out; omega
      obtain ⟨bl, off, rfl, hbb, y0⟩ := RowAt.one (val := i64v) HL.out hb hkL
      have hbl : bl < wr.heap.size := Nat.lt_of_lt_of_le hbb HB.out.size
      have HSN := hide (putsN_snoc L k)
      have hge : L.getD k 0 = L[k]'hkL := by simp [hkL]
      rw [hge] at HSN
      generalize L[k]'hkL = x at *
      have hle := putsN_len L k
      have HLE := hide hle
      generalize putsN L k = M at *
      clear hb hge hle
      have h1 : bits .and .i64 x 1 = x % 2 := and_mask_i64 x 1 1 (by omega) (by decide)
      have h2 : bits .and .i64 (x / 2) 3 = x / 2 % 4 := and_mask_i64 _ 2 3 (by omega) (by decide)
      have h3 : bits .and .i64 (x / 8) 7 = x / 8 % 8 := and_mask_i64 _ 3 7 (by omega) (by decide)
      have h4 : bits .and .i64 (x / 64) 3 = x / 64 % 4 := and_mask_i64 _ 2 3 (by omega) (by decide)
      go_upto_region 6 with fail
      go_region
      clear hbb
      by_cases h64 : x / 64 % 4 = 0
      · have b1 : (x / 64 % 4 == 0) = true := by simp [h64]
        have HY : Hid (putA k x = ⟨k + 1, 2, x % 2, 0, 0, 0, 8 * k + 9, none, 0, 0⟩) := hide (if_pos h64)
        rw [HY.out] at HSN
        clear h64
        have HOD : Hid (OwnL An.cells 8 41 w.heap.size (wr.alloc (.cells #[.int .u64 ((k : Int) + 1), .int .i64 2, .int .i64 (x % 2), .int .u64 0, .int .i64 0, .int .i64 0, .int .u64 (8 * (k : Int) + 9), .slice none 0 0] 41)).drew u3 M) := hide (OwnL.below HO.out ((below_alloc (Below.refl _ _) _).drew))
        have HBD : Hid (Below w.heap.size w (wr.alloc (.cells #[.int .u64 ((k : Int) + 1), .int .i64 2, .int .i64 (x % 2), .int .u64 0, .int .i64 0, .int .i64 0, .int .u64 (8 * (k : Int) + 9), .slice none 0 0] 41)).drew) := hide ((below_alloc HB.out _).drew)
        have hml : M.length ≤ 30 := by have := HLE.out; omega
        go_wp2_with (at_builtin; refine wpList_append_an rfl (.tmp 58) (.tmp 60) rfl _ _ _ (wr.alloc (.cells #[.int .u64 ((k : Int) + 1), .int .i64 2, .int .i64 (x % 2), .int .u64 0, .int .i64 0, .int .i64 0, .int .u64 (8 * (k : Int) + 9), .slice none 0 0] 41)).drew _ _ M ⟨k + 1, 2, x % 2, 0, 0, 0, 8 * k + 9, none, 0, 0⟩ rfl (wr.heap.size + 1) (by simp) rfl rfl HOD.out HBD.out (Nat.le_refl _) HBD.out.size (by omega) ?_; intro v1 u1 ho1 hbu1 hgu1)
        go_roundw
        case rel => exact ⟨k + 1, by omega, by go_num, by rw [HSN.out]; exact ho1, hbu1⟩
        case measure => simp [intOf]; omega
      · have b1 : (x / 64 % 4 == 0) = false := by simp [h64]
        have HY : Hid (putA k x = ⟨k + 1, 1, x % 2, x / 2 % 4, x / 8 % 8, 0, 8 * k + 9, none, 0, 0⟩) := hide (if_neg h64)
        rw [HY.out] at HSN
        clear h64
        have HOD : Hid (OwnL An.cells 8 41 w.heap.size (wr.alloc (.cells #[.int .u64 ((k : Int) + 1), .int .i64 1, .int .i64 (x % 2), .int .u64 (x / 2 % 4), .int .i64 (x / 8 % 8), .int .i64 0, .int .u64 (8 * (k : Int) + 9), .slice none 0 0] 41)).drew u3 M) := hide (OwnL.below HO.out ((below_alloc (Below.refl _ _) _).drew))
        have HBD : Hid (Below w.heap.size w (wr.alloc (.cells #[.int .u64 ((k : Int) + 1), .int .i64 1, .int .i64 (x % 2), .int .u64 (x / 2 % 4), .int .i64 (x / 8 % 8), .int .i64 0, .int .u64 (8 * (k : Int) + 9), .slice none 0 0] 41)).drew) := hide ((below_alloc HB.out _).drew)
        have hml : M.length ≤ 30 := by have := HLE.out; omega
        go_wp2_with (at_builtin; refine wpList_append_an rfl (.tmp 58) (.tmp 60) rfl _ _ _ (wr.alloc (.cells #[.int .u64 ((k : Int) + 1), .int .i64 1, .int .i64 (x % 2), .int .u64 (x / 2 % 4), .int .i64 (x / 8 % 8), .int .i64 0, .int .u64 (8 * (k : Int) + 9), .slice none 0 0] 41)).drew _ _ M ⟨k + 1, 1, x % 2, x / 2 % 4, x / 8 % 8, 0, 8 * k + 9, none, 0, 0⟩ rfl (wr.heap.size + 1) (by simp) rfl rfl HOD.out HBD.out (Nat.le_refl _) HBD.out.size (by omega) ?_; intro v1 u1 ho1 hbu1 hgu1)
        go_roundw
        case rel => exact ⟨k + 1, by omega, by go_num, by rw [HSN.out]; exact ho1, hbu1⟩
        case measure => simp [intOf]; omega
    · obtain rfl : k = N := by omega
      have hkn : ¬ ((k : Int) < (L.length : Int) ∧ (k : Int) < 30) := by have := HNN.out; omega
      by_cases hkl : (k : Int) < (L.length : Int)
      · have hkd : ¬ (k : Int) < 30 := by omega
        go_wp2_with fail
        go_ret
        exact ⟨⟨_, rfl, HO.out⟩, HB.out⟩
      · go_wp2_with fail
        go_ret
        exact ⟨⟨_, rfl, HO.out⟩, HB.out⟩
end Go.Proofs.Ytebnifpclebliaa
