/- clepsydra/num.Put, num.Sign and sum.Mix: contracts. Conditions: typed at each. -/
import Derived.Test.YthpbohheddkfiaaBlm
import Derived.Test.YthpbohheddkfiaaItem
namespace Go.Proofs.Ythpbohheddkfiaa
set_option linter.unusedVariables false
set_option linter.unusedSimpArgs false
open Go.ChangeShapes Go.WideShapes Go.ChangeAt Go.RowKit

theorem Try.infoU8t : (Try.prog.info? 5).map (fun i => (i.zero, i.size, i.bytes)) = some (some (.int .u8 0), 1, 1) := by kernel_rfl
def putAuxT : Nat → Int → List Int
  | 0, _ => []
  | f + 1, n => if n < 128 then [n] else bits .or .u8 (n % 256) 128 :: putAuxT f (n / 128)
def putT (n : Int) : List Int := putAuxT 11 n
theorem putAuxT_len (f : Nat) (n : Int) : (putAuxT f n).length ≤ f := by
  induction f generalizing n with
  | zero => simp [putAuxT]
  | succ f ih =>
    rw [putAuxT]
    split
    · simp
    · rw [List.length_cons]; have := ih (n / 128); omega

set_option maxHeartbeats 1000000 in
theorem putT_any (A : Option Addr) (c : Nat) (L : List Int) (n : Int) (w : World) (hl : L.length ≤ 1099511627776) (hL : ValsAt u8v w A L) (hn : 0 ≤ n ∧ n < 18446744073709551616) :
    Calls Try.prog 41 #[.slice A L.length c, .int .u64 n] w fun e w' => ∃ v, e = .returned v ∧ OwnL (one1 u8v) 1 5 w.heap.size w' v (L ++ putT n) ∧ Below w.heap.size w w' := by
  go_enter Try.func41, Try.ntmps41
  go_wp2_with (at_builtin; refine wpList_append_vals rfl (.const (.slice none 0 0)) (.tmp 6) 69 5 _ 1 rfl Try.underlying69 Try.infoU8t rfl (fun _ => rfl) (by omega) w.heap.size _ [] rfl (OwnL.nil_ _ _ _ _ _) A c L rfl hL (by simp; omega) (Nat.le_refl _) ?_; intro v1 u1 ho1 hgu1)
  have hgu2 : w.grownBy u1 none := hgu1
  have hb1 : Below w.heap.size w u1 := (Below.refl _ _).grown hgu2 (Nat.le_refl _) (fun k hk => nomatch hk)
  have HO1 := hide ho1
  have HB1 := hide hb1
  clear ho1 hgu1 hgu2 hb1 hL
  rw [List.nil_append] at HO1
  go_loopw [1, 5] (fun m v wr => ∃ (f : Nat) (M : List Int) (x : Int), M.length + f = 10 ∧ 0 ≤ x ∧ x < 2 ^ (7 * f) ∧ x < 18446744073709551616 ∧ putT n = M ++ putAuxT (f + 1) x ∧ m = .int .u64 x ∧ OwnL (one1 u8v) 1 5 w.heap.size wr v (L ++ M) ∧ Below w.heap.size w wr) (fun m _ _ => (intOf m).toNat)
  case atStart => exact ⟨10, [], n, rfl, hn.1, Int.lt_trans hn.2 (by decide), hn.2, rfl, rfl, by rw [List.append_nil]; exact HO1.out, HB1.out⟩
  case round =>
    obtain ⟨f, M, x, hf, hx0, hx1, hx2, hpe, rfl, ho, hb⟩ := hrel
    clear HO1 HB1
    have HO := hide ho
    have HB := hide hb
    have HPE := hide hpe
    have hbs := hb.size
    have HX1 := hide hx1
    clear ho hb hpe hx1
    by_cases h128 : x < 128
    · have hge : ¬ (128 ≤ x) := by omega
      have hxm : x % 256 = x := by omega
      go_wp2_with (at_builtin; refine wpList_append_one rfl (.tmp 18) (.tmp 21) 69 5 _ 1 rfl Try.underlying69 Try.infoU8t rfl (fun _ => rfl) (by omega) _ _ _ _ _ _ (L ++ M) x rfl rfl rfl HO.out HB.out (Nat.le_refl _) hbs (by rw [List.length_append]; omega) ?_; intro v2 u2 ho2 hbu2 hgu2)
      refine bodyPost_ret (v := v2) (by simp [results, Try.results41]) rfl ⟨v2, rfl, ?_, hbu2⟩
      rw [HPE.out, show putAuxT (f + 1) x = [x] from by rw [putAuxT, if_pos h128], ← List.append_assoc]
      exact ho2
    · have hge : 128 ≤ x := by omega
      obtain ⟨y, hy⟩ : ∃ y, bits .or .u8 (x % 256) 128 = y := ⟨_, rfl⟩
      go_wp2_with (at_builtin; refine wpList_append_one rfl (.tmp 12) (.tmp 16) 69 5 _ 1 rfl Try.underlying69 Try.infoU8t rfl (fun _ => rfl) (by omega) _ _ _ _ _ _ (L ++ M) y rfl rfl rfl HO.out HB.out (Nat.le_refl _) hbs (by rw [List.length_append]; omega) ?_; intro v2 u2 ho2 hbu2 hgu2)
      rcases f with _ | f
      · have := HX1.out
        simp at this
        omega
      have hx3 : x / 128 < 2 ^ (7 * f) := by
        apply Int.ediv_lt_of_lt_mul (by decide)
        have h := HX1.out
        rw [show 7 * (f + 1) = 7 * f + 7 by omega, Int.pow_add] at h
        exact h
      refine ⟨⟨f, M ++ [y], x / 128, by rw [List.length_append, List.length_singleton]; omega, by omega, hx3, by omega, ?_, rfl, ?_, hbu2⟩, by simp [intOf]; omega⟩
      · rw [HPE.out, show putAuxT (f + 1 + 1) x = bits .or .u8 (x % 256) 128 :: putAuxT (f + 1) (x / 128) from by rw [putAuxT, if_neg h128], hy]
        simp
      · rw [← List.append_assoc]; exact ho2
/-- The k greatest bytes of a number of eight. -/
def bytesTo (n : Int) (k : Nat) : List Int := (List.range k).map fun i => n / 2 ^ (56 - 8 * i) % 256
theorem bytesTo_succ (n : Int) (k : Nat) : bytesTo n (k + 1) = bytesTo n k ++ [n / 2 ^ (56 - 8 * k) % 256] := by unfold bytesTo; rw [List.range_succ, List.map_append]; rfl
theorem bytesTo_len (n : Int) (k : Nat) : (bytesTo n k).length = k := by unfold bytesTo; simp
theorem bytesTo_b {n : Int} {k : Nat} : ∀ b ∈ bytesTo n k, isB b := by
  intro b hb
  unfold bytesTo at hb
  obtain ⟨i, _, rfl⟩ := List.mem_map.1 hb
  unfold isB
  omega
/-- The sum of two sums. -/
def mixL (a b : Int) : Int := hashL (bytesTo a 8 ++ bytesTo b 8)
def pairT (a b : Int) (j : Nat) : List Int := if j = 0 then [] else if j = 1 then bytesTo a 8 else bytesTo a 8 ++ bytesTo b 8
theorem mixL_bd (a b : Int) : 0 ≤ mixL a b ∧ mixL a b < 18446744073709551616 := hashL_bd _
set_option maxRecDepth 100000 in
set_option maxHeartbeats 1000000 in
theorem mix_any (a b : Int) (w : World) (ha : 0 ≤ a ∧ a < 18446744073709551616) (hb : 0 ≤ b ∧ b < 18446744073709551616) :
    Calls Try.prog 29 #[.int .u64 a, .int .u64 b] w fun e w' => e = .returned (.int .u64 (mixL a b)) ∧ Below w.heap.size w w' := by
  go_enter Try.func29, Try.ntmps29
  have hz := heap_alloc_new w (.cells #[.int .u64 a, .int .u64 b] 28)
  have hal := below_alloc (Below.refl w.heap.size w) (.cells #[.int .u64 a, .int .u64 b] 28)
  obtain ⟨wb, hwb⟩ : ∃ wb, w.alloc (.cells #[.int .u64 a, .int .u64 b] 28) = wb := ⟨_, rfl⟩
  have HB := hide hal
  have hlb := (Array.getElem?_eq_some_iff.1 hz).1
  rw [hwb] at hz HB hlb
  have HZ := hide hz
  have HWB := hide hwb
  clear hz hal hwb
  go_upto_region 3 with fail
  try rw [HWB.out]
  go_loopw [5, 13] (fun v i wr => ∃ j : Nat, j ≤ 2 ∧ i = .int .i64 j ∧ OwnL (one1 u8v) 1 5 wb.heap.size wr v (pairT a b j) ∧ Below wb.heap.size wb wr) (fun _ i _ => 2 - (intOf i).toNat)
  case atStart => exact ⟨0, by omega, rfl, OwnL.nil_ _ _ _ _ _, Below.refl _ _⟩
  case round =>
    obtain ⟨j, hj, rfl, ho, hbr⟩ := hrel
    have HO := hide ho
    have HBR := hide hbr
    clear ho
    have hbs := hbr.size
    by_cases hlt : j < 2
    · obtain ⟨n, hn0, hn1, hc, HN⟩ : ∃ n : Int, 0 ≤ n ∧ n < 18446744073709551616 ∧ wr.cell? ⟨w.heap.size, j, none⟩ = some (.int .u64 n) ∧ Hid (pairT a b (j + 1) = pairT a b j ++ bytesTo n 8 ∧ (pairT a b j).length ≤ 8) := by
        have hz := (hbr.block _ hlb).trans HZ.out
        have h2 : j = 0 ∨ j = 1 := by omega
        rcases h2 with rfl | rfl
        · exact ⟨a, ha.1, ha.2, (cell_of_row wr _ 0 _ _ _ hz).trans rfl, hide ⟨rfl, by show ([] : List Int).length ≤ 8; simp⟩⟩
        · exact ⟨b, hb.1, hb.2, (cell_of_row wr _ 1 _ _ _ hz).trans rfl, hide ⟨rfl, by show (bytesTo a 8).length ≤ 8; rw [bytesTo_len]; omega⟩⟩
      generalize pairT a b j = X at *
      clear hbr
      obtain ⟨wa, rfl⟩ : ∃ wa, wa = wr := ⟨_, rfl⟩
      have hltI : (j : Int) < 2 := by omega
      have hdI : decide ((j : Int) < 2) = true := decide_eq_true hltI
      go_wp2_with fail
      go_loopw [5, 8] (fun v s wr => ∃ k : Nat, k ≤ 8 ∧ s = .int .i64 (56 - 8 * (k : Int)) ∧ OwnL (one1 u8v) 1 5 wb.heap.size wr v (X ++ bytesTo n k) ∧ Below wb.heap.size wb wr) (fun _ s _ => (intOf s + 8).toNat)
      case atStart => exact ⟨0, by omega, rfl, by rw [show bytesTo n 0 = [] from rfl, List.append_nil]; exact HO.out, HBR.out⟩
      case round =>
        obtain ⟨k, hk, rfl, ho2, hb2⟩ := hrel
        clear HO
        have HO := hide ho2
        have HB2 := hide hb2
        have hbs2 := hb2.size
        clear ho2 hb2
        by_cases h8 : k < 8
        · obtain ⟨sh, hsh⟩ : ∃ sh : Nat, 56 - 8 * (k : Int) = sh := ⟨56 - 8 * k, by omega⟩
          rw [hsh]
          have hs1 : (sh : Int) ≤ 56 := by omega
          have HSN : Hid (sh = 56 - 8 * k) := hide (by omega)
          go_wp2_with (at_builtin; refine wpList_append_one rfl (.tmp 21) (.tmp 26) 69 5 _ 1 rfl Try.underlying69 Try.infoU8t rfl (fun _ => rfl) (by omega) _ _ _ _ _ _ (X ++ bytesTo n k) (n / 2 ^ sh % 256) rfl rfl rfl HO.out HB2.out (Nat.le_refl _) hbs2 (by have := HN.out.2; rw [List.length_append, bytesTo_len]; omega) ?_; intro v2 u2 ho3 hb3 hg3)
          have HO3 : Hid (OwnL (one1 u8v) 1 5 wb.heap.size u2 v2 (X ++ bytesTo n (k + 1))) := hide (by
            rw [bytesTo_succ, ← List.append_assoc, ← HSN.out]
            exact ho3)
          have HB3 := hide hb3
          have hsh8 : IntKind.i64.wrap ((sh : Int) - 8) = 56 - 8 * ((k + 1 : Nat) : Int) := by rw [IntKind.wrap_i64]; omega
          clear ho3 hb3 hg3
          go_wp2_with fail
          go_roundw
          case rel => exact ⟨k + 1, by omega, by first | rfl | (rw [hsh8]) | go_num, HO3.out, HB3.out⟩
          case measure => simp only [intOf]; omega
        · obtain rfl : k = 8 := by omega
          go_wp2_with fail
          go_roundw
          case rel => exact ⟨j + 1, by omega, by go_num, by rw [HN.out.1]; exact HO.out, HB2.out⟩
          case measure => simp only [intOf]; omega
    · obtain rfl : j = 2 := by omega
      obtain ⟨A, c, rfl, hr, hc, hcm⟩ := OwnL.vals HO.out
      have HH := hide (hash_any A c (pairT a b 2) wr (by unfold maxLen at hcm; omega) hr (fun x hx => by
        rcases List.mem_append.1 hx with h | h
        · exact bytesTo_b x h
        · exact bytesTo_b x h))
      clear hr hc hcm hbr
      go_wp2_with fail
      refine (Calls.mono HH.out ?_); rintro e w3 ⟨rfl, hb3⟩
      go_wp2_with fail
      go_ret
      exact ⟨rfl, below_step (below_step HB.out HBR.out) hb3⟩
/-- A number with a sign, folded. -/
def signT (x : Int) : Int := bits .xor .u64 (IntKind.u64.wrap (IntKind.u64.wrap x * 2)) (IntKind.u64.wrap (x / 9223372036854775808))
theorem sign_any (x : Int) (w : World) (hx : -9223372036854775808 ≤ x ∧ x ≤ 9223372036854775807) : Calls Try.prog 42 #[.int .i64 x] w fun e w' => e = .returned (.int .u64 (signT x)) ∧ w' = w := by
  go_enter Try.func42, Try.ntmps42
  go_wp2_with fail
  go_ret
  exact ⟨rfl, rfl⟩
end Go.Proofs.Ythpbohheddkfiaa
