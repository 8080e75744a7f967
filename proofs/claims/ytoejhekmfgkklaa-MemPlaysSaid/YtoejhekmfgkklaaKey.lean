/- clepsydra/num.Eight, item.Key and mem.Height: contracts. Conditions: typed at each. -/
import Derived.Test.YtoejhekmfgkklaaBlm
import Derived.Test.YtoejhekmfgkklaaItem
namespace Go.Proofs.Ytoejhekmfgkklaa
set_option linter.unusedVariables false
set_option linter.unusedSimpArgs false
open Go.ChangeShapes Go.WideShapes Go.ChangeAt Go.RowKit

theorem al2k (w : World) (o1 o2 : Obj) : ((w.alloc o1).alloc o2).heap[w.heap.size + 1]? = some o2 ∧ Below w.heap.size w ((w.alloc o1).alloc o2) ∧ w.heap.size + 1 < ((w.alloc o1).alloc o2).heap.size :=
  ⟨by have := heap_alloc_new (w.alloc o1) o2; simpa using this, below_alloc (below_alloc (Below.refl _ _) _) _, by simp⟩
theorem Try.infoU8k : (Try.prog.info? 5).map (fun i => (i.zero, i.size, i.bytes)) = some (some (.int .u8 0), 1, 1) := by kernel_rfl
/-- The k greatest bytes of a number of eight. -/
def eightTo (n : Int) (k : Nat) : List Int := (List.range k).map fun i => n / 2 ^ (56 - 8 * i) % 256
def eightL (n : Int) : List Int := eightTo n 8
theorem eightTo_succ (n : Int) (k : Nat) : eightTo n (k + 1) = eightTo n k ++ [n / 2 ^ (56 - 8 * k) % 256] := by unfold eightTo; rw [List.range_succ, List.map_append]; rfl
theorem eightTo_len (n : Int) (k : Nat) : (eightTo n k).length = k := by unfold eightTo; simp
theorem eightTo_b {n : Int} {k : Nat} : ∀ b ∈ eightTo n k, isB b := by
  intro b hb
  unfold eightTo at hb
  obtain ⟨i, _, rfl⟩ := List.mem_map.1 hb
  unfold isB
  omega

set_option maxRecDepth 100000 in
set_option maxHeartbeats 1000000 in
theorem eight_any (A : Option Addr) (c : Nat) (L : List Int) (n : Int) (w : World) (hl : L.length ≤ 1099511627776) (hL : ValsAt u8v w A L) (hn : 0 ≤ n ∧ n < 18446744073709551616) :
    Calls Try.prog 38 #[.slice A L.length c, .int .u64 n] w fun e w' => ∃ v, e = .returned v ∧ OwnL (one1 u8v) 1 5 w.heap.size w' v (L ++ eightL n) ∧ Below w.heap.size w w' := by
  go_enter Try.func38, Try.ntmps38
  go_wp2_with (at_builtin; refine wpList_append_vals rfl (.const (.slice none 0 0)) (.tmp 7) 42 5 _ 1 rfl Try.underlying42 Try.infoU8k rfl (fun _ => rfl) (by omega) w.heap.size _ [] rfl (OwnL.nil_ _ _ _ _ _) A c L rfl hL (by simp; omega) (Nat.le_refl _) ?_; intro v1 u1 ho1 hgu1)
  have hgu2 : w.grownBy u1 none := hgu1
  have hb1 : Below w.heap.size w u1 := (Below.refl _ _).grown hgu2 (Nat.le_refl _) (fun k hk => nomatch hk)
  have HO1 := hide ho1
  have HB1 := hide hb1
  clear ho1 hgu1 hgu2 hb1 hL
  rw [List.nil_append] at HO1
  go_loopw [5, 6] (fun v s wr => ∃ k : Nat, k ≤ 8 ∧ s = .int .i64 (56 - 8 * (k : Int)) ∧ OwnL (one1 u8v) 1 5 w.heap.size wr v (L ++ eightTo n k) ∧ Below w.heap.size w wr) (fun _ s _ => (intOf s + 8).toNat)
  case atStart => exact ⟨0, by omega, rfl, by rw [show eightTo n 0 = [] from rfl, List.append_nil]; exact HO1.out, HB1.out⟩
  case round =>
    obtain ⟨k, hk, rfl, ho, hb⟩ := hrel
    clear HO1 HB1
    have HO := hide ho
    have HB := hide hb
    have hbs := hb.size
    clear ho hb
    by_cases h8 : k < 8
    · obtain ⟨sh, hsh⟩ : ∃ sh : Nat, 56 - 8 * (k : Int) = sh := ⟨56 - 8 * k, by omega⟩
      rw [hsh]
      have hs1 : (sh : Int) ≤ 56 := by omega
      have HSN : Hid (sh = 56 - 8 * k) := hide (by omega)
      go_wp2_with (at_builtin; refine wpList_append_one rfl (.tmp 13) (.tmp 18) 42 5 _ 1 rfl Try.underlying42 Try.infoU8k rfl (fun _ => rfl) (by omega) _ _ _ _ _ _ (L ++ eightTo n k) (n / 2 ^ sh % 256) rfl rfl rfl HO.out HB.out (Nat.le_refl _) hbs (by rw [List.length_append, eightTo_len]; omega) ?_; intro v2 u2 ho2 hbu2 hgu2)
      refine ⟨⟨k + 1, by omega, by go_num, ?_, hbu2⟩, by simp [intOf]; omega⟩
      rw [eightTo_succ, ← List.append_assoc, ← HSN.out]
      exact ho2
    · obtain rfl : k = 8 := by omega
      go_wp2_with fail
      go_ret
      exact ⟨_, rfl, HO.out, HB.out⟩
/-- An item's place as bytes. -/
def keyL (x : It) : List Int := [x.s % 256, x.k % 256] ++ eightL x.t
theorem keyL_b {x : It} : ∀ b ∈ keyL x, isB b := by
  intro b hb
  unfold keyL at hb
  rcases List.mem_append.1 hb with h | h
  · simp only [List.mem_cons, List.not_mem_nil, or_false] at h
    unfold isB
    omega
  · exact eightTo_b b h
theorem keyL_len (x : It) : (keyL x).length = 10 := by unfold keyL eightL; simp [eightTo_len]
set_option maxHeartbeats 1000000 in
theorem key_any (x : It) (w : World) (hx : x.wf) : Calls Try.prog 21 #[x.val] w fun e w' => ∃ v, e = .returned v ∧ OwnL (one1 u8v) 1 5 w.heap.size w' v (keyL x) ∧ Below w.heap.size w w' := by
  have ht : 0 ≤ x.t ∧ x.t < 18446744073709551616 := by unfold It.wf at hx; omega
  go_enter Try.func21, Try.ntmps21
  have hz1 := al2k w (.cells #[.int .i64 x.s, .int .i64 x.k, .int .u64 x.t, .int .u64 x.v, .int .i64 x.x] 24) (.cells #[.int .u8 (x.s % 256), .int .u8 (x.k % 256)] 5)
  have HR : Hid (ValsAt u8v ((w.alloc (.cells #[.int .i64 x.s, .int .i64 x.k, .int .u64 x.t, .int .u64 x.v, .int .i64 x.x] 24)).alloc (.cells #[.int .u8 (x.s % 256), .int .u8 (x.k % 256)] 5)) (some ⟨w.heap.size + 1, 0, none⟩) [x.s % 256, x.k % 256]) := hide (vals_of_block (L := [x.s % 256, x.k % 256]) hz1.1)
  have HB := hide hz1.2.1
  clear hz1
  go_wp2_with fail
  refine (Calls.mono (eight_any (some ⟨w.heap.size + 1, 0, none⟩) 2 [x.s % 256, x.k % 256] x.t _ (by simp) HR.out ht) ?_); rintro e w1 ⟨v, rfl, ho, hb⟩
  have HO := hide (OwnL.base_ (base' := w.heap.size) ho HB.out.size)
  have HB1 := hide (below_step HB.out hb)
  clear ho hb HR HB
  go_wp2_with fail
  go_ret
  exact ⟨_, rfl, HO.out, HB1.out⟩
/-- Of a hash: how often it is divided by four, at most f times. -/
def hgtAux : Nat → Int → Int
  | 0, _ => 0
  | f + 1, h => if bits .and .u64 h 3 = 0 then 1 + hgtAux f (h / 4) else 0
theorem hgtAux_bd (f : Nat) (h : Int) : 0 ≤ hgtAux f h ∧ hgtAux f h ≤ f := by
  induction f generalizing h with
  | zero => simp [hgtAux]
  | succ f ih =>
    rw [hgtAux]
    split
    · have := ih (h / 4); omega
    · omega
/-- The height of a key's tower. -/
def hgt (K : List Int) : Int := 1 + hgtAux 5 (hashL K)
theorem hgt_bd (K : List Int) : 1 ≤ hgt K ∧ hgt K ≤ 6 := by
  unfold hgt
  have := hgtAux_bd 5 (hashL K)
  omega
set_option maxHeartbeats 1000000 in
theorem height_any (x : It) (w : World) (hx : x.wf) : Calls Try.prog 9 #[x.val] w fun e w' => e = .returned (.int .i64 (hgt (keyL x))) ∧ Below w.heap.size w w' := by
  go_enter Try.func9, Try.ntmps9
  have hba := below_alloc (Below.refl w.heap.size w) (.cells (It.cells x).toArray 24)
  have HB := hide hba
  clear hba
  go_wp2_with fail
  refine (Calls.mono (key_any x _ hx) ?_); rintro e w1 ⟨v, rfl, ho, hb⟩
  obtain ⟨A, c, rfl, hr, hc, hcm⟩ := OwnL.vals ho
  have HR := hide hr
  have HB1 := hide (below_step HB.out hb)
  have HL := hide (keyL_len x)
  clear ho hb hr HB
  go_wp2_with fail
  refine (Calls.mono (hash_any A c (keyL x) _ (by rw [HL.out]; omega) HR.out keyL_b) ?_); rintro e w2 ⟨rfl, hb⟩
  have HB2 := hide (below_step HB1.out hb)
  have HHB := hide (hashL_bd (keyL x))
  clear hb HB1 HR
  go_wp2_with fail
  go_loopw [3, 4] (fun n h wr => ∃ (f : Nat) (x' : Int), f ≤ 5 ∧ n = .int .i64 (6 - (f : Int)) ∧ h = .int .u64 x' ∧ 0 ≤ x' ∧ x' < 18446744073709551616 ∧ 6 - (f : Int) + hgtAux f x' = hgt (keyL x) ∧ Below w.heap.size w wr) (fun n _ _ => (6 - intOf n).toNat)
  case atStart => exact ⟨5, _, by omega, rfl, rfl, HHB.out.1, HHB.out.2, rfl, HB2.out⟩
  case round =>
    clear HHB
    obtain ⟨f, y, hf, rfl, rfl, hy0, hy1, he, hb⟩ := hrel
    have HE := hide he
    have HB := hide hb
    clear he hb HB2
    by_cases hy : bits .and .u64 y 3 = 0
    · rcases f with _ | f
      · go_wp2_with fail
        go_ret
        refine ⟨?_, HB.out⟩
        rw [← HE.out]
        rfl
      · have HE2 := hide ((show hgtAux (f + 1) y = 1 + hgtAux f (y / 4) by rw [hgtAux, if_pos hy]))
        have hlt : 6 - ((f + 1 : Nat) : Int) < 6 := by omega
        have hlt' : 6 - ((f : Int) + 1) < 6 := by omega
        go_wp2_with fail
        go_roundw
        case rel => exact ⟨f, y / 4, by omega, by go_num, rfl, by omega, by omega, by rw [← HE.out, HE2.out]; omega, HB.out⟩
        case measure => simp [intOf]; omega
    · have HE2 := hide ((show hgtAux f y = 0 by rcases f with _ | f; rfl; rw [hgtAux, if_neg hy]))
      go_wp2_with fail
      go_ret
      exact ⟨congrArg (fun v => Ending.returned (.int .i64 v)) (by rw [← HE.out, HE2.out, Int.add_zero]), HB.out⟩
end Go.Proofs.Ytoejhekmfgkklaa
