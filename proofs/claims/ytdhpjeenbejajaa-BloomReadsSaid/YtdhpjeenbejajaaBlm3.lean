/- (*clepsydra/bloom.Filter).Has, Ones, New: contracts. Conditions: typed at each. -/
import Derived.Test.YtdhpjeenbejajaaBlm2
import Derived.Lib.Strings
import Derived.Lib.Slices
import Derived.Lib.Small
import Derived.Lib.Walk
import Derived.Lib.BitFns
namespace Go.Proofs.Ytdhpjeenbejajaa
set_option linter.unusedVariables false
set_option linter.unusedSimpArgs false
open Go.ChangeShapes Go.WideShapes Go.ChangeAt Go.RowKit

theorem idx_facts {q : Int} {n : Nat} (hq : 0 ≤ q ∧ q < n * 8) (hn : n ≤ 25000) : ∃ m r : Nat, q / 8 = m ∧ q % 8 = r ∧ m < n ∧ r < 8 ∧ IntKind.i64.wrap (q.tdiv 8) = (m : Int) ∧ q.tmod 8 = (r : Int) := by
  refine ⟨(q / 8).toNat, (q % 8).toNat, by omega, by omega, by omega, by omega, ?_, ?_⟩
  · rw [Int.tdiv_eq_ediv_of_nonneg hq.1, IntKind.wrap_i64]; omega
  · rw [Int.tmod_eq_emod_of_nonneg hq.1]; omega
/-- Is the bit clear? -/
def clrB (b : Int) (i : Nat) : Bool := bits .and .u8 (b / 2 ^ i) 1 == 0
def clrP (B : List Int) (q : Int) : Bool := clrB (B[(q / 8).toNat]?.getD 0) (q % 8).toNat

set_option maxHeartbeats 1000000 in
theorem has1_any {p g k h : Nat} {B : List Int} (q : Int) (w : World) (hF : Flt w p g k B) (hh : w.cell? ⟨h, 0, none⟩ = some (.pointer (some ⟨p, 0, none⟩))) (hq : 0 ≤ q ∧ q < B.length * 8) :
    Calls Try.prog 23 #[.int .i64 q, .pointer (some ⟨h, 0, none⟩)] w fun e w' => e = .returned (.bool (clrP B q)) ∧ Below w.heap.size w w' := by
  obtain ⟨f0, f1⟩ := hF.cells
  obtain ⟨m, r, hm, hr, hmn, hr8, hd, hd2⟩ := idx_facts hq hF.len.2
  have f2 : w.cell? ⟨g, m, none⟩ = some (.int .u8 (B[m]?.getD 0)) := by
    rw [cell_of_row w g m _ _ _ hF.bl]
    simp [hmn]
  have hc : clrP B q = clrB (B[m]?.getD 0) r := by unfold clrP; rw [hm, hr]; simp
  have HC := hide hc
  have hx := getD_isB hF.byt m
  unfold isB at hx
  generalize B[m]?.getD 0 = x at *
  clear hc hm hr hq
  have hmn2 : (m : Int) < (B.length : Int) := by omega
  go_enter Try.func23, Try.ntmps23
  go_wp2_with fail
  go_ret
  exact ⟨by rw [HC.out]; rfl, Below.refl _ _⟩

/-- What Has answers: no bit of the key is clear. -/
def hasL (B ps : List Int) : Bool := !(ps.any (clrP B))
set_option maxHeartbeats 1000000 in
theorem has_any {p g k : Nat} {B : List Int} (A : Option Addr) (c : Nat) (L : List Int) (w : World) (hF : Flt w p g k B) (hl : L.length ≤ 9223372036854775807) (hL : ValsAt u8v w A L) (hB : ∀ b ∈ L, isB b) :
    Calls Try.prog 10 #[.pointer (some ⟨p, 0, none⟩), .slice A L.length c] w fun e w' => e = .returned (.bool (hasL B (placesL (hashL L) B.length k))) ∧ Below w.heap.size w w' := by
  have HF := hide hF
  have HL := hide hL
  have hpb := placesL_bd (h := hashL L) (n := B.length) (k := k) (by have := hF.len; omega)
  have hpn : (placesL (hashL L) B.length k).length = k := by simp [placesL]
  have HPB := hide hpb
  have HPN := hide hpn
  have hk1 := hF.k1
  have HK1 := hide hk1
  clear hF hL hpb hpn hk1
  go_enter Try.func10, Try.ntmps10
  go_wp2_with fail
  have hb0 : Below w.heap.size w (w.alloc (.cells #[.pointer (some ⟨p, 0, none⟩)] 23)) := below_alloc (Below.refl _ _) _
  refine (Calls.mono (places_any A c L (w.alloc (.cells #[.pointer (some ⟨p, 0, none⟩)] 23)) (HF.out.below hb0) hl (HL.out.below hb0) hB) ?_); rintro e w1 ⟨v, rfl, ho, hg1⟩
  have hx1 := (hg1.block w.heap.size (by simp)).trans (heap_alloc_new w (.cells #[.pointer (some ⟨p, 0, none⟩)] 23))
  have HB1 := hide (below_step hb0 hg1)
  obtain ⟨A1, c1, rfl, hr1, _, _⟩ := ho.vals
  have HR := hide hr1
  have HX := hide hx1
  clear ho hg1 hr1 hx1 hb0
  generalize hPS : placesL (hashL L) B.length k = ps at *
  go_wp2_with fail
  have hlt0 : w.heap.size < w1.heap.size := (Array.getElem?_eq_some_iff.1 HX.out).1
  have hT : TellsN 23 #[.pointer (some ⟨w.heap.size, 0, none⟩)] (clrP B) ps w1 := fun x hx W hbW =>
    has1_any x W ((HF.out.below HB1.out).below hbW) (((hbW.cell (p := ⟨w.heap.size, 0, none⟩) hlt0)).trans ((cell_of_row w1 w.heap.size 0 _ _ _ HX.out).trans rfl)) (HPB.out x hx)
  refine (Calls.mono (containsN_any 23 #[.pointer (some ⟨w.heap.size, 0, none⟩)] (fun args W => by kernel_rfl) (clrP B) A1 c1 ps w1 (by rw [HPN.out]; have := HK1.out; omega) HR.out hT) ?_); rintro e w2 ⟨rfl, hg2⟩
  have HB2 := hide (below_step HB1.out hg2)
  go_wp2_with fail
  go_ret
  exact ⟨by rw [hPS]; rfl, HB2.out⟩

/-! ### how many bits are set -/
theorem ones8_any0 (x : Int) (w : World) (h0 : 0 ≤ x) (h1 : x ≤ 255) :
    Calls Try.prog 24 #[.int .u8 x] w fun e w' => e = .returned (.int .i64 (Lib.onesCount x.toNat)) ∧ w' = w := by
  rw [← Lib.pop8_int x h0 h1]
  go_enter Try.func24, Try.ntmps24
  go_wp2
  go_ret
  generalize Lib.pop8 x = y
  refine ⟨?_, rfl⟩
  simp [wrap64]
def pop (b : Int) : Nat := Lib.onesCount b.toNat
theorem ones8_any (x : Int) (w : World) (h : isB x) : Calls Try.prog 24 #[.int .u8 x] w fun e w' => e = .returned (.int .i64 (pop x)) ∧ w' = w := ones8_any0 x w h.1 h.2
def onesN (B : List Int) : Nat := (B.map fun b => pop b).sum
theorem onesN_snoc (B : List Int) (b : Int) : onesN (B ++ [b]) = onesN B + pop b := by simp [onesN]
theorem ones8_le {b : Int} (h : isB b) : pop b ≤ 8 := by
  unfold isB at h
  exact Lib.onesCount_le8 ⟨b.toNat, by omega⟩
theorem onesN_le {B : List Int} (h : ∀ b ∈ B, isB b) : onesN B ≤ B.length * 8 := by
  unfold onesN
  induction B with
  | nil => simp
  | cons b B ih =>
    have := ih (fun x hx => h x (List.mem_cons_of_mem _ hx))
    have := ones8_le (h b (by simp))
    simp only [List.map_cons, List.sum_cons, List.length_cons]
    omega

set_option maxHeartbeats 1000000 in
theorem ones_any {p g k : Nat} {B : List Int} (w : World) (hF : Flt w p g k B) :
    Calls Try.prog 12 #[.pointer (some ⟨p, 0, none⟩)] w fun e w' => e = .returned (.int .i64 (onesN B)) ∧ Below w.heap.size w w' := by
  obtain ⟨f0, f1⟩ := hF.cells
  have hr := hF.row
  have hbt := hF.byt
  have hln := hF.len
  go_enter Try.func12, Try.ntmps12
  go_wp2_with fail
  clear f0 f1
  go_loopw [3, 11] (fun v i wr => ∃ j : Nat, j ≤ B.length ∧ i = .int .i64 j ∧ v = .int .i64 (onesN (B.take j)) ∧ Below w.heap.size w wr) (fun _ i _ => B.length - (intOf i).toNat)
  case atStart => exact ⟨0, by omega, rfl, rfl, Below.refl _ _⟩
  case round =>
    obtain ⟨j, hj, rfl, rfl, hb⟩ := hrel
    by_cases hlt : j < B.length
    · obtain ⟨b, off, hA, hbb, c0⟩ := RowAt.one (val := u8v) hr hb hlt
      injection hA with hA
      injection hA with h1 h2 _
      subst h1 h2
      have hx := hbt (B[j]'hlt) (List.getElem_mem hlt)
      have h2 := onesN_snoc (B.take j) (B[j]'hlt)
      rw [← take_snoc hlt] at h2
      have H2 := hide h2
      have h3 := onesN_le (B := B.take j) (fun b hb => hbt b (List.mem_of_mem_take hb))
      have h4 : (B.take j).length = j := by rw [List.length_take]; omega
      rw [h4] at h3
      have h5 := ones8_le hx
      clear h2 h4
      generalize (B[j]'hlt) = x at *
      have HK := hide (ones8_any x wr hx)
      generalize onesN (B.take j) = n at *
      have c0 : wr.cell? ⟨g, 0 + j, none⟩ = some (.int .u8 x) := c0
      rw [Nat.zero_add] at c0
      go_wp2_with fail
      refine (Calls.mono HK.out ?_); rintro e w1 ⟨rfl, hg1⟩
      generalize pop x = y at *
      go_wp2_with fail
      exact ⟨⟨j + 1, by omega, by go_num, by rw [H2.out]; go_num, hb⟩, by simp [intOf]; omega⟩
    · have ht : B.take j = B := List.take_of_length_le (by omega)
      rw [ht]
      go_wp2_with fail
      go_ret
      exact ⟨rfl, hb⟩
end Go.Proofs.Ytdhpjeenbejajaa
