/- The items of answers made of numbers: plain words. -/
import Derived.Test.YtebnifpclebliaaAxLaw
import Derived.Laws.BitsAllLaws
namespace Go.Proofs.Ytebnifpclebliaa
set_option linter.unusedVariables false
set_option linter.unusedSimpArgs false
open Go.ChangeShapes Go.WideShapes Go.ChangeAt Go.RowKit

def bitB (d : Int) (i : Nat) : Bool := decide (d / 2 ^ i % 2 = 1)
def pit (i : Nat) (x : Int) : It := if x / 64 % 4 = 0 then ⟨x % 2, 1, 0, 8 * i + 9, 0⟩ else ⟨x % 2, 2, x / 2 % 4, 8 * i + 9, x / 8 % 8⟩
theorem pit_v (i : Nat) (x : Int) : (pit i x).v = 8 * i + 9 := by unfold pit; split <;> rfl
theorem pit_good {i : Nat} (hi : i < 30) (x : Int) : It.good (pit i x) := by
  unfold pit
  split
  · unfold It.good; dsimp only; omega
  · unfold It.good; dsimp only; omega
theorem pit_it {i : Nat} (hi : i < 30) (x : Int) : itO (putA i x) = some (pit i x) := by
  have hg := pit_good hi x
  unfold putA
  by_cases h : x / 64 % 4 = 0
  · rw [if_pos h]
    have e : itC 2 (x % 2) 0 0 (8 * (i : Int) + 9) = pit i x := by unfold itC pit; rw [if_pos rfl, if_pos h]
    have hb : itB ⟨i + 1, 2, x % 2, 0, 0, 0, 8 * i + 9, none, 0, 0⟩ = true := by
      unfold itB
      simp only [e]
      rw [goodB_true hg]
      unfold clientB
      rw [decide_eq_true (by omega)]; rfl
    unfold itO
    rw [if_pos hb]
    exact congrArg some e
  · rw [if_neg h]
    have e : itC 1 (x % 2) (x / 2 % 4) (x / 8 % 8) (8 * (i : Int) + 9) = pit i x := by unfold itC pit; rw [if_neg (by omega), if_neg h]
    have hb : itB ⟨i + 1, 1, x % 2, x / 2 % 4, x / 8 % 8, 0, 8 * i + 9, none, 0, 0⟩ = true := by
      unfold itB
      simp only [e]
      rw [goodB_true hg]
      unfold clientB
      rw [decide_eq_true (by omega)]; rfl
    unfold itO
    rw [if_pos hb]
    exact congrArg some e
/-- The answers of some of the numbers. -/
def partA (L : List Int) (p : Nat → Bool) (k : Nat) : List An := ((List.range k).filter p).map fun i => putA i (L.getD i 0)
def ackA (p : Nat → Bool) (k : Nat) : List Int := ((List.range k).filter p).map fun i : Nat => 8 * (i : Int) + 9
theorem putsN_part (L : List Int) (k : Nat) : putsN L k = partA L (fun _ => true) k := by
  unfold putsN partA
  rw [List.filter_eq_self.2 (fun _ _ => rfl)]
theorem partA_len (L : List Int) (p : Nat → Bool) (k : Nat) : (partA L p k).length ≤ k := by
  unfold partA
  rw [List.length_map]
  exact Nat.le_trans (List.length_filter_le _ _) (by simp)
theorem ackA_len (p : Nat → Bool) (k : Nat) : (ackA p k).length ≤ k := by
  unfold ackA
  rw [List.length_map]
  exact Nat.le_trans (List.length_filter_le _ _) (by simp)
theorem partA_in {L : List Int} {p : Nat → Bool} {k : Nat} (h : p k = true) : partA L p (k + 1) = partA L p k ++ [putA k (L.getD k 0)] := by unfold partA; simp [List.range_succ, List.filter_append, h]
theorem partA_out {L : List Int} {p : Nat → Bool} {k : Nat} (h : p k = false) : partA L p (k + 1) = partA L p k := by unfold partA; simp [List.range_succ, List.filter_append, h]
theorem ackA_in {p : Nat → Bool} {k : Nat} (h : p k = true) : ackA p (k + 1) = ackA p k ++ [8 * (k : Int) + 9] := by unfold ackA; simp [List.range_succ, List.filter_append, h]
theorem ackA_out {p : Nat → Bool} {k : Nat} (h : p k = false) : ackA p (k + 1) = ackA p k := by unfold ackA; simp [List.range_succ, List.filter_append, h]
theorem mem_part {L : List Int} {p : Nat → Bool} {k : Nat} (hk : k ≤ 30) {z : It} : z ∈ itemsL (partA L p k) ↔ ∃ i, i < k ∧ p i = true ∧ z = pit i (L.getD i 0) := by
  unfold itemsL partA
  rw [List.mem_filterMap]
  constructor
  · rintro ⟨a, ha, hz⟩
    obtain ⟨i, hi, rfl⟩ := List.mem_map.1 ha
    obtain ⟨hi1, hi2⟩ := List.mem_filter.1 hi
    have hik : i < k := by simpa using hi1
    rw [pit_it (by omega)] at hz
    injection hz with hz
    exact ⟨i, hik, hi2, hz.symm⟩
  · rintro ⟨i, hi, hp, rfl⟩
    exact ⟨putA i (L.getD i 0), List.mem_map.2 ⟨i, List.mem_filter.2 ⟨by simpa using hi, hp⟩, rfl⟩, pit_it (by omega) _⟩
theorem part_good {L : List Int} {p : Nat → Bool} {k : Nat} (hk : k ≤ 30) : ∀ z ∈ itemsL (partA L p k), It.good z := fun z hz => by
  obtain ⟨i, hi, _, rfl⟩ := (mem_part hk).1 hz
  exact pit_good (by omega) _
theorem part_sub {L : List Int} {p q : Nat → Bool} {k : Nat} (hk : k ≤ 30) (h : ∀ i < k, p i = true → q i = true) : ∀ z ∈ itemsL (partA L p k), z ∈ itemsL (partA L q k) := fun z hz => by
  obtain ⟨i, hi, hp, rfl⟩ := (mem_part hk).1 hz
  exact (mem_part hk).2 ⟨i, hi, h i hi hp, rfl⟩
theorem part_ack {L : List Int} {p d q : Nat → Bool} {k : Nat} (hk : k ≤ 30) (h : ∀ i < k, d i = true → q i = true) : ∀ x ∈ itemsL (partA L p k), x.v ∈ ackA d k → x ∈ itemsL (partA L q k) := fun x hx hv => by
  obtain ⟨i, hi, _, rfl⟩ := (mem_part hk).1 hx
  unfold ackA at hv
  obtain ⟨j, hj, e⟩ := List.mem_map.1 hv
  obtain ⟨hj1, hj2⟩ := List.mem_filter.1 hj
  rw [pit_v] at e
  obtain rfl : j = i := by omega
  exact (mem_part hk).2 ⟨j, hi, h j hi hj2, rfl⟩
/-- The state of answers' items. -/
theorem fold_there {P : List It} (hg : ∀ z ∈ P, It.good z) {z : It} : z ∈ ofL P ↔ There P z := by
  have := (ofL_is P).mem z
  rwa [goods_of hg] at this
theorem whole_read {M P : List It} {K : List Int} (s : Int) (hg : ∀ z ∈ P, It.good z) (hPM : ∀ z ∈ P, z ∈ M) (hK : ∀ x ∈ M, x.v ∈ K → x ∈ P) : readL M K ((ofL P).filter (serP s)) s = true := by
  refine read_ok hg hPM hK ((ofL_state P).filter _) (fun z hz => ?_) (fun z hz _ hs => ?_)
  · obtain ⟨a, b⟩ := List.mem_filter.1 hz
    unfold serP at b
    exact ⟨(fold_there hg).1 a, of_decide_eq_true b⟩
  · exact List.mem_filter.2 ⟨(fold_there hg).2 hz, by unfold serP; exact decide_eq_true hs⟩
theorem whole_purge {M P : List It} {K : List Int} (s v : Int) (hg : ∀ z ∈ P, It.good z) (hPM : ∀ z ∈ P, z ∈ M) (hK : ∀ x ∈ M, x.v ∈ K → x ∈ P) : readL M K (((ofL P).filter (serP s)).filter (purP v)) s = true := by
  refine read_ok hg hPM hK (((ofL_state P).filter _).filter _) (fun z hz => ?_) (fun z hz hk hs => ?_)
  · obtain ⟨c, _⟩ := List.mem_filter.1 hz
    obtain ⟨a, b⟩ := List.mem_filter.1 c
    unfold serP at b
    exact ⟨(fold_there hg).1 a, of_decide_eq_true b⟩
  · exact List.mem_filter.2 ⟨List.mem_filter.2 ⟨(fold_there hg).2 hz, by unfold serP; exact decide_eq_true hs⟩, by unfold purP; exact decide_eq_true (Or.inl (by omega))⟩
theorem whole_gone {I : List An} (s : Int) (hg : ∀ z ∈ itemsL I, It.good z) : goneL I ((ofL (itemsL I)).filter (serP s)) = true :=
  gone_ok rfl fun z hz => (fold_there hg).1 (List.mem_filter.1 hz).1

theorem bit_and {d : Int} (h0 : 0 ≤ d) (h1 : d ≤ 18446744073709551615) (k : Nat) : (bits .and .u64 (d / 2 ^ k) 1 == 1) = bitB d k := by
  have hp : (0 : Int) < 2 ^ k := Int.pow_pos (by omega)
  have h2 : 0 ≤ d / 2 ^ k := Int.ediv_nonneg h0 (Int.le_of_lt hp)
  have h3 : d / 2 ^ k ≤ d := Int.ediv_le_self _ h0
  have e : bits .and .u64 (d / 2 ^ k) 1 = d / 2 ^ k % 2 := by
    rw [u64_and _ 1 h2 (by omega) (by omega) (by omega)]
    have : (1 : Int).toNat = 1 := rfl
    rw [this, Nat.and_one_is_mod]
    omega
  rw [e]
  unfold bitB
  rw [Bool.eq_iff_iff]
  simp
theorem bit_test {d : Int} (h0 : 0 ≤ d) (k : Nat) : bitB d k = d.toNat.testBit k := by
  unfold bitB
  rw [Nat.testBit_eq_decide_div_mod_eq]
  have ec : ((2 ^ k : Nat) : Int) = (2 : Int) ^ k := by simp
  have e : ((d.toNat / 2 ^ k % 2 : Nat) : Int) = d / 2 ^ k % 2 := by
    rw [Int.natCast_emod, Int.natCast_ediv, Int.toNat_of_nonneg h0, ec]; rfl
  by_cases h : d / 2 ^ k % 2 = 1
  · rw [decide_eq_true h, decide_eq_true (by omega)]
  · rw [decide_eq_false h, decide_eq_false (by omega)]
theorem or_bd {a b : Int} (ha : 0 ≤ a ∧ a ≤ 18446744073709551615) (hb : 0 ≤ b ∧ b ≤ 18446744073709551615) : 0 ≤ bits .or .u64 a b ∧ bits .or .u64 a b ≤ 18446744073709551615 := by
  have h1 : a.toNat < 2 ^ 64 := by omega
  have h2 : b.toNat < 2 ^ 64 := by omega
  have h3 := Nat.or_lt_two_pow h1 h2
  rw [u64_or a b ha.1 (by omega) hb.1 (by omega)]
  omega
theorem bit_or {a b : Int} (ha : 0 ≤ a ∧ a ≤ 18446744073709551615) (hb : 0 ≤ b ∧ b ≤ 18446744073709551615) {k : Nat} (h : bitB a k = true) : bitB (bits .or .u64 a b) k = true := by
  rw [bit_test (or_bd ha hb).1]
  rw [bit_test ha.1] at h
  rw [u64_or a b ha.1 (by omega) hb.1 (by omega)]
  rw [show ((a.toNat ||| b.toNat : Nat) : Int).toNat = a.toNat ||| b.toNat from Int.toNat_natCast _]
  rw [Nat.testBit_or, h]; rfl

theorem evens_pair (s1 s2 : Sv It) (f : Int) : evensB [s1, s2] f = (evenB s1.L s2.L f && evenB s2.L s1.L f) := by
  cases h1 : evenB s1.L s2.L f
  · rw [evensB_no (i := 0) (j := 1) (by simp) (by simp) (by omega) (by simpa using h1)]; rfl
  · cases h2 : evenB s2.L s1.L f
    · rw [evensB_no (i := 1) (j := 0) (by simp) (by simp) (by omega) (by simpa using h2)]; rfl
    · rw [evensB_yes]
      · rfl
      · intro i j _ hi hj hne
        have hi' : i < 2 := hi
        have hj' : j < 2 := hj
        have : (i = 0 ∧ j = 1) ∨ (i = 1 ∧ j = 0) := by omega
        rcases this with ⟨rfl, rfl⟩ | ⟨rfl, rfl⟩
        · exact h1
        · exact h2
theorem evens_one (s1 : Sv It) (f : Int) : evensB [s1] f = true := evensB_yes fun i j _ hi hj hne => by
  have hi' : i < 1 := hi
  have hj' : j < 1 := hj
  omega
/-- axiom.Even of two lists that a literal holds. -/
theorem even_two {w : World} {g : Nat} {t : TypeId} {fr : Nat × Nat} (s1 s2 : Sv It) (f : Int) (h : w.heap[g]? = some (.cells #[s1.val, s2.val] t fr)) (h1 : SGood w s1) (h2 : SGood w s2) (l1 : s1.L.length ≤ 4611686018427387904) (l2 : s2.L.length ≤ 4611686018427387904) :
    Calls Try.prog 10 #[.slice (some ⟨g, 0, none⟩) 2 2, .int .u64 f] w fun e w' => e = .returned (.bool (evenB s1.L s2.L f && evenB s2.L s1.L f)) ∧ Below w.heap.size w w' := by
  have hr := evens_any (some ⟨g, 0, none⟩) 2 [s1, s2] f w (vals_of_block (val := fun s : Sv It => s.val) h) (by intro s hs; simp at hs; rcases hs with rfl | rfl <;> assumption) (by simp) (by intro s hs; simp at hs; rcases hs with rfl | rfl <;> assumption)
  rw [evens_pair] at hr
  exact hr
theorem even_onel {w : World} {g : Nat} {t : TypeId} {fr : Nat × Nat} (s1 : Sv It) (f : Int) (h : w.heap[g]? = some (.cells #[s1.val] t fr)) (h1 : SGood w s1) (l1 : s1.L.length ≤ 4611686018427387904) :
    Calls Try.prog 10 #[.slice (some ⟨g, 0, none⟩) 1 1, .int .u64 f] w fun e w' => e = .returned (.bool true) ∧ Below w.heap.size w w' := by
  have hr := evens_any (some ⟨g, 0, none⟩) 1 [s1] f w (vals_of_block (val := fun s : Sv It => s.val) h) (by intro s hs; simp at hs; rcases hs with rfl; exact h1) (by simp) (by intro s hs; simp at hs; rcases hs with rfl; exact l1)
  rw [evens_one] at hr
  exact hr
end Go.Proofs.Ytebnifpclebliaa
