/- Round.Asks in plain words: who has answered, what the third Tick asks. -/
import Derived.Test.YtikecafblampeaaRndF
import Derived.Test.YtikecafblampeaaBits
namespace Go.Proofs.Ytikecafblampeaa.roundAsks
set_option linter.unusedVariables false
set_option linter.unusedSimpArgs false
open Go.ChangeShapes Go.WideShapes Go.ChangeAt Go.RowKit
abbrev mK (k : Int) (i : Nat) : Mg := ⟨k, (i : Int), 0, 9, 77, none, 0, []⟩
theorem mK_ok {k : Int} (hk : k = 7 ∨ k = 9) {i : Nat} (h : i < 7) : mokB (mK k i) = true := by
  rcases hk with rfl | rfl <;> (unfold mokB nodeB; simp; omega)
/-- Behind k seals of all. -/
def SA (n k : Nat) : Rs := if k = n then stG n 0 9 77 2 (fun _ => false) [] 0 else stG n 0 9 77 1 (upC k n) [] 0
theorem SA_k {n k : Nat} (hn : 2 ≤ n ∧ n ≤ 7) : RndK (SA n k) := by
  unfold SA
  split <;> exact stG_k (by omega) (by omega) (by simp) (by omega)
theorem SA_zero {n : Nat} (hn : 2 ≤ n) : SA n 0 = stG n 0 9 77 1 (fun _ => false) [] 0 := by
  unfold SA
  rw [if_neg (by omega), upC_zero]
theorem SA_end {n : Nat} : SA n n = stG n 0 9 77 2 (fun _ => false) [] 0 := by
  unfold SA
  rw [if_pos rfl]
theorem SA_on {n k : Nat} (hn : 2 ≤ n ∧ n ≤ 7) (hk : k < n) : onR (SA n k) (mK 7 k) = SA n (k + 1) := by
  have e1 : SA n k = stG n 0 9 77 1 (upC k n) [] 0 := by unfold SA; rw [if_neg (by omega)]
  rw [e1]
  by_cases hlast : k + 1 = n
  · have h1 := (on_fill (n := n) (a := 0) (id := 9) (f := 77) (C := upC k n) (L := []) (tk := 0) (m := mK 7 k) (i := k) rfl (mK_ok (.inl rfl) (by omega)) rfl rfl rfl rfl hk (upC_at _ _) (fun j hj hne => upC_yes (by omega) (by omega))).1
    rw [h1]
    unfold SA
    rw [if_pos hlast, show joinL [] (mK 7 k).L = [] from joinL_nn]
  · have h1 := (on_more (n := n) (a := 0) (id := 9) (f := 77) (p := 1) (C := upC k n) (L := []) (tk := 0) (m := mK 7 k) (i := k) (.inl ⟨rfl, rfl⟩) (mK_ok (.inl rfl) (by omega)) rfl rfl rfl rfl hk (upC_at _ _) ⟨k + 1, by omega, by omega, upC_far (by omega)⟩).1
    rw [h1, upC_set (by omega)]
    unfold SA
    rw [if_neg hlast, if_pos rfl, show joinL [] (mK 7 k).L = [] from joinL_nn]
/-- Who of the first k has answered. -/
def dnC (y k : Nat) : Nat → Bool := fun j => decide (j < k) && y.testBit j
theorem dnC_zero (y : Nat) : dnC y 0 = fun _ => false := by funext j; simp [dnC]
theorem dnC_set {y k : Nat} (h : y.testBit k = true) : setC (dnC y k) k = dnC y (k + 1) := by
  funext j
  unfold setC dnC
  by_cases e : j = k
  · subst e
    simp [h]
  · rw [if_neg e]
    have : decide (j < k) = decide (j < k + 1) := by
      by_cases e2 : j < k
      · rw [decide_eq_true e2, decide_eq_true (by omega)]
      · rw [decide_eq_false e2, decide_eq_false (by omega)]
    rw [this]
theorem dnC_skip {y k : Nat} (h : y.testBit k = false) : dnC y (k + 1) = dnC y k := by
  funext j
  unfold dnC
  by_cases e : j = k
  · subst e
    simp [h]
  · have : decide (j < k + 1) = decide (j < k) := by
      by_cases e2 : j < k
      · rw [decide_eq_true e2, decide_eq_true (by omega)]
      · rw [decide_eq_false e2, decide_eq_false (by omega)]
    rw [this]
theorem dnC_at (y k : Nat) : dnC y k k = false := by simp [dnC]
/-- How many of the first k have not. -/
def leftN (y k : Nat) : Nat := ((List.range k).filter fun j => !y.testBit j).length
theorem leftN_le (y k : Nat) : leftN y k ≤ k := by
  unfold leftN
  have := List.length_filter_le (fun j => !y.testBit j) (List.range k)
  simpa using this
theorem leftN_yes {y k : Nat} (h : y.testBit k = true) : leftN y (k + 1) = leftN y k := by
  unfold leftN
  rw [List.range_succ, List.filter_append, List.length_append]
  simp [h]
theorem leftN_no {y k : Nat} (h : y.testBit k = false) : leftN y (k + 1) = leftN y k + 1 := by
  unfold leftN
  rw [List.range_succ, List.filter_append, List.length_append]
  simp [h]
theorem filter_dn (y n : Nat) : (List.range n).filter (fun j => !dnC y n j) = (List.range n).filter fun j => !y.testBit j := by
  apply List.filter_congr
  intro j hj
  rw [List.mem_range] at hj
  unfold dnC
  rw [decide_eq_true hj]
  rfl
theorem some_lacks {y n : Nat} (h : y < 2 ^ n - 1) : ∃ j, j < n ∧ y.testBit j = false := by
  by_cases hx : ∃ j, j < n ∧ y.testBit j = false
  · exact hx
  · exfalso
    have hall : ∀ j, j < n → y.testBit j = true := by
      intro j hj
      by_cases e : y.testBit j = true
      · exact e
      · exact absurd ⟨j, hj, by simpa using e⟩ hx
    have : y = 2 ^ n - 1 := by
      apply Nat.eq_of_testBit_eq
      intro i
      rw [Nat.testBit_two_pow_sub_one]
      by_cases e : i < n
      · rw [hall i e, decide_eq_true e]
      · rw [decide_eq_false e]
        apply Nat.testBit_lt_two_pow
        exact Nat.lt_of_lt_of_le h (Nat.le_trans (Nat.sub_le _ _) (Nat.pow_le_pow_right (by omega) (by omega)))
    omega
theorem bit_of (y i : Nat) (hy : y < 256) : bits .and .u64 ((y : Int) / 2 ^ i) 1 = if y.testBit i = true then 1 else 0 := by
  have hp : 0 < (2 : Nat) ^ i := Nat.pow_pos (by omega)
  have ec : ((2 ^ i : Nat) : Int) = (2 : Int) ^ i := by simp
  have e0 : (y : Int) / 2 ^ i = ((y / 2 ^ i : Nat) : Int) := by rw [Int.natCast_ediv, ec]
  have h4 : y / 2 ^ i ≤ y := Nat.div_le_self _ _
  rw [e0, Nat.testBit_eq_decide_div_mod_eq]
  generalize y / 2 ^ i = z at *
  rw [and_mask _ 1 1 (by omega) (by decide) (by omega) (by omega)]
  by_cases e : z % 2 = 1
  · rw [if_pos (decide_eq_true e)]; omega
  · rw [if_neg (by simp [e])]; omega
section
variable {y n k : Nat} {p : Int}
theorem dn_on (hn : 2 ≤ n ∧ n ≤ 7) (hp : p = 1 ∨ p = 2) (hy : ∃ j, j < n ∧ y.testBit j = false) (hk : k < n) (hb : y.testBit k = true) : onR (stG n 0 9 77 p (dnC y k) [] 0) (mK (if p = 2 then 9 else 7) k) = stG n 0 9 77 p (dnC y (k + 1)) [] 0 := by
  obtain ⟨j, hj, hjb⟩ := hy
  have hjk : k ≠ j := by
    intro e
    subst e
    rw [hb] at hjb
    cases hjb
  have hkk : ((if p = 2 then (9 : Int) else 7) = 7 ∨ (if p = 2 then (9 : Int) else 7) = 9) := by split <;> simp
  have h1 := (on_more (n := n) (a := 0) (id := 9) (f := 77) (p := p) (C := dnC y k) (L := []) (tk := 0) (m := mK (if p = 2 then 9 else 7) k) (i := k) (by rcases hp with rfl | rfl <;> simp) (mK_ok hkk (by omega)) rfl rfl rfl rfl hk (dnC_at _ _) ⟨j, hj, hjk, by unfold dnC; rw [hjb]; simp⟩).1
  rw [h1, dnC_set hb]
  have : (if p = 1 then joinL [] (mK (if p = 2 then 9 else 7) k).L else []) = [] := by
    split
    · exact joinL_nn
    · rfl
  rw [this]
theorem dn_t1 (hp : p = 1 ∨ p = 2) : tickR (stG n 0 9 77 p (dnC y n) [] 0) = stG n 0 9 77 p (dnC y n) [] 1 ∧ tickM (stG n 0 9 77 p (dnC y n) [] 0) = [] :=
  ⟨by rw [tick_more (by omega) (by omega)]; rfl, by rw [tick_sends (by omega) (by omega), if_neg (by omega)]⟩
theorem dn_t2 (hp : p = 1 ∨ p = 2) : tickR (stG n 0 9 77 p (dnC y n) [] 1) = stG n 0 9 77 p (dnC y n) [] 2 ∧ tickM (stG n 0 9 77 p (dnC y n) [] 1) = [] :=
  ⟨by rw [tick_more (by omega) (by omega)]; rfl, by rw [tick_sends (by omega) (by omega), if_neg (by omega)]⟩
def asks (y n : Nat) (p : Int) : List Mg := ((List.range n).filter fun j => !y.testBit j).map fun (j : Nat) => ⟨if p = 2 then 8 else 6, 0, (j : Int), 9, 77, none, 0, []⟩
theorem dn_t3 (hp : p = 1 ∨ p = 2) : tickR (stG n 0 9 77 p (dnC y n) [] 2) = stG n 0 9 77 p (dnC y n) [] 3 ∧ tickM (stG n 0 9 77 p (dnC y n) [] 2) = asks y n p := by
  refine ⟨by rw [tick_more (by omega) (by omega)]; rfl, ?_⟩
  rw [tick_sends (by omega) (by omega), if_pos (by omega)]
  unfold sendTo asks
  have h := filter_dn y n
  simp only [Bool.false_or]
  rw [show (fun j => !(stG n 0 9 77 p (dnC y n) [] (2 + 1)).C j) = fun j => !dnC y n j from rfl, h]
  apply List.map_congr_left
  intro j _
  unfold toM kindR
  show (⟨_, _, _, _, _, _, _, _⟩ : Mg) = _
  rcases hp with rfl | rfl <;> rfl
theorem asks_len : (asks y n p).length = leftN y n := by unfold asks leftN; rw [List.length_map]
theorem dn_all (hn : 2 ≤ n) (hp : p = 1 ∨ p = 2) : ∃ M, sendR (stG n 0 9 77 p (dnC y n) [] 3) true = M ∧ 2 ≤ M.length := by
  refine ⟨_, rfl, ?_⟩
  unfold sendR
  rw [if_neg (show ¬ (stG n 0 9 77 p (dnC y n) [] 3).ph = 3 from (by show ¬ p = 3; omega))]
  unfold sendTo
  rw [List.length_map]
  have : ((List.range (stG n 0 9 77 p (dnC y n) [] 3).n.toNat).filter fun j => true || !(stG n 0 9 77 p (dnC y n) [] 3).C j) = List.range n := by
    show (List.range (n : Int).toNat).filter (fun _ => true) = _
    simp
  rw [this, List.length_range]
  exact hn
/-- What is told to one, read off. -/
theorem asks_at {N : List Mg} (h : N.map Mg.bare = asks y n p) {i : Nat} (hi : i < N.length) : ∃ j, j < n ∧ y.testBit j = false ∧ (N[i]'hi).k = (if p = 2 then 8 else 6) ∧ (N[i]'hi).f = 0 ∧ (N[i]'hi).t = (j : Int) ∧ (N[i]'hi).id = 9 ∧ (N[i]'hi).n = 77 := by
  have hm : (N[i]'hi).bare ∈ asks y n p := by rw [← h]; exact List.mem_map.2 ⟨_, List.getElem_mem _, rfl⟩
  unfold asks at hm
  obtain ⟨j, hj, e⟩ := List.mem_map.1 hm
  obtain ⟨h1, h2⟩ := List.mem_filter.1 hj
  rw [List.mem_range] at h1
  unfold Mg.bare at e
  injection e with e1 e2 e3 e4 e5 e6 e7 e8
  exact ⟨j, h1, by simpa using h2, e1.symm, e2.symm, e3.symm, e4.symm, e5.symm⟩
end
end Go.Proofs.Ytikecafblampeaa.roundAsks
