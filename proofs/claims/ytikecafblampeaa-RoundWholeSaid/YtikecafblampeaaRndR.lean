/- Nodes in turn: who has answered, what all had, joined; the round behind i seals. Plain words. -/
import Derived.Test.YtikecafblampeaaRndF
import Derived.Test.YtikecafblampeaaStLaw
namespace Go.Proofs.Ytikecafblampeaa
set_option linter.unusedVariables false
set_option linter.unusedSimpArgs false
/-- The i-th of n nodes, begun at s. -/
def rot (n s i : Nat) : Nat := if i + s < n then i + s else i + s - n
theorem rot_eq {n i : Nat} (t : Nat) (hi : i < n) : (i + t) % n = rot n (t % n) i := by
  have hs : t % n < n := Nat.mod_lt _ (by omega)
  rw [Nat.add_mod, Nat.mod_eq_of_lt hi]
  unfold rot
  split
  · rename_i h
    exact Nat.mod_eq_of_lt h
  · rename_i h
    rw [Nat.mod_eq_sub_mod (by omega), Nat.mod_eq_of_lt (by omega)]
theorem rot_lt {n s i : Nat} (hs : s < n) (hi : i < n) : rot n s i < n := by unfold rot; split <;> omega
theorem rot_inj {n s i j : Nat} (hs : s < n) (hi : i < n) (hj : j < n) (h : rot n s i = rot n s j) : i = j := by
  unfold rot at h
  split at h <;> split at h <;> omega
theorem rot_onto {n s : Nat} (hs : s < n) {j : Nat} (hj : j < n) : ∃ i, i < n ∧ rot n s i = j := by
  by_cases h : s ≤ j
  · exact ⟨j - s, by omega, by unfold rot; rw [if_pos (by omega)]; omega⟩
  · exact ⟨j + n - s, by omega, by unfold rot; rw [if_neg (by omega)]; omega⟩
theorem rot_zero {n i : Nat} (hi : i < n) : rot n 0 i = i := by unfold rot; rw [if_pos (by omega)]; omega
/-- The first i of n nodes, begun at s. -/
def rotC (n s i : Nat) : Nat → Bool := fun j => decide (j < n ∧ ((s ≤ j ∧ j < s + i) ∨ j + n < s + i))
theorem rotC_zero {n s : Nat} (hs : s < n) : rotC n s 0 = fun _ => false := by
  funext j
  exact decide_eq_false (by omega)
theorem rotC_at {n s i : Nat} (hs : s < n) (hi : i < n) : rotC n s i (rot n s i) = false := by
  unfold rot
  split <;> exact decide_eq_false (by omega)
theorem rotC_set {n s i : Nat} (hs : s < n) (hi : i < n) : setC (rotC n s i) (rot n s i) = rotC n s (i + 1) := by
  funext j
  unfold setC
  by_cases e : j = rot n s i
  · rw [if_pos e, e]
    symm
    unfold rot
    split <;> exact decide_eq_true (by omega)
  · rw [if_neg e]
    unfold rot at e
    unfold rotC
    rw [decide_eq_decide]
    split at e <;> omega
theorem rotC_next {n s i : Nat} (hs : s < n) (hi : i + 1 < n) : ∃ j, j < n ∧ rot n s i ≠ j ∧ rotC n s i j = false := by
  refine ⟨rot n s (i + 1), rot_lt hs hi, fun h => ?_, ?_⟩
  · have := rot_inj hs (by omega) hi h
    omega
  · unfold rot
    split <;> exact decide_eq_false (by omega)
theorem rotC_full {n s i : Nat} (hs : s < n) (hi : i + 1 = n) : ∀ j, j < n → rot n s i ≠ j → rotC n s i j = true := by
  intro j hj h
  unfold rot at h
  split at h <;> exact decide_eq_true (by omega)
theorem rotC_done {n s i : Nat} (hs : s < n) (hi : i < n) : rotC n s (i + 1) (rot n s i) = true := by
  rw [← rotC_set hs hi]
  unfold setC
  rw [if_pos rfl]
/-- What the first i had, joined. -/
noncomputable def JL (E : Nat → List It) (n s : Nat) : Nat → List It
  | 0 => []
  | i + 1 => joinL (JL E n s i) (E (rot n s i))
theorem JL_len {E : Nat → List It} {m : Nat} (hE : ∀ j, (E j).length ≤ m) (n s : Nat) : ∀ i, (JL E n s i).length ≤ i * m
  | 0 => by simp [JL]
  | i + 1 => by
    have h1 := JL_len hE n s i
    have h2 := joinL_len (JL E n s i) (E (rot n s i))
    have h3 := hE (rot n s i)
    rw [Nat.succ_mul]
    simp only [JL]
    omega
theorem JL_is (E : Nat → List It) (n s : Nat) : ∀ i, ∃ S, Goods S ∧ IsOf S (JL E n s i) ∧ ∀ x, x ∈ S ↔ ∃ k, k < i ∧ x ∈ goods (E (rot n s k))
  | 0 => ⟨[], (by intro y hy; cases hy), IsOf.nil_, by simp⟩
  | i + 1 => by
    obtain ⟨S, h1, h2, h3⟩ := JL_is E n s i
    refine ⟨goods (E (rot n s i)) ++ S, (goods_good _).app h1, joinL_list h2 h1 _, fun x => ?_⟩
    rw [List.mem_append, h3]
    constructor
    · rintro (h | ⟨k, hk, h⟩)
      · exact ⟨i, by omega, h⟩
      · exact ⟨k, by omega, h⟩
    · rintro ⟨k, hk, h⟩
      by_cases e : k = i
      · subst e
        exact .inl h
      · exact .inr ⟨k, by omega, h⟩
theorem JL_turn (E : Nat → List It) {n s t : Nat} (hs : s < n) (ht : t < n) : JL E n s n = JL E n t n := by
  obtain ⟨S, h1, h2, h3⟩ := JL_is E n s n
  obtain ⟨T, k1, k2, k3⟩ := JL_is E n t n
  refine h2.uniq (k2.congr fun x => ?_)
  rw [h3, k3]
  constructor
  · rintro ⟨k, hk, h⟩
    obtain ⟨i, hi, e⟩ := rot_onto hs (rot_lt ht hk)
    exact ⟨i, hi, by rw [e]; exact h⟩
  · rintro ⟨k, hk, h⟩
    obtain ⟨i, hi, e⟩ := rot_onto ht (rot_lt hs hk)
    exact ⟨i, hi, by rw [e]; exact h⟩
theorem JL_state (E : Nat → List It) (n s : Nat) : ∀ i, IsState (JL E n s i)
  | 0 => IsState.nil_
  | _ + 1 => joinL_state _ _
/-- Behind i seals. -/
noncomputable def RS (E : Nat → List It) (n : Nat) (a f : Int) (s i : Nat) : Rs := if i = n then stG n a 9 f 2 (fun _ => false) (JL E n s n) 0 else stG n a 9 f 1 (rotC n s i) (JL E n s i) 0
section
variable {E : Nat → List It} {n s i : Nat} {a f : Int} {m : Mg}
theorem RS_k (hn : 1 ≤ n ∧ n ≤ 7) (hE : ∀ j, (E j).length ≤ 1000) (hi : i ≤ n) : RndK (RS E n a f s i) := by
  have h1 := JL_len hE n s i
  have h2 := JL_len hE n s n
  unfold RS
  split <;> exact stG_k (by omega) (by omega) (by omega) (by omega)
theorem RS_zero (hs : s < n) : RS E n a f s 0 = stG n a 9 f 1 (fun _ => false) [] 0 := by
  unfold RS
  rw [if_neg (by omega), rotC_zero hs]
  rfl
theorem RS_end : RS E n a f s n = stG n a 9 f 2 (fun _ => false) (JL E n s n) 0 := by unfold RS; rw [if_pos rfl]
theorem RS_on (hs : s < n) (hi : i < n) (hk : m.k = 7) (hm : mokB m = true) (ht : m.t = a) (hid : m.id = 9) (hn : m.n = f) (hf : m.f = (rot n s i : Nat)) (hL : m.L = E (rot n s i)) :
    onR (RS E n a f s i) m = RS E n a f s (i + 1) ∧ onM (RS E n a f s i) m = if i + 1 = n then sendR (RS E n a f s n) true else [] := by
  have e1 : RS E n a f s i = stG n a 9 f 1 (rotC n s i) (JL E n s i) 0 := by unfold RS; rw [if_neg (by omega)]
  rw [e1]
  by_cases hlast : i + 1 = n
  · obtain ⟨h1, h2⟩ := on_fill (n := n) (a := a) (id := 9) (f := f) (C := rotC n s i) (L := JL E n s i) (tk := 0) (m := m) (i := rot n s i) hk hm ht hid hn hf (rot_lt hs hi) (rotC_at hs hi) (rotC_full hs hlast)
    have e2 : joinL (JL E n s i) m.L = JL E n s n := by rw [hL, ← hlast]; rfl
    rw [h1, h2, if_pos hlast, e2]
    have e3 : RS E n a f s (i + 1) = stG n a 9 f 2 (fun _ => false) (JL E n s n) 0 := by rw [hlast]; exact RS_end
    rw [e3, RS_end]
    exact ⟨rfl, rfl⟩
  · obtain ⟨h1, h2⟩ := on_more (n := n) (a := a) (id := 9) (f := f) (p := 1) (C := rotC n s i) (L := JL E n s i) (tk := 0) (m := m) (i := rot n s i) (.inl ⟨rfl, hk⟩) hm ht hid hn hf (rot_lt hs hi) (rotC_at hs hi) (rotC_next hs (by omega))
    rw [h1, h2, if_neg hlast, rotC_set hs hi, if_pos rfl, hL]
    refine ⟨?_, rfl⟩
    unfold RS
    rw [if_neg hlast]
    rfl
/-- The same once more says nothing. -/
theorem RS_twice (hs : s < n) (hi : i < n) (hk : m.k = 7) (hf : m.f = (rot n s i : Nat)) : onR (RS E n a f s (i + 1)) m = RS E n a f s (i + 1) ∧ onM (RS E n a f s (i + 1)) m = [] := by
  by_cases hlast : i + 1 = n
  · rw [hlast, RS_end]
    exact on_other rfl hk
  · have e1 : RS E n a f s (i + 1) = stG n a 9 f 1 (rotC n s (i + 1)) (JL E n s (i + 1)) 0 := by unfold RS; rw [if_neg hlast]
    rw [e1]
    exact on_twice (by omega) hf (rotC_done hs hi)
end
end Go.Proofs.Ytikecafblampeaa
