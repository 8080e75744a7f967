/- What a list tells, in plain words: the first item of which something is true, the greatest version. No program's function occurs here. -/
import Derived.Test.YtebnifpclebliaaFil
namespace Go.Proofs.Ytebnifpclebliaa
set_option linter.unusedVariables false
set_option linter.unusedSimpArgs false
open Go.ChangeShapes Go.WideShapes Go.ChangeAt Go.RowKit

def NoneP (p : It → Bool) (L : List It) (k : Nat) : Prop := ∀ j (_ : j < k) (hj : j < L.length), p L[j] = false
theorem noneP_on {p : It → Bool} {L : List It} {k : Nat} (hk : k < L.length) (h : NoneP p L k) (hp : p L[k] = false) : NoneP p L (k + 1) := fun j hj hj' => by
  by_cases e : j = k
  · subst e; exact hp
  · exact h j (by omega) hj'
theorem find_hit {p : It → Bool} {L : List It} {k : Nat} (hk : k < L.length) (h : NoneP p L k) (hp : p L[k] = true) : L.find? p = some L[k] := by
  rw [List.find?_eq_some_iff_getElem]
  exact ⟨hp, k, hk, rfl, fun j hj => by simp [h j hj (by omega)]⟩
theorem find_miss {p : It → Bool} {L : List It} {k : Nat} (hk : L.length ≤ k) (h : NoneP p L k) : L.find? p = none := by
  rw [List.find?_eq_none]
  intro x hx
  obtain ⟨j, hj, rfl⟩ := List.getElem_of_mem hx
  simp [h j (by omega) hj]
def getP (s t : Int) (x : It) : Bool := decide (x.s = s ∧ x.k = 2 ∧ x.t = t)
def getL (s t : Int) (L : List It) : It := (L.find? (getP s t)).getD ⟨0, 0, 0, 0, 0⟩
def hasL (s t : Int) (L : List It) : Bool := (L.find? (getP s t)).isSome
def tmP (s : Int) (x : It) : Bool := decide (x.s = s ∧ x.k = 1)
def tombV (s : Int) (L : List It) : Int := match L.find? (tmP s) with
  | some x => x.v
  | none => 0
def topL (L : List It) : Int := L.foldl (fun n x => max n x.v) 0
theorem topL_snoc {L : List It} {k : Nat} (hk : k < L.length) : topL (L.take (k + 1)) = max (topL (L.take k)) L[k].v := by
  unfold topL
  rw [List.take_succ_eq_append_getElem hk, List.foldl_append]; rfl
theorem topL_range (L : List It) (h : ∀ x ∈ L, x.v ≤ 18446744073709551615) : 0 ≤ topL L ∧ topL L ≤ 18446744073709551615 := by
  have key : ∀ (L : List It) (n : Int), (∀ x ∈ L, x.v ≤ 18446744073709551615) → 0 ≤ n → n ≤ 18446744073709551615 → 0 ≤ L.foldl (fun n x => max n x.v) n ∧ L.foldl (fun n x => max n x.v) n ≤ 18446744073709551615 := by
    intro L
    induction L with
    | nil => intro n _ h1 h2; exact ⟨h1, h2⟩
    | cons x L ih =>
      intro n h h1 h2
      have := h x (by simp)
      exact ih (max n x.v) (fun y hy => h y (by simp [hy])) (by omega) (by omega)
  exact key L 0 h (by omega) (by omega)
theorem max_if (a b : Int) : max a b = if a < b then b else a := by split <;> omega
end Go.Proofs.Ytebnifpclebliaa
