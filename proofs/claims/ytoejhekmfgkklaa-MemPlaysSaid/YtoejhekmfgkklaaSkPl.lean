/- Nodes with towers: plain words on lists of nodes. No program's function occurs here. -/
import Derived.Test.YtoejhekmfgkklaaOg
import Derived.Test.YtoejhekmfgkklaaSt
namespace Go.Proofs.Ytoejhekmfgkklaa
set_option linter.unusedVariables false
set_option linter.unusedSimpArgs false
open Go.ChangeShapes Go.WideShapes Go.ChangeAt Go.RowKit

/-- A node: its block, its tower's block, its height, its item. -/
structure Nd where
  b : Nat
  t : Nat
  h : Nat
  x : It
/-- The next node of a level in the rest of a list. -/
def nxtP (k : Nat) (R : List Nd) : Option Nat := (R.find? fun n => decide (k < n.h)).map (·.b)
def ptrO (o : Option Nat) : Value := .pointer (o.map fun b => ⟨b, 0, none⟩)
theorem nx_cases (F : List Nd) (k i : Nat) : (nxtP k (F.drop (i + 1)) = none ∧ ∀ j (hj : j < F.length), i < j → ¬ k < F[j].h) ∨
    (∃ (j : Nat) (hj : j < F.length), i < j ∧ k < F[j].h ∧ nxtP k (F.drop (i + 1)) = some F[j].b ∧ ∀ j' (h' : j' < F.length), i < j' → j' < j → ¬ k < F[j'].h) := by
  unfold nxtP
  cases h : (F.drop (i + 1)).find? fun n => decide (k < n.h) with
  | none =>
    left
    refine ⟨rfl, fun j hj hij hk => ?_⟩
    rw [List.find?_eq_none] at h
    have hm : F[j] ∈ F.drop (i + 1) := by
      rw [List.mem_iff_getElem]
      exact ⟨j - (i + 1), by simp; omega, by simp; congr 1; omega⟩
    have := h _ hm
    simp at this
    omega
  | some n =>
    right
    rw [List.find?_eq_some_iff_getElem] at h
    obtain ⟨hp, m, hm, he, hall⟩ := h
    have hml : m < F.length - (i + 1) := by simpa using hm
    have e : F[i + 1 + m] = n := by rw [← he]; simp
    refine ⟨i + 1 + m, by omega, by omega, ?_, ?_, fun j' h' h1 h2 hk => ?_⟩
    · rw [e]; simpa using hp
    · rw [e]; rfl
    · have := hall (j' - (i + 1)) (by omega)
      have e2 : (F.drop (i + 1))[j' - (i + 1)]'(by simp; omega) = F[j'] := by simp; congr 1; omega
      rw [e2] at this
      simp at this
      omega
/-- The last node up to place p that is so high. -/
def IsPrv (F : List Nd) (k p i : Nat) : Prop := i ≤ p ∧ (∃ h : i < F.length, k < (F[i]'h).h) ∧ ∀ j (hj : j < F.length), i < j → j ≤ p → ¬ k < F[j].h
theorem prv_uniq {F : List Nd} {k p i j : Nat} (h : IsPrv F k p i) (g : IsPrv F k p j) : i = j := by
  obtain ⟨h1, ⟨h2, h3⟩, h4⟩ := h
  obtain ⟨g1, ⟨g2, g3⟩, g4⟩ := g
  rcases Nat.lt_trichotomy i j with e | e | e
  · exact absurd g3 (h4 j g2 e g1)
  · exact e
  · exact absurd h3 (g4 i h2 e h1)
end Go.Proofs.Ytoejhekmfgkklaa
