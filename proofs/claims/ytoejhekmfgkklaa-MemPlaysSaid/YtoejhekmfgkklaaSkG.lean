/- skip.List's From, Get: contracts. Conditions: the list as it reads; its items rise; towers of 1 to 6. -/
import Derived.Test.YtoejhekmfgkklaaSkF
namespace Go.Proofs.Ytoejhekmfgkklaa
set_option linter.unusedVariables false
set_option linter.unusedSimpArgs false
open Go.ChangeShapes Go.WideShapes Go.ChangeAt Go.RowKit

/-- The least that is not ahead of an item; zero: there is none. -/
def fromL (L : List It) (x : It) : It := L[lowI x L]?.getD It.zero
theorem sameB_comm (a b : It) : sameB a b = sameB b a := by
  unfold sameB
  congr 1
  simp only [eq_iff_iff]
  unfold It.same
  omega
theorem its_len (F : List Nd) : (itsF F).length = F.length - 1 := by unfold itsF; simp
theorem sk_low {F : List Nd} (hF : 0 < F.length) (x : It) : (lowI x (itsF F) < (itsF F).length ↔ lowI x (itsF F) + 1 < F.length) := by rw [its_len]; omega
theorem al2z (w : World) (o1 o2 : Obj) : ((w.alloc o1).alloc o2).heap[w.heap.size + 1]? = some o2 ∧ Below w.heap.size w ((w.alloc o1).alloc o2) ∧ w.heap.size + 1 < ((w.alloc o1).alloc o2).heap.size :=
  ⟨heap_at (by simp), below_alloc (below_alloc (Below.refl _ _) _) _, by simp⟩
/-- A result's block of five cells, ahead of the five stores. -/
theorem res_box {w : World} {g : Nat} {a0 a1 a2 a3 a4 : Value} {t : TypeId} (h : w.heap[g]? = some (.cells #[a0, a1, a2, a3, a4] t (0, 0))) : g < w.heap.size ∧
    w.cell? ⟨g, 0, none⟩ = some a0 ∧ w.cell? ⟨g, 1, none⟩ = some a1 ∧ w.cell? ⟨g, 2, none⟩ = some a2 ∧ w.cell? ⟨g, 3, none⟩ = some a3 ∧ w.cell? ⟨g, 4, none⟩ = some a4 ∧ ∀ o, w.frozen? ⟨g, o, none⟩ = false :=
  ⟨(Array.getElem?_eq_some_iff.1 h).1, (cell_of_row w g 0 _ _ _ h).trans rfl, (cell_of_row w g 1 _ _ _ h).trans rfl, (cell_of_row w g 2 _ _ _ h).trans rfl, (cell_of_row w g 3 _ _ _ h).trans rfl, (cell_of_row w g 4 _ _ _ h).trans rfl, fun o => by simp [World.frozen?, h]⟩
/-- Five stores into a block above. -/
theorem res_below {B : Nat} {w0 w : World} {g : Nat} (h : Below B w0 w) (hg : B ≤ g) (v0 v1 v2 v3 v4 : Value) : Below B w0 (((((w.setCell ⟨g, 0, none⟩ v0).setCell ⟨g, 1, none⟩ v1).setCell ⟨g, 2, none⟩ v2).setCell ⟨g, 3, none⟩ v3).setCell ⟨g, 4, none⟩ v4) :=
  ((((h.setCell hg _).setCell hg _).setCell hg _).setCell hg _).setCell hg _
/-- What Get tells. -/
def getSk (L : List It) (x : It) : It := if sameAt x L then fromL L x else It.zero
end Go.Proofs.Ytoejhekmfgkklaa
