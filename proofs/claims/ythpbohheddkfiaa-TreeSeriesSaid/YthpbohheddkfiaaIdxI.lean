/- slices.IndexFunc and slices.ContainsFunc on numbers, for any function value that answers as a Lean predicate: contracts. Condition: the length fits an int; the callee's contract. -/
import Derived.Test.YthpbohheddkfiaaOne
namespace Go.Proofs.Ythpbohheddkfiaa
set_option linter.unusedVariables false
set_option linter.unusedSimpArgs false
open Go.ChangeShapes Go.WideShapes Go.ChangeAt Go.RowKit

def findN (p : Int → Bool) (L : List Int) : Int := match L.findIdx? p with | some i => i | none => -1
theorem findN_hit {p : Int → Bool} {L : List Int} {k : Nat} (hk : k < L.length) (h : ∀ j (_ : j < k) (hj' : j < L.length), p L[j] = false) (hp : p L[k] = true) : findN p L = k := by
  have e : L.findIdx? p = some k := by
    rw [List.findIdx?_eq_some_iff_getElem]
    exact ⟨hk, hp, fun j hj => by simp [h j hj (by omega)]⟩
  simp [findN, e]
theorem findN_miss {p : Int → Bool} {L : List Int} (h : ∀ j (hj' : j < L.length), p L[j] = false) : findN p L = -1 := by
  have e : L.findIdx? p = none := by
    rw [List.findIdx?_eq_none_iff]
    intro x hx
    obtain ⟨j, hj, rfl⟩ := List.getElem_of_mem hx
    exact h j hj
  simp [findN, e]
theorem findN_nonneg (p : Int → Bool) (L : List Int) : decide (0 ≤ findN p L) = L.any p := by
  unfold findN
  cases h : L.findIdx? p with
  | none =>
    rw [List.findIdx?_eq_none_iff] at h
    have : L.any p = false := by rw [List.any_eq_false]; intro x hx; simp [h x hx]
    rw [this]; rfl
  | some i =>
    rw [List.findIdx?_eq_some_iff_getElem] at h
    obtain ⟨hi, hp, _⟩ := h
    have : L.any p = true := List.any_eq_true.2 ⟨L[i], List.getElem_mem hi, hp⟩
    rw [this]; simp
theorem missN_snoc {p : Int → Bool} {L : List Int} {k : Nat} {hk : k < L.length} (h : ∀ j (_ : j < k) (hj' : j < L.length), p L[j] = false) (hp : p L[k] = false) : ∀ j (_ : j < k + 1) (hj' : j < L.length), p L[j] = false := by
  intro j hj hj'
  by_cases e : j = k
  · subst e; exact hp
  · exact h j (by omega) hj'
def TellsN (F : FuncId) (caps : Array Value) (p : Int → Bool) (L : List Int) (w : World) : Prop :=
  ∀ x ∈ L, ∀ w1, Below w.heap.size w w1 → Calls Try.prog F (#[.int .i64 x] ++ caps) w1 fun e w2 => e = .returned (.bool (p x)) ∧ Below w1.heap.size w1 w2

end Go.Proofs.Ythpbohheddkfiaa
