/- slices.ContainsFunc on items, for any function value that answers as a Lean predicate: contract. Condition: the length fits an int; the callee's contract. -/
import Derived.Test.YtlabpgdimhbocaaGreatIdx
namespace Go.Proofs.YtlabpgdimhbocaaGreat
set_option linter.unusedVariables false
set_option linter.unusedSimpArgs false
open Go.ChangeShapes Go.WideShapes Go.ChangeAt Go.RowKit

def anyI (p : It → Bool) (L : List It) : Bool := L.any p
theorem findI_any (p : It → Bool) (L : List It) : decide (0 ≤ findI p L) = anyI p L := by
  unfold findI anyI
  cases h : L.findIdx? p with
  | none =>
    rw [List.findIdx?_eq_none_iff] at h
    simp
    intro x hx; simp [h x hx]
  | some i =>
    rw [List.findIdx?_eq_some_iff_getElem] at h
    obtain ⟨hi, hp, _⟩ := h
    simp
    exact ⟨_, List.getElem_mem hi, hp⟩

set_option maxHeartbeats 400000 in
theorem contains_any (F : FuncId) (caps : Array Value) (hcf : Enters Tryz.prog F) (p : It → Bool) (A : Option Addr) (c : Nat) (L : List It) (w : World) (hl : L.length ≤ 9223372036854775807) (hL : ItemsAt w A L)
   (hF : Tells F caps p L w) :
    Calls Tryz.prog 48 #[.slice A L.length c, .func (.func F) #[] caps] w fun e w' => e = .returned (.bool (anyI p L)) ∧ Below w.heap.size w w' := by
  have H := hide (index_any F caps hcf p A c L w hl hL hF)
  have HE := hide (findI_any p L)
  clear hF hL
  generalize findI p L = q at *
  generalize anyI p L = r at *
  go_enter Tryz.func48, Tryz.ntmps48
  go_wp2_with (refine (Calls.mono H.out ?_); rintro e w1 ⟨rfl, hg1⟩)
  go_ret
  exact ⟨by rw [← HE.out]; rfl, hg1⟩
end Go.Proofs.YtlabpgdimhbocaaGreat
