/- Two slices that read as one list are told as equal. Conditions: readable. -/
import Derived.Test.YtikecafblampeaaREq
import Derived.Test.YtikecafblampeaaSl
namespace Go.Proofs.Ytikecafblampeaa
set_option linter.unusedVariables false
set_option linter.unusedSimpArgs false
open Go.ChangeShapes Go.WideShapes Go.ChangeAt Go.RowKit
theorem reqs_sl {v u : Value} {L : List It} {w : World} (h : Sl w v L) (k : Sl w u L) (hn : L.length ≤ 4611686018427387904) : Calls Try.prog 13 #[v, u] w fun e w' => e = .returned (.bool true) ∧ Below w.heap.size w w' := by
  obtain ⟨A, c, rfl, hL, _, _⟩ := h
  obtain ⟨B, d, rfl, hM, _, _⟩ := k
  have := requal_any A B c d L L w hL hM hn hn
  rw [show eqL L L = true from eqL_iff.2 rfl] at this
  exact this
end Go.Proofs.Ytikecafblampeaa
