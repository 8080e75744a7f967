/- What is of a list, as the program has it: contracts of state.only, Series. Condition: a list of at most 2^40 items. -/
import Derived.Test.YtebnifpclebliaaFil
import Derived.Test.YtebnifpclebliaaPSt
namespace Go.Proofs.Ytebnifpclebliaa
set_option linter.unusedVariables false
set_option linter.unusedSimpArgs false
open Go.ChangeShapes Go.WideShapes Go.ChangeAt Go.RowKit

theorem box_one {w : World} {g : Nat} {u : Value} {t : TypeId} (h : w.heap[g]? = some (.cells #[u] t (0, 0))) : w.cell? ⟨g, 0, none⟩ = some u := (cell_of_row w g 0 _ _ _ h).trans rfl
end Go.Proofs.Ytebnifpclebliaa
