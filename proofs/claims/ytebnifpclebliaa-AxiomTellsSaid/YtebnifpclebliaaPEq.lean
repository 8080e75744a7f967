/- Two lists of items are one: the contracts of slices.Equal on items and of state.Same. Condition: the lists' lengths are at most 2^62. -/
import Derived.Test.YtebnifpclebliaaFil
namespace Go.Proofs.Ytebnifpclebliaa
set_option linter.unusedVariables false
set_option linter.unusedSimpArgs false
open Go.ChangeShapes Go.WideShapes Go.ChangeAt Go.RowKit

end Go.Proofs.Ytebnifpclebliaa
