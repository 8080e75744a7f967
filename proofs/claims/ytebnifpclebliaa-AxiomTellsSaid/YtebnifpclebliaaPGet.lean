/- A sample of a list: the contract of state.Get. Condition: the list's length is at most 2^62. -/
import Derived.Test.YtebnifpclebliaaTell
namespace Go.Proofs.Ytebnifpclebliaa
set_option linter.unusedVariables false
set_option linter.unusedSimpArgs false
open Go.ChangeShapes Go.WideShapes Go.ChangeAt Go.RowKit

end Go.Proofs.Ytebnifpclebliaa
