/- What a list tells: plain words, and contracts of state.Tomb, state.Top and of clepsydraref5.Tomb, Top. Condition: the list's length is at most 2^62. -/
import Derived.Test.YtebnifpclebliaaTell
namespace Go.Proofs.Ytebnifpclebliaa
set_option linter.unusedVariables false
set_option linter.unusedSimpArgs false
open Go.ChangeShapes Go.WideShapes Go.ChangeAt Go.RowKit

end Go.Proofs.Ytebnifpclebliaa
