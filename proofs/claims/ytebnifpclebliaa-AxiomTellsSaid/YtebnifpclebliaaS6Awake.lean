/- What the document fixes of states holds: the contract of clepsydralaw6.awake. No conditions. -/
import Derived.Test.YtebnifpclebliaaPSt
import Derived.Test.YtebnifpclebliaaPTom
namespace Go.Proofs.Ytebnifpclebliaa
set_option linter.unusedVariables false
set_option linter.unusedSimpArgs false
open Go.ChangeShapes Go.WideShapes Go.ChangeAt Go.RowKit

end Go.Proofs.Ytebnifpclebliaa
