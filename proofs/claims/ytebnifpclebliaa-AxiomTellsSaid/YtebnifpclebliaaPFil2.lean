/- What is of a list, as the program has it: contracts of state.Range, Upto, Purge. Condition: a list of at most 2^40 items. -/
import Derived.Test.YtebnifpclebliaaPFil
namespace Go.Proofs.Ytebnifpclebliaa
set_option linter.unusedVariables false
set_option linter.unusedSimpArgs false
open Go.ChangeShapes Go.WideShapes Go.ChangeAt Go.RowKit
end Go.Proofs.Ytebnifpclebliaa
