/- skip.List's from, From: contracts. Conditions: the list as it reads; its items rise; towers of 1 to 6. (UNDER WAY) -/
import Derived.Test.YtoejhekmfgkklaaSkI
namespace Go.Proofs.Ytoejhekmfgkklaa
set_option linter.unusedVariables false
set_option linter.unusedSimpArgs false
open Go.ChangeShapes Go.WideShapes Go.ChangeAt Go.RowKit

end Go.Proofs.Ytoejhekmfgkklaa
