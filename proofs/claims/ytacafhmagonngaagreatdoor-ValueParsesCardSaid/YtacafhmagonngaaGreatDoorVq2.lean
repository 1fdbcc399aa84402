/- The document's answer for the texts of values: the walk of Print. -/
import Derived.Test.YtacafhmagonngaaGreatDoorVq1
import Derived.Test.YtacafhmagonngaaGreatDoorVm0
set_option linter.unusedVariables false
set_option linter.unusedSimpArgs false
namespace Go.Proofs.YtacafhmagonngaaGreatDoor
open Go.RowKit

end Go.Proofs.YtacafhmagonngaaGreatDoor
