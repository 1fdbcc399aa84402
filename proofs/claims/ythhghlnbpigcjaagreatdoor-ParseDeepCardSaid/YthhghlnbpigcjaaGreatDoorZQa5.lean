/- The walks of a tape's piece and level, at fault. -/
import Derived.Test.YthhghlnbpigcjaaGreatDoorZQa4
set_option linter.unusedVariables false
set_option linter.unusedSimpArgs false
namespace Go.Proofs.YthhghlnbpigcjaaGreatDoor
open Go.RowKit

end Go.Proofs.YthhghlnbpigcjaaGreatDoor
