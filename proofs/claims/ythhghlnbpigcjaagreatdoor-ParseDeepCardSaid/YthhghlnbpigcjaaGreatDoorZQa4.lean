/- The walk of a tape's atom, at fault. -/
import Derived.Test.YthhghlnbpigcjaaGreatDoorZQa3
set_option linter.unusedVariables false
set_option linter.unusedSimpArgs false
namespace Go.Proofs.YthhghlnbpigcjaaGreatDoor
open Go.RowKit

end Go.Proofs.YthhghlnbpigcjaaGreatDoor
