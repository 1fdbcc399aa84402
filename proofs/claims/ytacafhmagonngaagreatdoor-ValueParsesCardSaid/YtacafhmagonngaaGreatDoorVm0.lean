/- Which masks a column may have: the walks of both RightMask. -/
import Derived.Test.YtacafhmagonngaaGreatDoorVr0
set_option linter.unusedVariables false
set_option linter.unusedSimpArgs false
namespace Go.Proofs.YtacafhmagonngaaGreatDoor
open Go.RowKit

/-- may a column of a kind have a mask -/
def rmB (mk mn k : Int) : Bool := decide (1 ≤ k ∧ k ≤ 4) && (if mk = 3 then decide (k = 3) && decide (0 ≤ mn) && decide (mn ≤ 64) else decide (0 ≤ mk ∧ mk < 3) && decide (mn = 0))
theorem three (mn : Int) : mn < 0 ∨ (0 ≤ mn ∧ mn ≤ 64) ∨ (0 ≤ mn ∧ 64 < mn) := by omega
theorem below_box1 (w : World) (o : Obj) : Below w.heap.size w (w.alloc o) := (Below.refl _ _).alloc (Nat.le_refl _) _
end Go.Proofs.YtacafhmagonngaaGreatDoor
