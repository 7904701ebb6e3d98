/- Contracts: the reference's quotient, spans of whole numbers, pi, and the sanity check of the statements. No conditions. -/
import Derived.Test.YtnbjealpcjfllaaGreatDoorQuo
namespace Go.Proofs.YtnbjealpcjfllaaGreatDoor
set_option linter.unusedVariables false
set_option linter.unusedSimpArgs false
open Go.RowKit
theorem within_whole (n : Int) : withinB n (-1099511627776) 1099511627776 = wholeB n := rfl
def enclosesB (wl wh e lo hi : Int) : Bool := e != 0 || decide (wl ≤ lo ∧ hi ≤ wh)
end Go.Proofs.YtnbjealpcjfllaaGreatDoor
