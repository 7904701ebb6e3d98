/- Contracts of the functions behind quotients. No conditions but bounds on numbers. -/
import Derived.Test.YtbefphfgcbbcpaaDoorBase
import Derived.Test.YtbefphfgcbbcpaaDoorNum
namespace Go.Proofs.YtbefphfgcbbcpaaDoor
set_option linter.unusedVariables false
set_option linter.unusedSimpArgs false
open Go.RowKit
def wholeB (n : Int) : Bool := decide (-1099511627776 ≤ n ∧ n ≤ 1099511627776)
def validB (lo hi : Int) : Bool := decide (-1099511627776 ≤ lo ∧ lo ≤ hi ∧ hi ≤ 1099511627776)
def withinB (n lo hi : Int) : Bool := decide (lo ≤ n ∧ n ≤ hi)
def resultS (lo hi : Int) : R := if validB lo hi then ⟨lo, hi, 0⟩ else ⟨0, 0, 4⟩
set_option maxHeartbeats 400000 in
theorem within_any (n lo hi : Int) (w : World) :
    Calls Tryd.prog 62 #[.int .i64 n, .int .i64 lo, .int .i64 hi] w fun e w' => e = .returned (.bool (withinB n lo hi)) ∧ w = w' := by
  go_enter Tryd.func62, Tryd.ntmps62
  go_wp2
  all_goals (go_ret; exact ⟨ret_bool (by unfold withinB; rw [eq_comm]; first | (rw [decide_eq_decide]; omega) | (rw [decide_eq_false_iff_not]; omega)), rfl⟩)
def quotS (n d : Int) : R := if !wholeB n || !wholeB d || d == 0 then ⟨0, 0, 1⟩ else resultS ((n * 1048576).fdiv d) (-((-(n * 1048576)).fdiv d))
theorem whole_bd {n : Int} (h : wholeB n = true) : -1099511627776 ≤ n ∧ n ≤ 1099511627776 := of_decide_eq_true h
theorem valid_bd {lo hi : Int} (h : validB lo hi = true) : -1099511627776 ≤ lo ∧ lo ≤ hi ∧ hi ≤ 1099511627776 := of_decide_eq_true h
end Go.Proofs.YtbefphfgcbbcpaaDoor
