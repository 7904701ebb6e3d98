/- Contracts: the reference's quotient, spans of whole numbers, pi, and the sanity check of the statements. No conditions. -/
import Derived.Test.YtfaeakhnlodpfaaDoorQuo
namespace Go.Proofs.YtfaeakhnlodpfaaDoor
set_option linter.unusedVariables false
set_option linter.unusedSimpArgs false
open Go.RowKit
theorem within_whole (n : Int) : withinB n (-1099511627776) 1099511627776 = wholeB n := rfl
set_option maxHeartbeats 400000 in
theorem pi_any (w : World) :
    Calls Tryd.prog 10 #[] w fun e w' => e = .returned (.agg #[.int .i64 3294198, .int .i64 3294199]) ∧ Kept w w' := by
  go_enter Tryd.func10, Tryd.ntmps10
  go_wp2
  all_goals (refine bodyPost_ret (by simp only [results, Tryd.results10]; go_simp; rfl) rfl ?_; refine ⟨rfl, ?_⟩; (repeat (first | exact Kept.refl _ | assumption | refine Kept.alloc ?_ _ | refine Kept.ext ?_ _ | refine Kept.drew ?_ | refine Kept.drewN ?_ _)))
set_option maxHeartbeats 400000 in
theorem rpi_any (w : World) :
    Calls Tryd.prog 11 #[] w fun e w' => e = .returned (.agg #[.int .i64 3294198, .int .i64 3294199]) ∧ Kept w w' := by
  go_enter Tryd.func11, Tryd.ntmps11
  go_wp2
  all_goals (refine bodyPost_ret (by simp only [results, Tryd.results11]; go_simp; rfl) rfl ?_; refine ⟨rfl, ?_⟩; (repeat (first | exact Kept.refl _ | assumption | refine Kept.alloc ?_ _ | refine Kept.ext ?_ _ | refine Kept.drew ?_ | refine Kept.drewN ?_ _)))
set_option maxHeartbeats 400000 in
theorem known_any (w : World) :
    Calls Tryd.prog 4 #[] w fun e w' => e = .returned (.bool true) ∧ Kept w w' := by
  have e1 : (quotS (-1) 3).lo = -349526 := by decide +kernel
  have e2 : (quotS (-1) 3).hi = -349525 := by decide +kernel
  have e3 : (quotS (-1) 3).e = 0 := by decide +kernel
  go_enter Tryd.func4, Tryd.ntmps4
  go_wp2_with (first | (go_at_call 9; refine (quot_any _ _ _).mono ?_; rintro e w1 ⟨rfl, x, rfl⟩) | (go_at_call 10; refine (pi_any _).mono ?_; rintro e w1 ⟨rfl, x, rfl⟩) | (go_at_call 11; refine (rpi_any _).mono ?_; rintro e w1 ⟨rfl, x, rfl⟩))
  all_goals (go_ret; refine ⟨rfl, ?_⟩; (repeat (first | exact Kept.refl _ | assumption | refine Kept.alloc ?_ _ | refine Kept.ext ?_ _ | refine Kept.drew ?_ | refine Kept.drewN ?_ _)))
def enclosesB (wl wh e lo hi : Int) : Bool := e != 0 || decide (wl ≤ lo ∧ hi ≤ wh)
end Go.Proofs.YtfaeakhnlodpfaaDoor
