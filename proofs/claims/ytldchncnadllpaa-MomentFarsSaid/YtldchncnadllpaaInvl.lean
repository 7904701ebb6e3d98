/- For every input the statement SpanInverses returns true and leaves its arguments as they were. No conditions. -/
import Derived.Test.YtldchncnadllpaaInv
import Derived.Test.YtldchncnadllpaaQuob
namespace Go.Proofs.Ytldchncnadllpaa
set_option linter.unusedVariables false
set_option linter.unusedSimpArgs false
open Go.ChangeShapes Go.WideShapes Go.ChangeAt Go.RowKit
def inverseS (n s : Int) : R := if (1 ≤ n ∧ n ≤ 1099511627776) ∧ (1 ≤ s ∧ s ≤ 8) then invS (s * s * 1099511627776) n else ⟨0, 0, 1⟩
def cubeS (n s : Int) : R := if (1 ≤ n ∧ n ≤ 1099511627776) ∧ (1 ≤ s ∧ s ≤ 8) then (if 1048576 < n then ⟨0, 1, 0⟩ else invS (s * s * (s * s) * (s * s) * 1099511627776) (n * n * n)) else ⟨0, 0, 1⟩
theorem cube_bd {n : Int} (h : 1 ≤ n ∧ n ≤ 1048576) : 1 ≤ n * n ∧ n * n ≤ 1099511627776 ∧ 1 ≤ n * n * n ∧ n * n * n ≤ 1152921504606846976 := by
  have a : 1 * 1 ≤ n * n := Int.mul_le_mul h.1 h.1 (by omega) (by omega)
  have b : n * n ≤ 1048576 * 1048576 := Int.mul_le_mul h.2 h.2 (by omega) (by omega)
  have c : 1 * 1 ≤ n * n * n := Int.mul_le_mul (by omega) h.1 (by omega) (by omega)
  have d : n * n * n ≤ 1099511627776 * 1048576 := Int.mul_le_mul (by omega) h.2 (by omega) (by omega)
  exact ⟨by omega, by omega, by omega, by omega⟩

set_option maxRecDepth 100000 in
set_option maxHeartbeats 4000000 in
theorem spanInv_any (n s : Int) (w : World) :
    Calls Try.prog 34 #[.int .i64 n, .int .i64 s] w fun e w' => e = .returned (.tuple #[.agg #[.int .i64 (inverseS n s).lo, .int .i64 (inverseS n s).hi], .int .i64 (inverseS n s).e]) ∧ Kept w w' := by
  by_cases a1 : n < 1
  · skip
    have e : inverseS n s = ⟨0, 0, 1⟩ := if_neg (by omega)
    rw [e]
    clear e
    go_enter Try.func34, Try.ntmps34
    go_wp2_with (first | (go_at_call 61; refine (inverse_any _ _ _ ⟨⟨by omega, by omega⟩, by omega, by omega⟩).mono ?_; rintro e w1 ⟨rfl, x, rfl⟩))
    all_goals (refine bodyPost_ret (by simp only [results, Try.results34]; go_simp; rfl) rfl ?_; refine ⟨rfl, ?_⟩; (repeat (first | exact Kept.refl _ | assumption | refine Kept.alloc ?_ _ | refine Kept.ext ?_ _ | refine Kept.drew ?_ | refine Kept.drewN ?_ _)))
  by_cases a2 : 1099511627776 < n
  · skip
    have e : inverseS n s = ⟨0, 0, 1⟩ := if_neg (by omega)
    rw [e]
    clear e
    go_enter Try.func34, Try.ntmps34
    go_wp2_with (first | (go_at_call 61; refine (inverse_any _ _ _ ⟨⟨by omega, by omega⟩, by omega, by omega⟩).mono ?_; rintro e w1 ⟨rfl, x, rfl⟩))
    all_goals (refine bodyPost_ret (by simp only [results, Try.results34]; go_simp; rfl) rfl ?_; refine ⟨rfl, ?_⟩; (repeat (first | exact Kept.refl _ | assumption | refine Kept.alloc ?_ _ | refine Kept.ext ?_ _ | refine Kept.drew ?_ | refine Kept.drewN ?_ _)))
  by_cases a3 : s < 1
  · skip
    have e : inverseS n s = ⟨0, 0, 1⟩ := if_neg (by omega)
    rw [e]
    clear e
    go_enter Try.func34, Try.ntmps34
    go_wp2_with (first | (go_at_call 61; refine (inverse_any _ _ _ ⟨⟨by omega, by omega⟩, by omega, by omega⟩).mono ?_; rintro e w1 ⟨rfl, x, rfl⟩))
    all_goals (refine bodyPost_ret (by simp only [results, Try.results34]; go_simp; rfl) rfl ?_; refine ⟨rfl, ?_⟩; (repeat (first | exact Kept.refl _ | assumption | refine Kept.alloc ?_ _ | refine Kept.ext ?_ _ | refine Kept.drew ?_ | refine Kept.drewN ?_ _)))
  by_cases a4 : 8 < s
  · skip
    have e : inverseS n s = ⟨0, 0, 1⟩ := if_neg (by omega)
    rw [e]
    clear e
    go_enter Try.func34, Try.ntmps34
    go_wp2_with (first | (go_at_call 61; refine (inverse_any _ _ _ ⟨⟨by omega, by omega⟩, by omega, by omega⟩).mono ?_; rintro e w1 ⟨rfl, x, rfl⟩))
    all_goals (refine bodyPost_ret (by simp only [results, Try.results34]; go_simp; rfl) rfl ?_; refine ⟨rfl, ?_⟩; (repeat (first | exact Kept.refl _ | assumption | refine Kept.alloc ?_ _ | refine Kept.ext ?_ _ | refine Kept.drew ?_ | refine Kept.drewN ?_ _)))
  have e : inverseS n s = invS (s * s * 1099511627776) n := if_pos (by omega)
  rw [e]
  clear e
  rcases (show s = 1 ∨ s = 2 ∨ s = 3 ∨ s = 4 ∨ s = 5 ∨ s = 6 ∨ s = 7 ∨ s = 8 by omega) with rfl | rfl | rfl | rfl | rfl | rfl | rfl | rfl <;> simp only [Int.reduceMul]
  all_goals
    go_enter Try.func34, Try.ntmps34
    go_wp2_with (first | (go_at_call 61; refine (inverse_any _ _ _ ⟨⟨by omega, by omega⟩, by omega, by omega⟩).mono ?_; rintro e w1 ⟨rfl, x, rfl⟩))
    refine bodyPost_ret (by simp only [results, Try.results34]; go_simp; rfl) rfl ?_
    refine ⟨rfl, ?_⟩
    (repeat (first | exact Kept.refl _ | assumption | refine Kept.alloc ?_ _ | refine Kept.ext ?_ _ | refine Kept.drew ?_ | refine Kept.drewN ?_ _))
set_option maxRecDepth 100000 in
set_option maxHeartbeats 4000000 in
theorem refInv_any (n s : Int) (w : World) :
    Calls Try.prog 17 #[.int .i64 n, .int .i64 s] w fun e w' => e = .returned (.tuple #[.agg #[.int .i64 (inverseS n s).lo, .int .i64 (inverseS n s).hi], .int .i64 (inverseS n s).e]) ∧ Kept w w' := by
  by_cases a1 : n < 1
  · skip
    have e : inverseS n s = ⟨0, 0, 1⟩ := if_neg (by omega)
    rw [e]
    clear e
    have e1 : withinB n 1 1099511627776 = false := decide_eq_false (by omega)
    go_enter Try.func17, Try.ntmps17
    go_wp2_with (first | (go_at_call 40; refine (within_any _ _ _ _).mono ?_; rintro e w1 ⟨rfl, rfl⟩))
    all_goals (refine bodyPost_ret (by simp only [results, Try.results17]; go_simp; rfl) rfl ?_; refine ⟨rfl, ?_⟩; (repeat (first | exact Kept.refl _ | assumption | refine Kept.alloc ?_ _ | refine Kept.ext ?_ _ | refine Kept.drew ?_ | refine Kept.drewN ?_ _)))
  by_cases a2 : 1099511627776 < n
  · skip
    have e : inverseS n s = ⟨0, 0, 1⟩ := if_neg (by omega)
    rw [e]
    clear e
    have e1 : withinB n 1 1099511627776 = false := decide_eq_false (by omega)
    go_enter Try.func17, Try.ntmps17
    go_wp2_with (first | (go_at_call 40; refine (within_any _ _ _ _).mono ?_; rintro e w1 ⟨rfl, rfl⟩))
    all_goals (refine bodyPost_ret (by simp only [results, Try.results17]; go_simp; rfl) rfl ?_; refine ⟨rfl, ?_⟩; (repeat (first | exact Kept.refl _ | assumption | refine Kept.alloc ?_ _ | refine Kept.ext ?_ _ | refine Kept.drew ?_ | refine Kept.drewN ?_ _)))
  have e1 : withinB n 1 1099511627776 = true := decide_eq_true (by omega)
  by_cases a3 : s < 1
  · skip
    have e : inverseS n s = ⟨0, 0, 1⟩ := if_neg (by omega)
    rw [e]
    clear e
    have e2 : withinB s 1 8 = false := decide_eq_false (by omega)
    go_enter Try.func17, Try.ntmps17
    go_wp2_with (first | (go_at_call 40; refine (within_any _ _ _ _).mono ?_; rintro e w1 ⟨rfl, rfl⟩))
    all_goals (refine bodyPost_ret (by simp only [results, Try.results17]; go_simp; rfl) rfl ?_; refine ⟨rfl, ?_⟩; (repeat (first | exact Kept.refl _ | assumption | refine Kept.alloc ?_ _ | refine Kept.ext ?_ _ | refine Kept.drew ?_ | refine Kept.drewN ?_ _)))
  by_cases a4 : 8 < s
  · skip
    have e : inverseS n s = ⟨0, 0, 1⟩ := if_neg (by omega)
    rw [e]
    clear e
    have e2 : withinB s 1 8 = false := decide_eq_false (by omega)
    go_enter Try.func17, Try.ntmps17
    go_wp2_with (first | (go_at_call 40; refine (within_any _ _ _ _).mono ?_; rintro e w1 ⟨rfl, rfl⟩))
    all_goals (refine bodyPost_ret (by simp only [results, Try.results17]; go_simp; rfl) rfl ?_; refine ⟨rfl, ?_⟩; (repeat (first | exact Kept.refl _ | assumption | refine Kept.alloc ?_ _ | refine Kept.ext ?_ _ | refine Kept.drew ?_ | refine Kept.drewN ?_ _)))
  have e2 : withinB s 1 8 = true := decide_eq_true (by omega)
  have e : inverseS n s = invS (s * s * 1099511627776) n := if_pos (by omega)
  rw [e]
  clear e
  rcases (show s = 1 ∨ s = 2 ∨ s = 3 ∨ s = 4 ∨ s = 5 ∨ s = 6 ∨ s = 7 ∨ s = 8 by omega) with rfl | rfl | rfl | rfl | rfl | rfl | rfl | rfl <;> simp only [Int.reduceMul]
  all_goals
    go_enter Try.func17, Try.ntmps17
    go_wp2_with (first | (go_at_call 40; refine (within_any _ _ _ _).mono ?_; rintro e w1 ⟨rfl, rfl⟩) | (go_at_call 41; refine (below_any _ _ _ ⟨⟨by omega, by omega⟩, by omega, by omega⟩).mono ?_; rintro e w1 ⟨rfl, x, rfl⟩))
    refine bodyPost_ret (by simp only [results, Try.results17]; go_simp; rfl) rfl ?_
    refine ⟨rfl, ?_⟩
    (repeat (first | exact Kept.refl _ | assumption | refine Kept.alloc ?_ _ | refine Kept.ext ?_ _ | refine Kept.drew ?_ | refine Kept.drewN ?_ _))
end Go.Proofs.Ytldchncnadllpaa
