/- For every input the statement SpanInverses returns true and leaves its arguments as they were. No conditions. -/
import Derived.Test.YtlkopkdbkbammaaInv
import Derived.Test.YtlkopkdbkbammaaQuob
namespace Go.Proofs.Ytlkopkdbkbammaa
set_option linter.unusedVariables false
set_option linter.unusedSimpArgs false
open Go.ChangeShapes Go.WideShapes Go.ChangeAt Go.RowKit
def inverseS (n s : Int) : R := if (1 ≤ n ∧ n ≤ 1099511627776) ∧ (1 ≤ s ∧ s ≤ 8) then invS (s * s * 1099511627776) n else ⟨0, 0, 1⟩
def cubeS (n s : Int) : R := if (1 ≤ n ∧ n ≤ 1099511627776) ∧ (1 ≤ s ∧ s ≤ 8) then (if 1048576 < n then ⟨0, 1, 0⟩ else invS (s * s * (s * s) * (s * s) * 1099511627776) (n * n * n)) else ⟨0, 0, 1⟩
theorem cube_bd {n : Int} (h : 1 ≤ n ∧ n ≤ 1048576) : 1 ≤ n * n ∧ n * n ≤ 1099511627776 ∧ 1 ≤ n * n * n ∧ n * n * n ≤ 1152921504606846976 := by
  have a : 1 * 1 ≤ n * n := Int.mul_le_mul h.1 h.1 (by omega) (by omega)
  have b : n * n ≤ 1048576 * 1048576 := Int.mul_le_mul h.2 h.2 (by omega) (by omega)
  have c : 1 * 1 ≤ n * n * n := Int.mul_le_mul (by omega) h.1 (by omega) (by omega)
  have d : n * n * n ≤ 1099511627776 * 1048576 := Int.mul_le_mul (by omega) h.2 (by omega) (by omega)
  exact ⟨by omega, by omega, by omega, by omega⟩

set_option maxRecDepth 100000 in
set_option maxHeartbeats 4000000 in
theorem spanInv_any (n s : Int) (w : World) :
    Calls Try.prog 22 #[.int .i64 n, .int .i64 s] w fun e w' => e = .returned (.tuple #[.agg #[.int .i64 (inverseS n s).lo, .int .i64 (inverseS n s).hi], .int .i64 (inverseS n s).e]) ∧ Kept w w' := by
  by_cases a1 : n < 1
  · skip
    have e : inverseS n s = ⟨0, 0, 1⟩ := if_neg (by omega)
    rw [e]
    clear e
    go_enter Try.func22, Try.ntmps22
    go_wp2_with (first | (go_at_call 67; refine (inverse_any _ _ _ ⟨⟨by omega, by omega⟩, by omega, by omega⟩).mono ?_; rintro e w1 ⟨rfl, x, rfl⟩))
    all_goals (refine bodyPost_ret (by simp only [results, Try.results22]; go_simp; rfl) rfl ?_; refine ⟨rfl, ?_⟩; (repeat (first | exact Kept.refl _ | assumption | refine Kept.alloc ?_ _ | refine Kept.ext ?_ _ | refine Kept.drew ?_ | refine Kept.drewN ?_ _)))
  by_cases a2 : 1099511627776 < n
  · skip
    have e : inverseS n s = ⟨0, 0, 1⟩ := if_neg (by omega)
    rw [e]
    clear e
    go_enter Try.func22, Try.ntmps22
    go_wp2_with (first | (go_at_call 67; refine (inverse_any _ _ _ ⟨⟨by omega, by omega⟩, by omega, by omega⟩).mono ?_; rintro e w1 ⟨rfl, x, rfl⟩))
    all_goals (refine bodyPost_ret (by simp only [results, Try.results22]; go_simp; rfl) rfl ?_; refine ⟨rfl, ?_⟩; (repeat (first | exact Kept.refl _ | assumption | refine Kept.alloc ?_ _ | refine Kept.ext ?_ _ | refine Kept.drew ?_ | refine Kept.drewN ?_ _)))
  by_cases a3 : s < 1
  · skip
    have e : inverseS n s = ⟨0, 0, 1⟩ := if_neg (by omega)
    rw [e]
    clear e
    go_enter Try.func22, Try.ntmps22
    go_wp2_with (first | (go_at_call 67; refine (inverse_any _ _ _ ⟨⟨by omega, by omega⟩, by omega, by omega⟩).mono ?_; rintro e w1 ⟨rfl, x, rfl⟩))
    all_goals (refine bodyPost_ret (by simp only [results, Try.results22]; go_simp; rfl) rfl ?_; refine ⟨rfl, ?_⟩; (repeat (first | exact Kept.refl _ | assumption | refine Kept.alloc ?_ _ | refine Kept.ext ?_ _ | refine Kept.drew ?_ | refine Kept.drewN ?_ _)))
  by_cases a4 : 8 < s
  · skip
    have e : inverseS n s = ⟨0, 0, 1⟩ := if_neg (by omega)
    rw [e]
    clear e
    go_enter Try.func22, Try.ntmps22
    go_wp2_with (first | (go_at_call 67; refine (inverse_any _ _ _ ⟨⟨by omega, by omega⟩, by omega, by omega⟩).mono ?_; rintro e w1 ⟨rfl, x, rfl⟩))
    all_goals (refine bodyPost_ret (by simp only [results, Try.results22]; go_simp; rfl) rfl ?_; refine ⟨rfl, ?_⟩; (repeat (first | exact Kept.refl _ | assumption | refine Kept.alloc ?_ _ | refine Kept.ext ?_ _ | refine Kept.drew ?_ | refine Kept.drewN ?_ _)))
  have e : inverseS n s = invS (s * s * 1099511627776) n := if_pos (by omega)
  rw [e]
  clear e
  rcases (show s = 1 ∨ s = 2 ∨ s = 3 ∨ s = 4 ∨ s = 5 ∨ s = 6 ∨ s = 7 ∨ s = 8 by omega) with rfl | rfl | rfl | rfl | rfl | rfl | rfl | rfl <;> simp only [Int.reduceMul]
  all_goals
    go_enter Try.func22, Try.ntmps22
    go_wp2_with (first | (go_at_call 67; refine (inverse_any _ _ _ ⟨⟨by omega, by omega⟩, by omega, by omega⟩).mono ?_; rintro e w1 ⟨rfl, x, rfl⟩))
    refine bodyPost_ret (by simp only [results, Try.results22]; go_simp; rfl) rfl ?_
    refine ⟨rfl, ?_⟩
    (repeat (first | exact Kept.refl _ | assumption | refine Kept.alloc ?_ _ | refine Kept.ext ?_ _ | refine Kept.drew ?_ | refine Kept.drewN ?_ _))
set_option maxRecDepth 100000 in
set_option maxHeartbeats 4000000 in
theorem refInv_any (n s : Int) (w : World) :
    Calls Try.prog 23 #[.int .i64 n, .int .i64 s] w fun e w' => e = .returned (.tuple #[.agg #[.int .i64 (inverseS n s).lo, .int .i64 (inverseS n s).hi], .int .i64 (inverseS n s).e]) ∧ Kept w w' := by
  by_cases a1 : n < 1
  · skip
    have e : inverseS n s = ⟨0, 0, 1⟩ := if_neg (by omega)
    rw [e]
    clear e
    have e1 : withinB n 1 1099511627776 = false := decide_eq_false (by omega)
    go_enter Try.func23, Try.ntmps23
    go_wp2_with (first | (go_at_call 61; refine (within_any _ _ _ _).mono ?_; rintro e w1 ⟨rfl, rfl⟩))
    all_goals (refine bodyPost_ret (by simp only [results, Try.results23]; go_simp; rfl) rfl ?_; refine ⟨rfl, ?_⟩; (repeat (first | exact Kept.refl _ | assumption | refine Kept.alloc ?_ _ | refine Kept.ext ?_ _ | refine Kept.drew ?_ | refine Kept.drewN ?_ _)))
  by_cases a2 : 1099511627776 < n
  · skip
    have e : inverseS n s = ⟨0, 0, 1⟩ := if_neg (by omega)
    rw [e]
    clear e
    have e1 : withinB n 1 1099511627776 = false := decide_eq_false (by omega)
    go_enter Try.func23, Try.ntmps23
    go_wp2_with (first | (go_at_call 61; refine (within_any _ _ _ _).mono ?_; rintro e w1 ⟨rfl, rfl⟩))
    all_goals (refine bodyPost_ret (by simp only [results, Try.results23]; go_simp; rfl) rfl ?_; refine ⟨rfl, ?_⟩; (repeat (first | exact Kept.refl _ | assumption | refine Kept.alloc ?_ _ | refine Kept.ext ?_ _ | refine Kept.drew ?_ | refine Kept.drewN ?_ _)))
  have e1 : withinB n 1 1099511627776 = true := decide_eq_true (by omega)
  by_cases a3 : s < 1
  · skip
    have e : inverseS n s = ⟨0, 0, 1⟩ := if_neg (by omega)
    rw [e]
    clear e
    have e2 : withinB s 1 8 = false := decide_eq_false (by omega)
    go_enter Try.func23, Try.ntmps23
    go_wp2_with (first | (go_at_call 61; refine (within_any _ _ _ _).mono ?_; rintro e w1 ⟨rfl, rfl⟩))
    all_goals (refine bodyPost_ret (by simp only [results, Try.results23]; go_simp; rfl) rfl ?_; refine ⟨rfl, ?_⟩; (repeat (first | exact Kept.refl _ | assumption | refine Kept.alloc ?_ _ | refine Kept.ext ?_ _ | refine Kept.drew ?_ | refine Kept.drewN ?_ _)))
  by_cases a4 : 8 < s
  · skip
    have e : inverseS n s = ⟨0, 0, 1⟩ := if_neg (by omega)
    rw [e]
    clear e
    have e2 : withinB s 1 8 = false := decide_eq_false (by omega)
    go_enter Try.func23, Try.ntmps23
    go_wp2_with (first | (go_at_call 61; refine (within_any _ _ _ _).mono ?_; rintro e w1 ⟨rfl, rfl⟩))
    all_goals (refine bodyPost_ret (by simp only [results, Try.results23]; go_simp; rfl) rfl ?_; refine ⟨rfl, ?_⟩; (repeat (first | exact Kept.refl _ | assumption | refine Kept.alloc ?_ _ | refine Kept.ext ?_ _ | refine Kept.drew ?_ | refine Kept.drewN ?_ _)))
  have e2 : withinB s 1 8 = true := decide_eq_true (by omega)
  have e : inverseS n s = invS (s * s * 1099511627776) n := if_pos (by omega)
  rw [e]
  clear e
  rcases (show s = 1 ∨ s = 2 ∨ s = 3 ∨ s = 4 ∨ s = 5 ∨ s = 6 ∨ s = 7 ∨ s = 8 by omega) with rfl | rfl | rfl | rfl | rfl | rfl | rfl | rfl <;> simp only [Int.reduceMul]
  all_goals
    go_enter Try.func23, Try.ntmps23
    go_wp2_with (first | (go_at_call 61; refine (within_any _ _ _ _).mono ?_; rintro e w1 ⟨rfl, rfl⟩) | (go_at_call 68; refine (below_any _ _ _ ⟨⟨by omega, by omega⟩, by omega, by omega⟩).mono ?_; rintro e w1 ⟨rfl, x, rfl⟩))
    refine bodyPost_ret (by simp only [results, Try.results23]; go_simp; rfl) rfl ?_
    refine ⟨rfl, ?_⟩
    (repeat (first | exact Kept.refl _ | assumption | refine Kept.alloc ?_ _ | refine Kept.ext ?_ _ | refine Kept.drew ?_ | refine Kept.drewN ?_ _))
set_option maxRecDepth 100000 in
set_option maxHeartbeats 4000000 in
theorem spanCube_any (n s : Int) (w : World) :
    Calls Try.prog 24 #[.int .i64 n, .int .i64 s] w fun e w' => e = .returned (.tuple #[.agg #[.int .i64 (cubeS n s).lo, .int .i64 (cubeS n s).hi], .int .i64 (cubeS n s).e]) ∧ Kept w w' := by
  by_cases a1 : n < 1
  · skip
    have e : cubeS n s = ⟨0, 0, 1⟩ := if_neg (by omega)
    rw [e]
    clear e
    go_enter Try.func24, Try.ntmps24
    go_wp2_with (first | (go_at_call 67; refine (inverse_any _ _ _ ⟨⟨by omega, by omega⟩, by omega, by omega⟩).mono ?_; rintro e w1 ⟨rfl, x, rfl⟩))
    all_goals (refine bodyPost_ret (by simp only [results, Try.results24]; go_simp; rfl) rfl ?_; refine ⟨rfl, ?_⟩; (repeat (first | exact Kept.refl _ | assumption | refine Kept.alloc ?_ _ | refine Kept.ext ?_ _ | refine Kept.drew ?_ | refine Kept.drewN ?_ _)))
  by_cases a2 : 1099511627776 < n
  · skip
    have e : cubeS n s = ⟨0, 0, 1⟩ := if_neg (by omega)
    rw [e]
    clear e
    go_enter Try.func24, Try.ntmps24
    go_wp2_with (first | (go_at_call 67; refine (inverse_any _ _ _ ⟨⟨by omega, by omega⟩, by omega, by omega⟩).mono ?_; rintro e w1 ⟨rfl, x, rfl⟩))
    all_goals (refine bodyPost_ret (by simp only [results, Try.results24]; go_simp; rfl) rfl ?_; refine ⟨rfl, ?_⟩; (repeat (first | exact Kept.refl _ | assumption | refine Kept.alloc ?_ _ | refine Kept.ext ?_ _ | refine Kept.drew ?_ | refine Kept.drewN ?_ _)))
  by_cases a3 : s < 1
  · skip
    have e : cubeS n s = ⟨0, 0, 1⟩ := if_neg (by omega)
    rw [e]
    clear e
    go_enter Try.func24, Try.ntmps24
    go_wp2_with (first | (go_at_call 67; refine (inverse_any _ _ _ ⟨⟨by omega, by omega⟩, by omega, by omega⟩).mono ?_; rintro e w1 ⟨rfl, x, rfl⟩))
    all_goals (refine bodyPost_ret (by simp only [results, Try.results24]; go_simp; rfl) rfl ?_; refine ⟨rfl, ?_⟩; (repeat (first | exact Kept.refl _ | assumption | refine Kept.alloc ?_ _ | refine Kept.ext ?_ _ | refine Kept.drew ?_ | refine Kept.drewN ?_ _)))
  by_cases a4 : 8 < s
  · skip
    have e : cubeS n s = ⟨0, 0, 1⟩ := if_neg (by omega)
    rw [e]
    clear e
    go_enter Try.func24, Try.ntmps24
    go_wp2_with (first | (go_at_call 67; refine (inverse_any _ _ _ ⟨⟨by omega, by omega⟩, by omega, by omega⟩).mono ?_; rintro e w1 ⟨rfl, x, rfl⟩))
    all_goals (refine bodyPost_ret (by simp only [results, Try.results24]; go_simp; rfl) rfl ?_; refine ⟨rfl, ?_⟩; (repeat (first | exact Kept.refl _ | assumption | refine Kept.alloc ?_ _ | refine Kept.ext ?_ _ | refine Kept.drew ?_ | refine Kept.drewN ?_ _)))
  by_cases a5 : 1048576 < n
  · have e : cubeS n s = ⟨0, 1, 0⟩ := by unfold cubeS; rw [if_pos (by omega), if_pos a5]
    rw [e]
    clear e
    go_enter Try.func24, Try.ntmps24
    go_wp2_with (first | (go_at_call 67; refine (inverse_any _ _ _ ⟨⟨by omega, by omega⟩, by omega, by omega⟩).mono ?_; rintro e w1 ⟨rfl, x, rfl⟩))
    refine bodyPost_ret (by simp only [results, Try.results24]; go_simp; rfl) rfl ?_
    refine ⟨rfl, ?_⟩
    (repeat (first | exact Kept.refl _ | assumption | refine Kept.alloc ?_ _ | refine Kept.ext ?_ _ | refine Kept.drew ?_ | refine Kept.drewN ?_ _))
  have e : cubeS n s = invS (s * s * (s * s) * (s * s) * 1099511627776) (n * n * n) := by unfold cubeS; rw [if_pos (by omega), if_neg a5]
  rw [e]
  clear e
  obtain ⟨c1, c2, c3, c4⟩ := cube_bd (show 1 ≤ n ∧ n ≤ 1048576 by omega)
  rcases (show s = 1 ∨ s = 2 ∨ s = 3 ∨ s = 4 ∨ s = 5 ∨ s = 6 ∨ s = 7 ∨ s = 8 by omega) with rfl | rfl | rfl | rfl | rfl | rfl | rfl | rfl <;> simp only [Int.reduceMul]
  all_goals
    go_enter Try.func24, Try.ntmps24
    go_wp2_with (first | (go_at_call 67; refine (inverse_any _ _ _ ⟨⟨by omega, by omega⟩, by omega, by omega⟩).mono ?_; rintro e w1 ⟨rfl, x, rfl⟩))
    refine bodyPost_ret (by simp only [results, Try.results24]; go_simp; rfl) rfl ?_
    refine ⟨rfl, ?_⟩
    (repeat (first | exact Kept.refl _ | assumption | refine Kept.alloc ?_ _ | refine Kept.ext ?_ _ | refine Kept.drew ?_ | refine Kept.drewN ?_ _))
set_option maxRecDepth 100000 in
set_option maxHeartbeats 4000000 in
theorem refCube_any (n s : Int) (w : World) :
    Calls Try.prog 25 #[.int .i64 n, .int .i64 s] w fun e w' => e = .returned (.tuple #[.agg #[.int .i64 (cubeS n s).lo, .int .i64 (cubeS n s).hi], .int .i64 (cubeS n s).e]) ∧ Kept w w' := by
  by_cases a1 : n < 1
  · skip
    have e : cubeS n s = ⟨0, 0, 1⟩ := if_neg (by omega)
    rw [e]
    clear e
    have e1 : withinB n 1 1099511627776 = false := decide_eq_false (by omega)
    go_enter Try.func25, Try.ntmps25
    go_wp2_with (first | (go_at_call 61; refine (within_any _ _ _ _).mono ?_; rintro e w1 ⟨rfl, rfl⟩))
    all_goals (refine bodyPost_ret (by simp only [results, Try.results25]; go_simp; rfl) rfl ?_; refine ⟨rfl, ?_⟩; (repeat (first | exact Kept.refl _ | assumption | refine Kept.alloc ?_ _ | refine Kept.ext ?_ _ | refine Kept.drew ?_ | refine Kept.drewN ?_ _)))
  by_cases a2 : 1099511627776 < n
  · skip
    have e : cubeS n s = ⟨0, 0, 1⟩ := if_neg (by omega)
    rw [e]
    clear e
    have e1 : withinB n 1 1099511627776 = false := decide_eq_false (by omega)
    go_enter Try.func25, Try.ntmps25
    go_wp2_with (first | (go_at_call 61; refine (within_any _ _ _ _).mono ?_; rintro e w1 ⟨rfl, rfl⟩))
    all_goals (refine bodyPost_ret (by simp only [results, Try.results25]; go_simp; rfl) rfl ?_; refine ⟨rfl, ?_⟩; (repeat (first | exact Kept.refl _ | assumption | refine Kept.alloc ?_ _ | refine Kept.ext ?_ _ | refine Kept.drew ?_ | refine Kept.drewN ?_ _)))
  have e1 : withinB n 1 1099511627776 = true := decide_eq_true (by omega)
  by_cases a3 : s < 1
  · skip
    have e : cubeS n s = ⟨0, 0, 1⟩ := if_neg (by omega)
    rw [e]
    clear e
    have e2 : withinB s 1 8 = false := decide_eq_false (by omega)
    go_enter Try.func25, Try.ntmps25
    go_wp2_with (first | (go_at_call 61; refine (within_any _ _ _ _).mono ?_; rintro e w1 ⟨rfl, rfl⟩))
    all_goals (refine bodyPost_ret (by simp only [results, Try.results25]; go_simp; rfl) rfl ?_; refine ⟨rfl, ?_⟩; (repeat (first | exact Kept.refl _ | assumption | refine Kept.alloc ?_ _ | refine Kept.ext ?_ _ | refine Kept.drew ?_ | refine Kept.drewN ?_ _)))
  by_cases a4 : 8 < s
  · skip
    have e : cubeS n s = ⟨0, 0, 1⟩ := if_neg (by omega)
    rw [e]
    clear e
    have e2 : withinB s 1 8 = false := decide_eq_false (by omega)
    go_enter Try.func25, Try.ntmps25
    go_wp2_with (first | (go_at_call 61; refine (within_any _ _ _ _).mono ?_; rintro e w1 ⟨rfl, rfl⟩))
    all_goals (refine bodyPost_ret (by simp only [results, Try.results25]; go_simp; rfl) rfl ?_; refine ⟨rfl, ?_⟩; (repeat (first | exact Kept.refl _ | assumption | refine Kept.alloc ?_ _ | refine Kept.ext ?_ _ | refine Kept.drew ?_ | refine Kept.drewN ?_ _)))
  have e2 : withinB s 1 8 = true := decide_eq_true (by omega)
  by_cases a5 : 1048576 < n
  · have e : cubeS n s = ⟨0, 1, 0⟩ := by unfold cubeS; rw [if_pos (by omega), if_pos a5]
    rw [e]
    clear e
    go_enter Try.func25, Try.ntmps25
    go_wp2_with (first | (go_at_call 61; refine (within_any _ _ _ _).mono ?_; rintro e w1 ⟨rfl, rfl⟩) | (go_at_call 62; refine (told_any _ _ _).mono ?_; rintro e w1 ⟨rfl, x, rfl⟩))
    refine bodyPost_ret (by simp only [results, Try.results25]; go_simp; rfl) rfl ?_
    refine ⟨rfl, ?_⟩
    (repeat (first | exact Kept.refl _ | assumption | refine Kept.alloc ?_ _ | refine Kept.ext ?_ _ | refine Kept.drew ?_ | refine Kept.drewN ?_ _))
  have e : cubeS n s = invS (s * s * (s * s) * (s * s) * 1099511627776) (n * n * n) := by unfold cubeS; rw [if_pos (by omega), if_neg a5]
  rw [e]
  clear e
  obtain ⟨c1, c2, c3, c4⟩ := cube_bd (show 1 ≤ n ∧ n ≤ 1048576 by omega)
  rcases (show s = 1 ∨ s = 2 ∨ s = 3 ∨ s = 4 ∨ s = 5 ∨ s = 6 ∨ s = 7 ∨ s = 8 by omega) with rfl | rfl | rfl | rfl | rfl | rfl | rfl | rfl <;> simp only [Int.reduceMul]
  all_goals
    go_enter Try.func25, Try.ntmps25
    go_wp2_with (first | (go_at_call 61; refine (within_any _ _ _ _).mono ?_; rintro e w1 ⟨rfl, rfl⟩) | (go_at_call 68; refine (below_any _ _ _ ⟨⟨by omega, by omega⟩, by omega, by omega⟩).mono ?_; rintro e w1 ⟨rfl, x, rfl⟩) | (go_at_call 62; refine (told_any _ _ _).mono ?_; rintro e w1 ⟨rfl, x, rfl⟩))
    refine bodyPost_ret (by simp only [results, Try.results25]; go_simp; rfl) rfl ?_
    refine ⟨rfl, ?_⟩
    (repeat (first | exact Kept.refl _ | assumption | refine Kept.alloc ?_ _ | refine Kept.ext ?_ _ | refine Kept.drew ?_ | refine Kept.drewN ?_ _))
set_option maxRecDepth 100000 in
set_option maxHeartbeats 4000000 in
theorem inverses_law (n s : Int) (w : World) :
    Calls Try.prog 4 #[.int .i64 n, .int .i64 s] w fun r w' => r = .returned (.bool true) ∧ Kept w w' := by
  go_enter Try.func4, Try.ntmps4
  go_wp2_with (first | (go_at_call 22; refine (spanInv_any _ _ _).mono ?_; rintro e w1 ⟨rfl, x, rfl⟩) | (go_at_call 23; refine (refInv_any _ _ _).mono ?_; rintro e w1 ⟨rfl, x, rfl⟩) | (go_at_call 24; refine (spanCube_any _ _ _).mono ?_; rintro e w1 ⟨rfl, x, rfl⟩) | (go_at_call 25; refine (refCube_any _ _ _).mono ?_; rintro e w1 ⟨rfl, x, rfl⟩) | (go_at_call 21; refine (known_any _).mono ?_; rintro e w1 ⟨rfl, x, rfl⟩))
  go_ret
  refine ⟨rfl, ?_⟩
  (repeat (first | exact Kept.refl _ | assumption | refine Kept.alloc ?_ _ | refine Kept.ext ?_ _ | refine Kept.drew ?_ | refine Kept.drewN ?_ _))
theorem ownSpanInverses : ownKnob Try.prog.godebug = none := by kernel_rfl
theorem laidOutSpanInverses : laidOutB Try.prog = true := by kernel_rfl
set_option linter.unusedVariables false in
set_option maxRecDepth 100000 in
theorem liftedSpanInverses (os : Os) (started : os.Started) (H : Type) (enc : TypeId × Value → H) :
    ReturnsInHanded {} Try.checked os 4 .any (Rows.spanInversesSpec.pre6 enc Try.prog Try.f4 Rows.spanInversesRow.domain false) (Rows.spanInversesSpec.post enc Try.prog Try.f4 false true false false) := by
  refine returnsInHanded_of_change (C := Try.checked) ownSpanInverses started (by kernel_rfl) Try.func4
    (ChangeSpec.witness6 (enc := enc) (C := Try.checked) false ⟨#[], #[.int .i64 0, .int .i64 0], []⟩ 8 (by kernel_rfl) (by kernel_rfl) (by kernel_rfl) (by kernel_rfl)) ?_
  intro W base args ds gs before hval0 hW hcnd _
  have hval : ∀ (j : Nat) t v, Try.f4.params[j]? = some t → args[j]? = some v → Value.okWide Try.prog W .any base t v := hval0
  have hW' := hW
  obtain ⟨p, q, hA0, hV, rfl, hfz, hnd⟩ := hW
  have hA : DataW.TrodAll enc Try.prog W 0 (fun _ => true) true Try.f4.params.toList args.toList ds p := hA0
  rw [Try.params4] at hA hval
  obtain ⟨v0, vs0, d0, ds0, p0, q0, hargs, rfl, rfl, h0, r0⟩ := trodAll_cons hA
  obtain ⟨v1, vs1, d1, ds1, p1, q1, rfl, rfl, rfl, h1, r1⟩ := trodAll_cons r0
  obtain ⟨rfl, rfl, rfl⟩ := trodAll_nil r1
  obtain rfl : args = #[v0, v1] := by cases args; simp_all
  obtain ⟨rfl, rfl⟩ := trodVars_none hV
  have lt0 : ∀ x ∈ p0, x.block < W.heap.size := by obtain ⟨m, hm⟩ := h0; exact DataW.trod_lt m _ _ _ hm
  obtain ⟨z0, rfl, b0⟩ := okWide_int_bd Try.underlying3 (hval 0 3 v0 rfl rfl)
  have lt1 : ∀ x ∈ p1, x.block < W.heap.size := by obtain ⟨m, hm⟩ := h1; exact DataW.trod_lt m _ _ _ hm
  obtain ⟨z1, rfl, b1⟩ := okWide_int_bd Try.underlying3 (hval 1 3 v1 rfl rfl)
  clear hA0 hval0
  refine (inverses_law z0 z1 W).mono fun e W' ⟨he, hk⟩ => ?_
  subst he
  have bel := hk.below
  exact ⟨_, rfl, _, _, _, [], _, [], hW', trodAll_mk1 (shut_bool Try.underlying4 _), (trodAll_cons_mk (Below.trod laidOutSpanInverses (by kernel_rfl) (of_decide_eq_true (by kernel_rfl)) h0 bel lt0) (trodAll_cons_mk (Below.trod laidOutSpanInverses (by kernel_rfl) (of_decide_eq_true (by kernel_rfl)) h1 bel lt1) trodAll_mk0)), rfl, bel.frame _, fun h => by cases h⟩
/-- For every input the statement SpanInverses returns true, and each argument reads afterwards as it read before. -/
theorem spanInverses_holds : Rows.SpanInversesSaid :=
  OpenClaim.holds_of_wide 4 Try.f4 rfl rfl rfl rfl rfl rfl rfl ⟨rfl, rfl, rfl, rfl, rfl⟩ rfl rfl rfl rfl rfl (by kernel_rfl) Try.func4 (by kernel_rfl)
    (of_decide_eq_true (by kernel_rfl)) (by unfold Func.isWrapper; first | (rw [if_pos (by decide +kernel)]; kernel_rfl) | (rw [if_neg (by decide +kernel)]; exact ⟨rfl, rfl⟩))
    (fun os started H enc _ => liftedSpanInverses os started H enc)
#print axioms spanInverses_holds

end Go.Proofs.Ytlkopkdbkbammaa
