/- Contracts: points and panels, of the reference. No conditions but bounds on numbers. -/
import Derived.Test.YtoadlneneijfaaaPan
namespace Go.Proofs.Ytoadlneneijfaaa
set_option linter.unusedVariables false
set_option linter.unusedSimpArgs false
open Go.RowKit
theorem r2within_any (n lo hi : Int) (w : World) :
    Calls Try.prog 65 #[.int .i64 n, .int .i64 lo, .int .i64 hi] w fun e w' => e = .returned (.bool (frB n lo hi)) ∧ w = w' := by
  go_enter Try.func65, Try.ntmps65
  go_wp2
  all_goals (go_ret; exact ⟨ret_bool (by unfold frB; rw [eq_comm]; first | (rw [decide_eq_decide]; omega) | (rw [decide_eq_false_iff_not]; omega)), rfl⟩)
theorem r2near_any (x y z m : Int) (w : World) (hm : 0 ≤ m ∧ m ≤ 1099511627776) :
    Calls Try.prog 70 #[.agg #[.int .i64 x, .int .i64 y, .int .i64 z], .int .i64 m] w fun e w' => e = .returned (.bool (inB x y z m)) ∧ Kept w w' := by
  obtain ⟨m0, m1⟩ := hm
  unfold inB
  cases h1 : frB x (-m) m
  · go_enter Try.func70, Try.ntmps70
    go_wp2_with (first | (go_at_call 65; refine (r2within_any _ _ _ _).mono ?_; rintro e w1 ⟨rfl, rfl⟩))
    go_ret
    exact ⟨rfl, by (repeat (first | exact Kept.refl _ | assumption | refine Kept.alloc ?_ _ | refine Kept.ext ?_ _ | refine Kept.drew ?_ | refine Kept.drewN ?_ _))⟩
  cases h2 : frB y (-m) m
  · go_enter Try.func70, Try.ntmps70
    go_wp2_with (first | (go_at_call 65; refine (r2within_any _ _ _ _).mono ?_; rintro e w1 ⟨rfl, rfl⟩))
    go_ret
    exact ⟨rfl, by (repeat (first | exact Kept.refl _ | assumption | refine Kept.alloc ?_ _ | refine Kept.ext ?_ _ | refine Kept.drew ?_ | refine Kept.drewN ?_ _))⟩
  · go_enter Try.func70, Try.ntmps70
    go_wp2_with (first | (go_at_call 65; refine (r2within_any _ _ _ _).mono ?_; rintro e w1 ⟨rfl, rfl⟩))
    go_ret
    exact ⟨rfl, by (repeat (first | exact Kept.refl _ | assumption | refine Kept.alloc ?_ _ | refine Kept.ext ?_ _ | refine Kept.drew ?_ | refine Kept.drewN ?_ _))⟩
theorem r2minus_any (a0 a1 a2 b0 b1 b2 : Int) (w : World) (h : (-1073741824 ≤ a0 ∧ a0 ≤ 1073741824) ∧ (-1073741824 ≤ a1 ∧ a1 ≤ 1073741824) ∧ (-1073741824 ≤ a2 ∧ a2 ≤ 1073741824) ∧ (-1073741824 ≤ b0 ∧ b0 ≤ 1073741824) ∧ (-1073741824 ≤ b1 ∧ b1 ≤ 1073741824) ∧ (-1073741824 ≤ b2 ∧ b2 ≤ 1073741824)) :
    Calls Try.prog 97 #[.agg #[.int .i64 a0, .int .i64 a1, .int .i64 a2], .agg #[.int .i64 b0, .int .i64 b1, .int .i64 b2]] w fun e w' => e = .returned (.agg #[.int .i64 (a0 - b0), .int .i64 (a1 - b1), .int .i64 (a2 - b2)]) ∧ Kept w w' := by
  go_enter Try.func97, Try.ntmps97
  go_wp2
  refine bodyPost_ret (by simp only [results, Try.results97]; go_simp; rfl) rfl ?_
  exact ⟨rfl, by (repeat (first | exact Kept.refl _ | assumption | refine Kept.alloc ?_ _ | refine Kept.ext ?_ _ | refine Kept.drew ?_ | refine Kept.drewN ?_ _))⟩
theorem r2cross_any (a0 a1 a2 b0 b1 b2 : Int) (w : World) (h : (-1048576 ≤ a0 ∧ a0 ≤ 1048576) ∧ (-1048576 ≤ a1 ∧ a1 ≤ 1048576) ∧ (-1048576 ≤ a2 ∧ a2 ≤ 1048576) ∧ (-1048576 ≤ b0 ∧ b0 ≤ 1048576) ∧ (-1048576 ≤ b1 ∧ b1 ≤ 1048576) ∧ (-1048576 ≤ b2 ∧ b2 ≤ 1048576)) :
    Calls Try.prog 100 #[.agg #[.int .i64 a0, .int .i64 a1, .int .i64 a2], .agg #[.int .i64 b0, .int .i64 b1, .int .i64 b2]] w fun e w' => e = .returned (.agg #[.int .i64 (a1 * b2 - a2 * b1), .int .i64 (a2 * b0 - a0 * b2), .int .i64 (a0 * b1 - a1 * b0)]) ∧ Kept w w' := by
  obtain ⟨x0, x1, x2, y0, y1, y2⟩ := h
  have m0 := mul_sq 1048576 1099511627776 x1 y2 rfl
  have m1 := mul_sq 1048576 1099511627776 x2 y1 rfl
  have m2 := mul_sq 1048576 1099511627776 x2 y0 rfl
  have m3 := mul_sq 1048576 1099511627776 x0 y2 rfl
  have m4 := mul_sq 1048576 1099511627776 x0 y1 rfl
  have m5 := mul_sq 1048576 1099511627776 x1 y0 rfl
  go_enter Try.func100, Try.ntmps100
  go_wp2
  refine bodyPost_ret (by simp only [results, Try.results100]; go_simp; rfl) rfl ?_
  exact ⟨rfl, by (repeat (first | exact Kept.refl _ | assumption | refine Kept.alloc ?_ _ | refine Kept.ext ?_ _ | refine Kept.drew ?_ | refine Kept.drewN ?_ _))⟩
set_option maxHeartbeats 1000000 in
theorem r2across_any (p0 p1 p2 p3 p4 p5 p6 p7 p8 : Int) (w : World) (h : (-262144 ≤ p0 ∧ p0 ≤ 262144) ∧ (-262144 ≤ p1 ∧ p1 ≤ 262144) ∧ (-262144 ≤ p2 ∧ p2 ≤ 262144) ∧ (-262144 ≤ p3 ∧ p3 ≤ 262144) ∧ (-262144 ≤ p4 ∧ p4 ≤ 262144) ∧ (-262144 ≤ p5 ∧ p5 ≤ 262144) ∧ (-262144 ≤ p6 ∧ p6 ≤ 262144) ∧ (-262144 ≤ p7 ∧ p7 ≤ 262144) ∧ (-262144 ≤ p8 ∧ p8 ≤ 262144)) :
    Calls Try.prog 68 #[.agg #[.int .i64 p0, .int .i64 p1, .int .i64 p2, .int .i64 p3, .int .i64 p4, .int .i64 p5, .int .i64 p6, .int .i64 p7, .int .i64 p8]] w fun e w' => e = .returned (.agg #[.int .i64 (nX p0 p1 p2 p3 p4 p5 p6 p7 p8), .int .i64 (nY p0 p1 p2 p3 p4 p5 p6 p7 p8), .int .i64 (nZ p0 p1 p2 p3 p4 p5 p6 p7 p8)]) ∧ Kept w w' := by
  go_enter Try.func68, Try.ntmps68
  go_wp2
  ((first | (with_reducible refine wp_region_tail2 11 (by kernel_rfl) (by kernel_rfl) ?_) | refine wp_region_tail 11 (by kernel_rfl) (by kernel_rfl) ?_); simp only [List.take_succ_cons, List.take_zero, List.drop_succ_cons, List.drop_zero]; (repeat (go_big_quiet_step (first | (go_at_call 97; exact Calls.kept_of (r2minus_any _ _ _ _ _ _ _ (by omega))) | (go_at_call 100; exact Calls.kept_of (r2cross_any _ _ _ _ _ _ _ (by omega)))))); refine wpQuiet_nil ?_; intro x)
  go_wp2
  refine bodyPost_ret (by simp only [results, Try.results68]; go_simp; rfl) rfl ?_
  exact ⟨rfl, by (repeat (first | exact Kept.refl _ | assumption | refine Kept.alloc ?_ _ | refine Kept.ext ?_ _ | refine Kept.drew ?_ | refine Kept.drewN ?_ _))⟩
set_option maxHeartbeats 1000000 in
theorem r2vpan_any (p0 p1 p2 p3 p4 p5 p6 p7 p8 : Int) (w : World) :
    Calls Try.prog 23 #[.agg #[.int .i64 p0, .int .i64 p1, .int .i64 p2, .int .i64 p3, .int .i64 p4, .int .i64 p5, .int .i64 p6, .int .i64 p7, .int .i64 p8]] w fun e w' => e = .returned (.int .i64 (vpanS p0 p1 p2 p3 p4 p5 p6 p7 p8)) ∧ Kept w w' := by
  cases h1 : inB p0 p1 p2 64
  · have e : vpanS p0 p1 p2 p3 p4 p5 p6 p7 p8 = 1 := by simp [vpanS, h1]
    rw [e]
    clear e
    go_enter Try.func23, Try.ntmps23
    go_wp2_with (first | (go_at_call 70; refine (r2near_any _ _ _ _ _ (by omega)).mono ?_; rintro e w1 ⟨rfl, x, rfl⟩))
    go_ret
    exact ⟨rfl, by (repeat (first | exact Kept.refl _ | assumption | refine Kept.alloc ?_ _ | refine Kept.ext ?_ _ | refine Kept.drew ?_ | refine Kept.drewN ?_ _))⟩
  cases h2 : inB p3 p4 p5 64
  · have e : vpanS p0 p1 p2 p3 p4 p5 p6 p7 p8 = 1 := by simp [vpanS, h2]
    rw [e]
    clear e
    go_enter Try.func23, Try.ntmps23
    go_wp2_with (first | (go_at_call 70; refine (r2near_any _ _ _ _ _ (by omega)).mono ?_; rintro e w1 ⟨rfl, x, rfl⟩))
    go_ret
    exact ⟨rfl, by (repeat (first | exact Kept.refl _ | assumption | refine Kept.alloc ?_ _ | refine Kept.ext ?_ _ | refine Kept.drew ?_ | refine Kept.drewN ?_ _))⟩
  cases h3 : inB p6 p7 p8 64
  · have e : vpanS p0 p1 p2 p3 p4 p5 p6 p7 p8 = 1 := by simp [vpanS, h3]
    rw [e]
    clear e
    go_enter Try.func23, Try.ntmps23
    go_wp2_with (first | (go_at_call 70; refine (r2near_any _ _ _ _ _ (by omega)).mono ?_; rintro e w1 ⟨rfl, x, rfl⟩))
    go_ret
    exact ⟨rfl, by (repeat (first | exact Kept.refl _ | assumption | refine Kept.alloc ?_ _ | refine Kept.ext ?_ _ | refine Kept.drew ?_ | refine Kept.drewN ?_ _))⟩
  have e : vpanS p0 p1 p2 p3 p4 p5 p6 p7 p8 = if nX p0 p1 p2 p3 p4 p5 p6 p7 p8 = 0 ∧ nY p0 p1 p2 p3 p4 p5 p6 p7 p8 = 0 ∧ nZ p0 p1 p2 p3 p4 p5 p6 p7 p8 = 0 then 6 else 0 := by simp [vpanS, h1, h2, h3]
  rw [e]
  clear e
  have b1 := inB_true h1
  have b2 := inB_true h2
  have b3 := inB_true h3
  go_enter Try.func23, Try.ntmps23
  go_wp2_with (first | (go_at_call 70; refine (r2near_any _ _ _ _ _ (by omega)).mono ?_; rintro e w1 ⟨rfl, x, rfl⟩) | (go_at_call 68; refine (r2across_any _ _ _ _ _ _ _ _ _ _ (by omega)).mono ?_; rintro e w1 ⟨rfl, x, rfl⟩))
  all_goals (go_ret; exact ⟨rfl, by (repeat (first | exact Kept.refl _ | assumption | refine Kept.alloc ?_ _ | refine Kept.ext ?_ _ | refine Kept.drew ?_ | refine Kept.drewN ?_ _))⟩)
end Go.Proofs.Ytoadlneneijfaaa
