/- Contracts: whether a point lies on a surface, of the program and of the reference. Conditions: the lists' lengths are ints. Contracts: whether a triangle has a point, of the reference. Under bounds on numbers. Contracts: whether a point lies on a surface, of the program and of the reference. Conditions: the lists' lengths are ints. Contract: the winding number of a mesh around a point, of the program. Conditions: the lists' lengths are ints. -/
import Derived.Test.YtbhcjdgfcinpcaaGwl
namespace Go.Proofs.Ytbhcjdgfcinpcaa
set_option linter.unusedVariables false
set_option linter.unusedSimpArgs false
open Go.RowKit
theorem d3_bd {a b c x y z : Int} (m k C : Int) (h : (-m ≤ a ∧ a ≤ m) ∧ (-m ≤ b ∧ b ≤ m) ∧ (-m ≤ c ∧ c ≤ m)) (g : (-k ≤ x ∧ x ≤ k) ∧ (-k ≤ y ∧ y ≤ k) ∧ (-k ≤ z ∧ z ≤ k)) (hC : m * k = C) :
    (-C ≤ a * x ∧ a * x ≤ C) ∧ (-C ≤ b * y ∧ b * y ≤ C) ∧ (-C ≤ c * z ∧ c * z ≤ C) :=
  ⟨mul_bd C h.1 g.1 hC, mul_bd C h.2.1 g.2.1 hC, mul_bd C h.2.2 g.2.2 hC⟩
theorem cr_bd {a0 a1 a2 b0 b1 b2 : Int} (m k C : Int) (h : (-m ≤ a0 ∧ a0 ≤ m) ∧ (-m ≤ a1 ∧ a1 ≤ m) ∧ (-m ≤ a2 ∧ a2 ≤ m)) (g : (-k ≤ b0 ∧ b0 ≤ k) ∧ (-k ≤ b1 ∧ b1 ≤ k) ∧ (-k ≤ b2 ∧ b2 ≤ k)) (hC : m * k = C) :
    (-(2 * C) ≤ a1 * b2 - a2 * b1 ∧ a1 * b2 - a2 * b1 ≤ 2 * C) ∧ (-(2 * C) ≤ a2 * b0 - a0 * b2 ∧ a2 * b0 - a0 * b2 ≤ 2 * C) ∧ (-(2 * C) ≤ a0 * b1 - a1 * b0 ∧ a0 * b1 - a1 * b0 ≤ 2 * C) := by
  have h1 := mul_bd C h.2.1 g.2.2 hC
  have h2 := mul_bd C h.2.2 g.2.1 hC
  have h3 := mul_bd C h.2.2 g.1 hC
  have h4 := mul_bd C h.1 g.2.2 hC
  have h5 := mul_bd C h.1 g.2.1 hC
  have h6 := mul_bd C h.2.1 g.1 hC
  omega
theorem nrm_bd2 {v0 v1 v2 v3 v4 v5 v6 v7 v8 : Int} (h : (-320 ≤ v0 ∧ v0 ≤ 320) ∧ (-320 ≤ v1 ∧ v1 ≤ 320) ∧ (-320 ≤ v2 ∧ v2 ≤ 320) ∧ (-320 ≤ v3 ∧ v3 ≤ 320) ∧ (-320 ≤ v4 ∧ v4 ≤ 320) ∧ (-320 ≤ v5 ∧ v5 ≤ 320) ∧ (-320 ≤ v6 ∧ v6 ≤ 320) ∧ (-320 ≤ v7 ∧ v7 ≤ 320) ∧ (-320 ≤ v8 ∧ v8 ≤ 320)) :
    (-819200 ≤ nX v0 v1 v2 v3 v4 v5 v6 v7 v8 ∧ nX v0 v1 v2 v3 v4 v5 v6 v7 v8 ≤ 819200) ∧ (-819200 ≤ nY v0 v1 v2 v3 v4 v5 v6 v7 v8 ∧ nY v0 v1 v2 v3 v4 v5 v6 v7 v8 ≤ 819200) ∧ (-819200 ≤ nZ v0 v1 v2 v3 v4 v5 v6 v7 v8 ∧ nZ v0 v1 v2 v3 v4 v5 v6 v7 v8 ≤ 819200) := by
  have := cr_bd (a0 := v3 - v0) (a1 := v4 - v1) (a2 := v5 - v2) (b0 := v6 - v0) (b1 := v7 - v1) (b2 := v8 - v2) 640 640 409600 (by omega) (by omega) rfl
  unfold nX nY nZ
  omega
theorem sdotd_any (a0 a1 a2 b0 b1 b2 : Int) (w : World) (h : (-1099511627776 ≤ a0 * b0 ∧ a0 * b0 ≤ 1099511627776) ∧ (-1099511627776 ≤ a1 * b1 ∧ a1 * b1 ≤ 1099511627776) ∧ (-1099511627776 ≤ a2 * b2 ∧ a2 * b2 ≤ 1099511627776)) :
    Calls Try.prog 31 #[.agg #[.int .i64 a0, .int .i64 a1, .int .i64 a2], .agg #[.int .i64 b0, .int .i64 b1, .int .i64 b2]] w fun e w' => e = .returned (.int .i64 (d3 a0 a1 a2 b0 b1 b2)) ∧ Kept w w' := sdot_any _ _ _ _ _ _ _ h
set_option maxHeartbeats 1000000 in
theorem sseen_any (p0 p1 p2 p3 p4 p5 p6 p7 p8 q0 q1 q2 : Int) (w : World) (h : (-1048576 ≤ p0 ∧ p0 ≤ 1048576) ∧ (-1048576 ≤ p1 ∧ p1 ≤ 1048576) ∧ (-1048576 ≤ p2 ∧ p2 ≤ 1048576) ∧ (-1048576 ≤ p3 ∧ p3 ≤ 1048576) ∧ (-1048576 ≤ p4 ∧ p4 ≤ 1048576) ∧ (-1048576 ≤ p5 ∧ p5 ≤ 1048576) ∧ (-1048576 ≤ p6 ∧ p6 ≤ 1048576) ∧ (-1048576 ≤ p7 ∧ p7 ≤ 1048576) ∧ (-1048576 ≤ p8 ∧ p8 ≤ 1048576) ∧ (-1048576 ≤ q0 ∧ q0 ≤ 1048576) ∧ (-1048576 ≤ q1 ∧ q1 ≤ 1048576) ∧ (-1048576 ≤ q2 ∧ q2 ≤ 1048576)) :
    Calls Try.prog 53 #[.agg #[.int .i64 p0, .int .i64 p1, .int .i64 p2, .int .i64 p3, .int .i64 p4, .int .i64 p5, .int .i64 p6, .int .i64 p7, .int .i64 p8], .agg #[.int .i64 q0, .int .i64 q1, .int .i64 q2]] w fun e w' => e = .returned (.agg #[.int .i64 (p0 - q0), .int .i64 (p1 - q1), .int .i64 (p2 - q2), .int .i64 (p3 - q0), .int .i64 (p4 - q1), .int .i64 (p5 - q2), .int .i64 (p6 - q0), .int .i64 (p7 - q1), .int .i64 (p8 - q2)]) ∧ Kept w w' := by
  go_enter Try.func53, Try.ntmps53
  go_wp2
  ((first | (with_reducible refine wp_region_tail2 13 (by kernel_rfl) (by kernel_rfl) ?_) | refine wp_region_tail 13 (by kernel_rfl) (by kernel_rfl) ?_); simp only [List.take_succ_cons, List.take_zero, List.drop_succ_cons, List.drop_zero]; (repeat (go_big_quiet_step (first | (go_at_call 62; exact Calls.kept_of (sminus_any _ _ _ _ _ _ _ (by omega)))))); refine wpQuiet_nil ?_; intro x)
  go_wp2
  refine bodyPost_ret (by simp only [results, Try.results53]; go_simp; rfl) rfl ?_
  exact ⟨rfl, by (repeat (first | exact Kept.refl _ | assumption | refine Kept.alloc ?_ _ | refine Kept.ext ?_ _ | refine Kept.drew ?_ | refine Kept.drewN ?_ _))⟩
set_option maxRecDepth 100000 in
set_option maxHeartbeats 8000000 in
theorem stouch_any (v0 v1 v2 v3 v4 v5 v6 v7 v8 : Int) (w : World) (h : (-320 ≤ v0 ∧ v0 ≤ 320) ∧ (-320 ≤ v1 ∧ v1 ≤ 320) ∧ (-320 ≤ v2 ∧ v2 ≤ 320) ∧ (-320 ≤ v3 ∧ v3 ≤ 320) ∧ (-320 ≤ v4 ∧ v4 ≤ 320) ∧ (-320 ≤ v5 ∧ v5 ≤ 320) ∧ (-320 ≤ v6 ∧ v6 ≤ 320) ∧ (-320 ≤ v7 ∧ v7 ≤ 320) ∧ (-320 ≤ v8 ∧ v8 ≤ 320)) :
    Calls Try.prog 69 #[.agg #[.int .i64 v0, .int .i64 v1, .int .i64 v2, .int .i64 v3, .int .i64 v4, .int .i64 v5, .int .i64 v6, .int .i64 v7, .int .i64 v8]] w fun e w' => e = .returned (.bool (tchS v0 v1 v2 v3 v4 v5 v6 v7 v8)) ∧ Kept w w' := by
  have bn := nrm_bd2 h
  have ca := cr_bd (a0 := v0) (a1 := v1) (a2 := v2) (b0 := v3) (b1 := v4) (b2 := v5) 320 320 102400 (by omega) (by omega) rfl
  have cb := cr_bd (a0 := v3) (a1 := v4) (a2 := v5) (b0 := v6) (b1 := v7) (b2 := v8) 320 320 102400 (by omega) (by omega) rfl
  have cc := cr_bd (a0 := v6) (a1 := v7) (a2 := v8) (b0 := v0) (b1 := v1) (b2 := v2) 320 320 102400 (by omega) (by omega) rfl
  have da := d3_bd 819200 204800 167772160000 bn (by omega) rfl (x := v1 * v5 - v2 * v4) (y := v2 * v3 - v0 * v5) (z := v0 * v4 - v1 * v3)
  have db := d3_bd 819200 204800 167772160000 bn (by omega) rfl (x := v4 * v8 - v5 * v7) (y := v5 * v6 - v3 * v8) (z := v3 * v7 - v4 * v6)
  have dd := d3_bd 819200 204800 167772160000 bn (by omega) rfl (x := v7 * v2 - v8 * v1) (y := v8 * v0 - v6 * v2) (z := v6 * v1 - v7 * v0)
  have HT := Lib.hid (show tchS v0 v1 v2 v3 v4 v5 v6 v7 v8 = (decide (pr9 v0 v1 v2 v3 v4 v5 v6 v7 v8 = 0) && (decide (0 ≤ d3 (nX v0 v1 v2 v3 v4 v5 v6 v7 v8) (nY v0 v1 v2 v3 v4 v5 v6 v7 v8) (nZ v0 v1 v2 v3 v4 v5 v6 v7 v8) (v1 * v5 - v2 * v4) (v2 * v3 - v0 * v5) (v0 * v4 - v1 * v3)) && (decide (0 ≤ d3 (nX v0 v1 v2 v3 v4 v5 v6 v7 v8) (nY v0 v1 v2 v3 v4 v5 v6 v7 v8) (nZ v0 v1 v2 v3 v4 v5 v6 v7 v8) (v4 * v8 - v5 * v7) (v5 * v6 - v3 * v8) (v3 * v7 - v4 * v6)) && decide (0 ≤ d3 (nX v0 v1 v2 v3 v4 v5 v6 v7 v8) (nY v0 v1 v2 v3 v4 v5 v6 v7 v8) (nZ v0 v1 v2 v3 v4 v5 v6 v7 v8) (v7 * v2 - v8 * v1) (v8 * v0 - v6 * v2) (v6 * v1 - v7 * v0))))) from rfl)
  obtain ⟨n0, e0⟩ : ∃ n, nX v0 v1 v2 v3 v4 v5 v6 v7 v8 = n := ⟨_, rfl⟩
  obtain ⟨n1, e1⟩ : ∃ n, nY v0 v1 v2 v3 v4 v5 v6 v7 v8 = n := ⟨_, rfl⟩
  obtain ⟨n2, e2⟩ : ∃ n, nZ v0 v1 v2 v3 v4 v5 v6 v7 v8 = n := ⟨_, rfl⟩
  rw [e0, e1, e2] at HT
  rw [e0, e1, e2] at bn
  rw [e0] at da db dd
  rw [e1] at da db dd
  rw [e2] at da db dd
  have HE := Lib.hid (And.intro e0 (And.intro e1 e2))
  clear e0 e1 e2
  by_cases h0 : pr9 v0 v1 v2 v3 v4 v5 v6 v7 v8 = 0
  case neg =>
    have g0 : (pr9 v0 v1 v2 v3 v4 v5 v6 v7 v8 == 0) = false := by simpa using h0
    have g1 : decide (pr9 v0 v1 v2 v3 v4 v5 v6 v7 v8 = 0) = false := by simpa using h0
    rw [show tchS v0 v1 v2 v3 v4 v5 v6 v7 v8 = false by rw [HT.out]; rw [g1]; rfl]
    go_enter Try.func69, Try.ntmps69
    go_wp2_with (first | (go_at_call 29; refine (snormal_any _ _ _ _ _ _ _ _ _ _ (by omega)).mono ?_; rintro e w1 ⟨rfl, x, rfl⟩; rw [HE.out.1, HE.out.2.1, HE.out.2.2]) | (go_at_call 28; refine (sproduct_any _ _ _ _ _ _ _ _ _ _ (by omega)).mono ?_; rintro e w1 ⟨rfl, x, rfl⟩; rw [HE.out.2.2.2]) | (go_at_call 56; refine (scross_any _ _ _ _ _ _ _ (by omega)).mono ?_; rintro e w1 ⟨rfl, x, rfl⟩) | (go_at_call 31; refine (sdotd_any _ _ _ _ _ _ _ (by omega)).mono ?_; rintro e w1 ⟨rfl, x, rfl⟩))
    ((first | (with_reducible refine wp_region_tail2 33 (by kernel_rfl) (by kernel_rfl) ?_) | refine wp_region_tail 33 (by kernel_rfl) (by kernel_rfl) ?_); simp only [List.take_succ_cons, List.take_zero, List.drop_succ_cons, List.drop_zero]; (repeat (go_big_quiet_step (first | (go_at_call 28; exact Calls.kept_of (sproduct_any _ _ _ _ _ _ _ _ _ _ (by omega))) | (go_at_call 56; exact Calls.kept_of (scross_any _ _ _ _ _ _ _ (by omega))) | (go_at_call 31; exact Calls.kept_of (sdotd_any _ _ _ _ _ _ _ (by omega)))))); refine wpQuiet_nil ?_; intro x)
    go_wp2_with fail
    go_ret
    exact ⟨rfl, by (repeat (first | exact Kept.refl _ | assumption | refine Kept.alloc ?_ _ | refine Kept.ext ?_ _ | refine Kept.drew ?_ | refine Kept.drewN ?_ _))⟩
  by_cases h1 : 0 ≤ d3 n0 n1 n2 (v1 * v5 - v2 * v4) (v2 * v3 - v0 * v5) (v0 * v4 - v1 * v3)
  case neg =>
    have g1 : decide (0 ≤ d3 n0 n1 n2 (v1 * v5 - v2 * v4) (v2 * v3 - v0 * v5) (v0 * v4 - v1 * v3)) = false := by simpa using h1
    rw [show tchS v0 v1 v2 v3 v4 v5 v6 v7 v8 = false by rw [HT.out]; rw [g1, Bool.false_and, Bool.and_false]]
    go_enter Try.func69, Try.ntmps69
    go_wp2_with (first | (go_at_call 29; refine (snormal_any _ _ _ _ _ _ _ _ _ _ (by omega)).mono ?_; rintro e w1 ⟨rfl, x, rfl⟩; rw [HE.out.1, HE.out.2.1, HE.out.2.2]) | (go_at_call 28; refine (sproduct_any _ _ _ _ _ _ _ _ _ _ (by omega)).mono ?_; rintro e w1 ⟨rfl, x, rfl⟩; rw [HE.out.2.2.2]) | (go_at_call 56; refine (scross_any _ _ _ _ _ _ _ (by omega)).mono ?_; rintro e w1 ⟨rfl, x, rfl⟩) | (go_at_call 31; refine (sdotd_any _ _ _ _ _ _ _ (by omega)).mono ?_; rintro e w1 ⟨rfl, x, rfl⟩))
    ((first | (with_reducible refine wp_region_tail2 33 (by kernel_rfl) (by kernel_rfl) ?_) | refine wp_region_tail 33 (by kernel_rfl) (by kernel_rfl) ?_); simp only [List.take_succ_cons, List.take_zero, List.drop_succ_cons, List.drop_zero]; (repeat (go_big_quiet_step (first | (go_at_call 28; exact Calls.kept_of (sproduct_any _ _ _ _ _ _ _ _ _ _ (by omega))) | (go_at_call 56; exact Calls.kept_of (scross_any _ _ _ _ _ _ _ (by omega))) | (go_at_call 31; exact Calls.kept_of (sdotd_any _ _ _ _ _ _ _ (by omega)))))); refine wpQuiet_nil ?_; intro x)
    go_wp2_with fail
    go_ret
    exact ⟨rfl, by (repeat (first | exact Kept.refl _ | assumption | refine Kept.alloc ?_ _ | refine Kept.ext ?_ _ | refine Kept.drew ?_ | refine Kept.drewN ?_ _))⟩
  by_cases h2 : 0 ≤ d3 n0 n1 n2 (v4 * v8 - v5 * v7) (v5 * v6 - v3 * v8) (v3 * v7 - v4 * v6)
  case neg =>
    have g2 : decide (0 ≤ d3 n0 n1 n2 (v4 * v8 - v5 * v7) (v5 * v6 - v3 * v8) (v3 * v7 - v4 * v6)) = false := by simpa using h2
    rw [show tchS v0 v1 v2 v3 v4 v5 v6 v7 v8 = false by rw [HT.out]; rw [g2, Bool.false_and, Bool.and_false, Bool.and_false]]
    go_enter Try.func69, Try.ntmps69
    go_wp2_with (first | (go_at_call 29; refine (snormal_any _ _ _ _ _ _ _ _ _ _ (by omega)).mono ?_; rintro e w1 ⟨rfl, x, rfl⟩; rw [HE.out.1, HE.out.2.1, HE.out.2.2]) | (go_at_call 28; refine (sproduct_any _ _ _ _ _ _ _ _ _ _ (by omega)).mono ?_; rintro e w1 ⟨rfl, x, rfl⟩; rw [HE.out.2.2.2]) | (go_at_call 56; refine (scross_any _ _ _ _ _ _ _ (by omega)).mono ?_; rintro e w1 ⟨rfl, x, rfl⟩) | (go_at_call 31; refine (sdotd_any _ _ _ _ _ _ _ (by omega)).mono ?_; rintro e w1 ⟨rfl, x, rfl⟩))
    ((first | (with_reducible refine wp_region_tail2 33 (by kernel_rfl) (by kernel_rfl) ?_) | refine wp_region_tail 33 (by kernel_rfl) (by kernel_rfl) ?_); simp only [List.take_succ_cons, List.take_zero, List.drop_succ_cons, List.drop_zero]; (repeat (go_big_quiet_step (first | (go_at_call 28; exact Calls.kept_of (sproduct_any _ _ _ _ _ _ _ _ _ _ (by omega))) | (go_at_call 56; exact Calls.kept_of (scross_any _ _ _ _ _ _ _ (by omega))) | (go_at_call 31; exact Calls.kept_of (sdotd_any _ _ _ _ _ _ _ (by omega)))))); refine wpQuiet_nil ?_; intro x)
    go_wp2_with fail
    go_ret
    exact ⟨rfl, by (repeat (first | exact Kept.refl _ | assumption | refine Kept.alloc ?_ _ | refine Kept.ext ?_ _ | refine Kept.drew ?_ | refine Kept.drewN ?_ _))⟩
  by_cases h3 : 0 ≤ d3 n0 n1 n2 (v7 * v2 - v8 * v1) (v8 * v0 - v6 * v2) (v6 * v1 - v7 * v0)
  case neg =>
    have g3 : decide (0 ≤ d3 n0 n1 n2 (v7 * v2 - v8 * v1) (v8 * v0 - v6 * v2) (v6 * v1 - v7 * v0)) = false := by simpa using h3
    rw [show tchS v0 v1 v2 v3 v4 v5 v6 v7 v8 = false by rw [HT.out]; rw [g3, Bool.and_false, Bool.and_false, Bool.and_false]]
    go_enter Try.func69, Try.ntmps69
    go_wp2_with (first | (go_at_call 29; refine (snormal_any _ _ _ _ _ _ _ _ _ _ (by omega)).mono ?_; rintro e w1 ⟨rfl, x, rfl⟩; rw [HE.out.1, HE.out.2.1, HE.out.2.2]) | (go_at_call 28; refine (sproduct_any _ _ _ _ _ _ _ _ _ _ (by omega)).mono ?_; rintro e w1 ⟨rfl, x, rfl⟩; rw [HE.out.2.2.2]) | (go_at_call 56; refine (scross_any _ _ _ _ _ _ _ (by omega)).mono ?_; rintro e w1 ⟨rfl, x, rfl⟩) | (go_at_call 31; refine (sdotd_any _ _ _ _ _ _ _ (by omega)).mono ?_; rintro e w1 ⟨rfl, x, rfl⟩))
    ((first | (with_reducible refine wp_region_tail2 33 (by kernel_rfl) (by kernel_rfl) ?_) | refine wp_region_tail 33 (by kernel_rfl) (by kernel_rfl) ?_); simp only [List.take_succ_cons, List.take_zero, List.drop_succ_cons, List.drop_zero]; (repeat (go_big_quiet_step (first | (go_at_call 28; exact Calls.kept_of (sproduct_any _ _ _ _ _ _ _ _ _ _ (by omega))) | (go_at_call 56; exact Calls.kept_of (scross_any _ _ _ _ _ _ _ (by omega))) | (go_at_call 31; exact Calls.kept_of (sdotd_any _ _ _ _ _ _ _ (by omega)))))); refine wpQuiet_nil ?_; intro x)
    go_wp2_with fail
    go_ret
    exact ⟨rfl, by (repeat (first | exact Kept.refl _ | assumption | refine Kept.alloc ?_ _ | refine Kept.ext ?_ _ | refine Kept.drew ?_ | refine Kept.drewN ?_ _))⟩
  rw [show tchS v0 v1 v2 v3 v4 v5 v6 v7 v8 = true by rw [HT.out]; rw [decide_eq_true h0, decide_eq_true h1, decide_eq_true h2, decide_eq_true h3]; rfl]
  go_enter Try.func69, Try.ntmps69
  go_wp2_with (first | (go_at_call 29; refine (snormal_any _ _ _ _ _ _ _ _ _ _ (by omega)).mono ?_; rintro e w1 ⟨rfl, x, rfl⟩; rw [HE.out.1, HE.out.2.1, HE.out.2.2]) | (go_at_call 28; refine (sproduct_any _ _ _ _ _ _ _ _ _ _ (by omega)).mono ?_; rintro e w1 ⟨rfl, x, rfl⟩; rw [HE.out.2.2.2]) | (go_at_call 56; refine (scross_any _ _ _ _ _ _ _ (by omega)).mono ?_; rintro e w1 ⟨rfl, x, rfl⟩) | (go_at_call 31; refine (sdotd_any _ _ _ _ _ _ _ (by omega)).mono ?_; rintro e w1 ⟨rfl, x, rfl⟩))
  ((first | (with_reducible refine wp_region_tail2 33 (by kernel_rfl) (by kernel_rfl) ?_) | refine wp_region_tail 33 (by kernel_rfl) (by kernel_rfl) ?_); simp only [List.take_succ_cons, List.take_zero, List.drop_succ_cons, List.drop_zero]; (repeat (go_big_quiet_step (first | (go_at_call 28; exact Calls.kept_of (sproduct_any _ _ _ _ _ _ _ _ _ _ (by omega))) | (go_at_call 56; exact Calls.kept_of (scross_any _ _ _ _ _ _ _ (by omega))) | (go_at_call 31; exact Calls.kept_of (sdotd_any _ _ _ _ _ _ _ (by omega)))))); refine wpQuiet_nil ?_; intro x)
  go_wp2_with fail
  go_ret
  exact ⟨rfl, by (repeat (first | exact Kept.refl _ | assumption | refine Kept.alloc ?_ _ | refine Kept.ext ?_ _ | refine Kept.drew ?_ | refine Kept.drewN ?_ _))⟩
end Go.Proofs.Ytbhcjdgfcinpcaa
namespace Go.Proofs.Ytbhcjdgfcinpcaa
set_option linter.unusedVariables false
set_option linter.unusedSimpArgs false
open Go.RowKit
end Go.Proofs.Ytbhcjdgfcinpcaa
namespace Go.Proofs.Ytbhcjdgfcinpcaa
set_option linter.unusedVariables false
set_option linter.unusedSimpArgs false
open Go.RowKit
set_option maxRecDepth 100000 in
set_option maxHeartbeats 16000000 in
theorem son_any (A B : Option Addr) (n cap m cap2 : Nat) (P F : Nat → Nat → Int) (q0 q1 q2 : Int) (w : World) (hm : m ≤ 96) (hn : n ≤ 9223372036854775807) (hq : (-256 ≤ q0 ∧ q0 ≤ 256) ∧ (-256 ≤ q1 ∧ q1 ≤ 256) ∧ (-256 ≤ q2 ∧ q2 ≤ 256)) (hb : ptsBad P n = false) (hc : ∀ i, i < m → cornB n F i = true) (hP : RowsAt w A n 3 P) (hF : RowsAt w B m 3 F) :
    Calls Try.prog 52 #[.agg #[.slice A n cap, .slice B m cap2], .agg #[.int .i64 q0, .int .i64 q1, .int .i64 q2]] w fun r w' => r = .returned (.bool (onS P F q0 q1 q2 m)) ∧ Kept w w' := by
  have HP := Lib.hid hP
  have HF := Lib.hid hF
  have HC := Lib.hid hc
  clear hP hF hc
  go_enter Try.func52, Try.ntmps52
  go_wp2_with fail
  refine (spanels_any _ _ _ _ _ _ P F _ hm hn HC.out (HP.out.of (by (repeat (first | exact Kept.refl _ | assumption | refine Kept.alloc ?_ _ | refine Kept.ext ?_ _ | refine Kept.drew ?_ | refine Kept.drewN ?_ _)))) (HF.out.of (by (repeat (first | exact Kept.refl _ | assumption | refine Kept.alloc ?_ _ | refine Kept.ext ?_ _ | refine Kept.drew ?_ | refine Kept.drewN ?_ _))))).mono ?_
  rintro r w1 ⟨v, rfl, ⟨x, rfl⟩, hown⟩
  obtain ⟨A2, cp, rfl, hcp⟩ := own_sl hown
  have HR := Lib.hid (rows_of_owns hown (pnF_I (rows_I HP.out) HC.out))
  clear hown
  go_wp2_with fail
  go_loopw [10] (fun i wr => ∃ k : Nat, k ≤ m ∧ i = .int .i64 k ∧ (∀ j, j < k → tchF P F q0 q1 q2 j = false) ∧ (∃ y, wr = ext (ext ((w.alloc (.cells #[.slice A n cap, .slice B m cap2] 25)).alloc (.cells #[.int .i64 q0, .int .i64 q1, .int .i64 q2] 27)) x) y)) (fun i _ => m - (intOf i).toNat)
  case atStart => exact ⟨0, by omega, rfl, fun j h => by omega, show Kept _ _ by (repeat (first | exact Kept.refl _ | assumption | refine Kept.alloc ?_ _ | refine Kept.ext ?_ _ | refine Kept.drew ?_ | refine Kept.drewN ?_ _))⟩
  case round =>
    obtain ⟨k, hk, rfl, hz, y, rfl⟩ := hrel
    have HZ := Lib.hid hz
    clear hz
    by_cases hlt : k < m
    · obtain ⟨fb, off, rfl, hfb, f0, f1, f2, f3, f4, f5, f6, f7, f8⟩ := panel_at HR.out hlt
      have LB : Lower fb (adv (w.heap.size + 1 + 1) x.obs.size) := ⟨by simpa using hfb⟩
      obtain ⟨c0, c1, c2⟩ := cornB_true (HC.out k hlt)
      have b0 := co_bd hb c0
      have b1 := co_bd hb c1
      have b2 := co_bd hb c2
      clear c0 c1 c2 hfb
      cases ht : tchF P F q0 q1 q2 k
      · have HT := Lib.hid (show tchS (co P F k 0 0 - q0) (co P F k 0 1 - q1) (co P F k 0 2 - q2) (co P F k 1 0 - q0) (co P F k 1 1 - q1) (co P F k 1 2 - q2) (co P F k 2 0 - q0) (co P F k 2 1 - q1) (co P F k 2 2 - q2) = false from ht)
        go_wp2_with (first | (go_at_call 53; refine (sseen_any _ _ _ _ _ _ _ _ _ _ _ _ _ (by omega)).mono ?_; rintro e w1 ⟨rfl, x9, rfl⟩) | (go_at_call 69; refine (stouch_any _ _ _ _ _ _ _ _ _ _ (by omega)).mono ?_; rintro e w1 ⟨rfl, x9, rfl⟩; rw [HT.out]))
        go_roundw
        case rel => exact ⟨k + 1, by omega, by go_num, fun i hi => by
            by_cases e : i = k
            · subst e; exact ht
            · exact HZ.out i (by omega), show Kept _ _ by (repeat (first | exact Kept.refl _ | assumption | refine Kept.alloc ?_ _ | refine Kept.ext ?_ _ | refine Kept.drew ?_ | refine Kept.drewN ?_ _))⟩
        case measure => simp [intOf]; omega
      · have HT := Lib.hid (show tchS (co P F k 0 0 - q0) (co P F k 0 1 - q1) (co P F k 0 2 - q2) (co P F k 1 0 - q0) (co P F k 1 1 - q1) (co P F k 1 2 - q2) (co P F k 2 0 - q0) (co P F k 2 1 - q1) (co P F k 2 2 - q2) = true from ht)
        have HO := Lib.hid (show onS P F q0 q1 q2 m = true from any_true hlt ht)
        go_wp2_with (first | (go_at_call 53; refine (sseen_any _ _ _ _ _ _ _ _ _ _ _ _ _ (by omega)).mono ?_; rintro e w1 ⟨rfl, x9, rfl⟩) | (go_at_call 69; refine (stouch_any _ _ _ _ _ _ _ _ _ _ (by omega)).mono ?_; rintro e w1 ⟨rfl, x9, rfl⟩; rw [HT.out]))
        go_ret
        rw [HO.out]
        exact ⟨rfl, by (repeat (first | exact Kept.refl _ | assumption | refine Kept.alloc ?_ _ | refine Kept.ext ?_ _ | refine Kept.drew ?_ | refine Kept.drewN ?_ _))⟩
    · obtain rfl : k = m := by omega
      have HO := Lib.hid (show onS P F q0 q1 q2 k = false from any_false HZ.out)
      go_wp2_with fail
      go_ret
      rw [HO.out]
      exact ⟨rfl, by (repeat (first | exact Kept.refl _ | assumption | refine Kept.alloc ?_ _ | refine Kept.ext ?_ _ | refine Kept.drew ?_ | refine Kept.drewN ?_ _))⟩
set_option maxRecDepth 100000 in
theorem sasked_any (A B : Option Addr) (n cap m cap2 : Nat) (P F : Nat → Nat → Int) (q0 q1 q2 : Int) (w : World) (hn : n ≤ 9223372036854775807 ∧ m ≤ 9223372036854775807) (hP : RowsAt w A n 3 P) (hF : RowsAt w B m 3 F) :
    Calls Try.prog 51 #[.agg #[.slice A n cap, .slice B m cap2], .agg #[.int .i64 q0, .int .i64 q1, .int .i64 q2]] w fun r w' => r = .returned (.int .i64 (askE n P m F q0 q1 q2)) ∧ Kept w w' := by
  have HP := Lib.hid hP
  have HF := Lib.hid hF
  clear hP hF
  by_cases hv : validE n P m F = 0
  · have HV := Lib.hid hv
    cases hi : inB q0 q1 q2 256
    · have HA := Lib.hid (show askE n P m F q0 q1 q2 = 1 by unfold askE; rw [if_pos hv, hi]; rfl)
      clear hv
      go_enter Try.func51, Try.ntmps51
      go_wp2_with (first | (go_at_call 24; refine (svalidate_any _ _ _ _ _ _ P F _ hn (HP.out.of (by (repeat (first | exact Kept.refl _ | assumption | refine Kept.alloc ?_ _ | refine Kept.ext ?_ _ | refine Kept.drew ?_ | refine Kept.drewN ?_ _)))) (HF.out.of (by (repeat (first | exact Kept.refl _ | assumption | refine Kept.alloc ?_ _ | refine Kept.ext ?_ _ | refine Kept.drew ?_ | refine Kept.drewN ?_ _))))).mono ?_; rintro e w1 ⟨rfl, x0, rfl⟩; rw [HV.out]) | (go_at_call 34; refine (inRange_any _ _ _ _ _ (by omega)).mono ?_; rintro e w1 ⟨rfl, x1, rfl⟩))
      go_ret
      rw [HA.out]
      exact ⟨rfl, by (repeat (first | exact Kept.refl _ | assumption | refine Kept.alloc ?_ _ | refine Kept.ext ?_ _ | refine Kept.drew ?_ | refine Kept.drewN ?_ _))⟩
    · have HA := Lib.hid (show askE n P m F q0 q1 q2 = 0 by unfold askE; rw [if_pos hv, hi]; rfl)
      clear hv
      go_enter Try.func51, Try.ntmps51
      go_wp2_with (first | (go_at_call 24; refine (svalidate_any _ _ _ _ _ _ P F _ hn (HP.out.of (by (repeat (first | exact Kept.refl _ | assumption | refine Kept.alloc ?_ _ | refine Kept.ext ?_ _ | refine Kept.drew ?_ | refine Kept.drewN ?_ _)))) (HF.out.of (by (repeat (first | exact Kept.refl _ | assumption | refine Kept.alloc ?_ _ | refine Kept.ext ?_ _ | refine Kept.drew ?_ | refine Kept.drewN ?_ _))))).mono ?_; rintro e w1 ⟨rfl, x0, rfl⟩; rw [HV.out]) | (go_at_call 34; refine (inRange_any _ _ _ _ _ (by omega)).mono ?_; rintro e w1 ⟨rfl, x1, rfl⟩))
      go_ret
      rw [HA.out]
      exact ⟨rfl, by (repeat (first | exact Kept.refl _ | assumption | refine Kept.alloc ?_ _ | refine Kept.ext ?_ _ | refine Kept.drew ?_ | refine Kept.drewN ?_ _))⟩
  · have HA := Lib.hid (show askE n P m F q0 q1 q2 = validE n P m F from if_neg hv)
    obtain ⟨e, he⟩ : ∃ e, validE n P m F = e := ⟨_, rfl⟩
    rw [he] at hv
    have HV := Lib.hid he
    clear he
    have hv2 : (e == 0) = false := by simpa using hv
    have hv3 : decide (e = 0) = false := by simpa using hv
    go_enter Try.func51, Try.ntmps51
    go_wp2_with (go_at_call 24; refine (svalidate_any _ _ _ _ _ _ P F _ hn (HP.out.of (by (repeat (first | exact Kept.refl _ | assumption | refine Kept.alloc ?_ _ | refine Kept.ext ?_ _ | refine Kept.drew ?_ | refine Kept.drewN ?_ _)))) (HF.out.of (by (repeat (first | exact Kept.refl _ | assumption | refine Kept.alloc ?_ _ | refine Kept.ext ?_ _ | refine Kept.drew ?_ | refine Kept.drewN ?_ _))))).mono ?_; rintro e w1 ⟨rfl, x, rfl⟩; rw [HV.out])
    go_ret
    rw [HA.out, HV.out]
    exact ⟨rfl, by (repeat (first | exact Kept.refl _ | assumption | refine Kept.alloc ?_ _ | refine Kept.ext ?_ _ | refine Kept.drew ?_ | refine Kept.drewN ?_ _))⟩
theorem askE_0 {n m : Nat} {P F : Nat → Nat → Int} {q0 q1 q2 : Int} (h : askE n P m F q0 q1 q2 = 0) : validE n P m F = 0 ∧ (-256 ≤ q0 ∧ q0 ≤ 256) ∧ (-256 ≤ q1 ∧ q1 ≤ 256) ∧ (-256 ≤ q2 ∧ q2 ≤ 256) := by
  unfold askE at h
  split at h
  · rename_i hv
    split at h
    · rename_i hi
      have := inB_true hi
      exact ⟨hv, by omega⟩
    · cases h
  · rename_i hv
    exact absurd h hv
end Go.Proofs.Ytbhcjdgfcinpcaa
namespace Go.Proofs.Ytbhcjdgfcinpcaa
set_option linter.unusedVariables false
set_option linter.unusedSimpArgs false
open Go.RowKit
theorem ssgn_any (n : Int) (w : World) :
    Calls Try.prog 54 #[.int .i64 n] w fun e w' => e = .returned (.int .i64 (sgn n)) ∧ w = w' := by
  unfold sgn
  go_enter Try.func54, Try.ntmps54
  go_wp2
  go_ret
  exact ⟨rfl, rfl⟩
theorem salong_any (x y z : Int) (w : World) :
    Calls Try.prog 55 #[.agg #[.int .i64 x, .int .i64 y, .int .i64 z]] w fun e w' => e = .returned (.int .i64 (alS x y z)) ∧ Kept w w' := by
  by_cases h1 : z = 0
  · by_cases h2 : y = 0
    · rw [show alS x y z = sgn x by unfold alS; rw [if_neg (by omega), if_neg (by omega)]]
      go_enter Try.func55, Try.ntmps55
      go_wp2_with (first | (go_at_call 54; refine (ssgn_any _ _).mono ?_; rintro e w1 ⟨rfl, rfl⟩))
      go_ret
      exact ⟨rfl, by (repeat (first | exact Kept.refl _ | assumption | refine Kept.alloc ?_ _ | refine Kept.ext ?_ _ | refine Kept.drew ?_ | refine Kept.drewN ?_ _))⟩
    · rw [show alS x y z = sgn y by unfold alS; rw [if_neg (by omega), if_pos h2]]
      have g1 : (y == 0) = false := by simpa using h2
      have g2 : decide (y = 0) = false := by simpa using h2
      go_enter Try.func55, Try.ntmps55
      go_wp2_with (first | (go_at_call 54; refine (ssgn_any _ _).mono ?_; rintro e w1 ⟨rfl, rfl⟩))
      go_ret
      exact ⟨rfl, by (repeat (first | exact Kept.refl _ | assumption | refine Kept.alloc ?_ _ | refine Kept.ext ?_ _ | refine Kept.drew ?_ | refine Kept.drewN ?_ _))⟩
  · rw [show alS x y z = sgn z by unfold alS; rw [if_pos h1]]
    have g1 : (z == 0) = false := by simpa using h1
    have g2 : decide (z = 0) = false := by simpa using h1
    go_enter Try.func55, Try.ntmps55
    go_wp2_with (first | (go_at_call 54; refine (ssgn_any _ _).mono ?_; rintro e w1 ⟨rfl, rfl⟩))
    go_ret
    exact ⟨rfl, by (repeat (first | exact Kept.refl _ | assumption | refine Kept.alloc ?_ _ | refine Kept.ext ?_ _ | refine Kept.drew ?_ | refine Kept.drewN ?_ _))⟩
set_option maxRecDepth 100000 in
set_option maxHeartbeats 16000000 in
theorem sWinding_any (A B : Option Addr) (n cap m cap2 : Nat) (P F : Nat → Nat → Int) (q0 q1 q2 : Int) (w : World) (hn : n ≤ 9223372036854775807 ∧ m ≤ 9223372036854775807) (hP : RowsAt w A n 3 P) (hF : RowsAt w B m 3 F) :
    Calls Try.prog 20 #[.agg #[.slice A n cap, .slice B m cap2], .agg #[.int .i64 q0, .int .i64 q1, .int .i64 q2]] w fun r w' => r = .returned (.tuple #[.int .i64 (winV n P m F q0 q1 q2), .int .i64 (winE n P m F q0 q1 q2)]) ∧ Kept w w' := by
  have HP := Lib.hid hP
  have HF := Lib.hid hF
  clear hP hF
  by_cases ha : askE n P m F q0 q1 q2 = 0
  case neg =>
    have hwe : winE n P m F q0 q1 q2 = askE n P m F q0 q1 q2 := if_neg ha
    rw [show winV n P m F q0 q1 q2 = 0 from if_neg (by rw [hwe]; exact ha), hwe]
    clear hwe
    obtain ⟨e, he⟩ : ∃ e, askE n P m F q0 q1 q2 = e := ⟨_, rfl⟩
    rw [he] at ha
    have HA := Lib.hid he
    clear he
    have hv2 : (e == 0) = false := by simpa using ha
    have hv3 : decide (e = 0) = false := by simpa using ha
    go_enter Try.func20, Try.ntmps20
    go_wp2_with (go_at_call 51; refine (sasked_any _ _ _ _ _ _ P F _ _ _ _ hn (HP.out.of (by (repeat (first | exact Kept.refl _ | assumption | refine Kept.alloc ?_ _ | refine Kept.ext ?_ _ | refine Kept.drew ?_ | refine Kept.drewN ?_ _)))) (HF.out.of (by (repeat (first | exact Kept.refl _ | assumption | refine Kept.alloc ?_ _ | refine Kept.ext ?_ _ | refine Kept.drew ?_ | refine Kept.drewN ?_ _))))).mono ?_; rintro e w1 ⟨rfl, x0, rfl⟩; rw [HA.out])
    refine bodyPost_ret (by simp only [results, Try.results20]; go_simp; rfl) rfl ?_
    rw [HA.out]
    exact ⟨rfl, by (repeat (first | exact Kept.refl _ | assumption | refine Kept.alloc ?_ _ | refine Kept.ext ?_ _ | refine Kept.drew ?_ | refine Kept.drewN ?_ _))⟩
  have HA := Lib.hid ha
  obtain ⟨hv, hq⟩ := askE_0 ha
  obtain ⟨n64, m96, hb, hf, -⟩ := validE_ok hv
  have HB := Lib.hid hb
  have HC := Lib.hid (corn_of hf)
  clear hv hb hf
  cases ho : onS P F q0 q1 q2 m
  case true =>
    have hwe : winE n P m F q0 q1 q2 = 9 := by unfold winE; rw [if_pos ha, if_pos ho]
    rw [show winV n P m F q0 q1 q2 = 0 from if_neg (by rw [hwe]; omega), hwe]
    have HO := Lib.hid ho
    clear hwe ho ha
    go_enter Try.func20, Try.ntmps20
    go_wp2_with (first | (go_at_call 51; refine (sasked_any _ _ _ _ _ _ P F _ _ _ _ hn (HP.out.of (by (repeat (first | exact Kept.refl _ | assumption | refine Kept.alloc ?_ _ | refine Kept.ext ?_ _ | refine Kept.drew ?_ | refine Kept.drewN ?_ _)))) (HF.out.of (by (repeat (first | exact Kept.refl _ | assumption | refine Kept.alloc ?_ _ | refine Kept.ext ?_ _ | refine Kept.drew ?_ | refine Kept.drewN ?_ _))))).mono ?_; rintro e w1 ⟨rfl, x0, rfl⟩; rw [HA.out]) | (go_at_call 52; refine (son_any _ _ _ _ _ _ P F _ _ _ _ (by omega) (by omega) hq HB.out HC.out (HP.out.of (by (repeat (first | exact Kept.refl _ | assumption | refine Kept.alloc ?_ _ | refine Kept.ext ?_ _ | refine Kept.drew ?_ | refine Kept.drewN ?_ _)))) (HF.out.of (by (repeat (first | exact Kept.refl _ | assumption | refine Kept.alloc ?_ _ | refine Kept.ext ?_ _ | refine Kept.drew ?_ | refine Kept.drewN ?_ _))))).mono ?_; rintro e w1 ⟨rfl, x1, rfl⟩; rw [HO.out]))
    refine bodyPost_ret (by simp only [results, Try.results20]; go_simp; rfl) rfl ?_
    exact ⟨rfl, by (repeat (first | exact Kept.refl _ | assumption | refine Kept.alloc ?_ _ | refine Kept.ext ?_ _ | refine Kept.drew ?_ | refine Kept.drewN ?_ _))⟩
  have hwe : winE n P m F q0 q1 q2 = 0 := by unfold winE; rw [if_pos ha, if_neg (by rw [ho]; simp)]
  rw [show winV n P m F q0 q1 q2 = wsum P F q0 q1 q2 m from if_pos hwe, hwe]
  have HO := Lib.hid ho
  clear hwe ho ha
  go_enter Try.func20, Try.ntmps20
  go_wp2_with (first | (go_at_call 51; refine (sasked_any _ _ _ _ _ _ P F _ _ _ _ hn (HP.out.of (by (repeat (first | exact Kept.refl _ | assumption | refine Kept.alloc ?_ _ | refine Kept.ext ?_ _ | refine Kept.drew ?_ | refine Kept.drewN ?_ _)))) (HF.out.of (by (repeat (first | exact Kept.refl _ | assumption | refine Kept.alloc ?_ _ | refine Kept.ext ?_ _ | refine Kept.drew ?_ | refine Kept.drewN ?_ _))))).mono ?_; rintro e w1 ⟨rfl, x0, rfl⟩; rw [HA.out]) | (go_at_call 52; refine (son_any _ _ _ _ _ _ P F _ _ _ _ (by omega) (by omega) hq HB.out HC.out (HP.out.of (by (repeat (first | exact Kept.refl _ | assumption | refine Kept.alloc ?_ _ | refine Kept.ext ?_ _ | refine Kept.drew ?_ | refine Kept.drewN ?_ _)))) (HF.out.of (by (repeat (first | exact Kept.refl _ | assumption | refine Kept.alloc ?_ _ | refine Kept.ext ?_ _ | refine Kept.drew ?_ | refine Kept.drewN ?_ _))))).mono ?_; rintro e w1 ⟨rfl, x1, rfl⟩; rw [HO.out]))
  refine (spanels_any _ _ _ _ _ _ P F _ (by omega) (by omega) HC.out (HP.out.of (by (repeat (first | exact Kept.refl _ | assumption | refine Kept.alloc ?_ _ | refine Kept.ext ?_ _ | refine Kept.drew ?_ | refine Kept.drewN ?_ _)))) (HF.out.of (by (repeat (first | exact Kept.refl _ | assumption | refine Kept.alloc ?_ _ | refine Kept.ext ?_ _ | refine Kept.drew ?_ | refine Kept.drewN ?_ _))))).mono ?_
  rintro r w1 ⟨v, rfl, ⟨x2, rfl⟩, hown⟩
  obtain ⟨A2, cp, rfl, hcp⟩ := own_sl hown
  have HR := Lib.hid (rows_of_owns hown (pnF_I (rows_I HP.out) HC.out))
  clear hown
  go_wp2_with fail
  go_loopw [7, 24] (fun v i wr => ∃ k : Nat, k ≤ m ∧ i = .int .i64 k ∧ v = .int .i64 (wsum P F q0 q1 q2 k) ∧ (∃ y, wr = ext (ext (ext (ext ((w.alloc (.cells #[.slice A n cap, .slice B m cap2] 25)).alloc (.cells #[.int .i64 q0, .int .i64 q1, .int .i64 q2] 27)) x0) x1) x2) y)) (fun _ i _ => m - (intOf i).toNat)
  case atStart => exact ⟨0, by omega, rfl, rfl, show Kept _ _ by (repeat (first | exact Kept.refl _ | assumption | refine Kept.alloc ?_ _ | refine Kept.ext ?_ _ | refine Kept.drew ?_ | refine Kept.drewN ?_ _))⟩
  case round =>
    obtain ⟨k, hk, rfl, rfl, y, rfl⟩ := hrel
    have bz := wsum_bd P F q0 q1 q2 k
    obtain ⟨z, hz⟩ : ∃ z, z = wsum P F q0 q1 q2 k := ⟨_, rfl⟩
    by_cases hlt : k < m
    · have hsu : wsum P F q0 q1 q2 (k + 1) = z + wndF P F q0 q1 q2 k := by rw [hz]; rfl
      rw [← hz] at bz ⊢
      clear hz
      obtain ⟨fb, off, rfl, hfb, f0, f1, f2, f3, f4, f5, f6, f7, f8⟩ := panel_at HR.out hlt
      have LB : Lower fb (adv (adv (adv (w.heap.size + 1 + 1) x0.obs.size) x1.obs.size) x2.obs.size) := ⟨by simpa using hfb⟩
      obtain ⟨c0, c1, c2⟩ := cornB_true (HC.out k hlt)
      have b0 := co_bd HB.out c0
      have b1 := co_bd HB.out c1
      have b2 := co_bd HB.out c2
      clear c0 c1 c2 hfb
      have hw : wndF P F q0 q1 q2 k = if sgn (pr9 (co P F k 0 0 - q0) (co P F k 0 1 - q1) (co P F k 0 2 - q2) (co P F k 1 0 - q0) (co P F k 1 1 - q1) (co P F k 1 2 - q2) (co P F k 2 0 - q0) (co P F k 2 1 - q1) (co P F k 2 2 - q2)) ≠ 0 ∧ alS ((co P F k 0 1 - q1) * (co P F k 1 2 - q2) - (co P F k 0 2 - q2) * (co P F k 1 1 - q1)) ((co P F k 0 2 - q2) * (co P F k 1 0 - q0) - (co P F k 0 0 - q0) * (co P F k 1 2 - q2)) ((co P F k 0 0 - q0) * (co P F k 1 1 - q1) - (co P F k 0 1 - q1) * (co P F k 1 0 - q0)) = sgn (pr9 (co P F k 0 0 - q0) (co P F k 0 1 - q1) (co P F k 0 2 - q2) (co P F k 1 0 - q0) (co P F k 1 1 - q1) (co P F k 1 2 - q2) (co P F k 2 0 - q0) (co P F k 2 1 - q1) (co P F k 2 2 - q2)) ∧ alS ((co P F k 1 1 - q1) * (co P F k 2 2 - q2) - (co P F k 1 2 - q2) * (co P F k 2 1 - q1)) ((co P F k 1 2 - q2) * (co P F k 2 0 - q0) - (co P F k 1 0 - q0) * (co P F k 2 2 - q2)) ((co P F k 1 0 - q0) * (co P F k 2 1 - q1) - (co P F k 1 1 - q1) * (co P F k 2 0 - q0)) = sgn (pr9 (co P F k 0 0 - q0) (co P F k 0 1 - q1) (co P F k 0 2 - q2) (co P F k 1 0 - q0) (co P F k 1 1 - q1) (co P F k 1 2 - q2) (co P F k 2 0 - q0) (co P F k 2 1 - q1) (co P F k 2 2 - q2)) ∧ alS ((co P F k 2 1 - q1) * (co P F k 0 2 - q2) - (co P F k 2 2 - q2) * (co P F k 0 1 - q1)) ((co P F k 2 2 - q2) * (co P F k 0 0 - q0) - (co P F k 2 0 - q0) * (co P F k 0 2 - q2)) ((co P F k 2 0 - q0) * (co P F k 0 1 - q1) - (co P F k 2 1 - q1) * (co P F k 0 0 - q0)) = sgn (pr9 (co P F k 0 0 - q0) (co P F k 0 1 - q1) (co P F k 0 2 - q2) (co P F k 1 0 - q0) (co P F k 1 1 - q1) (co P F k 1 2 - q2) (co P F k 2 0 - q0) (co P F k 2 1 - q1) (co P F k 2 2 - q2)) then sgn (pr9 (co P F k 0 0 - q0) (co P F k 0 1 - q1) (co P F k 0 2 - q2) (co P F k 1 0 - q0) (co P F k 1 1 - q1) (co P F k 1 2 - q2) (co P F k 2 0 - q0) (co P F k 2 1 - q1) (co P F k 2 2 - q2)) else 0 := rfl
      have bs := sgn_bd (pr9 (co P F k 0 0 - q0) (co P F k 0 1 - q1) (co P F k 0 2 - q2) (co P F k 1 0 - q0) (co P F k 1 1 - q1) (co P F k 1 2 - q2) (co P F k 2 0 - q0) (co P F k 2 1 - q1) (co P F k 2 2 - q2))
      obtain ⟨s, hs⟩ : ∃ s, sgn (pr9 (co P F k 0 0 - q0) (co P F k 0 1 - q1) (co P F k 0 2 - q2) (co P F k 1 0 - q0) (co P F k 1 1 - q1) (co P F k 1 2 - q2) (co P F k 2 0 - q0) (co P F k 2 1 - q1) (co P F k 2 2 - q2)) = s := ⟨_, rfl⟩
      obtain ⟨a1, ha1⟩ : ∃ s, alS ((co P F k 0 1 - q1) * (co P F k 1 2 - q2) - (co P F k 0 2 - q2) * (co P F k 1 1 - q1)) ((co P F k 0 2 - q2) * (co P F k 1 0 - q0) - (co P F k 0 0 - q0) * (co P F k 1 2 - q2)) ((co P F k 0 0 - q0) * (co P F k 1 1 - q1) - (co P F k 0 1 - q1) * (co P F k 1 0 - q0)) = s := ⟨_, rfl⟩
      obtain ⟨a2, ha2⟩ : ∃ s, alS ((co P F k 1 1 - q1) * (co P F k 2 2 - q2) - (co P F k 1 2 - q2) * (co P F k 2 1 - q1)) ((co P F k 1 2 - q2) * (co P F k 2 0 - q0) - (co P F k 1 0 - q0) * (co P F k 2 2 - q2)) ((co P F k 1 0 - q0) * (co P F k 2 1 - q1) - (co P F k 1 1 - q1) * (co P F k 2 0 - q0)) = s := ⟨_, rfl⟩
      obtain ⟨a3, ha3⟩ : ∃ s, alS ((co P F k 2 1 - q1) * (co P F k 0 2 - q2) - (co P F k 2 2 - q2) * (co P F k 0 1 - q1)) ((co P F k 2 2 - q2) * (co P F k 0 0 - q0) - (co P F k 2 0 - q0) * (co P F k 0 2 - q2)) ((co P F k 2 0 - q0) * (co P F k 0 1 - q1) - (co P F k 2 1 - q1) * (co P F k 0 0 - q0)) = s := ⟨_, rfl⟩
      rw [hs, ha1, ha2, ha3] at hw
      rw [hs] at bs
      have HS := Lib.hid hs
      have H1 := Lib.hid ha1
      have H2 := Lib.hid ha2
      have H3 := Lib.hid ha3
      rw [hw] at hsu
      clear hs ha1 ha2 ha3 hw
      by_cases h0 : s = 0
      · subst h0
        have HN := Lib.hid (show wsum P F q0 q1 q2 (k + 1) = z by rw [hsu]; rw [if_neg (by omega)]; omega)
        clear hsu
        go_wp2_with (first | (go_at_call 53; refine (sseen_any _ _ _ _ _ _ _ _ _ _ _ _ _ (by omega)).mono ?_; rintro e w1 ⟨rfl, x9, rfl⟩) | (go_at_call 28; refine (sproduct_any _ _ _ _ _ _ _ _ _ _ (by omega)).mono ?_; rintro e w1 ⟨rfl, x9, rfl⟩) | (go_at_call 54; refine (ssgn_any _ _).mono ?_; rintro e w1 ⟨rfl, rfl⟩; rw [HS.out]) | (go_at_call 56; refine (scross_any _ _ _ _ _ _ _ (by omega)).mono ?_; rintro e w1 ⟨rfl, x9, rfl⟩) | (go_at_call 55; refine (salong_any _ _ _ _).mono ?_; rintro e w1 ⟨rfl, x9, rfl⟩; first | rw [H1.out] | rw [H2.out] | rw [H3.out]))
        go_roundw
        case rel => exact ⟨k + 1, by omega, by go_num, by rw [HN.out], show Kept _ _ by (repeat (first | exact Kept.refl _ | assumption | refine Kept.alloc ?_ _ | refine Kept.ext ?_ _ | refine Kept.drew ?_ | refine Kept.drewN ?_ _))⟩
        case measure => simp [intOf]; omega
      by_cases h1 : a1 = s
      case neg =>
        have g0 : (s == 0) = false := by simpa using h0
        have g0' : decide (s = 0) = false := by simpa using h0
        have g1 : (a1 == s) = false := by simpa using h1
        have g1' : decide (a1 = s) = false := by simpa using h1
        have HN := Lib.hid (show wsum P F q0 q1 q2 (k + 1) = z by rw [hsu]; rw [if_neg (by omega)]; omega)
        clear hsu
        go_wp2_with (first | (go_at_call 53; refine (sseen_any _ _ _ _ _ _ _ _ _ _ _ _ _ (by omega)).mono ?_; rintro e w1 ⟨rfl, x9, rfl⟩) | (go_at_call 28; refine (sproduct_any _ _ _ _ _ _ _ _ _ _ (by omega)).mono ?_; rintro e w1 ⟨rfl, x9, rfl⟩) | (go_at_call 54; refine (ssgn_any _ _).mono ?_; rintro e w1 ⟨rfl, rfl⟩; rw [HS.out]) | (go_at_call 56; refine (scross_any _ _ _ _ _ _ _ (by omega)).mono ?_; rintro e w1 ⟨rfl, x9, rfl⟩) | (go_at_call 55; refine (salong_any _ _ _ _).mono ?_; rintro e w1 ⟨rfl, x9, rfl⟩; first | rw [H1.out] | rw [H2.out] | rw [H3.out]))
        go_roundw
        case rel => exact ⟨k + 1, by omega, by go_num, by rw [HN.out], show Kept _ _ by (repeat (first | exact Kept.refl _ | assumption | refine Kept.alloc ?_ _ | refine Kept.ext ?_ _ | refine Kept.drew ?_ | refine Kept.drewN ?_ _))⟩
        case measure => simp [intOf]; omega
      by_cases h2 : a2 = s
      case neg =>
        have g0 : (s == 0) = false := by simpa using h0
        have g0' : decide (s = 0) = false := by simpa using h0
        have g1 : (a2 == s) = false := by simpa using h2
        have g1' : decide (a2 = s) = false := by simpa using h2
        have HN := Lib.hid (show wsum P F q0 q1 q2 (k + 1) = z by rw [hsu]; rw [if_neg (by omega)]; omega)
        clear hsu
        go_wp2_with (first | (go_at_call 53; refine (sseen_any _ _ _ _ _ _ _ _ _ _ _ _ _ (by omega)).mono ?_; rintro e w1 ⟨rfl, x9, rfl⟩) | (go_at_call 28; refine (sproduct_any _ _ _ _ _ _ _ _ _ _ (by omega)).mono ?_; rintro e w1 ⟨rfl, x9, rfl⟩) | (go_at_call 54; refine (ssgn_any _ _).mono ?_; rintro e w1 ⟨rfl, rfl⟩; rw [HS.out]) | (go_at_call 56; refine (scross_any _ _ _ _ _ _ _ (by omega)).mono ?_; rintro e w1 ⟨rfl, x9, rfl⟩) | (go_at_call 55; refine (salong_any _ _ _ _).mono ?_; rintro e w1 ⟨rfl, x9, rfl⟩; first | rw [H1.out] | rw [H2.out] | rw [H3.out]))
        go_roundw
        case rel => exact ⟨k + 1, by omega, by go_num, by rw [HN.out], show Kept _ _ by (repeat (first | exact Kept.refl _ | assumption | refine Kept.alloc ?_ _ | refine Kept.ext ?_ _ | refine Kept.drew ?_ | refine Kept.drewN ?_ _))⟩
        case measure => simp [intOf]; omega
      by_cases h3 : a3 = s
      case neg =>
        have g0 : (s == 0) = false := by simpa using h0
        have g0' : decide (s = 0) = false := by simpa using h0
        have g1 : (a3 == s) = false := by simpa using h3
        have g1' : decide (a3 = s) = false := by simpa using h3
        have HN := Lib.hid (show wsum P F q0 q1 q2 (k + 1) = z by rw [hsu]; rw [if_neg (by omega)]; omega)
        clear hsu
        go_wp2_with (first | (go_at_call 53; refine (sseen_any _ _ _ _ _ _ _ _ _ _ _ _ _ (by omega)).mono ?_; rintro e w1 ⟨rfl, x9, rfl⟩) | (go_at_call 28; refine (sproduct_any _ _ _ _ _ _ _ _ _ _ (by omega)).mono ?_; rintro e w1 ⟨rfl, x9, rfl⟩) | (go_at_call 54; refine (ssgn_any _ _).mono ?_; rintro e w1 ⟨rfl, rfl⟩; rw [HS.out]) | (go_at_call 56; refine (scross_any _ _ _ _ _ _ _ (by omega)).mono ?_; rintro e w1 ⟨rfl, x9, rfl⟩) | (go_at_call 55; refine (salong_any _ _ _ _).mono ?_; rintro e w1 ⟨rfl, x9, rfl⟩; first | rw [H1.out] | rw [H2.out] | rw [H3.out]))
        go_roundw
        case rel => exact ⟨k + 1, by omega, by go_num, by rw [HN.out], show Kept _ _ by (repeat (first | exact Kept.refl _ | assumption | refine Kept.alloc ?_ _ | refine Kept.ext ?_ _ | refine Kept.drew ?_ | refine Kept.drewN ?_ _))⟩
        case measure => simp [intOf]; omega
      · have g0 : (s == 0) = false := by simpa using h0
        have g0' : decide (s = 0) = false := by simpa using h0
        have HN := Lib.hid (show wsum P F q0 q1 q2 (k + 1) = z + s by rw [hsu]; rw [if_pos ⟨h0, h1, h2, h3⟩])
        clear hsu
        go_wp2_with (first | (go_at_call 53; refine (sseen_any _ _ _ _ _ _ _ _ _ _ _ _ _ (by omega)).mono ?_; rintro e w1 ⟨rfl, x9, rfl⟩) | (go_at_call 28; refine (sproduct_any _ _ _ _ _ _ _ _ _ _ (by omega)).mono ?_; rintro e w1 ⟨rfl, x9, rfl⟩) | (go_at_call 54; refine (ssgn_any _ _).mono ?_; rintro e w1 ⟨rfl, rfl⟩; rw [HS.out]) | (go_at_call 56; refine (scross_any _ _ _ _ _ _ _ (by omega)).mono ?_; rintro e w1 ⟨rfl, x9, rfl⟩) | (go_at_call 55; refine (salong_any _ _ _ _).mono ?_; rintro e w1 ⟨rfl, x9, rfl⟩; first | rw [H1.out] | rw [H2.out] | rw [H3.out]))
        go_roundw
        case rel => exact ⟨k + 1, by omega, by go_num, by rw [HN.out], show Kept _ _ by (repeat (first | exact Kept.refl _ | assumption | refine Kept.alloc ?_ _ | refine Kept.ext ?_ _ | refine Kept.drew ?_ | refine Kept.drewN ?_ _))⟩
        case measure => simp [intOf]; omega
    · obtain rfl : k = m := by omega
      go_wp2_with fail
      refine bodyPost_ret (by simp only [results, Try.results20]; go_simp; rfl) rfl ?_
      exact ⟨rfl, by (repeat (first | exact Kept.refl _ | assumption | refine Kept.alloc ?_ _ | refine Kept.ext ?_ _ | refine Kept.drew ?_ | refine Kept.drewN ?_ _))⟩
end Go.Proofs.Ytbhcjdgfcinpcaa
