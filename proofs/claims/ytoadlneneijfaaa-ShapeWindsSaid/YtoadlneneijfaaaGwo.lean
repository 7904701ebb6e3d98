/- Contracts: whether a point lies on a surface, of the program and of the reference. Conditions: the lists' lengths are ints. -/
import Derived.Test.YtoadlneneijfaaaGws
namespace Go.Proofs.Ytoadlneneijfaaa
set_option linter.unusedVariables false
set_option linter.unusedSimpArgs false
open Go.RowKit
theorem d3_bd {a b c x y z : Int} (m k C : Int) (h : (-m ≤ a ∧ a ≤ m) ∧ (-m ≤ b ∧ b ≤ m) ∧ (-m ≤ c ∧ c ≤ m)) (g : (-k ≤ x ∧ x ≤ k) ∧ (-k ≤ y ∧ y ≤ k) ∧ (-k ≤ z ∧ z ≤ k)) (hC : m * k = C) :
    (-C ≤ a * x ∧ a * x ≤ C) ∧ (-C ≤ b * y ∧ b * y ≤ C) ∧ (-C ≤ c * z ∧ c * z ≤ C) :=
  ⟨mul_bd C h.1 g.1 hC, mul_bd C h.2.1 g.2.1 hC, mul_bd C h.2.2 g.2.2 hC⟩
theorem cr_bd {a0 a1 a2 b0 b1 b2 : Int} (m k C : Int) (h : (-m ≤ a0 ∧ a0 ≤ m) ∧ (-m ≤ a1 ∧ a1 ≤ m) ∧ (-m ≤ a2 ∧ a2 ≤ m)) (g : (-k ≤ b0 ∧ b0 ≤ k) ∧ (-k ≤ b1 ∧ b1 ≤ k) ∧ (-k ≤ b2 ∧ b2 ≤ k)) (hC : m * k = C) :
    (-(2 * C) ≤ a1 * b2 - a2 * b1 ∧ a1 * b2 - a2 * b1 ≤ 2 * C) ∧ (-(2 * C) ≤ a2 * b0 - a0 * b2 ∧ a2 * b0 - a0 * b2 ≤ 2 * C) ∧ (-(2 * C) ≤ a0 * b1 - a1 * b0 ∧ a0 * b1 - a1 * b0 ≤ 2 * C) := by
  have h1 := mul_bd C h.2.1 g.2.2 hC
  have h2 := mul_bd C h.2.2 g.2.1 hC
  have h3 := mul_bd C h.2.2 g.1 hC
  have h4 := mul_bd C h.1 g.2.2 hC
  have h5 := mul_bd C h.1 g.2.1 hC
  have h6 := mul_bd C h.2.1 g.1 hC
  omega
theorem nrm_bd2 {v0 v1 v2 v3 v4 v5 v6 v7 v8 : Int} (h : (-320 ≤ v0 ∧ v0 ≤ 320) ∧ (-320 ≤ v1 ∧ v1 ≤ 320) ∧ (-320 ≤ v2 ∧ v2 ≤ 320) ∧ (-320 ≤ v3 ∧ v3 ≤ 320) ∧ (-320 ≤ v4 ∧ v4 ≤ 320) ∧ (-320 ≤ v5 ∧ v5 ≤ 320) ∧ (-320 ≤ v6 ∧ v6 ≤ 320) ∧ (-320 ≤ v7 ∧ v7 ≤ 320) ∧ (-320 ≤ v8 ∧ v8 ≤ 320)) :
    (-819200 ≤ nX v0 v1 v2 v3 v4 v5 v6 v7 v8 ∧ nX v0 v1 v2 v3 v4 v5 v6 v7 v8 ≤ 819200) ∧ (-819200 ≤ nY v0 v1 v2 v3 v4 v5 v6 v7 v8 ∧ nY v0 v1 v2 v3 v4 v5 v6 v7 v8 ≤ 819200) ∧ (-819200 ≤ nZ v0 v1 v2 v3 v4 v5 v6 v7 v8 ∧ nZ v0 v1 v2 v3 v4 v5 v6 v7 v8 ≤ 819200) := by
  have := cr_bd (a0 := v3 - v0) (a1 := v4 - v1) (a2 := v5 - v2) (b0 := v6 - v0) (b1 := v7 - v1) (b2 := v8 - v2) 640 640 409600 (by omega) (by omega) rfl
  unfold nX nY nZ
  omega
theorem sdotd_any (a0 a1 a2 b0 b1 b2 : Int) (w : World) (h : (-1099511627776 ≤ a0 * b0 ∧ a0 * b0 ≤ 1099511627776) ∧ (-1099511627776 ≤ a1 * b1 ∧ a1 * b1 ≤ 1099511627776) ∧ (-1099511627776 ≤ a2 * b2 ∧ a2 * b2 ≤ 1099511627776)) :
    Calls Try.prog 110 #[.agg #[.int .i64 a0, .int .i64 a1, .int .i64 a2], .agg #[.int .i64 b0, .int .i64 b1, .int .i64 b2]] w fun e w' => e = .returned (.int .i64 (d3 a0 a1 a2 b0 b1 b2)) ∧ Kept w w' := sdot_any _ _ _ _ _ _ _ h
theorem r2dotd_any (a0 a1 a2 b0 b1 b2 : Int) (w : World) (h : (-2305843009213693951 ≤ a0 * b0 ∧ a0 * b0 ≤ 2305843009213693951) ∧ (-2305843009213693951 ≤ a1 * b1 ∧ a1 * b1 ≤ 2305843009213693951) ∧ (-2305843009213693951 ≤ a2 * b2 ∧ a2 * b2 ≤ 2305843009213693951)) :
    Calls Try.prog 99 #[.agg #[.int .i64 a0, .int .i64 a1, .int .i64 a2], .agg #[.int .i64 b0, .int .i64 b1, .int .i64 b2]] w fun e w' => e = .returned (.int .i64 (d3 a0 a1 a2 b0 b1 b2)) ∧ Kept w w' := by
  unfold d3
  go_enter Try.func99, Try.ntmps99
  go_wp2
  go_ret
  exact ⟨rfl, by (repeat (first | exact Kept.refl _ | assumption | refine Kept.alloc ?_ _ | refine Kept.ext ?_ _ | refine Kept.drew ?_ | refine Kept.drewN ?_ _))⟩
set_option maxHeartbeats 1000000 in
theorem sseen_any (p0 p1 p2 p3 p4 p5 p6 p7 p8 q0 q1 q2 : Int) (w : World) (h : (-1048576 ≤ p0 ∧ p0 ≤ 1048576) ∧ (-1048576 ≤ p1 ∧ p1 ≤ 1048576) ∧ (-1048576 ≤ p2 ∧ p2 ≤ 1048576) ∧ (-1048576 ≤ p3 ∧ p3 ≤ 1048576) ∧ (-1048576 ≤ p4 ∧ p4 ≤ 1048576) ∧ (-1048576 ≤ p5 ∧ p5 ≤ 1048576) ∧ (-1048576 ≤ p6 ∧ p6 ≤ 1048576) ∧ (-1048576 ≤ p7 ∧ p7 ≤ 1048576) ∧ (-1048576 ≤ p8 ∧ p8 ≤ 1048576) ∧ (-1048576 ≤ q0 ∧ q0 ≤ 1048576) ∧ (-1048576 ≤ q1 ∧ q1 ≤ 1048576) ∧ (-1048576 ≤ q2 ∧ q2 ≤ 1048576)) :
    Calls Try.prog 92 #[.agg #[.int .i64 p0, .int .i64 p1, .int .i64 p2, .int .i64 p3, .int .i64 p4, .int .i64 p5, .int .i64 p6, .int .i64 p7, .int .i64 p8], .agg #[.int .i64 q0, .int .i64 q1, .int .i64 q2]] w fun e w' => e = .returned (.agg #[.int .i64 (p0 - q0), .int .i64 (p1 - q1), .int .i64 (p2 - q2), .int .i64 (p3 - q0), .int .i64 (p4 - q1), .int .i64 (p5 - q2), .int .i64 (p6 - q0), .int .i64 (p7 - q1), .int .i64 (p8 - q2)]) ∧ Kept w w' := by
  go_enter Try.func92, Try.ntmps92
  go_wp2
  ((first | (with_reducible refine wp_region_tail2 13 (by kernel_rfl) (by kernel_rfl) ?_) | refine wp_region_tail 13 (by kernel_rfl) (by kernel_rfl) ?_); simp only [List.take_succ_cons, List.take_zero, List.drop_succ_cons, List.drop_zero]; (repeat (go_big_quiet_step (first | (go_at_call 116; exact Calls.kept_of (sminus_any _ _ _ _ _ _ _ (by omega)))))); refine wpQuiet_nil ?_; intro x)
  go_wp2
  refine bodyPost_ret (by simp only [results, Try.results92]; go_simp; rfl) rfl ?_
  exact ⟨rfl, by (repeat (first | exact Kept.refl _ | assumption | refine Kept.alloc ?_ _ | refine Kept.ext ?_ _ | refine Kept.drew ?_ | refine Kept.drewN ?_ _))⟩
set_option maxRecDepth 100000 in
set_option maxHeartbeats 8000000 in
theorem stouch_any (v0 v1 v2 v3 v4 v5 v6 v7 v8 : Int) (w : World) (h : (-320 ≤ v0 ∧ v0 ≤ 320) ∧ (-320 ≤ v1 ∧ v1 ≤ 320) ∧ (-320 ≤ v2 ∧ v2 ≤ 320) ∧ (-320 ≤ v3 ∧ v3 ≤ 320) ∧ (-320 ≤ v4 ∧ v4 ≤ 320) ∧ (-320 ≤ v5 ∧ v5 ≤ 320) ∧ (-320 ≤ v6 ∧ v6 ≤ 320) ∧ (-320 ≤ v7 ∧ v7 ≤ 320) ∧ (-320 ≤ v8 ∧ v8 ≤ 320)) :
    Calls Try.prog 118 #[.agg #[.int .i64 v0, .int .i64 v1, .int .i64 v2, .int .i64 v3, .int .i64 v4, .int .i64 v5, .int .i64 v6, .int .i64 v7, .int .i64 v8]] w fun e w' => e = .returned (.bool (tchS v0 v1 v2 v3 v4 v5 v6 v7 v8)) ∧ Kept w w' := by
  have bn := nrm_bd2 h
  have ca := cr_bd (a0 := v0) (a1 := v1) (a2 := v2) (b0 := v3) (b1 := v4) (b2 := v5) 320 320 102400 (by omega) (by omega) rfl
  have cb := cr_bd (a0 := v3) (a1 := v4) (a2 := v5) (b0 := v6) (b1 := v7) (b2 := v8) 320 320 102400 (by omega) (by omega) rfl
  have cc := cr_bd (a0 := v6) (a1 := v7) (a2 := v8) (b0 := v0) (b1 := v1) (b2 := v2) 320 320 102400 (by omega) (by omega) rfl
  have da := d3_bd 819200 204800 167772160000 bn (by omega) rfl (x := v1 * v5 - v2 * v4) (y := v2 * v3 - v0 * v5) (z := v0 * v4 - v1 * v3)
  have db := d3_bd 819200 204800 167772160000 bn (by omega) rfl (x := v4 * v8 - v5 * v7) (y := v5 * v6 - v3 * v8) (z := v3 * v7 - v4 * v6)
  have dd := d3_bd 819200 204800 167772160000 bn (by omega) rfl (x := v7 * v2 - v8 * v1) (y := v8 * v0 - v6 * v2) (z := v6 * v1 - v7 * v0)
  have HT := Lib.hid (show tchS v0 v1 v2 v3 v4 v5 v6 v7 v8 = (decide (pr9 v0 v1 v2 v3 v4 v5 v6 v7 v8 = 0) && (decide (0 ≤ d3 (nX v0 v1 v2 v3 v4 v5 v6 v7 v8) (nY v0 v1 v2 v3 v4 v5 v6 v7 v8) (nZ v0 v1 v2 v3 v4 v5 v6 v7 v8) (v1 * v5 - v2 * v4) (v2 * v3 - v0 * v5) (v0 * v4 - v1 * v3)) && (decide (0 ≤ d3 (nX v0 v1 v2 v3 v4 v5 v6 v7 v8) (nY v0 v1 v2 v3 v4 v5 v6 v7 v8) (nZ v0 v1 v2 v3 v4 v5 v6 v7 v8) (v4 * v8 - v5 * v7) (v5 * v6 - v3 * v8) (v3 * v7 - v4 * v6)) && decide (0 ≤ d3 (nX v0 v1 v2 v3 v4 v5 v6 v7 v8) (nY v0 v1 v2 v3 v4 v5 v6 v7 v8) (nZ v0 v1 v2 v3 v4 v5 v6 v7 v8) (v7 * v2 - v8 * v1) (v8 * v0 - v6 * v2) (v6 * v1 - v7 * v0))))) from rfl)
  obtain ⟨n0, e0⟩ : ∃ n, nX v0 v1 v2 v3 v4 v5 v6 v7 v8 = n := ⟨_, rfl⟩
  obtain ⟨n1, e1⟩ : ∃ n, nY v0 v1 v2 v3 v4 v5 v6 v7 v8 = n := ⟨_, rfl⟩
  obtain ⟨n2, e2⟩ : ∃ n, nZ v0 v1 v2 v3 v4 v5 v6 v7 v8 = n := ⟨_, rfl⟩
  rw [e0, e1, e2] at HT
  rw [e0, e1, e2] at bn
  rw [e0] at da db dd
  rw [e1] at da db dd
  rw [e2] at da db dd
  have HE := Lib.hid (And.intro e0 (And.intro e1 e2))
  clear e0 e1 e2
  by_cases h0 : pr9 v0 v1 v2 v3 v4 v5 v6 v7 v8 = 0
  case neg =>
    have g0 : (pr9 v0 v1 v2 v3 v4 v5 v6 v7 v8 == 0) = false := by simpa using h0
    have g1 : decide (pr9 v0 v1 v2 v3 v4 v5 v6 v7 v8 = 0) = false := by simpa using h0
    rw [show tchS v0 v1 v2 v3 v4 v5 v6 v7 v8 = false by rw [HT.out]; rw [g1]; rfl]
    go_enter Try.func118, Try.ntmps118
    go_wp2_with (first | (go_at_call 67; refine (snormal_any _ _ _ _ _ _ _ _ _ _ (by omega)).mono ?_; rintro e w1 ⟨rfl, x, rfl⟩; rw [HE.out.1, HE.out.2.1, HE.out.2.2]) | (go_at_call 94; refine (sproduct_any _ _ _ _ _ _ _ _ _ _ (by omega)).mono ?_; rintro e w1 ⟨rfl, x, rfl⟩; rw [HE.out.2.2.2]) | (go_at_call 96; refine (scross_any _ _ _ _ _ _ _ (by omega)).mono ?_; rintro e w1 ⟨rfl, x, rfl⟩) | (go_at_call 110; refine (sdotd_any _ _ _ _ _ _ _ (by omega)).mono ?_; rintro e w1 ⟨rfl, x, rfl⟩))
    ((first | (with_reducible refine wp_region_tail2 33 (by kernel_rfl) (by kernel_rfl) ?_) | refine wp_region_tail 33 (by kernel_rfl) (by kernel_rfl) ?_); simp only [List.take_succ_cons, List.take_zero, List.drop_succ_cons, List.drop_zero]; (repeat (go_big_quiet_step (first | (go_at_call 94; exact Calls.kept_of (sproduct_any _ _ _ _ _ _ _ _ _ _ (by omega))) | (go_at_call 96; exact Calls.kept_of (scross_any _ _ _ _ _ _ _ (by omega))) | (go_at_call 110; exact Calls.kept_of (sdotd_any _ _ _ _ _ _ _ (by omega)))))); refine wpQuiet_nil ?_; intro x)
    go_wp2_with fail
    go_ret
    exact ⟨rfl, by (repeat (first | exact Kept.refl _ | assumption | refine Kept.alloc ?_ _ | refine Kept.ext ?_ _ | refine Kept.drew ?_ | refine Kept.drewN ?_ _))⟩
  by_cases h1 : 0 ≤ d3 n0 n1 n2 (v1 * v5 - v2 * v4) (v2 * v3 - v0 * v5) (v0 * v4 - v1 * v3)
  case neg =>
    have g1 : decide (0 ≤ d3 n0 n1 n2 (v1 * v5 - v2 * v4) (v2 * v3 - v0 * v5) (v0 * v4 - v1 * v3)) = false := by simpa using h1
    rw [show tchS v0 v1 v2 v3 v4 v5 v6 v7 v8 = false by rw [HT.out]; rw [g1, Bool.false_and, Bool.and_false]]
    go_enter Try.func118, Try.ntmps118
    go_wp2_with (first | (go_at_call 67; refine (snormal_any _ _ _ _ _ _ _ _ _ _ (by omega)).mono ?_; rintro e w1 ⟨rfl, x, rfl⟩; rw [HE.out.1, HE.out.2.1, HE.out.2.2]) | (go_at_call 94; refine (sproduct_any _ _ _ _ _ _ _ _ _ _ (by omega)).mono ?_; rintro e w1 ⟨rfl, x, rfl⟩; rw [HE.out.2.2.2]) | (go_at_call 96; refine (scross_any _ _ _ _ _ _ _ (by omega)).mono ?_; rintro e w1 ⟨rfl, x, rfl⟩) | (go_at_call 110; refine (sdotd_any _ _ _ _ _ _ _ (by omega)).mono ?_; rintro e w1 ⟨rfl, x, rfl⟩))
    ((first | (with_reducible refine wp_region_tail2 33 (by kernel_rfl) (by kernel_rfl) ?_) | refine wp_region_tail 33 (by kernel_rfl) (by kernel_rfl) ?_); simp only [List.take_succ_cons, List.take_zero, List.drop_succ_cons, List.drop_zero]; (repeat (go_big_quiet_step (first | (go_at_call 94; exact Calls.kept_of (sproduct_any _ _ _ _ _ _ _ _ _ _ (by omega))) | (go_at_call 96; exact Calls.kept_of (scross_any _ _ _ _ _ _ _ (by omega))) | (go_at_call 110; exact Calls.kept_of (sdotd_any _ _ _ _ _ _ _ (by omega)))))); refine wpQuiet_nil ?_; intro x)
    go_wp2_with fail
    go_ret
    exact ⟨rfl, by (repeat (first | exact Kept.refl _ | assumption | refine Kept.alloc ?_ _ | refine Kept.ext ?_ _ | refine Kept.drew ?_ | refine Kept.drewN ?_ _))⟩
  by_cases h2 : 0 ≤ d3 n0 n1 n2 (v4 * v8 - v5 * v7) (v5 * v6 - v3 * v8) (v3 * v7 - v4 * v6)
  case neg =>
    have g2 : decide (0 ≤ d3 n0 n1 n2 (v4 * v8 - v5 * v7) (v5 * v6 - v3 * v8) (v3 * v7 - v4 * v6)) = false := by simpa using h2
    rw [show tchS v0 v1 v2 v3 v4 v5 v6 v7 v8 = false by rw [HT.out]; rw [g2, Bool.false_and, Bool.and_false, Bool.and_false]]
    go_enter Try.func118, Try.ntmps118
    go_wp2_with (first | (go_at_call 67; refine (snormal_any _ _ _ _ _ _ _ _ _ _ (by omega)).mono ?_; rintro e w1 ⟨rfl, x, rfl⟩; rw [HE.out.1, HE.out.2.1, HE.out.2.2]) | (go_at_call 94; refine (sproduct_any _ _ _ _ _ _ _ _ _ _ (by omega)).mono ?_; rintro e w1 ⟨rfl, x, rfl⟩; rw [HE.out.2.2.2]) | (go_at_call 96; refine (scross_any _ _ _ _ _ _ _ (by omega)).mono ?_; rintro e w1 ⟨rfl, x, rfl⟩) | (go_at_call 110; refine (sdotd_any _ _ _ _ _ _ _ (by omega)).mono ?_; rintro e w1 ⟨rfl, x, rfl⟩))
    ((first | (with_reducible refine wp_region_tail2 33 (by kernel_rfl) (by kernel_rfl) ?_) | refine wp_region_tail 33 (by kernel_rfl) (by kernel_rfl) ?_); simp only [List.take_succ_cons, List.take_zero, List.drop_succ_cons, List.drop_zero]; (repeat (go_big_quiet_step (first | (go_at_call 94; exact Calls.kept_of (sproduct_any _ _ _ _ _ _ _ _ _ _ (by omega))) | (go_at_call 96; exact Calls.kept_of (scross_any _ _ _ _ _ _ _ (by omega))) | (go_at_call 110; exact Calls.kept_of (sdotd_any _ _ _ _ _ _ _ (by omega)))))); refine wpQuiet_nil ?_; intro x)
    go_wp2_with fail
    go_ret
    exact ⟨rfl, by (repeat (first | exact Kept.refl _ | assumption | refine Kept.alloc ?_ _ | refine Kept.ext ?_ _ | refine Kept.drew ?_ | refine Kept.drewN ?_ _))⟩
  by_cases h3 : 0 ≤ d3 n0 n1 n2 (v7 * v2 - v8 * v1) (v8 * v0 - v6 * v2) (v6 * v1 - v7 * v0)
  case neg =>
    have g3 : decide (0 ≤ d3 n0 n1 n2 (v7 * v2 - v8 * v1) (v8 * v0 - v6 * v2) (v6 * v1 - v7 * v0)) = false := by simpa using h3
    rw [show tchS v0 v1 v2 v3 v4 v5 v6 v7 v8 = false by rw [HT.out]; rw [g3, Bool.and_false, Bool.and_false, Bool.and_false]]
    go_enter Try.func118, Try.ntmps118
    go_wp2_with (first | (go_at_call 67; refine (snormal_any _ _ _ _ _ _ _ _ _ _ (by omega)).mono ?_; rintro e w1 ⟨rfl, x, rfl⟩; rw [HE.out.1, HE.out.2.1, HE.out.2.2]) | (go_at_call 94; refine (sproduct_any _ _ _ _ _ _ _ _ _ _ (by omega)).mono ?_; rintro e w1 ⟨rfl, x, rfl⟩; rw [HE.out.2.2.2]) | (go_at_call 96; refine (scross_any _ _ _ _ _ _ _ (by omega)).mono ?_; rintro e w1 ⟨rfl, x, rfl⟩) | (go_at_call 110; refine (sdotd_any _ _ _ _ _ _ _ (by omega)).mono ?_; rintro e w1 ⟨rfl, x, rfl⟩))
    ((first | (with_reducible refine wp_region_tail2 33 (by kernel_rfl) (by kernel_rfl) ?_) | refine wp_region_tail 33 (by kernel_rfl) (by kernel_rfl) ?_); simp only [List.take_succ_cons, List.take_zero, List.drop_succ_cons, List.drop_zero]; (repeat (go_big_quiet_step (first | (go_at_call 94; exact Calls.kept_of (sproduct_any _ _ _ _ _ _ _ _ _ _ (by omega))) | (go_at_call 96; exact Calls.kept_of (scross_any _ _ _ _ _ _ _ (by omega))) | (go_at_call 110; exact Calls.kept_of (sdotd_any _ _ _ _ _ _ _ (by omega)))))); refine wpQuiet_nil ?_; intro x)
    go_wp2_with fail
    go_ret
    exact ⟨rfl, by (repeat (first | exact Kept.refl _ | assumption | refine Kept.alloc ?_ _ | refine Kept.ext ?_ _ | refine Kept.drew ?_ | refine Kept.drewN ?_ _))⟩
  rw [show tchS v0 v1 v2 v3 v4 v5 v6 v7 v8 = true by rw [HT.out]; rw [decide_eq_true h0, decide_eq_true h1, decide_eq_true h2, decide_eq_true h3]; rfl]
  go_enter Try.func118, Try.ntmps118
  go_wp2_with (first | (go_at_call 67; refine (snormal_any _ _ _ _ _ _ _ _ _ _ (by omega)).mono ?_; rintro e w1 ⟨rfl, x, rfl⟩; rw [HE.out.1, HE.out.2.1, HE.out.2.2]) | (go_at_call 94; refine (sproduct_any _ _ _ _ _ _ _ _ _ _ (by omega)).mono ?_; rintro e w1 ⟨rfl, x, rfl⟩; rw [HE.out.2.2.2]) | (go_at_call 96; refine (scross_any _ _ _ _ _ _ _ (by omega)).mono ?_; rintro e w1 ⟨rfl, x, rfl⟩) | (go_at_call 110; refine (sdotd_any _ _ _ _ _ _ _ (by omega)).mono ?_; rintro e w1 ⟨rfl, x, rfl⟩))
  ((first | (with_reducible refine wp_region_tail2 33 (by kernel_rfl) (by kernel_rfl) ?_) | refine wp_region_tail 33 (by kernel_rfl) (by kernel_rfl) ?_); simp only [List.take_succ_cons, List.take_zero, List.drop_succ_cons, List.drop_zero]; (repeat (go_big_quiet_step (first | (go_at_call 94; exact Calls.kept_of (sproduct_any _ _ _ _ _ _ _ _ _ _ (by omega))) | (go_at_call 96; exact Calls.kept_of (scross_any _ _ _ _ _ _ _ (by omega))) | (go_at_call 110; exact Calls.kept_of (sdotd_any _ _ _ _ _ _ _ (by omega)))))); refine wpQuiet_nil ?_; intro x)
  go_wp2_with fail
  go_ret
  exact ⟨rfl, by (repeat (first | exact Kept.refl _ | assumption | refine Kept.alloc ?_ _ | refine Kept.ext ?_ _ | refine Kept.drew ?_ | refine Kept.drewN ?_ _))⟩
end Go.Proofs.Ytoadlneneijfaaa
