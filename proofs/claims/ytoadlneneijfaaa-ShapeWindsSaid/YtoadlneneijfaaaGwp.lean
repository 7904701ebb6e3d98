/- Contracts: whether a triangle has a point, of the reference. Under bounds on numbers. -/
import Derived.Test.YtoadlneneijfaaaGwo
namespace Go.Proofs.Ytoadlneneijfaaa
set_option linter.unusedVariables false
set_option linter.unusedSimpArgs false
open Go.RowKit
set_option maxRecDepth 100000 in
set_option maxHeartbeats 8000000 in
theorem r2touch_any (p0 p1 p2 p3 p4 p5 p6 p7 p8 q0 q1 q2 : Int) (w : World) (h : (-64 ≤ p0 ∧ p0 ≤ 64) ∧ (-64 ≤ p1 ∧ p1 ≤ 64) ∧ (-64 ≤ p2 ∧ p2 ≤ 64) ∧ (-64 ≤ p3 ∧ p3 ≤ 64) ∧ (-64 ≤ p4 ∧ p4 ≤ 64) ∧ (-64 ≤ p5 ∧ p5 ≤ 64) ∧ (-64 ≤ p6 ∧ p6 ≤ 64) ∧ (-64 ≤ p7 ∧ p7 ≤ 64) ∧ (-64 ≤ p8 ∧ p8 ≤ 64) ∧ (-256 ≤ q0 ∧ q0 ≤ 256) ∧ (-256 ≤ q1 ∧ q1 ≤ 256) ∧ (-256 ≤ q2 ∧ q2 ≤ 256)) :
    Calls Try.prog 119 #[.agg #[.int .i64 p0, .int .i64 p1, .int .i64 p2, .int .i64 p3, .int .i64 p4, .int .i64 p5, .int .i64 p6, .int .i64 p7, .int .i64 p8], .agg #[.int .i64 q0, .int .i64 q1, .int .i64 q2]] w fun e w' => e = .returned (.bool (tchS (p0 - q0) (p1 - q1) (p2 - q2) (p3 - q0) (p4 - q1) (p5 - q2) (p6 - q0) (p7 - q1) (p8 - q2))) ∧ Kept w w' := by
  have bn : (-32768 ≤ nX p0 p1 p2 p3 p4 p5 p6 p7 p8 ∧ nX p0 p1 p2 p3 p4 p5 p6 p7 p8 ≤ 32768) ∧ (-32768 ≤ nY p0 p1 p2 p3 p4 p5 p6 p7 p8 ∧ nY p0 p1 p2 p3 p4 p5 p6 p7 p8 ≤ 32768) ∧ (-32768 ≤ nZ p0 p1 p2 p3 p4 p5 p6 p7 p8 ∧ nZ p0 p1 p2 p3 p4 p5 p6 p7 p8 ≤ 32768) := by
    unfold nX nY nZ
    exact ⟨diff_bd (by omega), diff_bd (by omega), diff_bd (by omega)⟩
  have ca := cr_bd (a0 := p3 - p0) (a1 := p4 - p1) (a2 := p5 - p2) (b0 := q0 - p0) (b1 := q1 - p1) (b2 := q2 - p2) 128 320 40960 (by omega) (by omega) rfl
  have cb := cr_bd (a0 := p6 - p3) (a1 := p7 - p4) (a2 := p8 - p5) (b0 := q0 - p3) (b1 := q1 - p4) (b2 := q2 - p5) 128 320 40960 (by omega) (by omega) rfl
  have cc := cr_bd (a0 := p0 - p6) (a1 := p1 - p7) (a2 := p2 - p8) (b0 := q0 - p6) (b1 := q1 - p7) (b2 := q2 - p8) 128 320 40960 (by omega) (by omega) rfl
  have du := d3_bd 32768 320 10485760 bn (x := q0 - p0) (y := q1 - p1) (z := q2 - p2) (by omega) rfl
  have da := d3_bd 32768 81920 2684354560 bn ca rfl
  have db := d3_bd 32768 81920 2684354560 bn cb rfl
  have dd := d3_bd 32768 81920 2684354560 bn cc rfl
  have hT : tchS (p0 - q0) (p1 - q1) (p2 - q2) (p3 - q0) (p4 - q1) (p5 - q2) (p6 - q0) (p7 - q1) (p8 - q2) = (decide (pr9 (p0 - q0) (p1 - q1) (p2 - q2) (p3 - q0) (p4 - q1) (p5 - q2) (p6 - q0) (p7 - q1) (p8 - q2) = 0) && (decide (0 ≤ dc (nX p0 p1 p2 p3 p4 p5 p6 p7 p8) (nY p0 p1 p2 p3 p4 p5 p6 p7 p8) (nZ p0 p1 p2 p3 p4 p5 p6 p7 p8) (p0 - q0) (p1 - q1) (p2 - q2) (p3 - q0) (p4 - q1) (p5 - q2)) && (decide (0 ≤ dc (nX p0 p1 p2 p3 p4 p5 p6 p7 p8) (nY p0 p1 p2 p3 p4 p5 p6 p7 p8) (nZ p0 p1 p2 p3 p4 p5 p6 p7 p8) (p3 - q0) (p4 - q1) (p5 - q2) (p6 - q0) (p7 - q1) (p8 - q2)) && decide (0 ≤ dc (nX p0 p1 p2 p3 p4 p5 p6 p7 p8) (nY p0 p1 p2 p3 p4 p5 p6 p7 p8) (nZ p0 p1 p2 p3 p4 p5 p6 p7 p8) (p6 - q0) (p7 - q1) (p8 - q2) (p0 - q0) (p1 - q1) (p2 - q2))))) := by
    unfold tchS
    rw [nX_move, nY_move, nZ_move]
  rw [← dc_ref (nX p0 p1 p2 p3 p4 p5 p6 p7 p8) (nY p0 p1 p2 p3 p4 p5 p6 p7 p8) (nZ p0 p1 p2 p3 p4 p5 p6 p7 p8) p0 p1 p2 p3 p4 p5 q0 q1 q2, ← dc_ref (nX p0 p1 p2 p3 p4 p5 p6 p7 p8) (nY p0 p1 p2 p3 p4 p5 p6 p7 p8) (nZ p0 p1 p2 p3 p4 p5 p6 p7 p8) p3 p4 p5 p6 p7 p8 q0 q1 q2, ← dc_ref (nX p0 p1 p2 p3 p4 p5 p6 p7 p8) (nY p0 p1 p2 p3 p4 p5 p6 p7 p8) (nZ p0 p1 p2 p3 p4 p5 p6 p7 p8) p6 p7 p8 p0 p1 p2 q0 q1 q2] at hT
  have hU := pr9_ref p0 p1 p2 p3 p4 p5 p6 p7 p8 q0 q1 q2
  obtain ⟨n0, e0⟩ : ∃ n, nX p0 p1 p2 p3 p4 p5 p6 p7 p8 = n := ⟨_, rfl⟩
  obtain ⟨n1, e1⟩ : ∃ n, nY p0 p1 p2 p3 p4 p5 p6 p7 p8 = n := ⟨_, rfl⟩
  obtain ⟨n2, e2⟩ : ∃ n, nZ p0 p1 p2 p3 p4 p5 p6 p7 p8 = n := ⟨_, rfl⟩
  rw [e0, e1, e2] at hT hU
  rw [e0, e1, e2] at bn
  rw [e0] at du da db dd
  rw [e1] at du da db dd
  rw [e2] at du da db dd
  unfold dc at hT
  have hu : decide (pr9 (p0 - q0) (p1 - q1) (p2 - q2) (p3 - q0) (p4 - q1) (p5 - q2) (p6 - q0) (p7 - q1) (p8 - q2) = 0) = decide (d3 n0 n1 n2 (q0 - p0) (q1 - p1) (q2 - p2) = 0) := by
    rw [decide_eq_decide, hU]
    omega
  rw [hu] at hT
  have HT := Lib.hid hT
  have HE := Lib.hid (And.intro e0 (And.intro e1 e2))
  clear e0 e1 e2 hT hU hu
  by_cases h0 : d3 n0 n1 n2 (q0 - p0) (q1 - p1) (q2 - p2) = 0
  case neg =>
    have g0 : (d3 n0 n1 n2 (q0 - p0) (q1 - p1) (q2 - p2) == 0) = false := by simpa using h0
    have g1 : decide (d3 n0 n1 n2 (q0 - p0) (q1 - p1) (q2 - p2) = 0) = false := by simpa using h0
    rw [show tchS (p0 - q0) (p1 - q1) (p2 - q2) (p3 - q0) (p4 - q1) (p5 - q2) (p6 - q0) (p7 - q1) (p8 - q2) = false by rw [HT.out]; rw [g1]; rfl]
    go_enter Try.func119, Try.ntmps119
    go_wp2_with (go_at_call 68; refine (r2across_any _ _ _ _ _ _ _ _ _ _ (by omega)).mono ?_; rintro e w1 ⟨rfl, x, rfl⟩; rw [HE.out.1, HE.out.2.1, HE.out.2.2])
    ((first | (with_reducible refine wp_region_kept2 (by kernel_rfl) (by kernel_rfl) ?_) | refine wp_region_kept (by kernel_rfl) (by kernel_rfl) ?_); (repeat (go_big_quiet_step (first | (go_at_call 97; exact Calls.kept_of (r2minus_any _ _ _ _ _ _ _ (by omega))) | (go_at_call 99; exact Calls.kept_of (r2dotd_any _ _ _ _ _ _ _ (by omega)))))); refine wpQuiet_nil ?_; intro x)
    go_wp2_with fail
    go_ret
    exact ⟨rfl, by (repeat (first | exact Kept.refl _ | assumption | refine Kept.alloc ?_ _ | refine Kept.ext ?_ _ | refine Kept.drew ?_ | refine Kept.drewN ?_ _))⟩
  by_cases h1 : 0 ≤ d3 n0 n1 n2 ((p4 - p1) * (q2 - p2) - (p5 - p2) * (q1 - p1)) ((p5 - p2) * (q0 - p0) - (p3 - p0) * (q2 - p2)) ((p3 - p0) * (q1 - p1) - (p4 - p1) * (q0 - p0))
  case neg =>
    have g1 : decide (0 ≤ d3 n0 n1 n2 ((p4 - p1) * (q2 - p2) - (p5 - p2) * (q1 - p1)) ((p5 - p2) * (q0 - p0) - (p3 - p0) * (q2 - p2)) ((p3 - p0) * (q1 - p1) - (p4 - p1) * (q0 - p0))) = false := by simpa using h1
    rw [show tchS (p0 - q0) (p1 - q1) (p2 - q2) (p3 - q0) (p4 - q1) (p5 - q2) (p6 - q0) (p7 - q1) (p8 - q2) = false by rw [HT.out]; rw [g1, Bool.false_and, Bool.and_false]]
    go_enter Try.func119, Try.ntmps119
    go_wp2_with (go_at_call 68; refine (r2across_any _ _ _ _ _ _ _ _ _ _ (by omega)).mono ?_; rintro e w1 ⟨rfl, x, rfl⟩; rw [HE.out.1, HE.out.2.1, HE.out.2.2])
    ((first | (with_reducible refine wp_region_kept2 (by kernel_rfl) (by kernel_rfl) ?_) | refine wp_region_kept (by kernel_rfl) (by kernel_rfl) ?_); (repeat (go_big_quiet_step (first | (go_at_call 97; exact Calls.kept_of (r2minus_any _ _ _ _ _ _ _ (by omega))) | (go_at_call 99; exact Calls.kept_of (r2dotd_any _ _ _ _ _ _ _ (by omega)))))); refine wpQuiet_nil ?_; intro x)
    go_wp2_with fail
    ((first | (with_reducible refine wp_region_tail2 12 (by kernel_rfl) (by kernel_rfl) ?_) | refine wp_region_tail 12 (by kernel_rfl) (by kernel_rfl) ?_); simp only [List.take_succ_cons, List.take_zero, List.drop_succ_cons, List.drop_zero]; (repeat (go_big_quiet_step (first | (go_at_call 97; exact Calls.kept_of (r2minus_any _ _ _ _ _ _ _ (by omega))) | (go_at_call 100; exact Calls.kept_of (r2cross_any _ _ _ _ _ _ _ (by omega))) | (go_at_call 99; exact Calls.kept_of (r2dotd_any _ _ _ _ _ _ _ (by omega)))))); refine wpQuiet_nil ?_; intro x)
    go_wp2_with fail
    ((first | (with_reducible refine wp_region_tail2 12 (by kernel_rfl) (by kernel_rfl) ?_) | refine wp_region_tail 12 (by kernel_rfl) (by kernel_rfl) ?_); simp only [List.take_succ_cons, List.take_zero, List.drop_succ_cons, List.drop_zero]; (repeat (go_big_quiet_step (first | (go_at_call 97; exact Calls.kept_of (r2minus_any _ _ _ _ _ _ _ (by omega))) | (go_at_call 100; exact Calls.kept_of (r2cross_any _ _ _ _ _ _ _ (by omega))) | (go_at_call 99; exact Calls.kept_of (r2dotd_any _ _ _ _ _ _ _ (by omega)))))); refine wpQuiet_nil ?_; intro x)
    go_wp2_with fail
    ((first | (with_reducible refine wp_region_tail2 12 (by kernel_rfl) (by kernel_rfl) ?_) | refine wp_region_tail 12 (by kernel_rfl) (by kernel_rfl) ?_); simp only [List.take_succ_cons, List.take_zero, List.drop_succ_cons, List.drop_zero]; (repeat (go_big_quiet_step (first | (go_at_call 97; exact Calls.kept_of (r2minus_any _ _ _ _ _ _ _ (by omega))) | (go_at_call 100; exact Calls.kept_of (r2cross_any _ _ _ _ _ _ _ (by omega))) | (go_at_call 99; exact Calls.kept_of (r2dotd_any _ _ _ _ _ _ _ (by omega)))))); refine wpQuiet_nil ?_; intro x)
    go_wp2_with fail
    go_ret
    exact ⟨rfl, by (repeat (first | exact Kept.refl _ | assumption | refine Kept.alloc ?_ _ | refine Kept.ext ?_ _ | refine Kept.drew ?_ | refine Kept.drewN ?_ _))⟩
  by_cases h2 : 0 ≤ d3 n0 n1 n2 ((p7 - p4) * (q2 - p5) - (p8 - p5) * (q1 - p4)) ((p8 - p5) * (q0 - p3) - (p6 - p3) * (q2 - p5)) ((p6 - p3) * (q1 - p4) - (p7 - p4) * (q0 - p3))
  case neg =>
    have g2 : decide (0 ≤ d3 n0 n1 n2 ((p7 - p4) * (q2 - p5) - (p8 - p5) * (q1 - p4)) ((p8 - p5) * (q0 - p3) - (p6 - p3) * (q2 - p5)) ((p6 - p3) * (q1 - p4) - (p7 - p4) * (q0 - p3))) = false := by simpa using h2
    rw [show tchS (p0 - q0) (p1 - q1) (p2 - q2) (p3 - q0) (p4 - q1) (p5 - q2) (p6 - q0) (p7 - q1) (p8 - q2) = false by rw [HT.out]; rw [g2, Bool.false_and, Bool.and_false, Bool.and_false]]
    go_enter Try.func119, Try.ntmps119
    go_wp2_with (go_at_call 68; refine (r2across_any _ _ _ _ _ _ _ _ _ _ (by omega)).mono ?_; rintro e w1 ⟨rfl, x, rfl⟩; rw [HE.out.1, HE.out.2.1, HE.out.2.2])
    ((first | (with_reducible refine wp_region_kept2 (by kernel_rfl) (by kernel_rfl) ?_) | refine wp_region_kept (by kernel_rfl) (by kernel_rfl) ?_); (repeat (go_big_quiet_step (first | (go_at_call 97; exact Calls.kept_of (r2minus_any _ _ _ _ _ _ _ (by omega))) | (go_at_call 99; exact Calls.kept_of (r2dotd_any _ _ _ _ _ _ _ (by omega)))))); refine wpQuiet_nil ?_; intro x)
    go_wp2_with fail
    ((first | (with_reducible refine wp_region_tail2 12 (by kernel_rfl) (by kernel_rfl) ?_) | refine wp_region_tail 12 (by kernel_rfl) (by kernel_rfl) ?_); simp only [List.take_succ_cons, List.take_zero, List.drop_succ_cons, List.drop_zero]; (repeat (go_big_quiet_step (first | (go_at_call 97; exact Calls.kept_of (r2minus_any _ _ _ _ _ _ _ (by omega))) | (go_at_call 100; exact Calls.kept_of (r2cross_any _ _ _ _ _ _ _ (by omega))) | (go_at_call 99; exact Calls.kept_of (r2dotd_any _ _ _ _ _ _ _ (by omega)))))); refine wpQuiet_nil ?_; intro x)
    go_wp2_with fail
    ((first | (with_reducible refine wp_region_tail2 12 (by kernel_rfl) (by kernel_rfl) ?_) | refine wp_region_tail 12 (by kernel_rfl) (by kernel_rfl) ?_); simp only [List.take_succ_cons, List.take_zero, List.drop_succ_cons, List.drop_zero]; (repeat (go_big_quiet_step (first | (go_at_call 97; exact Calls.kept_of (r2minus_any _ _ _ _ _ _ _ (by omega))) | (go_at_call 100; exact Calls.kept_of (r2cross_any _ _ _ _ _ _ _ (by omega))) | (go_at_call 99; exact Calls.kept_of (r2dotd_any _ _ _ _ _ _ _ (by omega)))))); refine wpQuiet_nil ?_; intro x)
    go_wp2_with fail
    ((first | (with_reducible refine wp_region_tail2 12 (by kernel_rfl) (by kernel_rfl) ?_) | refine wp_region_tail 12 (by kernel_rfl) (by kernel_rfl) ?_); simp only [List.take_succ_cons, List.take_zero, List.drop_succ_cons, List.drop_zero]; (repeat (go_big_quiet_step (first | (go_at_call 97; exact Calls.kept_of (r2minus_any _ _ _ _ _ _ _ (by omega))) | (go_at_call 100; exact Calls.kept_of (r2cross_any _ _ _ _ _ _ _ (by omega))) | (go_at_call 99; exact Calls.kept_of (r2dotd_any _ _ _ _ _ _ _ (by omega)))))); refine wpQuiet_nil ?_; intro x)
    go_wp2_with fail
    go_ret
    exact ⟨rfl, by (repeat (first | exact Kept.refl _ | assumption | refine Kept.alloc ?_ _ | refine Kept.ext ?_ _ | refine Kept.drew ?_ | refine Kept.drewN ?_ _))⟩
  by_cases h3 : 0 ≤ d3 n0 n1 n2 ((p1 - p7) * (q2 - p8) - (p2 - p8) * (q1 - p7)) ((p2 - p8) * (q0 - p6) - (p0 - p6) * (q2 - p8)) ((p0 - p6) * (q1 - p7) - (p1 - p7) * (q0 - p6))
  case neg =>
    have g3 : decide (0 ≤ d3 n0 n1 n2 ((p1 - p7) * (q2 - p8) - (p2 - p8) * (q1 - p7)) ((p2 - p8) * (q0 - p6) - (p0 - p6) * (q2 - p8)) ((p0 - p6) * (q1 - p7) - (p1 - p7) * (q0 - p6))) = false := by simpa using h3
    rw [show tchS (p0 - q0) (p1 - q1) (p2 - q2) (p3 - q0) (p4 - q1) (p5 - q2) (p6 - q0) (p7 - q1) (p8 - q2) = false by rw [HT.out]; rw [g3, Bool.and_false, Bool.and_false, Bool.and_false]]
    go_enter Try.func119, Try.ntmps119
    go_wp2_with (go_at_call 68; refine (r2across_any _ _ _ _ _ _ _ _ _ _ (by omega)).mono ?_; rintro e w1 ⟨rfl, x, rfl⟩; rw [HE.out.1, HE.out.2.1, HE.out.2.2])
    ((first | (with_reducible refine wp_region_kept2 (by kernel_rfl) (by kernel_rfl) ?_) | refine wp_region_kept (by kernel_rfl) (by kernel_rfl) ?_); (repeat (go_big_quiet_step (first | (go_at_call 97; exact Calls.kept_of (r2minus_any _ _ _ _ _ _ _ (by omega))) | (go_at_call 99; exact Calls.kept_of (r2dotd_any _ _ _ _ _ _ _ (by omega)))))); refine wpQuiet_nil ?_; intro x)
    go_wp2_with fail
    ((first | (with_reducible refine wp_region_tail2 12 (by kernel_rfl) (by kernel_rfl) ?_) | refine wp_region_tail 12 (by kernel_rfl) (by kernel_rfl) ?_); simp only [List.take_succ_cons, List.take_zero, List.drop_succ_cons, List.drop_zero]; (repeat (go_big_quiet_step (first | (go_at_call 97; exact Calls.kept_of (r2minus_any _ _ _ _ _ _ _ (by omega))) | (go_at_call 100; exact Calls.kept_of (r2cross_any _ _ _ _ _ _ _ (by omega))) | (go_at_call 99; exact Calls.kept_of (r2dotd_any _ _ _ _ _ _ _ (by omega)))))); refine wpQuiet_nil ?_; intro x)
    go_wp2_with fail
    ((first | (with_reducible refine wp_region_tail2 12 (by kernel_rfl) (by kernel_rfl) ?_) | refine wp_region_tail 12 (by kernel_rfl) (by kernel_rfl) ?_); simp only [List.take_succ_cons, List.take_zero, List.drop_succ_cons, List.drop_zero]; (repeat (go_big_quiet_step (first | (go_at_call 97; exact Calls.kept_of (r2minus_any _ _ _ _ _ _ _ (by omega))) | (go_at_call 100; exact Calls.kept_of (r2cross_any _ _ _ _ _ _ _ (by omega))) | (go_at_call 99; exact Calls.kept_of (r2dotd_any _ _ _ _ _ _ _ (by omega)))))); refine wpQuiet_nil ?_; intro x)
    go_wp2_with fail
    ((first | (with_reducible refine wp_region_tail2 12 (by kernel_rfl) (by kernel_rfl) ?_) | refine wp_region_tail 12 (by kernel_rfl) (by kernel_rfl) ?_); simp only [List.take_succ_cons, List.take_zero, List.drop_succ_cons, List.drop_zero]; (repeat (go_big_quiet_step (first | (go_at_call 97; exact Calls.kept_of (r2minus_any _ _ _ _ _ _ _ (by omega))) | (go_at_call 100; exact Calls.kept_of (r2cross_any _ _ _ _ _ _ _ (by omega))) | (go_at_call 99; exact Calls.kept_of (r2dotd_any _ _ _ _ _ _ _ (by omega)))))); refine wpQuiet_nil ?_; intro x)
    go_wp2_with fail
    go_ret
    exact ⟨rfl, by (repeat (first | exact Kept.refl _ | assumption | refine Kept.alloc ?_ _ | refine Kept.ext ?_ _ | refine Kept.drew ?_ | refine Kept.drewN ?_ _))⟩
  rw [show tchS (p0 - q0) (p1 - q1) (p2 - q2) (p3 - q0) (p4 - q1) (p5 - q2) (p6 - q0) (p7 - q1) (p8 - q2) = true by rw [HT.out]; rw [decide_eq_true h0, decide_eq_true h1, decide_eq_true h2, decide_eq_true h3]; rfl]
  go_enter Try.func119, Try.ntmps119
  go_wp2_with (go_at_call 68; refine (r2across_any _ _ _ _ _ _ _ _ _ _ (by omega)).mono ?_; rintro e w1 ⟨rfl, x, rfl⟩; rw [HE.out.1, HE.out.2.1, HE.out.2.2])
  ((first | (with_reducible refine wp_region_kept2 (by kernel_rfl) (by kernel_rfl) ?_) | refine wp_region_kept (by kernel_rfl) (by kernel_rfl) ?_); (repeat (go_big_quiet_step (first | (go_at_call 97; exact Calls.kept_of (r2minus_any _ _ _ _ _ _ _ (by omega))) | (go_at_call 99; exact Calls.kept_of (r2dotd_any _ _ _ _ _ _ _ (by omega)))))); refine wpQuiet_nil ?_; intro x)
  go_wp2_with fail
  ((first | (with_reducible refine wp_region_tail2 12 (by kernel_rfl) (by kernel_rfl) ?_) | refine wp_region_tail 12 (by kernel_rfl) (by kernel_rfl) ?_); simp only [List.take_succ_cons, List.take_zero, List.drop_succ_cons, List.drop_zero]; (repeat (go_big_quiet_step (first | (go_at_call 97; exact Calls.kept_of (r2minus_any _ _ _ _ _ _ _ (by omega))) | (go_at_call 100; exact Calls.kept_of (r2cross_any _ _ _ _ _ _ _ (by omega))) | (go_at_call 99; exact Calls.kept_of (r2dotd_any _ _ _ _ _ _ _ (by omega)))))); refine wpQuiet_nil ?_; intro x)
  go_wp2_with fail
  ((first | (with_reducible refine wp_region_tail2 12 (by kernel_rfl) (by kernel_rfl) ?_) | refine wp_region_tail 12 (by kernel_rfl) (by kernel_rfl) ?_); simp only [List.take_succ_cons, List.take_zero, List.drop_succ_cons, List.drop_zero]; (repeat (go_big_quiet_step (first | (go_at_call 97; exact Calls.kept_of (r2minus_any _ _ _ _ _ _ _ (by omega))) | (go_at_call 100; exact Calls.kept_of (r2cross_any _ _ _ _ _ _ _ (by omega))) | (go_at_call 99; exact Calls.kept_of (r2dotd_any _ _ _ _ _ _ _ (by omega)))))); refine wpQuiet_nil ?_; intro x)
  go_wp2_with fail
  ((first | (with_reducible refine wp_region_tail2 12 (by kernel_rfl) (by kernel_rfl) ?_) | refine wp_region_tail 12 (by kernel_rfl) (by kernel_rfl) ?_); simp only [List.take_succ_cons, List.take_zero, List.drop_succ_cons, List.drop_zero]; (repeat (go_big_quiet_step (first | (go_at_call 97; exact Calls.kept_of (r2minus_any _ _ _ _ _ _ _ (by omega))) | (go_at_call 100; exact Calls.kept_of (r2cross_any _ _ _ _ _ _ _ (by omega))) | (go_at_call 99; exact Calls.kept_of (r2dotd_any _ _ _ _ _ _ _ (by omega)))))); refine wpQuiet_nil ?_; intro x)
  go_wp2_with fail
  go_ret
  exact ⟨rfl, by (repeat (first | exact Kept.refl _ | assumption | refine Kept.alloc ?_ _ | refine Kept.ext ?_ _ | refine Kept.drew ?_ | refine Kept.drewN ?_ _))⟩
end Go.Proofs.Ytoadlneneijfaaa
