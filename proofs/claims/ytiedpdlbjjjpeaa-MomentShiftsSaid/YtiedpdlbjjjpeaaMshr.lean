/- Contracts: moments about another center, of the reference. No conditions. -/
import Derived.Test.YtiedpdlbjjjpeaaMsh
namespace Go.Proofs.Ytiedpdlbjjjpeaa
set_option linter.unusedVariables false
set_option linter.unusedSimpArgs false
open Go.RowKit
attribute [local go_sem ↓] Go.wp_at_zero Go.wp_at_succ
set_option maxRecDepth 100000 in
set_option maxHeartbeats 16000000 in
theorem r4shift_any (m0 m1 m2 m3 m4 m5 m6 m7 m8 m9 m10 u0 u1 u2 : Int) (w : World) :
    Calls Try.prog 14 #[.agg #[.int .i64 m0, .int .i64 m1, .int .i64 m2, .int .i64 m3, .int .i64 m4, .int .i64 m5, .int .i64 m6, .int .i64 m7, .int .i64 m8, .int .i64 m9, .int .i64 m10], .agg #[.int .i64 u0, .int .i64 u1, .int .i64 u2]] w fun r w' => r = .returned (.tuple #[.agg #[.int .i64 ((shiftM ⟨m0, m1, m2, m3, m4, m5, m6, m7, m8, m9, m10⟩ u0 u1 u2).m).q, .int .i64 ((shiftM ⟨m0, m1, m2, m3, m4, m5, m6, m7, m8, m9, m10⟩ u0 u1 u2).m).t, .int .i64 ((shiftM ⟨m0, m1, m2, m3, m4, m5, m6, m7, m8, m9, m10⟩ u0 u1 u2).m).x, .int .i64 ((shiftM ⟨m0, m1, m2, m3, m4, m5, m6, m7, m8, m9, m10⟩ u0 u1 u2).m).y, .int .i64 ((shiftM ⟨m0, m1, m2, m3, m4, m5, m6, m7, m8, m9, m10⟩ u0 u1 u2).m).z, .int .i64 ((shiftM ⟨m0, m1, m2, m3, m4, m5, m6, m7, m8, m9, m10⟩ u0 u1 u2).m).a, .int .i64 ((shiftM ⟨m0, m1, m2, m3, m4, m5, m6, m7, m8, m9, m10⟩ u0 u1 u2).m).b, .int .i64 ((shiftM ⟨m0, m1, m2, m3, m4, m5, m6, m7, m8, m9, m10⟩ u0 u1 u2).m).c, .int .i64 ((shiftM ⟨m0, m1, m2, m3, m4, m5, m6, m7, m8, m9, m10⟩ u0 u1 u2).m).d, .int .i64 ((shiftM ⟨m0, m1, m2, m3, m4, m5, m6, m7, m8, m9, m10⟩ u0 u1 u2).m).e, .int .i64 ((shiftM ⟨m0, m1, m2, m3, m4, m5, m6, m7, m8, m9, m10⟩ u0 u1 u2).m).f], .int .i64 (shiftM ⟨m0, m1, m2, m3, m4, m5, m6, m7, m8, m9, m10⟩ u0 u1 u2).e]) ∧ Kept w w' := by
  cases h : okM ⟨m0, m1, m2, m3, m4, m5, m6, m7, m8, m9, m10⟩
  · have e1 := bad_of h
    have e2 : shiftM ⟨m0, m1, m2, m3, m4, m5, m6, m7, m8, m9, m10⟩ u0 u1 u2 = ⟨moZ, 1⟩ := by simp [shiftM, h]
    rw [e2]
    clear e2
    go_enter Try.func14, Try.ntmps14
    go_wp2_with (first | (go_at_call 32; refine (r4val_any _ _ _ _ _ _ _ _ _ _ _ _).mono ?_; rintro e w1 ⟨rfl, x, rfl⟩))
    refine bodyPost_ret (by simp only [results, Try.results14]; go_simp; rfl) rfl ?_
    exact ⟨rfl, by (repeat (first | exact Kept.refl _ | assumption | refine Kept.alloc ?_ _ | refine Kept.ext ?_ _ | refine Kept.drew ?_ | refine Kept.drewN ?_ _))⟩
  cases k : inB u0 u1 u2 128
  · have e1 := ok_of h
    have e2 : shiftM ⟨m0, m1, m2, m3, m4, m5, m6, m7, m8, m9, m10⟩ u0 u1 u2 = ⟨moZ, 1⟩ := by simp [shiftM, k]
    rw [e2]
    clear e2
    go_enter Try.func14, Try.ntmps14
    go_wp2_with (first | (go_at_call 32; refine (r4val_any _ _ _ _ _ _ _ _ _ _ _ _).mono ?_; rintro e w1 ⟨rfl, x, rfl⟩) | (go_at_call 16; refine (small_any _ _ _ _ _ (by omega)).mono ?_; rintro e w1 ⟨rfl, x, rfl⟩))
    refine bodyPost_ret (by simp only [results, Try.results14]; go_simp; rfl) rfl ?_
    exact ⟨rfl, by (repeat (first | exact Kept.refl _ | assumption | refine Kept.alloc ?_ _ | refine Kept.ext ?_ _ | refine Kept.drew ?_ | refine Kept.drewN ?_ _))⟩
  have e1 := ok_of h
  have e2 : shiftM ⟨m0, m1, m2, m3, m4, m5, m6, m7, m8, m9, m10⟩ u0 u1 u2 = toldM (movM ⟨m0, m1, m2, m3, m4, m5, m6, m7, m8, m9, m10⟩ u0 u1 u2) := by simp [shiftM, h, k]
  rw [e2]
  clear e2
  obtain ⟨q1, q2, q3, q4, q5, q6, q7, q8, q9, q10, q11⟩ := okM_bd h
  simp only at q1 q2 q3 q4 q5 q6 q7 q8 q9 q10 q11
  obtain ⟨c1, c2, c3, c4, c5, c6⟩ := inB_true k
  have p0 := mul_bd 402653184 (show -3145728 ≤ 3 * m0 ∧ 3 * m0 ≤ 3145728 by omega) (show -128 ≤ u0 ∧ u0 ≤ 128 by omega) rfl
  have r0 := mul_bd 1610612736 (show -12582912 ≤ 12 * m0 ∧ 12 * m0 ≤ 12582912 by omega) (show -128 ≤ u0 ∧ u0 ≤ 128 by omega) rfl
  have p1 := mul_bd 402653184 (show -3145728 ≤ 3 * m0 ∧ 3 * m0 ≤ 3145728 by omega) (show -128 ≤ u1 ∧ u1 ≤ 128 by omega) rfl
  have r1 := mul_bd 1610612736 (show -12582912 ≤ 12 * m0 ∧ 12 * m0 ≤ 12582912 by omega) (show -128 ≤ u1 ∧ u1 ≤ 128 by omega) rfl
  have p2 := mul_bd 402653184 (show -3145728 ≤ 3 * m0 ∧ 3 * m0 ≤ 3145728 by omega) (show -128 ≤ u2 ∧ u2 ≤ 128 by omega) rfl
  have r2 := mul_bd 1610612736 (show -12582912 ≤ 12 * m0 ∧ 12 * m0 ≤ 12582912 by omega) (show -128 ≤ u2 ∧ u2 ≤ 128 by omega) rfl
  have s00 := mul_bd 206158430208 r0 (show -128 ≤ u0 ∧ u0 ≤ 128 by omega) rfl
  have s01 := mul_bd 206158430208 r0 (show -128 ≤ u1 ∧ u1 ≤ 128 by omega) rfl
  have s02 := mul_bd 206158430208 r0 (show -128 ≤ u2 ∧ u2 ≤ 128 by omega) rfl
  have s11 := mul_bd 206158430208 r1 (show -128 ≤ u1 ∧ u1 ≤ 128 by omega) rfl
  have s12 := mul_bd 206158430208 r1 (show -128 ≤ u2 ∧ u2 ≤ 128 by omega) rfl
  have s22 := mul_bd 206158430208 r2 (show -128 ≤ u2 ∧ u2 ≤ 128 by omega) rfl
  have d00 := mul_bd 137438953472 (show -1073741824 ≤ m2 ∧ m2 ≤ 1073741824 by omega) (show -128 ≤ u0 ∧ u0 ≤ 128 by omega) rfl
  have e00 := mul_bd 137438953472 (show -128 ≤ u0 ∧ u0 ≤ 128 by omega) (show -1073741824 ≤ m2 ∧ m2 ≤ 1073741824 by omega) rfl
  have d01 := mul_bd 137438953472 (show -1073741824 ≤ m2 ∧ m2 ≤ 1073741824 by omega) (show -128 ≤ u1 ∧ u1 ≤ 128 by omega) rfl
  have e10 := mul_bd 137438953472 (show -128 ≤ u1 ∧ u1 ≤ 128 by omega) (show -1073741824 ≤ m2 ∧ m2 ≤ 1073741824 by omega) rfl
  have d02 := mul_bd 137438953472 (show -1073741824 ≤ m2 ∧ m2 ≤ 1073741824 by omega) (show -128 ≤ u2 ∧ u2 ≤ 128 by omega) rfl
  have e20 := mul_bd 137438953472 (show -128 ≤ u2 ∧ u2 ≤ 128 by omega) (show -1073741824 ≤ m2 ∧ m2 ≤ 1073741824 by omega) rfl
  have d10 := mul_bd 137438953472 (show -1073741824 ≤ m3 ∧ m3 ≤ 1073741824 by omega) (show -128 ≤ u0 ∧ u0 ≤ 128 by omega) rfl
  have e01 := mul_bd 137438953472 (show -128 ≤ u0 ∧ u0 ≤ 128 by omega) (show -1073741824 ≤ m3 ∧ m3 ≤ 1073741824 by omega) rfl
  have d11 := mul_bd 137438953472 (show -1073741824 ≤ m3 ∧ m3 ≤ 1073741824 by omega) (show -128 ≤ u1 ∧ u1 ≤ 128 by omega) rfl
  have e11 := mul_bd 137438953472 (show -128 ≤ u1 ∧ u1 ≤ 128 by omega) (show -1073741824 ≤ m3 ∧ m3 ≤ 1073741824 by omega) rfl
  have d12 := mul_bd 137438953472 (show -1073741824 ≤ m3 ∧ m3 ≤ 1073741824 by omega) (show -128 ≤ u2 ∧ u2 ≤ 128 by omega) rfl
  have e21 := mul_bd 137438953472 (show -128 ≤ u2 ∧ u2 ≤ 128 by omega) (show -1073741824 ≤ m3 ∧ m3 ≤ 1073741824 by omega) rfl
  have d20 := mul_bd 137438953472 (show -1073741824 ≤ m4 ∧ m4 ≤ 1073741824 by omega) (show -128 ≤ u0 ∧ u0 ≤ 128 by omega) rfl
  have e02 := mul_bd 137438953472 (show -128 ≤ u0 ∧ u0 ≤ 128 by omega) (show -1073741824 ≤ m4 ∧ m4 ≤ 1073741824 by omega) rfl
  have d21 := mul_bd 137438953472 (show -1073741824 ≤ m4 ∧ m4 ≤ 1073741824 by omega) (show -128 ≤ u1 ∧ u1 ≤ 128 by omega) rfl
  have e12 := mul_bd 137438953472 (show -128 ≤ u1 ∧ u1 ≤ 128 by omega) (show -1073741824 ≤ m4 ∧ m4 ≤ 1073741824 by omega) rfl
  have d22 := mul_bd 137438953472 (show -1073741824 ≤ m4 ∧ m4 ≤ 1073741824 by omega) (show -128 ≤ u2 ∧ u2 ≤ 128 by omega) rfl
  have e22 := mul_bd 137438953472 (show -128 ≤ u2 ∧ u2 ≤ 128 by omega) (show -1073741824 ≤ m4 ∧ m4 ≤ 1073741824 by omega) rfl
  go_enter Try.func14, Try.ntmps14
  go_wp2_with (first | (go_at_call 32; refine (r4val_any _ _ _ _ _ _ _ _ _ _ _ _).mono ?_; rintro e w1 ⟨rfl, x, rfl⟩) | (go_at_call 16; refine (small_any _ _ _ _ _ (by omega)).mono ?_; rintro e w1 ⟨rfl, x, rfl⟩))
  refine wp_loop_rounds 4 ?_
  rw [rounds_succ]
  go_wp2_with fail
  refine wp_loop_rounds 4 ?_
  rw [rounds_succ]
  go_wp2_with fail
  ((first | (with_reducible refine wp_region_tail2 35 (by kernel_rfl) (by kernel_rfl) ?_) | refine wp_region_tail 35 (by kernel_rfl) (by kernel_rfl) ?_); simp only [List.take_succ_cons, List.take_zero, List.drop_succ_cons, List.drop_zero]; (repeat (go_big_quiet_step (first | fail))); refine wpQuiet_nil ?_; intro x)
  go_wp2_with fail
  rw [rounds_succ]
  go_wp2_with fail
  ((first | (with_reducible refine wp_region_tail2 35 (by kernel_rfl) (by kernel_rfl) ?_) | refine wp_region_tail 35 (by kernel_rfl) (by kernel_rfl) ?_); simp only [List.take_succ_cons, List.take_zero, List.drop_succ_cons, List.drop_zero]; (repeat (go_big_quiet_step (first | fail))); refine wpQuiet_nil ?_; intro x)
  go_wp2_with fail
  rw [rounds_succ]
  go_wp2_with fail
  ((first | (with_reducible refine wp_region_tail2 35 (by kernel_rfl) (by kernel_rfl) ?_) | refine wp_region_tail 35 (by kernel_rfl) (by kernel_rfl) ?_); simp only [List.take_succ_cons, List.take_zero, List.drop_succ_cons, List.drop_zero]; (repeat (go_big_quiet_step (first | fail))); refine wpQuiet_nil ?_; intro x)
  go_wp2_with fail
  rw [rounds_succ]
  go_wp2_with fail
  rw [rounds_succ]
  go_wp2_with fail
  refine wp_loop_rounds 3 ?_
  rw [rounds_succ]
  go_wp2_with fail
  ((first | (with_reducible refine wp_region_tail2 35 (by kernel_rfl) (by kernel_rfl) ?_) | refine wp_region_tail 35 (by kernel_rfl) (by kernel_rfl) ?_); simp only [List.take_succ_cons, List.take_zero, List.drop_succ_cons, List.drop_zero]; (repeat (go_big_quiet_step (first | fail))); refine wpQuiet_nil ?_; intro x)
  go_wp2_with fail
  rw [rounds_succ]
  go_wp2_with fail
  ((first | (with_reducible refine wp_region_tail2 35 (by kernel_rfl) (by kernel_rfl) ?_) | refine wp_region_tail 35 (by kernel_rfl) (by kernel_rfl) ?_); simp only [List.take_succ_cons, List.take_zero, List.drop_succ_cons, List.drop_zero]; (repeat (go_big_quiet_step (first | fail))); refine wpQuiet_nil ?_; intro x)
  go_wp2_with fail
  rw [rounds_succ]
  go_wp2_with fail
  rw [rounds_succ]
  go_wp2_with fail
  refine wp_loop_rounds 2 ?_
  rw [rounds_succ]
  go_wp2_with fail
  ((first | (with_reducible refine wp_region_tail2 35 (by kernel_rfl) (by kernel_rfl) ?_) | refine wp_region_tail 35 (by kernel_rfl) (by kernel_rfl) ?_); simp only [List.take_succ_cons, List.take_zero, List.drop_succ_cons, List.drop_zero]; (repeat (go_big_quiet_step (first | fail))); refine wpQuiet_nil ?_; intro x)
  go_wp2_with fail
  rw [rounds_succ]
  go_wp2_with fail
  rw [rounds_succ]
  go_wp2_with (first | (go_at_call 45; refine (r4told_any _ _ _ _ _ _ _ _ _ _ _ _).mono ?_; rintro e w1 ⟨rfl, x, rfl⟩))
  refine bodyPost_ret (by simp only [results, Try.results14]; go_simp; rfl) rfl ?_
  exact ⟨rfl, by (repeat (first | exact Kept.refl _ | assumption | refine Kept.alloc ?_ _ | refine Kept.ext ?_ _ | refine Kept.drew ?_ | refine Kept.drewN ?_ _))⟩
end Go.Proofs.Ytiedpdlbjjjpeaa
