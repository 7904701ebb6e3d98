/- Contracts: traces, orders and scaled moments, of the program and of the reference. No conditions. -/
import Derived.Test.YtiedpdlbjjjpeaaMadd
import Derived.Test.YtiedpdlbjjjpeaaArq
namespace Go.Proofs.Ytiedpdlbjjjpeaa
set_option linter.unusedVariables false
set_option linter.unusedSimpArgs false
open Go.RowKit
def traceM (m : Mo) : Int := if okM m then m.a + m.d + m.f else 0
def neutM (m : Mo) : Int := if okM m then (if m.q ≠ 0 then 0 else if m.x ≠ 0 ∨ m.y ≠ 0 ∨ m.z ≠ 0 then 1 else if m.a ≠ 0 ∨ m.b ≠ 0 ∨ m.c ≠ 0 ∨ m.d ≠ 0 ∨ m.e ≠ 0 ∨ m.f ≠ 0 then 2 else 3) else 0
def scM (m : Mo) (k : Int) : Mo := ⟨m.q, m.t, k * m.x, k * m.y, k * m.z, m.a * (k * k), m.b * (k * k), m.c * (k * k), m.d * (k * k), m.e * (k * k), m.f * (k * k)⟩
def scaleM (m : Mo) (k : Int) : MR := if okM m && frB k 1 128 then toldM (scM m k) else ⟨moZ, 1⟩
set_option maxRecDepth 100000 in
theorem mtr0_any (m0 m1 m2 m3 m4 m5 m6 m7 m8 m9 m10 : Int) (w : World) (h : (-1125899906842624 ≤ m5 ∧ m5 ≤ 1125899906842624) ∧ (-1125899906842624 ≤ m8 ∧ m8 ≤ 1125899906842624) ∧ (-1125899906842624 ≤ m10 ∧ m10 ≤ 1125899906842624)) :
    Calls Try.prog 57 #[.agg #[.int .i64 m0, .int .i64 m1, .int .i64 m2, .int .i64 m3, .int .i64 m4, .int .i64 m5, .int .i64 m6, .int .i64 m7, .int .i64 m8, .int .i64 m9, .int .i64 m10]] w fun r w' => r = .returned (.int .i64 (m5 + m8 + m10)) ∧ Kept w w' := by
  go_enter Try.func57, Try.ntmps57
  go_wp2
  go_ret
  exact ⟨rfl, by (repeat (first | exact Kept.refl _ | assumption | refine Kept.alloc ?_ _ | refine Kept.ext ?_ _ | refine Kept.drew ?_ | refine Kept.drewN ?_ _))⟩
set_option maxRecDepth 100000 in
set_option maxHeartbeats 4000000 in
theorem mtrace_any (m0 m1 m2 m3 m4 m5 m6 m7 m8 m9 m10 : Int) (w : World) :
    Calls Try.prog 26 #[.agg #[.int .i64 m0, .int .i64 m1, .int .i64 m2, .int .i64 m3, .int .i64 m4, .int .i64 m5, .int .i64 m6, .int .i64 m7, .int .i64 m8, .int .i64 m9, .int .i64 m10]] w fun r w' => r = .returned (.tuple #[.int .i64 (traceM ⟨m0, m1, m2, m3, m4, m5, m6, m7, m8, m9, m10⟩), .int .i64 (vmS ⟨m0, m1, m2, m3, m4, m5, m6, m7, m8, m9, m10⟩)]) ∧ Kept w w' := by
  cases h : okM ⟨m0, m1, m2, m3, m4, m5, m6, m7, m8, m9, m10⟩
  · have e1 := bad_of h
    have e2 : traceM ⟨m0, m1, m2, m3, m4, m5, m6, m7, m8, m9, m10⟩ = 0 := by simp [traceM, h]
    rw [e2]
    clear e2
    go_enter Try.func26, Try.ntmps26
    go_wp2_with (first | (go_at_call 31; refine (mval_any _ _ _ _ _ _ _ _ _ _ _ _).mono ?_; rintro e w1 ⟨rfl, x, rfl⟩) | (go_at_call 57; refine (mtr0_any _ _ _ _ _ _ _ _ _ _ _ _ (by omega)).mono ?_; rintro e w1 ⟨rfl, x, rfl⟩))
    go_ret2
    exact ⟨ret_int2 rfl e1.symm, by (repeat (first | exact Kept.refl _ | assumption | refine Kept.alloc ?_ _ | refine Kept.ext ?_ _ | refine Kept.drew ?_ | refine Kept.drewN ?_ _))⟩
  · have e1 := ok_of h
    obtain ⟨q1, q2, q3, q4, q5, q6, q7, q8, q9, q10, q11⟩ := okM_bd h
    simp only at q1 q2 q3 q4 q5 q6 q7 q8 q9 q10 q11
    have e2 : traceM ⟨m0, m1, m2, m3, m4, m5, m6, m7, m8, m9, m10⟩ = m5 + m8 + m10 := by simp [traceM, h]
    rw [e2]
    clear e2
    go_enter Try.func26, Try.ntmps26
    go_wp2_with (first | (go_at_call 31; refine (mval_any _ _ _ _ _ _ _ _ _ _ _ _).mono ?_; rintro e w1 ⟨rfl, x, rfl⟩) | (go_at_call 57; refine (mtr0_any _ _ _ _ _ _ _ _ _ _ _ _ (by omega)).mono ?_; rintro e w1 ⟨rfl, x, rfl⟩))
    go_ret2
    exact ⟨ret_int2 rfl e1.symm, by (repeat (first | exact Kept.refl _ | assumption | refine Kept.alloc ?_ _ | refine Kept.ext ?_ _ | refine Kept.drew ?_ | refine Kept.drewN ?_ _))⟩
set_option maxRecDepth 100000 in
set_option maxHeartbeats 4000000 in
theorem r4trace_any (m0 m1 m2 m3 m4 m5 m6 m7 m8 m9 m10 : Int) (w : World) :
    Calls Try.prog 27 #[.agg #[.int .i64 m0, .int .i64 m1, .int .i64 m2, .int .i64 m3, .int .i64 m4, .int .i64 m5, .int .i64 m6, .int .i64 m7, .int .i64 m8, .int .i64 m9, .int .i64 m10]] w fun r w' => r = .returned (.tuple #[.int .i64 (traceM ⟨m0, m1, m2, m3, m4, m5, m6, m7, m8, m9, m10⟩), .int .i64 (vmS ⟨m0, m1, m2, m3, m4, m5, m6, m7, m8, m9, m10⟩)]) ∧ Kept w w' := by
  cases h : okM ⟨m0, m1, m2, m3, m4, m5, m6, m7, m8, m9, m10⟩
  · have e1 := bad_of h
    have e2 : traceM ⟨m0, m1, m2, m3, m4, m5, m6, m7, m8, m9, m10⟩ = 0 := by simp [traceM, h]
    rw [e2]
    clear e2
    go_enter Try.func27, Try.ntmps27
    go_wp2_with (first | (go_at_call 32; refine (r4val_any _ _ _ _ _ _ _ _ _ _ _ _).mono ?_; rintro e w1 ⟨rfl, x, rfl⟩))
    go_ret2
    exact ⟨ret_int2 rfl e1.symm, by (repeat (first | exact Kept.refl _ | assumption | refine Kept.alloc ?_ _ | refine Kept.ext ?_ _ | refine Kept.drew ?_ | refine Kept.drewN ?_ _))⟩
  · have e1 := ok_of h
    obtain ⟨q1, q2, q3, q4, q5, q6, q7, q8, q9, q10, q11⟩ := okM_bd h
    simp only at q1 q2 q3 q4 q5 q6 q7 q8 q9 q10 q11
    have e2 : traceM ⟨m0, m1, m2, m3, m4, m5, m6, m7, m8, m9, m10⟩ = m5 + m8 + m10 := by simp [traceM, h]
    rw [e2]
    clear e2
    go_enter Try.func27, Try.ntmps27
    go_wp2_with (first | (go_at_call 32; refine (r4val_any _ _ _ _ _ _ _ _ _ _ _ _).mono ?_; rintro e w1 ⟨rfl, x, rfl⟩))
    go_ret2
    exact ⟨ret_int2 rfl e1.symm, by (repeat (first | exact Kept.refl _ | assumption | refine Kept.alloc ?_ _ | refine Kept.ext ?_ _ | refine Kept.drew ?_ | refine Kept.drewN ?_ _))⟩
set_option maxRecDepth 100000 in
set_option maxHeartbeats 4000000 in
theorem mneut_any (m0 m1 m2 m3 m4 m5 m6 m7 m8 m9 m10 : Int) (w : World) :
    Calls Try.prog 28 #[.agg #[.int .i64 m0, .int .i64 m1, .int .i64 m2, .int .i64 m3, .int .i64 m4, .int .i64 m5, .int .i64 m6, .int .i64 m7, .int .i64 m8, .int .i64 m9, .int .i64 m10]] w fun r w' => r = .returned (.tuple #[.int .i64 (neutM ⟨m0, m1, m2, m3, m4, m5, m6, m7, m8, m9, m10⟩), .int .i64 (vmS ⟨m0, m1, m2, m3, m4, m5, m6, m7, m8, m9, m10⟩)]) ∧ Kept w w' := by
  cases h : okM ⟨m0, m1, m2, m3, m4, m5, m6, m7, m8, m9, m10⟩
  · have e1 := bad_of h
    have e2 : neutM ⟨m0, m1, m2, m3, m4, m5, m6, m7, m8, m9, m10⟩ = 0 := by simp [neutM, h]
    rw [e2]
    clear e2
    go_enter Try.func28, Try.ntmps28
    go_wp2_with (first | (go_at_call 31; refine (mval_any _ _ _ _ _ _ _ _ _ _ _ _).mono ?_; rintro e w1 ⟨rfl, x, rfl⟩))
    go_ret2
    exact ⟨ret_int2 rfl e1.symm, by (repeat (first | exact Kept.refl _ | assumption | refine Kept.alloc ?_ _ | refine Kept.ext ?_ _ | refine Kept.drew ?_ | refine Kept.drewN ?_ _))⟩
  · have e1 := ok_of h
    obtain ⟨q1, q2, q3, q4, q5, q6, q7, q8, q9, q10, q11⟩ := okM_bd h
    simp only at q1 q2 q3 q4 q5 q6 q7 q8 q9 q10 q11
    have hh := Lib.hid h
    clear h q1 q2 q3 q4 q5 q6 q7 q8 q9 q10 q11
    go_enter Try.func28, Try.ntmps28
    go_wp2_with (first | (go_at_call 31; refine (mval_any _ _ _ _ _ _ _ _ _ _ _ _).mono ?_; rintro e w1 ⟨rfl, x, rfl⟩))
    all_goals
      go_ret2
      refine ⟨ret_int2 ?_ ?_, by (repeat (first | exact Kept.refl _ | assumption | refine Kept.alloc ?_ _ | refine Kept.ext ?_ _ | refine Kept.drew ?_ | refine Kept.drewN ?_ _))⟩
      · have h := hh.out
        unfold neutM
        rw [if_pos h]
        simp_all
      · simp_all
set_option maxRecDepth 100000 in
set_option maxHeartbeats 4000000 in
theorem r4neut_any (m0 m1 m2 m3 m4 m5 m6 m7 m8 m9 m10 : Int) (w : World) :
    Calls Try.prog 29 #[.agg #[.int .i64 m0, .int .i64 m1, .int .i64 m2, .int .i64 m3, .int .i64 m4, .int .i64 m5, .int .i64 m6, .int .i64 m7, .int .i64 m8, .int .i64 m9, .int .i64 m10]] w fun r w' => r = .returned (.tuple #[.int .i64 (neutM ⟨m0, m1, m2, m3, m4, m5, m6, m7, m8, m9, m10⟩), .int .i64 (vmS ⟨m0, m1, m2, m3, m4, m5, m6, m7, m8, m9, m10⟩)]) ∧ Kept w w' := by
  cases h : okM ⟨m0, m1, m2, m3, m4, m5, m6, m7, m8, m9, m10⟩
  · have e1 := bad_of h
    have e2 : neutM ⟨m0, m1, m2, m3, m4, m5, m6, m7, m8, m9, m10⟩ = 0 := by simp [neutM, h]
    rw [e2]
    clear e2
    go_enter Try.func29, Try.ntmps29
    go_wp2_with (first | (go_at_call 32; refine (r4val_any _ _ _ _ _ _ _ _ _ _ _ _).mono ?_; rintro e w1 ⟨rfl, x, rfl⟩))
    go_ret2
    exact ⟨ret_int2 rfl e1.symm, by (repeat (first | exact Kept.refl _ | assumption | refine Kept.alloc ?_ _ | refine Kept.ext ?_ _ | refine Kept.drew ?_ | refine Kept.drewN ?_ _))⟩
  · have e1 := ok_of h
    obtain ⟨q1, q2, q3, q4, q5, q6, q7, q8, q9, q10, q11⟩ := okM_bd h
    simp only at q1 q2 q3 q4 q5 q6 q7 q8 q9 q10 q11
    have hh := Lib.hid h
    clear h q1 q2 q3 q4 q5 q6 q7 q8 q9 q10 q11
    go_enter Try.func29, Try.ntmps29
    go_wp2_with (first | (go_at_call 32; refine (r4val_any _ _ _ _ _ _ _ _ _ _ _ _).mono ?_; rintro e w1 ⟨rfl, x, rfl⟩))
    all_goals
      go_ret2
      refine ⟨ret_int2 ?_ ?_, by (repeat (first | exact Kept.refl _ | assumption | refine Kept.alloc ?_ _ | refine Kept.ext ?_ _ | refine Kept.drew ?_ | refine Kept.drewN ?_ _))⟩
      · have h := hh.out
        unfold neutM
        rw [if_pos h]
        simp_all
      · simp_all
set_option maxRecDepth 100000 in
set_option maxHeartbeats 8000000 in
theorem mscale_any (m0 m1 m2 m3 m4 m5 m6 m7 m8 m9 m10 k : Int) (w : World) :
    Calls Try.prog 20 #[.agg #[.int .i64 m0, .int .i64 m1, .int .i64 m2, .int .i64 m3, .int .i64 m4, .int .i64 m5, .int .i64 m6, .int .i64 m7, .int .i64 m8, .int .i64 m9, .int .i64 m10], .int .i64 k] w fun r w' => r = .returned (.tuple #[.agg #[.int .i64 ((scaleM ⟨m0, m1, m2, m3, m4, m5, m6, m7, m8, m9, m10⟩ k).m).q, .int .i64 ((scaleM ⟨m0, m1, m2, m3, m4, m5, m6, m7, m8, m9, m10⟩ k).m).t, .int .i64 ((scaleM ⟨m0, m1, m2, m3, m4, m5, m6, m7, m8, m9, m10⟩ k).m).x, .int .i64 ((scaleM ⟨m0, m1, m2, m3, m4, m5, m6, m7, m8, m9, m10⟩ k).m).y, .int .i64 ((scaleM ⟨m0, m1, m2, m3, m4, m5, m6, m7, m8, m9, m10⟩ k).m).z, .int .i64 ((scaleM ⟨m0, m1, m2, m3, m4, m5, m6, m7, m8, m9, m10⟩ k).m).a, .int .i64 ((scaleM ⟨m0, m1, m2, m3, m4, m5, m6, m7, m8, m9, m10⟩ k).m).b, .int .i64 ((scaleM ⟨m0, m1, m2, m3, m4, m5, m6, m7, m8, m9, m10⟩ k).m).c, .int .i64 ((scaleM ⟨m0, m1, m2, m3, m4, m5, m6, m7, m8, m9, m10⟩ k).m).d, .int .i64 ((scaleM ⟨m0, m1, m2, m3, m4, m5, m6, m7, m8, m9, m10⟩ k).m).e, .int .i64 ((scaleM ⟨m0, m1, m2, m3, m4, m5, m6, m7, m8, m9, m10⟩ k).m).f], .int .i64 (scaleM ⟨m0, m1, m2, m3, m4, m5, m6, m7, m8, m9, m10⟩ k).e]) ∧ Kept w w' := by
  cases h : okM ⟨m0, m1, m2, m3, m4, m5, m6, m7, m8, m9, m10⟩
  · have e1 := bad_of h
    have e2 : scaleM ⟨m0, m1, m2, m3, m4, m5, m6, m7, m8, m9, m10⟩ k = ⟨moZ, 1⟩ := by simp [scaleM, h]
    rw [e2]
    clear e2
    go_enter Try.func20, Try.ntmps20
    go_wp2_with (first | (go_at_call 31; refine (mval_any _ _ _ _ _ _ _ _ _ _ _ _).mono ?_; rintro e w1 ⟨rfl, x, rfl⟩) | (go_at_call 44; refine (mres_any _ _ _ _ _ _ _ _ _ _ _ _).mono ?_; rintro e w1 ⟨rfl, x, rfl⟩) | (go_at_call 49; refine (mfrom_any _ _ _ _).mono ?_; rintro e w1 ⟨rfl, rfl⟩))
    refine bodyPost_ret (by simp only [results, Try.results20]; go_simp; rfl) rfl ?_
    exact ⟨rfl, by (repeat (first | exact Kept.refl _ | assumption | refine Kept.alloc ?_ _ | refine Kept.ext ?_ _ | refine Kept.drew ?_ | refine Kept.drewN ?_ _))⟩
  cases hk : frB k 1 128
  · have e1 := ok_of h
    have e2 : scaleM ⟨m0, m1, m2, m3, m4, m5, m6, m7, m8, m9, m10⟩ k = ⟨moZ, 1⟩ := by simp [scaleM, hk]
    rw [e2]
    clear e2
    go_enter Try.func20, Try.ntmps20
    go_wp2_with (first | (go_at_call 31; refine (mval_any _ _ _ _ _ _ _ _ _ _ _ _).mono ?_; rintro e w1 ⟨rfl, x, rfl⟩) | (go_at_call 49; refine (mfrom_any _ _ _ _).mono ?_; rintro e w1 ⟨rfl, rfl⟩))
    refine bodyPost_ret (by simp only [results, Try.results20]; go_simp; rfl) rfl ?_
    exact ⟨rfl, by (repeat (first | exact Kept.refl _ | assumption | refine Kept.alloc ?_ _ | refine Kept.ext ?_ _ | refine Kept.drew ?_ | refine Kept.drewN ?_ _))⟩
  have e1 := ok_of h
  have e2 : scaleM ⟨m0, m1, m2, m3, m4, m5, m6, m7, m8, m9, m10⟩ k = toldM (scM ⟨m0, m1, m2, m3, m4, m5, m6, m7, m8, m9, m10⟩ k) := by simp [scaleM, h, hk]
  rw [e2]
  clear e2
  obtain ⟨q1, q2, q3, q4, q5, q6, q7, q8, q9, q10, q11⟩ := okM_bd h
  simp only at q1 q2 q3 q4 q5 q6 q7 q8 q9 q10 q11
  obtain ⟨c1, c2⟩ := frB_true hk
  have p2 := mul_bd 137438953472 (show -128 ≤ k ∧ k ≤ 128 by omega) (show -1073741824 ≤ m2 ∧ m2 ≤ 1073741824 by omega) rfl
  have p3 := mul_bd 137438953472 (show -128 ≤ k ∧ k ≤ 128 by omega) (show -1073741824 ≤ m3 ∧ m3 ≤ 1073741824 by omega) rfl
  have p4 := mul_bd 137438953472 (show -128 ≤ k ∧ k ≤ 128 by omega) (show -1073741824 ≤ m4 ∧ m4 ≤ 1073741824 by omega) rfl
  have kk := mul_bd 16384 (show -128 ≤ k ∧ k ≤ 128 by omega) (show -128 ≤ k ∧ k ≤ 128 by omega) rfl
  have p5 := mul_bd 281474976710656 (show -17179869184 ≤ m5 ∧ m5 ≤ 17179869184 by omega) kk rfl
  have p6 := mul_bd 281474976710656 (show -17179869184 ≤ m6 ∧ m6 ≤ 17179869184 by omega) kk rfl
  have p7 := mul_bd 281474976710656 (show -17179869184 ≤ m7 ∧ m7 ≤ 17179869184 by omega) kk rfl
  have p8 := mul_bd 281474976710656 (show -17179869184 ≤ m8 ∧ m8 ≤ 17179869184 by omega) kk rfl
  have p9 := mul_bd 281474976710656 (show -17179869184 ≤ m9 ∧ m9 ≤ 17179869184 by omega) kk rfl
  have p10 := mul_bd 281474976710656 (show -17179869184 ≤ m10 ∧ m10 ≤ 17179869184 by omega) kk rfl
  go_enter Try.func20, Try.ntmps20
  go_wp2_with (first | (go_at_call 31; refine (mval_any _ _ _ _ _ _ _ _ _ _ _ _).mono ?_; rintro e w1 ⟨rfl, x, rfl⟩) | (go_at_call 44; refine (mres_any _ _ _ _ _ _ _ _ _ _ _ _).mono ?_; rintro e w1 ⟨rfl, x, rfl⟩) | (go_at_call 49; refine (mfrom_any _ _ _ _).mono ?_; rintro e w1 ⟨rfl, rfl⟩))
  refine wp_loop_rounds 7 ?_
  rw [rounds_succ]
  go_wp2_with (first | (go_at_call 31; refine (mval_any _ _ _ _ _ _ _ _ _ _ _ _).mono ?_; rintro e w1 ⟨rfl, x, rfl⟩) | (go_at_call 44; refine (mres_any _ _ _ _ _ _ _ _ _ _ _ _).mono ?_; rintro e w1 ⟨rfl, x, rfl⟩) | (go_at_call 49; refine (mfrom_any _ _ _ _).mono ?_; rintro e w1 ⟨rfl, rfl⟩))
  rw [rounds_succ]
  go_wp2_with (first | (go_at_call 31; refine (mval_any _ _ _ _ _ _ _ _ _ _ _ _).mono ?_; rintro e w1 ⟨rfl, x, rfl⟩) | (go_at_call 44; refine (mres_any _ _ _ _ _ _ _ _ _ _ _ _).mono ?_; rintro e w1 ⟨rfl, x, rfl⟩) | (go_at_call 49; refine (mfrom_any _ _ _ _).mono ?_; rintro e w1 ⟨rfl, rfl⟩))
  rw [rounds_succ]
  go_wp2_with (first | (go_at_call 31; refine (mval_any _ _ _ _ _ _ _ _ _ _ _ _).mono ?_; rintro e w1 ⟨rfl, x, rfl⟩) | (go_at_call 44; refine (mres_any _ _ _ _ _ _ _ _ _ _ _ _).mono ?_; rintro e w1 ⟨rfl, x, rfl⟩) | (go_at_call 49; refine (mfrom_any _ _ _ _).mono ?_; rintro e w1 ⟨rfl, rfl⟩))
  rw [rounds_succ]
  go_wp2_with (first | (go_at_call 31; refine (mval_any _ _ _ _ _ _ _ _ _ _ _ _).mono ?_; rintro e w1 ⟨rfl, x, rfl⟩) | (go_at_call 44; refine (mres_any _ _ _ _ _ _ _ _ _ _ _ _).mono ?_; rintro e w1 ⟨rfl, x, rfl⟩) | (go_at_call 49; refine (mfrom_any _ _ _ _).mono ?_; rintro e w1 ⟨rfl, rfl⟩))
  rw [rounds_succ]
  go_wp2_with (first | (go_at_call 31; refine (mval_any _ _ _ _ _ _ _ _ _ _ _ _).mono ?_; rintro e w1 ⟨rfl, x, rfl⟩) | (go_at_call 44; refine (mres_any _ _ _ _ _ _ _ _ _ _ _ _).mono ?_; rintro e w1 ⟨rfl, x, rfl⟩) | (go_at_call 49; refine (mfrom_any _ _ _ _).mono ?_; rintro e w1 ⟨rfl, rfl⟩))
  rw [rounds_succ]
  go_wp2_with (first | (go_at_call 31; refine (mval_any _ _ _ _ _ _ _ _ _ _ _ _).mono ?_; rintro e w1 ⟨rfl, x, rfl⟩) | (go_at_call 44; refine (mres_any _ _ _ _ _ _ _ _ _ _ _ _).mono ?_; rintro e w1 ⟨rfl, x, rfl⟩) | (go_at_call 49; refine (mfrom_any _ _ _ _).mono ?_; rintro e w1 ⟨rfl, rfl⟩))
  rw [rounds_succ]
  go_wp2_with (first | (go_at_call 31; refine (mval_any _ _ _ _ _ _ _ _ _ _ _ _).mono ?_; rintro e w1 ⟨rfl, x, rfl⟩) | (go_at_call 44; refine (mres_any _ _ _ _ _ _ _ _ _ _ _ _).mono ?_; rintro e w1 ⟨rfl, x, rfl⟩) | (go_at_call 49; refine (mfrom_any _ _ _ _).mono ?_; rintro e w1 ⟨rfl, rfl⟩))
  refine bodyPost_ret (by simp only [results, Try.results20]; go_simp; rfl) rfl ?_
  exact ⟨rfl, by (repeat (first | exact Kept.refl _ | assumption | refine Kept.alloc ?_ _ | refine Kept.ext ?_ _ | refine Kept.drew ?_ | refine Kept.drewN ?_ _))⟩
set_option maxRecDepth 100000 in
set_option maxHeartbeats 8000000 in
theorem r4scale_any (m0 m1 m2 m3 m4 m5 m6 m7 m8 m9 m10 k : Int) (w : World) :
    Calls Try.prog 30 #[.agg #[.int .i64 m0, .int .i64 m1, .int .i64 m2, .int .i64 m3, .int .i64 m4, .int .i64 m5, .int .i64 m6, .int .i64 m7, .int .i64 m8, .int .i64 m9, .int .i64 m10], .int .i64 k] w fun r w' => r = .returned (.tuple #[.agg #[.int .i64 ((scaleM ⟨m0, m1, m2, m3, m4, m5, m6, m7, m8, m9, m10⟩ k).m).q, .int .i64 ((scaleM ⟨m0, m1, m2, m3, m4, m5, m6, m7, m8, m9, m10⟩ k).m).t, .int .i64 ((scaleM ⟨m0, m1, m2, m3, m4, m5, m6, m7, m8, m9, m10⟩ k).m).x, .int .i64 ((scaleM ⟨m0, m1, m2, m3, m4, m5, m6, m7, m8, m9, m10⟩ k).m).y, .int .i64 ((scaleM ⟨m0, m1, m2, m3, m4, m5, m6, m7, m8, m9, m10⟩ k).m).z, .int .i64 ((scaleM ⟨m0, m1, m2, m3, m4, m5, m6, m7, m8, m9, m10⟩ k).m).a, .int .i64 ((scaleM ⟨m0, m1, m2, m3, m4, m5, m6, m7, m8, m9, m10⟩ k).m).b, .int .i64 ((scaleM ⟨m0, m1, m2, m3, m4, m5, m6, m7, m8, m9, m10⟩ k).m).c, .int .i64 ((scaleM ⟨m0, m1, m2, m3, m4, m5, m6, m7, m8, m9, m10⟩ k).m).d, .int .i64 ((scaleM ⟨m0, m1, m2, m3, m4, m5, m6, m7, m8, m9, m10⟩ k).m).e, .int .i64 ((scaleM ⟨m0, m1, m2, m3, m4, m5, m6, m7, m8, m9, m10⟩ k).m).f], .int .i64 (scaleM ⟨m0, m1, m2, m3, m4, m5, m6, m7, m8, m9, m10⟩ k).e]) ∧ Kept w w' := by
  cases h : okM ⟨m0, m1, m2, m3, m4, m5, m6, m7, m8, m9, m10⟩
  · have e1 := bad_of h
    have e2 : scaleM ⟨m0, m1, m2, m3, m4, m5, m6, m7, m8, m9, m10⟩ k = ⟨moZ, 1⟩ := by simp [scaleM, h]
    rw [e2]
    clear e2
    go_enter Try.func30, Try.ntmps30
    go_wp2_with (first | (go_at_call 32; refine (r4val_any _ _ _ _ _ _ _ _ _ _ _ _).mono ?_; rintro e w1 ⟨rfl, x, rfl⟩) | (go_at_call 45; refine (r4told_any _ _ _ _ _ _ _ _ _ _ _ _).mono ?_; rintro e w1 ⟨rfl, x, rfl⟩))
    refine bodyPost_ret (by simp only [results, Try.results30]; go_simp; rfl) rfl ?_
    exact ⟨rfl, by (repeat (first | exact Kept.refl _ | assumption | refine Kept.alloc ?_ _ | refine Kept.ext ?_ _ | refine Kept.drew ?_ | refine Kept.drewN ?_ _))⟩
  cases hk : frB k 1 128
  · have e1 := ok_of h
    have e2 : scaleM ⟨m0, m1, m2, m3, m4, m5, m6, m7, m8, m9, m10⟩ k = ⟨moZ, 1⟩ := by simp [scaleM, hk]
    rw [e2]
    clear e2
    rcases frB_false hk with c | c
    all_goals
      go_enter Try.func30, Try.ntmps30
      go_wp2_with (first | (go_at_call 32; refine (r4val_any _ _ _ _ _ _ _ _ _ _ _ _).mono ?_; rintro e w1 ⟨rfl, x, rfl⟩))
      refine bodyPost_ret (by simp only [results, Try.results30]; go_simp; rfl) rfl ?_
      exact ⟨rfl, by (repeat (first | exact Kept.refl _ | assumption | refine Kept.alloc ?_ _ | refine Kept.ext ?_ _ | refine Kept.drew ?_ | refine Kept.drewN ?_ _))⟩
  have e1 := ok_of h
  have e2 : scaleM ⟨m0, m1, m2, m3, m4, m5, m6, m7, m8, m9, m10⟩ k = toldM (scM ⟨m0, m1, m2, m3, m4, m5, m6, m7, m8, m9, m10⟩ k) := by simp [scaleM, h, hk]
  rw [e2]
  clear e2
  obtain ⟨q1, q2, q3, q4, q5, q6, q7, q8, q9, q10, q11⟩ := okM_bd h
  simp only at q1 q2 q3 q4 q5 q6 q7 q8 q9 q10 q11
  obtain ⟨c1, c2⟩ := frB_true hk
  have p2 := mul_bd 137438953472 (show -128 ≤ k ∧ k ≤ 128 by omega) (show -1073741824 ≤ m2 ∧ m2 ≤ 1073741824 by omega) rfl
  have p3 := mul_bd 137438953472 (show -128 ≤ k ∧ k ≤ 128 by omega) (show -1073741824 ≤ m3 ∧ m3 ≤ 1073741824 by omega) rfl
  have p4 := mul_bd 137438953472 (show -128 ≤ k ∧ k ≤ 128 by omega) (show -1073741824 ≤ m4 ∧ m4 ≤ 1073741824 by omega) rfl
  have kk := mul_bd 16384 (show -128 ≤ k ∧ k ≤ 128 by omega) (show -128 ≤ k ∧ k ≤ 128 by omega) rfl
  have p5 := mul_bd 281474976710656 (show -17179869184 ≤ m5 ∧ m5 ≤ 17179869184 by omega) kk rfl
  have p6 := mul_bd 281474976710656 (show -17179869184 ≤ m6 ∧ m6 ≤ 17179869184 by omega) kk rfl
  have p7 := mul_bd 281474976710656 (show -17179869184 ≤ m7 ∧ m7 ≤ 17179869184 by omega) kk rfl
  have p8 := mul_bd 281474976710656 (show -17179869184 ≤ m8 ∧ m8 ≤ 17179869184 by omega) kk rfl
  have p9 := mul_bd 281474976710656 (show -17179869184 ≤ m9 ∧ m9 ≤ 17179869184 by omega) kk rfl
  have p10 := mul_bd 281474976710656 (show -17179869184 ≤ m10 ∧ m10 ≤ 17179869184 by omega) kk rfl
  go_enter Try.func30, Try.ntmps30
  go_wp2_with (first | (go_at_call 32; refine (r4val_any _ _ _ _ _ _ _ _ _ _ _ _).mono ?_; rintro e w1 ⟨rfl, x, rfl⟩) | (go_at_call 45; refine (r4told_any _ _ _ _ _ _ _ _ _ _ _ _).mono ?_; rintro e w1 ⟨rfl, x, rfl⟩))
  refine wp_loop_rounds 7 ?_
  rw [rounds_succ]
  go_wp2_with (first | (go_at_call 32; refine (r4val_any _ _ _ _ _ _ _ _ _ _ _ _).mono ?_; rintro e w1 ⟨rfl, x, rfl⟩) | (go_at_call 45; refine (r4told_any _ _ _ _ _ _ _ _ _ _ _ _).mono ?_; rintro e w1 ⟨rfl, x, rfl⟩))
  rw [rounds_succ]
  go_wp2_with (first | (go_at_call 32; refine (r4val_any _ _ _ _ _ _ _ _ _ _ _ _).mono ?_; rintro e w1 ⟨rfl, x, rfl⟩) | (go_at_call 45; refine (r4told_any _ _ _ _ _ _ _ _ _ _ _ _).mono ?_; rintro e w1 ⟨rfl, x, rfl⟩))
  rw [rounds_succ]
  go_wp2_with (first | (go_at_call 32; refine (r4val_any _ _ _ _ _ _ _ _ _ _ _ _).mono ?_; rintro e w1 ⟨rfl, x, rfl⟩) | (go_at_call 45; refine (r4told_any _ _ _ _ _ _ _ _ _ _ _ _).mono ?_; rintro e w1 ⟨rfl, x, rfl⟩))
  rw [rounds_succ]
  go_wp2_with (first | (go_at_call 32; refine (r4val_any _ _ _ _ _ _ _ _ _ _ _ _).mono ?_; rintro e w1 ⟨rfl, x, rfl⟩) | (go_at_call 45; refine (r4told_any _ _ _ _ _ _ _ _ _ _ _ _).mono ?_; rintro e w1 ⟨rfl, x, rfl⟩))
  rw [rounds_succ]
  go_wp2_with (first | (go_at_call 32; refine (r4val_any _ _ _ _ _ _ _ _ _ _ _ _).mono ?_; rintro e w1 ⟨rfl, x, rfl⟩) | (go_at_call 45; refine (r4told_any _ _ _ _ _ _ _ _ _ _ _ _).mono ?_; rintro e w1 ⟨rfl, x, rfl⟩))
  rw [rounds_succ]
  go_wp2_with (first | (go_at_call 32; refine (r4val_any _ _ _ _ _ _ _ _ _ _ _ _).mono ?_; rintro e w1 ⟨rfl, x, rfl⟩) | (go_at_call 45; refine (r4told_any _ _ _ _ _ _ _ _ _ _ _ _).mono ?_; rintro e w1 ⟨rfl, x, rfl⟩))
  rw [rounds_succ]
  go_wp2_with (first | (go_at_call 32; refine (r4val_any _ _ _ _ _ _ _ _ _ _ _ _).mono ?_; rintro e w1 ⟨rfl, x, rfl⟩) | (go_at_call 45; refine (r4told_any _ _ _ _ _ _ _ _ _ _ _ _).mono ?_; rintro e w1 ⟨rfl, x, rfl⟩))
  refine bodyPost_ret (by simp only [results, Try.results30]; go_simp; rfl) rfl ?_
  exact ⟨rfl, by (repeat (first | exact Kept.refl _ | assumption | refine Kept.alloc ?_ _ | refine Kept.ext ?_ _ | refine Kept.drew ?_ | refine Kept.drewN ?_ _))⟩
end Go.Proofs.Ytiedpdlbjjjpeaa
