/- Contracts: sums of moments, of the program and of the reference. No conditions. -/
import Derived.Test.YtiedpdlbjjjpeaaMr
namespace Go.Proofs.Ytiedpdlbjjjpeaa
set_option linter.unusedVariables false
set_option linter.unusedSimpArgs false
open Go.RowKit
set_option maxRecDepth 100000 in
set_option maxHeartbeats 4000000 in
theorem r4plus6_any (a0 a1 a2 a3 a4 a5 b0 b1 b2 b3 b4 b5 : Int) (w : World) (h : (-1099511627776 ≤ a0 ∧ a0 ≤ 1099511627776) ∧ (-1099511627776 ≤ a1 ∧ a1 ≤ 1099511627776) ∧ (-1099511627776 ≤ a2 ∧ a2 ≤ 1099511627776) ∧ (-1099511627776 ≤ a3 ∧ a3 ≤ 1099511627776) ∧ (-1099511627776 ≤ a4 ∧ a4 ≤ 1099511627776) ∧ (-1099511627776 ≤ a5 ∧ a5 ≤ 1099511627776) ∧ (-1099511627776 ≤ b0 ∧ b0 ≤ 1099511627776) ∧ (-1099511627776 ≤ b1 ∧ b1 ≤ 1099511627776) ∧ (-1099511627776 ≤ b2 ∧ b2 ≤ 1099511627776) ∧ (-1099511627776 ≤ b3 ∧ b3 ≤ 1099511627776) ∧ (-1099511627776 ≤ b4 ∧ b4 ≤ 1099511627776) ∧ (-1099511627776 ≤ b5 ∧ b5 ≤ 1099511627776)) :
    Calls Try.prog 52 #[.agg #[.int .i64 a0, .int .i64 a1, .int .i64 a2, .int .i64 a3, .int .i64 a4, .int .i64 a5], .agg #[.int .i64 b0, .int .i64 b1, .int .i64 b2, .int .i64 b3, .int .i64 b4, .int .i64 b5]] w fun r w' => r = .returned (.agg #[.int .i64 (a0 + b0), .int .i64 (a1 + b1), .int .i64 (a2 + b2), .int .i64 (a3 + b3), .int .i64 (a4 + b4), .int .i64 (a5 + b5)]) ∧ Kept w w' := by
  go_enter Try.func52, Try.ntmps52
  go_wp2
  refine wp_loop_rounds 7 ?_
  rw [rounds_succ]
  go_wp2_with fail
  ((first | (with_reducible refine wp_region_tail2 8 (by kernel_rfl) (by kernel_rfl) ?_) | refine wp_region_tail 8 (by kernel_rfl) (by kernel_rfl) ?_); simp only [List.take_succ_cons, List.take_zero, List.drop_succ_cons, List.drop_zero]; (repeat (go_big_quiet_step (first | fail))); refine wpQuiet_nil ?_; intro x)
  go_wp2_with fail
  rw [rounds_succ]
  go_wp2_with fail
  ((first | (with_reducible refine wp_region_tail2 8 (by kernel_rfl) (by kernel_rfl) ?_) | refine wp_region_tail 8 (by kernel_rfl) (by kernel_rfl) ?_); simp only [List.take_succ_cons, List.take_zero, List.drop_succ_cons, List.drop_zero]; (repeat (go_big_quiet_step (first | fail))); refine wpQuiet_nil ?_; intro x)
  go_wp2_with fail
  rw [rounds_succ]
  go_wp2_with fail
  ((first | (with_reducible refine wp_region_tail2 8 (by kernel_rfl) (by kernel_rfl) ?_) | refine wp_region_tail 8 (by kernel_rfl) (by kernel_rfl) ?_); simp only [List.take_succ_cons, List.take_zero, List.drop_succ_cons, List.drop_zero]; (repeat (go_big_quiet_step (first | fail))); refine wpQuiet_nil ?_; intro x)
  go_wp2_with fail
  rw [rounds_succ]
  go_wp2_with fail
  ((first | (with_reducible refine wp_region_tail2 8 (by kernel_rfl) (by kernel_rfl) ?_) | refine wp_region_tail 8 (by kernel_rfl) (by kernel_rfl) ?_); simp only [List.take_succ_cons, List.take_zero, List.drop_succ_cons, List.drop_zero]; (repeat (go_big_quiet_step (first | fail))); refine wpQuiet_nil ?_; intro x)
  go_wp2_with fail
  rw [rounds_succ]
  go_wp2_with fail
  ((first | (with_reducible refine wp_region_tail2 8 (by kernel_rfl) (by kernel_rfl) ?_) | refine wp_region_tail 8 (by kernel_rfl) (by kernel_rfl) ?_); simp only [List.take_succ_cons, List.take_zero, List.drop_succ_cons, List.drop_zero]; (repeat (go_big_quiet_step (first | fail))); refine wpQuiet_nil ?_; intro x)
  go_wp2_with fail
  rw [rounds_succ]
  go_wp2_with fail
  ((first | (with_reducible refine wp_region_tail2 8 (by kernel_rfl) (by kernel_rfl) ?_) | refine wp_region_tail 8 (by kernel_rfl) (by kernel_rfl) ?_); simp only [List.take_succ_cons, List.take_zero, List.drop_succ_cons, List.drop_zero]; (repeat (go_big_quiet_step (first | fail))); refine wpQuiet_nil ?_; intro x)
  go_wp2_with fail
  rw [rounds_succ]
  go_wp2_with fail
  refine bodyPost_ret (by simp only [results, Try.results52]; go_simp; rfl) rfl ?_
  exact ⟨rfl, by (repeat (first | exact Kept.refl _ | assumption | refine Kept.alloc ?_ _ | refine Kept.ext ?_ _ | refine Kept.drew ?_ | refine Kept.drewN ?_ _))⟩
def sumM (a b : Mo) : Mo := ⟨a.q + b.q, a.t + b.t, a.x + b.x, a.y + b.y, a.z + b.z, a.a + b.a, a.b + b.b, a.c + b.c, a.d + b.d, a.e + b.e, a.f + b.f⟩
def addM (a b : Mo) : MR := if okM a && okM b then toldM (sumM a b) else ⟨moZ, 1⟩
theorem ok_of {m : Mo} (h : okM m = true) : vmS m = 0 := by simp [vmS, h]
theorem bad_of {m : Mo} (h : okM m = false) : vmS m = 1 := by simp [vmS, h]
set_option maxRecDepth 100000 in
set_option maxHeartbeats 8000000 in
theorem madd_any (m0 m1 m2 m3 m4 m5 m6 m7 m8 m9 m10 n0 n1 n2 n3 n4 n5 n6 n7 n8 n9 n10 : Int) (w : World) :
    Calls Try.prog 24 #[.agg #[.int .i64 m0, .int .i64 m1, .int .i64 m2, .int .i64 m3, .int .i64 m4, .int .i64 m5, .int .i64 m6, .int .i64 m7, .int .i64 m8, .int .i64 m9, .int .i64 m10], .agg #[.int .i64 n0, .int .i64 n1, .int .i64 n2, .int .i64 n3, .int .i64 n4, .int .i64 n5, .int .i64 n6, .int .i64 n7, .int .i64 n8, .int .i64 n9, .int .i64 n10]] w fun r w' => r = .returned (.tuple #[.agg #[.int .i64 ((addM ⟨m0, m1, m2, m3, m4, m5, m6, m7, m8, m9, m10⟩ ⟨n0, n1, n2, n3, n4, n5, n6, n7, n8, n9, n10⟩).m).q, .int .i64 ((addM ⟨m0, m1, m2, m3, m4, m5, m6, m7, m8, m9, m10⟩ ⟨n0, n1, n2, n3, n4, n5, n6, n7, n8, n9, n10⟩).m).t, .int .i64 ((addM ⟨m0, m1, m2, m3, m4, m5, m6, m7, m8, m9, m10⟩ ⟨n0, n1, n2, n3, n4, n5, n6, n7, n8, n9, n10⟩).m).x, .int .i64 ((addM ⟨m0, m1, m2, m3, m4, m5, m6, m7, m8, m9, m10⟩ ⟨n0, n1, n2, n3, n4, n5, n6, n7, n8, n9, n10⟩).m).y, .int .i64 ((addM ⟨m0, m1, m2, m3, m4, m5, m6, m7, m8, m9, m10⟩ ⟨n0, n1, n2, n3, n4, n5, n6, n7, n8, n9, n10⟩).m).z, .int .i64 ((addM ⟨m0, m1, m2, m3, m4, m5, m6, m7, m8, m9, m10⟩ ⟨n0, n1, n2, n3, n4, n5, n6, n7, n8, n9, n10⟩).m).a, .int .i64 ((addM ⟨m0, m1, m2, m3, m4, m5, m6, m7, m8, m9, m10⟩ ⟨n0, n1, n2, n3, n4, n5, n6, n7, n8, n9, n10⟩).m).b, .int .i64 ((addM ⟨m0, m1, m2, m3, m4, m5, m6, m7, m8, m9, m10⟩ ⟨n0, n1, n2, n3, n4, n5, n6, n7, n8, n9, n10⟩).m).c, .int .i64 ((addM ⟨m0, m1, m2, m3, m4, m5, m6, m7, m8, m9, m10⟩ ⟨n0, n1, n2, n3, n4, n5, n6, n7, n8, n9, n10⟩).m).d, .int .i64 ((addM ⟨m0, m1, m2, m3, m4, m5, m6, m7, m8, m9, m10⟩ ⟨n0, n1, n2, n3, n4, n5, n6, n7, n8, n9, n10⟩).m).e, .int .i64 ((addM ⟨m0, m1, m2, m3, m4, m5, m6, m7, m8, m9, m10⟩ ⟨n0, n1, n2, n3, n4, n5, n6, n7, n8, n9, n10⟩).m).f], .int .i64 (addM ⟨m0, m1, m2, m3, m4, m5, m6, m7, m8, m9, m10⟩ ⟨n0, n1, n2, n3, n4, n5, n6, n7, n8, n9, n10⟩).e]) ∧ Kept w w' := by
  cases h : okM ⟨m0, m1, m2, m3, m4, m5, m6, m7, m8, m9, m10⟩
  · have e1 := bad_of h
    have e2 : addM ⟨m0, m1, m2, m3, m4, m5, m6, m7, m8, m9, m10⟩ ⟨n0, n1, n2, n3, n4, n5, n6, n7, n8, n9, n10⟩ = ⟨moZ, 1⟩ := by simp [addM, h]
    rw [e2]
    clear e2
    go_enter Try.func24, Try.ntmps24
    go_wp2_with (first | (go_at_call 31; refine (mval_any _ _ _ _ _ _ _ _ _ _ _ _).mono ?_; rintro e w1 ⟨rfl, x, rfl⟩) | (go_at_call 44; refine (mres_any _ _ _ _ _ _ _ _ _ _ _ _).mono ?_; rintro e w1 ⟨rfl, x, rfl⟩))
    refine bodyPost_ret (by simp only [results, Try.results24]; go_simp; rfl) rfl ?_
    exact ⟨rfl, by (repeat (first | exact Kept.refl _ | assumption | refine Kept.alloc ?_ _ | refine Kept.ext ?_ _ | refine Kept.drew ?_ | refine Kept.drewN ?_ _))⟩
  cases k : okM ⟨n0, n1, n2, n3, n4, n5, n6, n7, n8, n9, n10⟩
  · have e1 := ok_of h
    have e3 := bad_of k
    have e2 : addM ⟨m0, m1, m2, m3, m4, m5, m6, m7, m8, m9, m10⟩ ⟨n0, n1, n2, n3, n4, n5, n6, n7, n8, n9, n10⟩ = ⟨moZ, 1⟩ := by simp [addM, k]
    rw [e2]
    clear e2
    go_enter Try.func24, Try.ntmps24
    go_wp2_with (first | (go_at_call 31; refine (mval_any _ _ _ _ _ _ _ _ _ _ _ _).mono ?_; rintro e w1 ⟨rfl, x, rfl⟩) | (go_at_call 44; refine (mres_any _ _ _ _ _ _ _ _ _ _ _ _).mono ?_; rintro e w1 ⟨rfl, x, rfl⟩))
    refine bodyPost_ret (by simp only [results, Try.results24]; go_simp; rfl) rfl ?_
    exact ⟨rfl, by (repeat (first | exact Kept.refl _ | assumption | refine Kept.alloc ?_ _ | refine Kept.ext ?_ _ | refine Kept.drew ?_ | refine Kept.drewN ?_ _))⟩
  · have e1 := ok_of h
    have e3 := ok_of k
    have e2 : addM ⟨m0, m1, m2, m3, m4, m5, m6, m7, m8, m9, m10⟩ ⟨n0, n1, n2, n3, n4, n5, n6, n7, n8, n9, n10⟩ = toldM (sumM ⟨m0, m1, m2, m3, m4, m5, m6, m7, m8, m9, m10⟩ ⟨n0, n1, n2, n3, n4, n5, n6, n7, n8, n9, n10⟩) := by simp [addM, h, k]
    rw [e2]
    clear e2
    obtain ⟨q1, q2, q3, q4, q5, q6, q7, q8, q9, q10, q11⟩ := okM_bd h
    obtain ⟨u1, u2, u3, u4, u5, u6, u7, u8, u9, u10, u11⟩ := okM_bd k
    simp only at q1 q2 q3 q4 q5 q6 q7 q8 q9 q10 q11 u1 u2 u3 u4 u5 u6 u7 u8 u9 u10 u11
    go_enter Try.func24, Try.ntmps24
    go_wp2_with (first | (go_at_call 31; refine (mval_any _ _ _ _ _ _ _ _ _ _ _ _).mono ?_; rintro e w1 ⟨rfl, x, rfl⟩) | (go_at_call 44; refine (mres_any _ _ _ _ _ _ _ _ _ _ _ _).mono ?_; rintro e w1 ⟨rfl, x, rfl⟩))
    refine wp_loop_rounds 7 ?_
    rw [rounds_succ]
    go_wp2_with (first | (go_at_call 31; refine (mval_any _ _ _ _ _ _ _ _ _ _ _ _).mono ?_; rintro e w1 ⟨rfl, x, rfl⟩) | (go_at_call 44; refine (mres_any _ _ _ _ _ _ _ _ _ _ _ _).mono ?_; rintro e w1 ⟨rfl, x, rfl⟩))
    rw [rounds_succ]
    go_wp2_with (first | (go_at_call 31; refine (mval_any _ _ _ _ _ _ _ _ _ _ _ _).mono ?_; rintro e w1 ⟨rfl, x, rfl⟩) | (go_at_call 44; refine (mres_any _ _ _ _ _ _ _ _ _ _ _ _).mono ?_; rintro e w1 ⟨rfl, x, rfl⟩))
    rw [rounds_succ]
    go_wp2_with (first | (go_at_call 31; refine (mval_any _ _ _ _ _ _ _ _ _ _ _ _).mono ?_; rintro e w1 ⟨rfl, x, rfl⟩) | (go_at_call 44; refine (mres_any _ _ _ _ _ _ _ _ _ _ _ _).mono ?_; rintro e w1 ⟨rfl, x, rfl⟩))
    rw [rounds_succ]
    go_wp2_with (first | (go_at_call 31; refine (mval_any _ _ _ _ _ _ _ _ _ _ _ _).mono ?_; rintro e w1 ⟨rfl, x, rfl⟩) | (go_at_call 44; refine (mres_any _ _ _ _ _ _ _ _ _ _ _ _).mono ?_; rintro e w1 ⟨rfl, x, rfl⟩))
    rw [rounds_succ]
    go_wp2_with (first | (go_at_call 31; refine (mval_any _ _ _ _ _ _ _ _ _ _ _ _).mono ?_; rintro e w1 ⟨rfl, x, rfl⟩) | (go_at_call 44; refine (mres_any _ _ _ _ _ _ _ _ _ _ _ _).mono ?_; rintro e w1 ⟨rfl, x, rfl⟩))
    rw [rounds_succ]
    go_wp2_with (first | (go_at_call 31; refine (mval_any _ _ _ _ _ _ _ _ _ _ _ _).mono ?_; rintro e w1 ⟨rfl, x, rfl⟩) | (go_at_call 44; refine (mres_any _ _ _ _ _ _ _ _ _ _ _ _).mono ?_; rintro e w1 ⟨rfl, x, rfl⟩))
    rw [rounds_succ]
    go_wp2_with (first | (go_at_call 31; refine (mval_any _ _ _ _ _ _ _ _ _ _ _ _).mono ?_; rintro e w1 ⟨rfl, x, rfl⟩) | (go_at_call 44; refine (mres_any _ _ _ _ _ _ _ _ _ _ _ _).mono ?_; rintro e w1 ⟨rfl, x, rfl⟩))
    refine bodyPost_ret (by simp only [results, Try.results24]; go_simp; rfl) rfl ?_
    exact ⟨rfl, by (repeat (first | exact Kept.refl _ | assumption | refine Kept.alloc ?_ _ | refine Kept.ext ?_ _ | refine Kept.drew ?_ | refine Kept.drewN ?_ _))⟩
set_option maxRecDepth 100000 in
set_option maxHeartbeats 8000000 in
theorem r4add_any (m0 m1 m2 m3 m4 m5 m6 m7 m8 m9 m10 n0 n1 n2 n3 n4 n5 n6 n7 n8 n9 n10 : Int) (w : World) :
    Calls Try.prog 25 #[.agg #[.int .i64 m0, .int .i64 m1, .int .i64 m2, .int .i64 m3, .int .i64 m4, .int .i64 m5, .int .i64 m6, .int .i64 m7, .int .i64 m8, .int .i64 m9, .int .i64 m10], .agg #[.int .i64 n0, .int .i64 n1, .int .i64 n2, .int .i64 n3, .int .i64 n4, .int .i64 n5, .int .i64 n6, .int .i64 n7, .int .i64 n8, .int .i64 n9, .int .i64 n10]] w fun r w' => r = .returned (.tuple #[.agg #[.int .i64 ((addM ⟨m0, m1, m2, m3, m4, m5, m6, m7, m8, m9, m10⟩ ⟨n0, n1, n2, n3, n4, n5, n6, n7, n8, n9, n10⟩).m).q, .int .i64 ((addM ⟨m0, m1, m2, m3, m4, m5, m6, m7, m8, m9, m10⟩ ⟨n0, n1, n2, n3, n4, n5, n6, n7, n8, n9, n10⟩).m).t, .int .i64 ((addM ⟨m0, m1, m2, m3, m4, m5, m6, m7, m8, m9, m10⟩ ⟨n0, n1, n2, n3, n4, n5, n6, n7, n8, n9, n10⟩).m).x, .int .i64 ((addM ⟨m0, m1, m2, m3, m4, m5, m6, m7, m8, m9, m10⟩ ⟨n0, n1, n2, n3, n4, n5, n6, n7, n8, n9, n10⟩).m).y, .int .i64 ((addM ⟨m0, m1, m2, m3, m4, m5, m6, m7, m8, m9, m10⟩ ⟨n0, n1, n2, n3, n4, n5, n6, n7, n8, n9, n10⟩).m).z, .int .i64 ((addM ⟨m0, m1, m2, m3, m4, m5, m6, m7, m8, m9, m10⟩ ⟨n0, n1, n2, n3, n4, n5, n6, n7, n8, n9, n10⟩).m).a, .int .i64 ((addM ⟨m0, m1, m2, m3, m4, m5, m6, m7, m8, m9, m10⟩ ⟨n0, n1, n2, n3, n4, n5, n6, n7, n8, n9, n10⟩).m).b, .int .i64 ((addM ⟨m0, m1, m2, m3, m4, m5, m6, m7, m8, m9, m10⟩ ⟨n0, n1, n2, n3, n4, n5, n6, n7, n8, n9, n10⟩).m).c, .int .i64 ((addM ⟨m0, m1, m2, m3, m4, m5, m6, m7, m8, m9, m10⟩ ⟨n0, n1, n2, n3, n4, n5, n6, n7, n8, n9, n10⟩).m).d, .int .i64 ((addM ⟨m0, m1, m2, m3, m4, m5, m6, m7, m8, m9, m10⟩ ⟨n0, n1, n2, n3, n4, n5, n6, n7, n8, n9, n10⟩).m).e, .int .i64 ((addM ⟨m0, m1, m2, m3, m4, m5, m6, m7, m8, m9, m10⟩ ⟨n0, n1, n2, n3, n4, n5, n6, n7, n8, n9, n10⟩).m).f], .int .i64 (addM ⟨m0, m1, m2, m3, m4, m5, m6, m7, m8, m9, m10⟩ ⟨n0, n1, n2, n3, n4, n5, n6, n7, n8, n9, n10⟩).e]) ∧ Kept w w' := by
  cases h : okM ⟨m0, m1, m2, m3, m4, m5, m6, m7, m8, m9, m10⟩
  · have e1 := bad_of h
    have e2 : addM ⟨m0, m1, m2, m3, m4, m5, m6, m7, m8, m9, m10⟩ ⟨n0, n1, n2, n3, n4, n5, n6, n7, n8, n9, n10⟩ = ⟨moZ, 1⟩ := by simp [addM, h]
    rw [e2]
    clear e2
    go_enter Try.func25, Try.ntmps25
    go_wp2_with (first | (go_at_call 32; refine (r4val_any _ _ _ _ _ _ _ _ _ _ _ _).mono ?_; rintro e w1 ⟨rfl, x, rfl⟩))
    refine bodyPost_ret (by simp only [results, Try.results25]; go_simp; rfl) rfl ?_
    exact ⟨rfl, by (repeat (first | exact Kept.refl _ | assumption | refine Kept.alloc ?_ _ | refine Kept.ext ?_ _ | refine Kept.drew ?_ | refine Kept.drewN ?_ _))⟩
  cases k : okM ⟨n0, n1, n2, n3, n4, n5, n6, n7, n8, n9, n10⟩
  · have e1 := ok_of h
    have e3 := bad_of k
    have e2 : addM ⟨m0, m1, m2, m3, m4, m5, m6, m7, m8, m9, m10⟩ ⟨n0, n1, n2, n3, n4, n5, n6, n7, n8, n9, n10⟩ = ⟨moZ, 1⟩ := by simp [addM, k]
    rw [e2]
    clear e2
    go_enter Try.func25, Try.ntmps25
    go_wp2_with (first | (go_at_call 32; refine (r4val_any _ _ _ _ _ _ _ _ _ _ _ _).mono ?_; rintro e w1 ⟨rfl, x, rfl⟩))
    refine bodyPost_ret (by simp only [results, Try.results25]; go_simp; rfl) rfl ?_
    exact ⟨rfl, by (repeat (first | exact Kept.refl _ | assumption | refine Kept.alloc ?_ _ | refine Kept.ext ?_ _ | refine Kept.drew ?_ | refine Kept.drewN ?_ _))⟩
  · have e1 := ok_of h
    have e3 := ok_of k
    have e2 : addM ⟨m0, m1, m2, m3, m4, m5, m6, m7, m8, m9, m10⟩ ⟨n0, n1, n2, n3, n4, n5, n6, n7, n8, n9, n10⟩ = toldM (sumM ⟨m0, m1, m2, m3, m4, m5, m6, m7, m8, m9, m10⟩ ⟨n0, n1, n2, n3, n4, n5, n6, n7, n8, n9, n10⟩) := by simp [addM, h, k]
    rw [e2]
    clear e2
    obtain ⟨q1, q2, q3, q4, q5, q6, q7, q8, q9, q10, q11⟩ := okM_bd h
    obtain ⟨u1, u2, u3, u4, u5, u6, u7, u8, u9, u10, u11⟩ := okM_bd k
    simp only at q1 q2 q3 q4 q5 q6 q7 q8 q9 q10 q11 u1 u2 u3 u4 u5 u6 u7 u8 u9 u10 u11
    go_enter Try.func25, Try.ntmps25
    go_wp2_with (first | (go_at_call 32; refine (r4val_any _ _ _ _ _ _ _ _ _ _ _ _).mono ?_; rintro e w1 ⟨rfl, x, rfl⟩))
    ((first | (with_reducible refine wp_region_tail2 24 (by kernel_rfl) (by kernel_rfl) ?_) | refine wp_region_tail 24 (by kernel_rfl) (by kernel_rfl) ?_); simp only [List.take_succ_cons, List.take_zero, List.drop_succ_cons, List.drop_zero]; (repeat (go_big_quiet_step (first | (go_at_call 18; exact Calls.kept_of (r4plus_any _ _ _ _ _ _ _ (by omega))) | (go_at_call 52; exact Calls.kept_of (r4plus6_any _ _ _ _ _ _ _ _ _ _ _ _ _ (by omega))) | (go_at_call 45; exact Calls.kept_of (r4told_any _ _ _ _ _ _ _ _ _ _ _ _))))); refine wpQuiet_nil ?_; intro x)
    go_wp2
    refine bodyPost_ret (by simp only [results, Try.results25]; go_simp; rfl) rfl ?_
    exact ⟨rfl, by (repeat (first | exact Kept.refl _ | assumption | refine Kept.alloc ?_ _ | refine Kept.ext ?_ _ | refine Kept.drew ?_ | refine Kept.drewN ?_ _))⟩
end Go.Proofs.Ytiedpdlbjjjpeaa
