/- Contracts: terms of far fields, of the program. Conditions: those of each theorem. Contracts: terms of far fields, of the program. Conditions: those of each theorem. -/
import Derived.Test.YtldchncnadllpaaMt
import Derived.Test.YtldchncnadllpaaMqc
import Derived.Test.YtldchncnadllpaaMsh
namespace Go.Proofs.Ytldchncnadllpaa
set_option linter.unusedVariables false
set_option linter.unusedSimpArgs false
open Go.ChangeShapes Go.WideShapes Go.ChangeAt Go.RowKit
theorem mquoOk_any (num den : Int) (w : World) (hn : -4611686018427387904 ≤ num ∧ num ≤ 4611686018427387904) (hd : 1 ≤ den ∧ den ≤ 4611686018427387904) (h : (qmS num den).e = 0) :
    Calls Try.prog 65 #[.int .i64 num, .int .i64 den] w fun e w' => e = .returned (.tuple #[.agg #[.int .i64 (qmS num den).lo, .int .i64 (qmS num den).hi], .bool true]) ∧ Kept w w' := by
  obtain ⟨d, rfl⟩ := Int.eq_ofNat_of_zero_le (show 0 ≤ den by omega)
  refine (mquo_any num d w hn (by omega)).mono ?_
  rintro e w' ⟨x, y, b, rfl, h1, h2⟩
  rcases h2 with ⟨rfl, h2⟩ | ⟨rfl, h2⟩
  · rw [h2]; exact ⟨rfl, h1⟩
  · rw [h2] at h; cases h
theorem mquoNo_any (num den : Int) (w : World) (hn : -4611686018427387904 ≤ num ∧ num ≤ 4611686018427387904) (hd : 1 ≤ den ∧ den ≤ 4611686018427387904) (h : ¬ (qmS num den).e = 0) :
    Calls Try.prog 65 #[.int .i64 num, .int .i64 den] w fun e w' => ∃ x y, e = .returned (.tuple #[.agg #[.int .i64 x, .int .i64 y], .bool false]) ∧ Kept w w' := by
  obtain ⟨d, rfl⟩ := Int.eq_ofNat_of_zero_le (show 0 ≤ den by omega)
  refine (mquo_any num d w hn (by omega)).mono ?_
  rintro e w' ⟨x, y, b, rfl, h1, h2⟩
  rcases h2 with ⟨rfl, h2⟩ | ⟨rfl, h2⟩
  · exact absurd (by rw [h2]) h
  · exact ⟨x, y, rfl, h1⟩
set_option maxRecDepth 100000 in
set_option maxHeartbeats 4000000 in
theorem mover_any (num den n : Int) (w : World) (hn : -4611686018427387904 ≤ num ∧ num ≤ 4611686018427387904) (hd : 1 ≤ den ∧ den ≤ 4611686018427387904) (hN : 1 ≤ n ∧ n ≤ 1048576) :
    Calls Try.prog 36 #[.int .i64 num, .int .i64 den, .int .i64 n] w fun e w' => e = .returned (.tuple #[.agg #[.int .i64 (overS num den n).lo, .int .i64 (overS num den n).hi], .int .i64 (overS num den n).e]) ∧ Kept w w' := by
  have hi : ∀ w, Calls Try.prog 34 #[.int .i64 n, .int .i64 1] w fun e w' => e = .returned (.tuple #[.agg #[.int .i64 (inverseS n 1).lo, .int .i64 (inverseS n 1).hi], .int .i64 0]) ∧ Kept w w' := fun w => by
    have := spanInv_any n 1 w
    rwa [inv1_ok hN] at this
  by_cases hq : (qmS num den).e = 0
  · rw [show overS num den n = mulS (qmS num den).lo (qmS num den).hi (inverseS n 1).lo (inverseS n 1).hi from if_pos hq]
    have hqc : ∀ w, _ := fun w => mquoOk_any num den w hn hd hq
    obtain ⟨x, hx⟩ : ∃ x, (qmS num den).lo = x := ⟨_, rfl⟩
    obtain ⟨y, hy⟩ : ∃ x, (qmS num den).hi = x := ⟨_, rfl⟩
    obtain ⟨z, hz⟩ : ∃ x, (inverseS n 1).lo = x := ⟨_, rfl⟩
    obtain ⟨u, hu⟩ : ∃ x, (inverseS n 1).hi = x := ⟨_, rfl⟩
    rw [hx, hy] at hqc ⊢
    rw [hz, hu] at hi ⊢
    have HQ := Lib.hid hqc
    have HI := Lib.hid hi
    clear hq hqc hi hx hy hz hu hn hd hN
    go_enter Try.func36, Try.ntmps36
    go_wp2_with (first | (go_at_call 65; refine (HQ.out _).mono ?_; rintro e w1 ⟨rfl, x1, rfl⟩) | (go_at_call 34; refine (HI.out _).mono ?_; rintro e w1 ⟨rfl, x2, rfl⟩) | (go_at_call 66; refine (mul_any _ _ _ _ _).mono ?_; rintro e w1 ⟨rfl, x3, rfl⟩))
    refine bodyPost_ret (by simp only [results, Try.results36]; go_simp; rfl) rfl ?_
    exact ⟨rfl, by (repeat (first | exact Kept.refl _ | assumption | refine Kept.alloc ?_ _ | refine Kept.ext ?_ _ | refine Kept.drew ?_ | refine Kept.drewN ?_ _))⟩
  · rw [show overS num den n = ⟨0, 0, 4⟩ from if_neg hq]
    have hqc : ∀ w, _ := fun w => mquoNo_any num den w hn hd hq
    have HQ := Lib.hid hqc
    clear hq hqc hi hn hd hN
    go_enter Try.func36, Try.ntmps36
    go_wp2_with (go_at_call 65; refine (HQ.out _).mono ?_; rintro e w1 ⟨x, y, rfl, x1, rfl⟩)
    refine bodyPost_ret (by simp only [results, Try.results36]; go_simp; rfl) rfl ?_
    exact ⟨rfl, by (repeat (first | exact Kept.refl _ | assumption | refine Kept.alloc ?_ _ | refine Kept.ext ?_ _ | refine Kept.drew ?_ | refine Kept.drewN ?_ _))⟩
theorem mdotw_any (a0 a1 a2 b0 b1 b2 : Int) (w : World) (h : (-1073741824 ≤ a0 ∧ a0 ≤ 1073741824) ∧ (-1073741824 ≤ a1 ∧ a1 ≤ 1073741824) ∧ (-1073741824 ≤ a2 ∧ a2 ≤ 1073741824) ∧ (-1048576 ≤ b0 ∧ b0 ≤ 1048576) ∧ (-1048576 ≤ b1 ∧ b1 ≤ 1048576) ∧ (-1048576 ≤ b2 ∧ b2 ≤ 1048576)) :
    Calls Try.prog 33 #[.agg #[.int .i64 a0, .int .i64 a1, .int .i64 a2], .agg #[.int .i64 b0, .int .i64 b1, .int .i64 b2]] w fun e w' => e = .returned (.int .i64 (a0 * b0 + a1 * b1 + a2 * b2)) ∧ Kept w w' := by
  obtain ⟨x0, x1, x2, y0, y1, y2⟩ := h
  have m0 := mul_bd 1125899906842624 x0 y0 rfl
  have m1 := mul_bd 1125899906842624 x1 y1 rfl
  have m2 := mul_bd 1125899906842624 x2 y2 rfl
  go_enter Try.func33, Try.ntmps33
  go_wp2_with fail
  go_ret
  exact ⟨rfl, by (repeat (first | exact Kept.refl _ | assumption | refine Kept.alloc ?_ _ | refine Kept.ext ?_ _ | refine Kept.drew ?_ | refine Kept.drewN ?_ _))⟩
set_option maxRecDepth 100000 in
set_option maxHeartbeats 8000000 in
theorem mtwice_any (m0 m1 m2 m3 m4 m5 m6 m7 m8 m9 m10 u0 u1 u2 : Int) (w : World) (h : okM ⟨m0, m1, m2, m3, m4, m5, m6, m7, m8, m9, m10⟩ = true) (k : inB u0 u1 u2 384 = true) :
    Calls Try.prog 37 #[.agg #[.int .i64 m0, .int .i64 m1, .int .i64 m2, .int .i64 m3, .int .i64 m4, .int .i64 m5, .int .i64 m6, .int .i64 m7, .int .i64 m8, .int .i64 m9, .int .i64 m10], .agg #[.int .i64 u0, .int .i64 u1, .int .i64 u2]] w fun e w' => e = .returned (.int .i64 (twS m5 m6 m7 m8 m9 m10 u0 u1 u2)) ∧ Kept w w' := by
  obtain ⟨q1, q2, q3, q4, q5, q6, q7, q8, q9, q10, q11⟩ := okM_bd h
  simp only at q1 q2 q3 q4 q5 q6 q7 q8 q9 q10 q11
  obtain ⟨c1, c2, c3, c4, c5, c6⟩ := inB_true k
  have a0 := mul_bd 6597069766656 (show -384 ≤ u0 ∧ u0 ≤ 384 by omega) (show -17179869184 ≤ m5 ∧ m5 ≤ 17179869184 by omega) rfl
  have a1 := mul_bd 6597069766656 (show -384 ≤ u0 ∧ u0 ≤ 384 by omega) (show -17179869184 ≤ m6 ∧ m6 ≤ 17179869184 by omega) rfl
  have a2 := mul_bd 6597069766656 (show -384 ≤ u0 ∧ u0 ≤ 384 by omega) (show -17179869184 ≤ m7 ∧ m7 ≤ 17179869184 by omega) rfl
  have a3 := mul_bd 6597069766656 (show -384 ≤ u1 ∧ u1 ≤ 384 by omega) (show -17179869184 ≤ m8 ∧ m8 ≤ 17179869184 by omega) rfl
  have a4 := mul_bd 6597069766656 (show -384 ≤ u1 ∧ u1 ≤ 384 by omega) (show -17179869184 ≤ m9 ∧ m9 ≤ 17179869184 by omega) rfl
  have a5 := mul_bd 6597069766656 (show -384 ≤ u2 ∧ u2 ≤ 384 by omega) (show -17179869184 ≤ m10 ∧ m10 ≤ 17179869184 by omega) rfl
  have b0 := mul_bd 2533274790395904 a0 (show -384 ≤ u0 ∧ u0 ≤ 384 by omega) rfl
  have b1 := mul_bd 2533274790395904 a1 (show -384 ≤ u1 ∧ u1 ≤ 384 by omega) rfl
  have b2 := mul_bd 2533274790395904 a2 (show -384 ≤ u2 ∧ u2 ≤ 384 by omega) rfl
  have b3 := mul_bd 2533274790395904 a3 (show -384 ≤ u1 ∧ u1 ≤ 384 by omega) rfl
  have b4 := mul_bd 2533274790395904 a4 (show -384 ≤ u2 ∧ u2 ≤ 384 by omega) rfl
  have b5 := mul_bd 2533274790395904 a5 (show -384 ≤ u2 ∧ u2 ≤ 384 by omega) rfl
  clear h k
  go_enter Try.func37, Try.ntmps37
  go_wp2_with (first | (go_at_call 52; refine (coord_any _ _ _ _).mono ?_; rintro e w1 ⟨rfl, x, rfl⟩) | (go_at_call 53; refine (pairs_any _).mono ?_; rintro e w1 ⟨rfl, x, rfl⟩))
  refine wp_loop_rounds 7 ?_
  rw [rounds_succ]
  go_wp2_with fail
  ((first | (with_reducible refine wp_region_kept2 (by kernel_rfl) (by kernel_rfl) ?_) | refine wp_region_kept (by kernel_rfl) (by kernel_rfl) ?_); (repeat (go_big_quiet_step (first | fail))); refine wpQuiet_nil ?_; intro x)
  go_wp2_with fail
  rw [rounds_succ]
  go_wp2_with fail
  ((first | (with_reducible refine wp_region_kept2 (by kernel_rfl) (by kernel_rfl) ?_) | refine wp_region_kept (by kernel_rfl) (by kernel_rfl) ?_); (repeat (go_big_quiet_step (first | fail))); refine wpQuiet_nil ?_; intro x)
  go_wp2_with fail
  rw [rounds_succ]
  go_wp2_with fail
  ((first | (with_reducible refine wp_region_kept2 (by kernel_rfl) (by kernel_rfl) ?_) | refine wp_region_kept (by kernel_rfl) (by kernel_rfl) ?_); (repeat (go_big_quiet_step (first | fail))); refine wpQuiet_nil ?_; intro x)
  go_wp2_with fail
  rw [rounds_succ]
  go_wp2_with fail
  ((first | (with_reducible refine wp_region_kept2 (by kernel_rfl) (by kernel_rfl) ?_) | refine wp_region_kept (by kernel_rfl) (by kernel_rfl) ?_); (repeat (go_big_quiet_step (first | fail))); refine wpQuiet_nil ?_; intro x)
  go_wp2_with fail
  rw [rounds_succ]
  go_wp2_with fail
  ((first | (with_reducible refine wp_region_kept2 (by kernel_rfl) (by kernel_rfl) ?_) | refine wp_region_kept (by kernel_rfl) (by kernel_rfl) ?_); (repeat (go_big_quiet_step (first | fail))); refine wpQuiet_nil ?_; intro x)
  go_wp2_with fail
  rw [rounds_succ]
  go_wp2_with fail
  ((first | (with_reducible refine wp_region_kept2 (by kernel_rfl) (by kernel_rfl) ?_) | refine wp_region_kept (by kernel_rfl) (by kernel_rfl) ?_); (repeat (go_big_quiet_step (first | fail))); refine wpQuiet_nil ?_; intro x)
  go_wp2_with fail
  rw [rounds_succ]
  go_wp2_with fail
  go_ret
  exact ⟨ret_int (by unfold twS; omega), by (repeat (first | exact Kept.refl _ | assumption | refine Kept.alloc ?_ _ | refine Kept.ext ?_ _ | refine Kept.drew ?_ | refine Kept.drewN ?_ _))⟩
end Go.Proofs.Ytldchncnadllpaa
namespace Go.Proofs.Ytldchncnadllpaa
set_option linter.unusedVariables false
set_option linter.unusedSimpArgs false
open Go.ChangeShapes Go.WideShapes Go.ChangeAt Go.RowKit
/-- The bounds of what a term is made of. -/
theorem term_bd {m0 m1 m2 m3 m4 m5 m6 m7 m8 m9 m10 u0 u1 u2 : Int} (h : okM ⟨m0, m1, m2, m3, m4, m5, m6, m7, m8, m9, m10⟩ = true) (k : inB u0 u1 u2 384 = true) (h0 : ¬ (u0 = 0 ∧ u1 = 0 ∧ u2 = 0)) :
    ∃ n d t r : Int, nS u0 u1 u2 = n ∧ m2 * u0 + m3 * u1 + m4 * u2 = d ∧ twS m5 m6 m7 m8 m9 m10 u0 u1 u2 = t ∧ m5 + m8 + m10 = r ∧ (1 ≤ n ∧ n ≤ 442368) ∧ (-1236950581248 ≤ d ∧ d ≤ 1236950581248) ∧ (-22799473113563136 ≤ t ∧ t ≤ 22799473113563136) ∧ (-51539607552 ≤ r ∧ r ≤ 51539607552) ∧ (-22799473113563136 ≤ n * r ∧ n * r ≤ 22799473113563136) ∧ (1 ≤ 24 * n * n ∧ 24 * n * n ≤ 4696546738176) := by
  obtain ⟨q1, q2, q3, q4, q5, q6, q7, q8, q9, q10, q11⟩ := okM_bd h
  simp only at q1 q2 q3 q4 q5 q6 q7 q8 q9 q10 q11
  obtain ⟨c1, c2, c3, c4, c5, c6⟩ := inB_true k
  have hn := nS_bd k h0
  have z0 := mul_bd 412316860416 q3 (show -384 ≤ u0 ∧ u0 ≤ 384 by omega) rfl
  have z1 := mul_bd 412316860416 q4 (show -384 ≤ u1 ∧ u1 ≤ 384 by omega) rfl
  have z2 := mul_bd 412316860416 q5 (show -384 ≤ u2 ∧ u2 ≤ 384 by omega) rfl
  have a0 := mul_bd 6597069766656 (show -384 ≤ u0 ∧ u0 ≤ 384 by omega) q6 rfl
  have a1 := mul_bd 6597069766656 (show -384 ≤ u0 ∧ u0 ≤ 384 by omega) q7 rfl
  have a2 := mul_bd 6597069766656 (show -384 ≤ u0 ∧ u0 ≤ 384 by omega) q8 rfl
  have a3 := mul_bd 6597069766656 (show -384 ≤ u1 ∧ u1 ≤ 384 by omega) q9 rfl
  have a4 := mul_bd 6597069766656 (show -384 ≤ u1 ∧ u1 ≤ 384 by omega) q10 rfl
  have a5 := mul_bd 6597069766656 (show -384 ≤ u2 ∧ u2 ≤ 384 by omega) q11 rfl
  have b0 := mul_bd 2533274790395904 a0 (show -384 ≤ u0 ∧ u0 ≤ 384 by omega) rfl
  have b1 := mul_bd 2533274790395904 a1 (show -384 ≤ u1 ∧ u1 ≤ 384 by omega) rfl
  have b2 := mul_bd 2533274790395904 a2 (show -384 ≤ u2 ∧ u2 ≤ 384 by omega) rfl
  have b3 := mul_bd 2533274790395904 a3 (show -384 ≤ u1 ∧ u1 ≤ 384 by omega) rfl
  have b4 := mul_bd 2533274790395904 a4 (show -384 ≤ u2 ∧ u2 ≤ 384 by omega) rfl
  have b5 := mul_bd 2533274790395904 a5 (show -384 ≤ u2 ∧ u2 ≤ 384 by omega) rfl
  have hr : -51539607552 ≤ m5 + m8 + m10 ∧ m5 + m8 + m10 ≤ 51539607552 := by omega
  have e1 := mul_bd 22799473113563136 (show -442368 ≤ nS u0 u1 u2 ∧ nS u0 u1 u2 ≤ 442368 by omega) hr rfl
  have e2 : 24 * 1 ≤ 24 * nS u0 u1 u2 * nS u0 u1 u2 := Int.mul_le_mul (by omega) (by omega) (by decide) (by omega)
  have e3 := mul_bd 4696546738176 (show -10616832 ≤ 24 * nS u0 u1 u2 ∧ 24 * nS u0 u1 u2 ≤ 10616832 by omega) (show -442368 ≤ nS u0 u1 u2 ∧ nS u0 u1 u2 ≤ 442368 by omega) rfl
  refine ⟨_, _, _, _, rfl, rfl, rfl, rfl, hn, by omega, ?_, hr, e1, by omega, e3.2⟩
  unfold twS
  omega
set_option maxRecDepth 100000 in
set_option maxHeartbeats 8000000 in
theorem mterm_any (m0 m1 m2 m3 m4 m5 m6 m7 m8 m9 m10 u0 u1 u2 k : Int) (w : World) (h : okM ⟨m0, m1, m2, m3, m4, m5, m6, m7, m8, m9, m10⟩ = true) (hb : inB u0 u1 u2 384 = true) (h0 : ¬ (u0 = 0 ∧ u1 = 0 ∧ u2 = 0)) (hk : frB k 0 2 = true) :
    Calls Try.prog 13 #[.agg #[.int .i64 m0, .int .i64 m1, .int .i64 m2, .int .i64 m3, .int .i64 m4, .int .i64 m5, .int .i64 m6, .int .i64 m7, .int .i64 m8, .int .i64 m9, .int .i64 m10], .agg #[.int .i64 u0, .int .i64 u1, .int .i64 u2], .int .i64 k] w fun e w' => e = .returned (.tuple #[.agg #[.int .i64 (termS ⟨m0, m1, m2, m3, m4, m5, m6, m7, m8, m9, m10⟩ u0 u1 u2 k).lo, .int .i64 (termS ⟨m0, m1, m2, m3, m4, m5, m6, m7, m8, m9, m10⟩ u0 u1 u2 k).hi], .int .i64 (termS ⟨m0, m1, m2, m3, m4, m5, m6, m7, m8, m9, m10⟩ u0 u1 u2 k).e]) ∧ Kept w w' := by
  obtain ⟨n, d, t, r, en, ed, et, er, bn, bd, bt, br, bnr, bnn⟩ := term_bd h hb h0
  obtain ⟨q1, q2, q3, q4, q5, q6, q7, q8, q9, q10, q11⟩ := okM_bd h
  simp only at q1 q2 q3 q4 q5 q6 q7 q8 q9 q10 q11
  obtain ⟨c1, c2, c3, c4, c5, c6⟩ := inB_true hb
  obtain ⟨k1, k2⟩ := frB_true hk
  have hdu : ∀ w, Calls Try.prog 33 #[.agg #[.int .i64 u0, .int .i64 u1, .int .i64 u2], .agg #[.int .i64 u0, .int .i64 u1, .int .i64 u2]] w fun e w' => e = .returned (.int .i64 n) ∧ Kept w w' := fun w => by
    rw [← en]
    exact mdot_any u0 u1 u2 u0 u1 u2 w (by omega)
  have hdd : ∀ w, Calls Try.prog 33 #[.agg #[.int .i64 m2, .int .i64 m3, .int .i64 m4], .agg #[.int .i64 u0, .int .i64 u1, .int .i64 u2]] w fun e w' => e = .returned (.int .i64 d) ∧ Kept w w' := fun w => by
    rw [← ed]
    exact mdotw_any m2 m3 m4 u0 u1 u2 w (by omega)
  have htw : ∀ w, Calls Try.prog 37 #[.agg #[.int .i64 m0, .int .i64 m1, .int .i64 m2, .int .i64 m3, .int .i64 m4, .int .i64 m5, .int .i64 m6, .int .i64 m7, .int .i64 m8, .int .i64 m9, .int .i64 m10], .agg #[.int .i64 u0, .int .i64 u1, .int .i64 u2]] w fun e w' => e = .returned (.int .i64 t) ∧ Kept w w' := fun w => by
    rw [← et]
    exact mtwice_any m0 m1 m2 m3 m4 m5 m6 m7 m8 m9 m10 u0 u1 u2 w h hb
  have htr : ∀ w, Calls Try.prog 38 #[.agg #[.int .i64 m0, .int .i64 m1, .int .i64 m2, .int .i64 m3, .int .i64 m4, .int .i64 m5, .int .i64 m6, .int .i64 m7, .int .i64 m8, .int .i64 m9, .int .i64 m10]] w fun e w' => e = .returned (.int .i64 r) ∧ Kept w w' := fun w => by
    rw [← er]
    exact mtr0_any m0 m1 m2 m3 m4 m5 m6 m7 m8 m9 m10 w (by omega)
  have hinv : ∀ w, Calls Try.prog 34 #[.int .i64 n, .int .i64 1] w fun e w' => e = .returned (.tuple #[.agg #[.int .i64 (inverseS n 1).lo, .int .i64 (inverseS n 1).hi], .int .i64 0]) ∧ Kept w w' := fun w => by
    have := spanInv_any n 1 w
    rwa [inv1_ok (by omega)] at this
  have HDU := Lib.hid hdu
  have HDD := Lib.hid hdd
  have HTW := Lib.hid htw
  have HTR := Lib.hid htr
  have hk3 : k = 0 ∨ k = 1 ∨ k = 2 := by omega
  clear hdu hdd htw htr h hb h0 hk k1 k2 q1 q2 q3 q4 q5 q6 q7 q8 q9 q10 q11 c1 c2 c3 c4 c5 c6
  rcases hk3 with rfl | rfl | rfl
  · have e : termS ⟨m0, m1, m2, m3, m4, m5, m6, m7, m8, m9, m10⟩ u0 u1 u2 0 = scaleS (inverseS n 1).lo (inverseS n 1).hi m0 := by
      unfold termS
      rw [if_pos rfl, en]
    rw [e]
    obtain ⟨x, hx⟩ : ∃ x, (inverseS n 1).lo = x := ⟨_, rfl⟩
    obtain ⟨y, hy⟩ : ∃ x, (inverseS n 1).hi = x := ⟨_, rfl⟩
    rw [hx, hy] at hinv ⊢
    have HI := Lib.hid hinv
    clear hinv e hx hy en ed et er
    go_enter Try.func13, Try.ntmps13
    go_wp2_with (first | (go_at_call 33; refine (HDU.out _).mono ?_; rintro e w1 ⟨rfl, x1, rfl⟩) | (go_at_call 34; refine (HI.out _).mono ?_; rintro e w1 ⟨rfl, x2, rfl⟩) | (go_at_call 35; refine (scale_any _ _ _ _).mono ?_; rintro e w1 ⟨rfl, x3, rfl⟩))
    refine bodyPost_ret (by simp only [results, Try.results13]; go_simp; rfl) rfl ?_
    exact ⟨rfl, by (repeat (first | exact Kept.refl _ | assumption | refine Kept.alloc ?_ _ | refine Kept.ext ?_ _ | refine Kept.drew ?_ | refine Kept.drewN ?_ _))⟩
  · have e : termS ⟨m0, m1, m2, m3, m4, m5, m6, m7, m8, m9, m10⟩ u0 u1 u2 1 = overS d (3 * n) n := by
      unfold termS
      rw [if_neg (by decide), if_pos rfl, en, ← ed]
    rw [e]
    have hov : ∀ w, _ := fun w => mover_any d (3 * n) n w (by omega) (by omega) (by omega)
    obtain ⟨x, hx⟩ : ∃ x, overS d (3 * n) n = x := ⟨_, rfl⟩
    rw [hx] at hov ⊢
    have HV := Lib.hid hov
    clear hinv e hx hov en ed et er
    go_enter Try.func13, Try.ntmps13
    go_wp2_with (first | (go_at_call 33; (with_reducible refine (HDU.out _).mono ?_); rintro e w1 ⟨rfl, x1, rfl⟩) | (go_at_call 33; (with_reducible refine (HDD.out _).mono ?_); rintro e w1 ⟨rfl, x2, rfl⟩) | (go_at_call 36; refine (HV.out _).mono ?_; rintro e w1 ⟨rfl, x3, rfl⟩))
    refine bodyPost_ret (by simp only [results, Try.results13]; go_simp; rfl) rfl ?_
    exact ⟨rfl, by (repeat (first | exact Kept.refl _ | assumption | refine Kept.alloc ?_ _ | refine Kept.ext ?_ _ | refine Kept.drew ?_ | refine Kept.drewN ?_ _))⟩
  · have e : termS ⟨m0, m1, m2, m3, m4, m5, m6, m7, m8, m9, m10⟩ u0 u1 u2 2 = overS (3 * t - n * r) (24 * n * n) n := by
      unfold termS
      rw [if_neg (by decide), if_neg (by decide), en, ← et, ← er]
    rw [e]
    have hov : ∀ w, _ := fun w => mover_any (3 * t - n * r) (24 * n * n) n w (by omega) (by omega) (by omega)
    obtain ⟨x, hx⟩ : ∃ x, overS (3 * t - n * r) (24 * n * n) n = x := ⟨_, rfl⟩
    rw [hx] at hov ⊢
    have HV := Lib.hid hov
    clear hinv e hx hov en ed et er
    go_enter Try.func13, Try.ntmps13
    go_wp2_with (go_at_call 33; refine (HDU.out _).mono ?_; rintro e w1 ⟨rfl, x1, rfl⟩)
    ((first | (with_reducible refine wp_region_tail2 17 (by kernel_rfl) (by kernel_rfl) ?_) | refine wp_region_tail 17 (by kernel_rfl) (by kernel_rfl) ?_); simp only [List.take_succ_cons, List.take_zero, List.drop_succ_cons, List.drop_zero]; (repeat (go_big_quiet_step (first | (go_at_call 37; exact Calls.kept_of (HTW.out _)) | (go_at_call 38; exact Calls.kept_of (HTR.out _)) | (go_at_call 36; exact Calls.kept_of (HV.out _))))); refine wpQuiet_nil ?_; intro x9)
    go_wp2_with fail
    refine bodyPost_ret (by simp only [results, Try.results13]; go_simp; rfl) rfl ?_
    exact ⟨rfl, by (repeat (first | exact Kept.refl _ | assumption | refine Kept.alloc ?_ _ | refine Kept.ext ?_ _ | refine Kept.drew ?_ | refine Kept.drewN ?_ _))⟩
set_option maxRecDepth 100000 in
set_option maxHeartbeats 4000000 in
theorem mvec_any (u0 u1 u2 k : Int) (w : World) :
    Calls Try.prog 32 #[.agg #[.int .i64 u0, .int .i64 u1, .int .i64 u2], .int .i64 k] w fun e w' => e = .returned (.int .i64 (vecS u0 u1 u2 k)) ∧ Kept w w' := by
  cases hb : inB u0 u1 u2 384
  · have e : vecS u0 u1 u2 k = 1 := by unfold vecS; rw [hb]; rfl
    rw [e]
    have HB := Lib.hid hb
    clear hb e
    go_enter Try.func32, Try.ntmps32
    go_wp2_with (first | (go_at_call 51; refine (mnear_any _ _ _ _ _ (by omega)).mono ?_; rintro e w1 ⟨rfl, x1, rfl⟩; rw [HB.out]) | (first | (go_at_call 55; refine (mfrom_any _ _ _ _).mono ?_; rintro e w1 ⟨rfl, rfl⟩)))
    go_ret
    exact ⟨rfl, by (repeat (first | exact Kept.refl _ | assumption | refine Kept.alloc ?_ _ | refine Kept.ext ?_ _ | refine Kept.drew ?_ | refine Kept.drewN ?_ _))⟩
  cases hk : frB k 0 2
  · have e : vecS u0 u1 u2 k = 1 := by unfold vecS; rw [hb, hk]; rfl
    rw [e]
    have HB := Lib.hid hb
    have HK := Lib.hid hk
    clear hb hk e
    go_enter Try.func32, Try.ntmps32
    go_wp2_with (first | (go_at_call 51; refine (mnear_any _ _ _ _ _ (by omega)).mono ?_; rintro e w1 ⟨rfl, x1, rfl⟩; rw [HB.out]) | (go_at_call 55; refine (mfrom_any _ _ _ _).mono ?_; rintro e w1 ⟨rfl, rfl⟩; rw [HK.out]))
    go_ret
    exact ⟨rfl, by (repeat (first | exact Kept.refl _ | assumption | refine Kept.alloc ?_ _ | refine Kept.ext ?_ _ | refine Kept.drew ?_ | refine Kept.drewN ?_ _))⟩
  have e : vecS u0 u1 u2 k = if u0 = 0 ∧ u1 = 0 ∧ u2 = 0 then 11 else 0 := by unfold vecS; rw [hb, hk]; rfl
  rw [e]
  have HB := Lib.hid hb
  have HK := Lib.hid hk
  clear hb hk e
  go_enter Try.func32, Try.ntmps32
  go_wp2_with (first | (go_at_call 51; refine (mnear_any _ _ _ _ _ (by omega)).mono ?_; rintro e w1 ⟨rfl, x1, rfl⟩; rw [HB.out]) | (go_at_call 55; refine (mfrom_any _ _ _ _).mono ?_; rintro e w1 ⟨rfl, rfl⟩; rw [HK.out]))
  all_goals
    go_ret
    refine ⟨ret_int ?_, by (repeat (first | exact Kept.refl _ | assumption | refine Kept.alloc ?_ _ | refine Kept.ext ?_ _ | refine Kept.drew ?_ | refine Kept.drewN ?_ _))⟩
    simp_all
set_option maxRecDepth 100000 in
set_option maxHeartbeats 4000000 in
theorem mrdy_any (m0 m1 m2 m3 m4 m5 m6 m7 m8 m9 m10 u0 u1 u2 k : Int) (w : World) :
    Calls Try.prog 12 #[.agg #[.int .i64 m0, .int .i64 m1, .int .i64 m2, .int .i64 m3, .int .i64 m4, .int .i64 m5, .int .i64 m6, .int .i64 m7, .int .i64 m8, .int .i64 m9, .int .i64 m10], .agg #[.int .i64 u0, .int .i64 u1, .int .i64 u2], .int .i64 k] w fun e w' => e = .returned (.int .i64 (rdyS ⟨m0, m1, m2, m3, m4, m5, m6, m7, m8, m9, m10⟩ u0 u1 u2 k)) ∧ Kept w w' := by
  cases h : okM ⟨m0, m1, m2, m3, m4, m5, m6, m7, m8, m9, m10⟩
  · have e1 : rdyS ⟨m0, m1, m2, m3, m4, m5, m6, m7, m8, m9, m10⟩ u0 u1 u2 k = 1 := by unfold rdyS; rw [h]; rfl
    have e2 : vmS ⟨m0, m1, m2, m3, m4, m5, m6, m7, m8, m9, m10⟩ = 1 := by unfold vmS; rw [h]; rfl
    rw [e1]
    have H := Lib.hid e2
    clear h e1 e2
    go_enter Try.func12, Try.ntmps12
    go_wp2_with (go_at_call 31; refine (mval_any _ _ _ _ _ _ _ _ _ _ _ _).mono ?_; rintro e w1 ⟨rfl, x1, rfl⟩; rw [H.out])
    go_ret
    exact ⟨rfl, by (repeat (first | exact Kept.refl _ | assumption | refine Kept.alloc ?_ _ | refine Kept.ext ?_ _ | refine Kept.drew ?_ | refine Kept.drewN ?_ _))⟩
  · have e1 : rdyS ⟨m0, m1, m2, m3, m4, m5, m6, m7, m8, m9, m10⟩ u0 u1 u2 k = vecS u0 u1 u2 k := by unfold rdyS; rw [h]; rfl
    have e2 : vmS ⟨m0, m1, m2, m3, m4, m5, m6, m7, m8, m9, m10⟩ = 0 := by unfold vmS; rw [h]; rfl
    rw [e1]
    have H := Lib.hid e2
    clear h e1 e2
    go_enter Try.func12, Try.ntmps12
    go_wp2_with (first | (go_at_call 31; refine (mval_any _ _ _ _ _ _ _ _ _ _ _ _).mono ?_; rintro e w1 ⟨rfl, x1, rfl⟩; rw [H.out]) | (go_at_call 32; refine (mvec_any _ _ _ _ _).mono ?_; rintro e w1 ⟨rfl, x2, rfl⟩))
    go_ret
    exact ⟨rfl, by (repeat (first | exact Kept.refl _ | assumption | refine Kept.alloc ?_ _ | refine Kept.ext ?_ _ | refine Kept.drew ?_ | refine Kept.drewN ?_ _))⟩
/-- A term, or its error. -/
def TermS (m : Mo) (u0 u1 u2 k : Int) : R := if rdyS m u0 u1 u2 k = 0 then termS m u0 u1 u2 k else ⟨0, 0, rdyS m u0 u1 u2 k⟩
theorem rdy_0 {m : Mo} {u0 u1 u2 k : Int} (h : rdyS m u0 u1 u2 k = 0) : okM m = true ∧ inB u0 u1 u2 384 = true ∧ frB k 0 2 = true ∧ ¬ (u0 = 0 ∧ u1 = 0 ∧ u2 = 0) := by
  unfold rdyS at h
  split at h
  · rename_i h1
    unfold vecS at h
    split at h
    · rename_i h2
      simp only [Bool.and_eq_true] at h2
      split at h
      · cases h
      · rename_i h3
        exact ⟨h1, h2.1, h2.2, h3⟩
    · cases h
  · cases h
set_option maxRecDepth 100000 in
set_option maxHeartbeats 4000000 in
theorem mTerm_any (m0 m1 m2 m3 m4 m5 m6 m7 m8 m9 m10 u0 u1 u2 k : Int) (w : World) :
    Calls Try.prog 5 #[.agg #[.int .i64 m0, .int .i64 m1, .int .i64 m2, .int .i64 m3, .int .i64 m4, .int .i64 m5, .int .i64 m6, .int .i64 m7, .int .i64 m8, .int .i64 m9, .int .i64 m10], .agg #[.int .i64 u0, .int .i64 u1, .int .i64 u2], .int .i64 k] w fun e w' => e = .returned (.tuple #[.agg #[.int .i64 (TermS ⟨m0, m1, m2, m3, m4, m5, m6, m7, m8, m9, m10⟩ u0 u1 u2 k).lo, .int .i64 (TermS ⟨m0, m1, m2, m3, m4, m5, m6, m7, m8, m9, m10⟩ u0 u1 u2 k).hi], .int .i64 (TermS ⟨m0, m1, m2, m3, m4, m5, m6, m7, m8, m9, m10⟩ u0 u1 u2 k).e]) ∧ Kept w w' := by
  by_cases h : rdyS ⟨m0, m1, m2, m3, m4, m5, m6, m7, m8, m9, m10⟩ u0 u1 u2 k = 0
  · rw [show TermS ⟨m0, m1, m2, m3, m4, m5, m6, m7, m8, m9, m10⟩ u0 u1 u2 k = termS ⟨m0, m1, m2, m3, m4, m5, m6, m7, m8, m9, m10⟩ u0 u1 u2 k from if_pos h]
    obtain ⟨h1, h2, h3, h4⟩ := rdy_0 h
    have ht : ∀ w, _ := fun w => mterm_any m0 m1 m2 m3 m4 m5 m6 m7 m8 m9 m10 u0 u1 u2 k w h1 h2 h4 h3
    obtain ⟨x, hx⟩ : ∃ x, termS ⟨m0, m1, m2, m3, m4, m5, m6, m7, m8, m9, m10⟩ u0 u1 u2 k = x := ⟨_, rfl⟩
    rw [hx] at ht ⊢
    have H := Lib.hid h
    have HT := Lib.hid ht
    clear h h1 h2 h3 h4 ht hx
    go_enter Try.func5, Try.ntmps5
    go_wp2_with (first | (go_at_call 12; refine (mrdy_any _ _ _ _ _ _ _ _ _ _ _ _ _ _ _ _).mono ?_; rintro e w1 ⟨rfl, x1, rfl⟩; rw [H.out]) | (go_at_call 13; refine (HT.out _).mono ?_; rintro e w1 ⟨rfl, x2, rfl⟩))
    refine bodyPost_ret (by simp only [results, Try.results5]; go_simp; rfl) rfl ?_
    exact ⟨rfl, by (repeat (first | exact Kept.refl _ | assumption | refine Kept.alloc ?_ _ | refine Kept.ext ?_ _ | refine Kept.drew ?_ | refine Kept.drewN ?_ _))⟩
  · rw [show TermS ⟨m0, m1, m2, m3, m4, m5, m6, m7, m8, m9, m10⟩ u0 u1 u2 k = ⟨0, 0, rdyS ⟨m0, m1, m2, m3, m4, m5, m6, m7, m8, m9, m10⟩ u0 u1 u2 k⟩ from if_neg h]
    obtain ⟨x, hx⟩ : ∃ x, rdyS ⟨m0, m1, m2, m3, m4, m5, m6, m7, m8, m9, m10⟩ u0 u1 u2 k = x := ⟨_, rfl⟩
    rw [hx] at h ⊢
    have H := Lib.hid hx
    have g1 : (x == 0) = false := by simpa using h
    have g2 : decide (x = 0) = false := by simpa using h
    clear h hx
    go_enter Try.func5, Try.ntmps5
    go_wp2_with (go_at_call 12; refine (mrdy_any _ _ _ _ _ _ _ _ _ _ _ _ _ _ _ _).mono ?_; rintro e w1 ⟨rfl, x1, rfl⟩; rw [H.out])
    refine bodyPost_ret (by simp only [results, Try.results5]; go_simp; rfl) rfl ?_
    exact ⟨rfl, by (repeat (first | exact Kept.refl _ | assumption | refine Kept.alloc ?_ _ | refine Kept.ext ?_ _ | refine Kept.drew ?_ | refine Kept.drewN ?_ _))⟩
end Go.Proofs.Ytldchncnadllpaa
