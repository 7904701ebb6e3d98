/- Contracts: terms of far fields, of the reference. Conditions: those of each theorem. Contract: a term of far fields, of the reference. No conditions. -/
import Derived.Test.YtldchncnadllpaaMt
import Derived.Test.YtldchncnadllpaaRof
import Derived.Test.YtldchncnadllpaaMte
namespace Go.Proofs.Ytldchncnadllpaa
set_option linter.unusedVariables false
set_option linter.unusedSimpArgs false
open Go.ChangeShapes Go.WideShapes Go.ChangeAt Go.RowKit
theorem r4q_facts {num den : Int} (hn : -4611686018427387904 ≤ num ∧ num ≤ 4611686018427387904) (hd : 1 ≤ den ∧ den ≤ 8796093022207) :
    ∃ T M W r L z : Int, num.tdiv den = T ∧ num.tmod den = M ∧ (r * 1048576).tdiv den = L ∧ (r * 1048576).tmod den = z ∧ ((M < 0 ∧ T = W + 1 ∧ M = r - den) ∨ (0 ≤ M ∧ T = W ∧ M = r)) ∧ (-4611686018427387904 ≤ W ∧ W ≤ 4611686018427387904) ∧ (0 ≤ r ∧ r < den) ∧ (0 ≤ L ∧ L < 1048576) ∧ qmS num den = resultS (W * 1048576 + L) (W * 1048576 + L + (if z = 0 then 0 else 1)) := by
  have h3 := Int.emod_nonneg num (show den ≠ 0 by omega)
  have h4 := Int.emod_lt_of_pos num (show 0 < den by omega)
  have hW : -4611686018427387904 ≤ num / den ∧ num / den ≤ 4611686018427387904 := by
    constructor
    · rw [Int.le_ediv_iff_mul_le (by omega)]
      have : (4611686018427387904 : Int) * 1 ≤ 4611686018427387904 * den := Int.mul_le_mul_of_nonneg_left (by omega) (by decide)
      rw [show (-4611686018427387904 : Int) * den = -(4611686018427387904 * den) by rw [Int.neg_mul]]
      omega
    · have := Int.ediv_le_ediv (show 0 < den by omega) hn.2
      have h2 : (4611686018427387904 : Int) / den ≤ 4611686018427387904 := Int.ediv_le_self _ (by decide)
      omega
  have hL0 := Int.ediv_nonneg (show 0 ≤ num % den * 1048576 by omega) (show 0 ≤ den by omega)
  have hL1 : num % den * 1048576 / den < 1048576 := by
    rw [Int.ediv_lt_iff_lt_mul (by omega), Int.mul_comm]
    exact Int.mul_lt_mul_of_pos_left h4 (by decide)
  exact ⟨_, _, num / den, num % den, num % den * 1048576 / den, num % den * 1048576 % den, rfl, rfl, Int.tdiv_eq_ediv_of_nonneg (by omega), Int.tmod_eq_emod_of_nonneg (by omega), tq_cases num (by omega), hW, ⟨h3, h4⟩, ⟨hL0, hL1⟩, qm_int num (by omega)⟩
set_option maxRecDepth 100000 in
set_option maxHeartbeats 8000000 in
theorem r4quo_any (num den : Int) (w : World) (hn : -4611686018427387904 ≤ num ∧ num ≤ 4611686018427387904) (hd : 1 ≤ den ∧ den ≤ 8796093022207) :
    Calls Try.prog 20 #[.int .i64 num, .int .i64 den] w fun e w' => e = .returned (.tuple #[.agg #[.int .i64 (qmS num den).lo, .int .i64 (qmS num den).hi], .int .i64 (qmS num den).e]) ∧ Kept w w' := by
  obtain ⟨T, M, W, r, L, z, t1, t2, t3, t4, t5, t6, t7, t8, t9⟩ := r4q_facts hn hd
  rw [t9]
  obtain ⟨d0, d1⟩ := hd
  have z0 : (den == 0) = false := beq_eq_false_iff_ne.2 (by omega)
  have z1 : decide (den = 0) = false := decide_eq_false (by omega)
  obtain ⟨rr, hrr⟩ : ∃ x, r * 1048576 = x := ⟨_, rfl⟩
  rw [hrr] at t3 t4
  by_cases big : W > 1048576 ∨ W < -1048577
  · have e : resultS (W * 1048576 + L) (W * 1048576 + L + (if z = 0 then 0 else 1)) = ⟨0, 0, 4⟩ := by
      unfold resultS validB
      rw [decide_eq_false (by split <;> omega)]
      rfl
    rw [e]
    clear e t9
    rcases t5 with ⟨h1, h2, h3⟩ | ⟨h1, h2, h3⟩
    · have g1 : decide (M < 0) = true := decide_eq_true h1
      rcases big with h | h
      · have g2 : decide ((1048576 : Int) < T - 1) = true := decide_eq_true (by omega)
        go_enter Try.func20, Try.ntmps20
        go_wp2_with fail
        ((first | (with_reducible refine wp_region_kept2 (by kernel_rfl) (by kernel_rfl) ?_) | refine wp_region_kept (by kernel_rfl) (by kernel_rfl) ?_); (repeat (go_big_quiet_step (first | fail))); refine wpQuiet_nil ?_; intro x)
        go_wp2_with fail
        refine bodyPost_ret (by simp only [results, Try.results20]; go_simp; rfl) rfl ?_
        exact ⟨rfl, by (repeat (first | exact Kept.refl _ | assumption | refine Kept.alloc ?_ _ | refine Kept.ext ?_ _ | refine Kept.drew ?_ | refine Kept.drewN ?_ _))⟩
      · have g2 : decide ((1048576 : Int) < T - 1) = false := decide_eq_false (by omega)
        have g3 : decide (T - 1 < -1048577) = true := decide_eq_true (by omega)
        go_enter Try.func20, Try.ntmps20
        go_wp2_with fail
        ((first | (with_reducible refine wp_region_kept2 (by kernel_rfl) (by kernel_rfl) ?_) | refine wp_region_kept (by kernel_rfl) (by kernel_rfl) ?_); (repeat (go_big_quiet_step (first | fail))); refine wpQuiet_nil ?_; intro x)
        go_wp2_with fail
        refine bodyPost_ret (by simp only [results, Try.results20]; go_simp; rfl) rfl ?_
        exact ⟨rfl, by (repeat (first | exact Kept.refl _ | assumption | refine Kept.alloc ?_ _ | refine Kept.ext ?_ _ | refine Kept.drew ?_ | refine Kept.drewN ?_ _))⟩
    · have g1 : decide (M < 0) = false := decide_eq_false (by omega)
      rcases big with h | h
      · have g2 : decide ((1048576 : Int) < T) = true := decide_eq_true (by omega)
        go_enter Try.func20, Try.ntmps20
        go_wp2_with fail
        ((first | (with_reducible refine wp_region_kept2 (by kernel_rfl) (by kernel_rfl) ?_) | refine wp_region_kept (by kernel_rfl) (by kernel_rfl) ?_); (repeat (go_big_quiet_step (first | fail))); refine wpQuiet_nil ?_; intro x)
        go_wp2_with fail
        refine bodyPost_ret (by simp only [results, Try.results20]; go_simp; rfl) rfl ?_
        exact ⟨rfl, by (repeat (first | exact Kept.refl _ | assumption | refine Kept.alloc ?_ _ | refine Kept.ext ?_ _ | refine Kept.drew ?_ | refine Kept.drewN ?_ _))⟩
      · have g2 : decide ((1048576 : Int) < T) = false := decide_eq_false (by omega)
        have g3 : decide (T < -1048577) = true := decide_eq_true (by omega)
        go_enter Try.func20, Try.ntmps20
        go_wp2_with fail
        ((first | (with_reducible refine wp_region_kept2 (by kernel_rfl) (by kernel_rfl) ?_) | refine wp_region_kept (by kernel_rfl) (by kernel_rfl) ?_); (repeat (go_big_quiet_step (first | fail))); refine wpQuiet_nil ?_; intro x)
        go_wp2_with fail
        refine bodyPost_ret (by simp only [results, Try.results20]; go_simp; rfl) rfl ?_
        exact ⟨rfl, by (repeat (first | exact Kept.refl _ | assumption | refine Kept.alloc ?_ _ | refine Kept.ext ?_ _ | refine Kept.drew ?_ | refine Kept.drewN ?_ _))⟩
  obtain ⟨H, hH⟩ : ∃ x, W * 1048576 + L = x := ⟨_, rfl⟩
  have b1 : W ≤ 1048576 := by omega
  have b2 : -1048577 ≤ W := by omega
  rw [hH]
  clear t9 big
  rcases t5 with ⟨h1, h2, h3⟩ | ⟨h1, h2, h3⟩
  · have g1 : decide (M < 0) = true := decide_eq_true h1
    have r1 : T - 1 = W := by omega
    have r2 : M + den = r := by omega
    have g2 : decide ((1048576 : Int) < W) = false := decide_eq_false (by omega)
    have g3 : decide (W < -1048577) = false := decide_eq_false (by omega)
    clear h2 h3
    by_cases hz : z = 0
    · have g4 : (z == 0) = true := by simpa using hz
      rw [if_pos hz, Int.add_zero]
      unfold resultS
      cases hv : validB H H
      all_goals
        have HV := Lib.hid hv
        clear hv hz
        go_enter Try.func20, Try.ntmps20
        go_wp2_with fail
        ((first | (with_reducible refine wp_region_kept2 (by kernel_rfl) (by kernel_rfl) ?_) | refine wp_region_kept (by kernel_rfl) (by kernel_rfl) ?_); (repeat (go_big_quiet_step (first | fail))); refine wpQuiet_nil ?_; intro x)
        go_wp2_with (go_at_call 30; refine (rvalid_any _ _ _).mono ?_; rintro e w1 ⟨rfl, x1, rfl⟩; rw [HV.out])
        refine bodyPost_ret (by simp only [results, Try.results20]; go_simp; rfl) rfl ?_
        exact ⟨rfl, by (repeat (first | exact Kept.refl _ | assumption | refine Kept.alloc ?_ _ | refine Kept.ext ?_ _ | refine Kept.drew ?_ | refine Kept.drewN ?_ _))⟩
    · have g4 : (z == 0) = false := by simpa using hz
      rw [if_neg hz]
      unfold resultS
      cases hv : validB H (H + 1)
      all_goals
        have HV := Lib.hid hv
        clear hv hz
        go_enter Try.func20, Try.ntmps20
        go_wp2_with fail
        ((first | (with_reducible refine wp_region_kept2 (by kernel_rfl) (by kernel_rfl) ?_) | refine wp_region_kept (by kernel_rfl) (by kernel_rfl) ?_); (repeat (go_big_quiet_step (first | fail))); refine wpQuiet_nil ?_; intro x)
        go_wp2_with (go_at_call 30; refine (rvalid_any _ _ _).mono ?_; rintro e w1 ⟨rfl, x1, rfl⟩; rw [HV.out])
        refine bodyPost_ret (by simp only [results, Try.results20]; go_simp; rfl) rfl ?_
        exact ⟨rfl, by (repeat (first | exact Kept.refl _ | assumption | refine Kept.alloc ?_ _ | refine Kept.ext ?_ _ | refine Kept.drew ?_ | refine Kept.drewN ?_ _))⟩
  · have g1 : decide (M < 0) = false := decide_eq_false (by omega)
    subst h2
    subst h3
    have g2 : decide ((1048576 : Int) < T) = false := decide_eq_false (by omega)
    have g3 : decide (T < -1048577) = false := decide_eq_false (by omega)
    by_cases hz : z = 0
    · have g4 : (z == 0) = true := by simpa using hz
      rw [if_pos hz, Int.add_zero]
      unfold resultS
      cases hv : validB H H
      all_goals
        have HV := Lib.hid hv
        clear hv hz
        go_enter Try.func20, Try.ntmps20
        go_wp2_with fail
        ((first | (with_reducible refine wp_region_kept2 (by kernel_rfl) (by kernel_rfl) ?_) | refine wp_region_kept (by kernel_rfl) (by kernel_rfl) ?_); (repeat (go_big_quiet_step (first | fail))); refine wpQuiet_nil ?_; intro x)
        go_wp2_with (go_at_call 30; refine (rvalid_any _ _ _).mono ?_; rintro e w1 ⟨rfl, x1, rfl⟩; rw [HV.out])
        refine bodyPost_ret (by simp only [results, Try.results20]; go_simp; rfl) rfl ?_
        exact ⟨rfl, by (repeat (first | exact Kept.refl _ | assumption | refine Kept.alloc ?_ _ | refine Kept.ext ?_ _ | refine Kept.drew ?_ | refine Kept.drewN ?_ _))⟩
    · have g4 : (z == 0) = false := by simpa using hz
      rw [if_neg hz]
      unfold resultS
      cases hv : validB H (H + 1)
      all_goals
        have HV := Lib.hid hv
        clear hv hz
        go_enter Try.func20, Try.ntmps20
        go_wp2_with fail
        ((first | (with_reducible refine wp_region_kept2 (by kernel_rfl) (by kernel_rfl) ?_) | refine wp_region_kept (by kernel_rfl) (by kernel_rfl) ?_); (repeat (go_big_quiet_step (first | fail))); refine wpQuiet_nil ?_; intro x)
        go_wp2_with (go_at_call 30; refine (rvalid_any _ _ _).mono ?_; rintro e w1 ⟨rfl, x1, rfl⟩; rw [HV.out])
        refine bodyPost_ret (by simp only [results, Try.results20]; go_simp; rfl) rfl ?_
        exact ⟨rfl, by (repeat (first | exact Kept.refl _ | assumption | refine Kept.alloc ?_ _ | refine Kept.ext ?_ _ | refine Kept.drew ?_ | refine Kept.drewN ?_ _))⟩
theorem wt_bd {a u v : Int} (ha : -17179869184 ≤ a ∧ a ≤ 17179869184) (hu : -384 ≤ u ∧ u ≤ 384) (hv : -384 ≤ v ∧ v ≤ 384) : (-147456 ≤ u * v ∧ u * v ≤ 147456) ∧ (-2533274790395904 ≤ a * (u * v) ∧ a * (u * v) ≤ 2533274790395904) ∧ a * (u * v) = u * a * v := by
  have h1 := mul_bd 147456 hu hv rfl
  exact ⟨h1, mul_bd 2533274790395904 ha h1 rfl, by grind⟩
set_option maxRecDepth 100000 in
set_option maxHeartbeats 8000000 in
theorem r4wt_any (m0 m1 m2 m3 m4 m5 m6 m7 m8 m9 m10 u0 u1 u2 : Int) (w : World) (h : okM ⟨m0, m1, m2, m3, m4, m5, m6, m7, m8, m9, m10⟩ = true) (k : inB u0 u1 u2 384 = true) :
    Calls Try.prog 19 #[.agg #[.int .i64 m0, .int .i64 m1, .int .i64 m2, .int .i64 m3, .int .i64 m4, .int .i64 m5, .int .i64 m6, .int .i64 m7, .int .i64 m8, .int .i64 m9, .int .i64 m10], .agg #[.int .i64 u0, .int .i64 u1, .int .i64 u2]] w fun e w' => e = .returned (.int .i64 (twS m5 m6 m7 m8 m9 m10 u0 u1 u2)) ∧ Kept w w' := by
  obtain ⟨q1, q2, q3, q4, q5, q6, q7, q8, q9, q10, q11⟩ := okM_bd h
  simp only at q1 q2 q3 q4 q5 q6 q7 q8 q9 q10 q11
  obtain ⟨c1, c2, c3, c4, c5, c6⟩ := inB_true k
  obtain ⟨a0, b0, e0⟩ := wt_bd (u := u0) (v := u0) q6 (by omega) (by omega)
  obtain ⟨a1, b1, e1⟩ := wt_bd (u := u0) (v := u1) q7 (by omega) (by omega)
  obtain ⟨a2, b2, e2⟩ := wt_bd (u := u0) (v := u2) q8 (by omega) (by omega)
  obtain ⟨a3, b3, e3⟩ := wt_bd (u := u1) (v := u1) q9 (by omega) (by omega)
  obtain ⟨a4, b4, e4⟩ := wt_bd (u := u1) (v := u2) q10 (by omega) (by omega)
  obtain ⟨a5, b5, e5⟩ := wt_bd (u := u2) (v := u2) q11 (by omega) (by omega)
  have HE := Lib.hid (And.intro e0 (And.intro e1 (And.intro e2 (And.intro e3 (And.intro e4 e5)))))
  have hp : ∀ w, Calls Try.prog 44 #[.agg #[.int .i64 u0, .int .i64 u1, .int .i64 u2], .int .i64 1] w fun e w' => e = .returned (.agg #[.int .i64 (u0 * u0), .int .i64 (u0 * u1), .int .i64 (u0 * u2), .int .i64 (u1 * u1), .int .i64 (u1 * u2), .int .i64 (u2 * u2)]) ∧ Kept w w' := fun w => by
    have := r4prod_any u0 u1 u2 1 w (by omega)
    simpa only [Int.one_mul] using this
  have HP := Lib.hid hp
  clear h k e0 e1 e2 e3 e4 e5 hp
  go_enter Try.func19, Try.ntmps19
  go_wp2_with (go_at_call 44; refine (HP.out _).mono ?_; rintro e w1 ⟨rfl, x1, rfl⟩)
  refine wp_loop_rounds 7 ?_
  rw [rounds_succ]
  go_wp2_with fail
  ((first | (with_reducible refine wp_region_kept2 (by kernel_rfl) (by kernel_rfl) ?_) | refine wp_region_kept (by kernel_rfl) (by kernel_rfl) ?_); (repeat (go_big_quiet_step (first | fail))); refine wpQuiet_nil ?_; intro x)
  go_wp2_with fail
  rw [rounds_succ]
  go_wp2_with fail
  ((first | (with_reducible refine wp_region_kept2 (by kernel_rfl) (by kernel_rfl) ?_) | refine wp_region_kept (by kernel_rfl) (by kernel_rfl) ?_); (repeat (go_big_quiet_step (first | fail))); refine wpQuiet_nil ?_; intro x)
  go_wp2_with fail
  ((first | (with_reducible refine wp_region_kept2 (by kernel_rfl) (by kernel_rfl) ?_) | refine wp_region_kept (by kernel_rfl) (by kernel_rfl) ?_); (repeat (go_big_quiet_step (first | fail))); refine wpQuiet_nil ?_; intro x)
  go_wp2_with fail
  rw [rounds_succ]
  go_wp2_with fail
  ((first | (with_reducible refine wp_region_kept2 (by kernel_rfl) (by kernel_rfl) ?_) | refine wp_region_kept (by kernel_rfl) (by kernel_rfl) ?_); (repeat (go_big_quiet_step (first | fail))); refine wpQuiet_nil ?_; intro x)
  go_wp2_with fail
  ((first | (with_reducible refine wp_region_kept2 (by kernel_rfl) (by kernel_rfl) ?_) | refine wp_region_kept (by kernel_rfl) (by kernel_rfl) ?_); (repeat (go_big_quiet_step (first | fail))); refine wpQuiet_nil ?_; intro x)
  go_wp2_with fail
  rw [rounds_succ]
  go_wp2_with fail
  ((first | (with_reducible refine wp_region_kept2 (by kernel_rfl) (by kernel_rfl) ?_) | refine wp_region_kept (by kernel_rfl) (by kernel_rfl) ?_); (repeat (go_big_quiet_step (first | fail))); refine wpQuiet_nil ?_; intro x)
  go_wp2_with fail
  rw [rounds_succ]
  go_wp2_with fail
  ((first | (with_reducible refine wp_region_kept2 (by kernel_rfl) (by kernel_rfl) ?_) | refine wp_region_kept (by kernel_rfl) (by kernel_rfl) ?_); (repeat (go_big_quiet_step (first | fail))); refine wpQuiet_nil ?_; intro x)
  go_wp2_with fail
  ((first | (with_reducible refine wp_region_kept2 (by kernel_rfl) (by kernel_rfl) ?_) | refine wp_region_kept (by kernel_rfl) (by kernel_rfl) ?_); (repeat (go_big_quiet_step (first | fail))); refine wpQuiet_nil ?_; intro x)
  go_wp2_with fail
  rw [rounds_succ]
  go_wp2_with fail
  ((first | (with_reducible refine wp_region_kept2 (by kernel_rfl) (by kernel_rfl) ?_) | refine wp_region_kept (by kernel_rfl) (by kernel_rfl) ?_); (repeat (go_big_quiet_step (first | fail))); refine wpQuiet_nil ?_; intro x)
  go_wp2_with fail
  rw [rounds_succ]
  go_wp2_with fail
  go_ret
  refine ⟨ret_int ?_, by (repeat (first | exact Kept.refl _ | assumption | refine Kept.alloc ?_ _ | refine Kept.ext ?_ _ | refine Kept.drew ?_ | refine Kept.drewN ?_ _))⟩
  obtain ⟨e0, e1, e2, e3, e4, e5⟩ := HE.out
  unfold twS
  omega
end Go.Proofs.Ytldchncnadllpaa
namespace Go.Proofs.Ytldchncnadllpaa
set_option linter.unusedVariables false
set_option linter.unusedSimpArgs false
open Go.ChangeShapes Go.WideShapes Go.ChangeAt Go.RowKit
theorem qm_e4 {num den : Int} (h : ¬ (qmS num den).e = 0) : (qmS num den).e = 4 := by
  unfold qmS resultS at *
  split
  · rename_i hv
    rw [if_pos hv] at h
    exact absurd rfl h
  · rfl
set_option maxRecDepth 100000 in
set_option maxHeartbeats 16000000 in
theorem r4Term_any (m0 m1 m2 m3 m4 m5 m6 m7 m8 m9 m10 u0 u1 u2 k : Int) (w : World) :
    Calls Try.prog 6 #[.agg #[.int .i64 m0, .int .i64 m1, .int .i64 m2, .int .i64 m3, .int .i64 m4, .int .i64 m5, .int .i64 m6, .int .i64 m7, .int .i64 m8, .int .i64 m9, .int .i64 m10], .agg #[.int .i64 u0, .int .i64 u1, .int .i64 u2], .int .i64 k] w fun e w' => e = .returned (.tuple #[.agg #[.int .i64 (TermS ⟨m0, m1, m2, m3, m4, m5, m6, m7, m8, m9, m10⟩ u0 u1 u2 k).lo, .int .i64 (TermS ⟨m0, m1, m2, m3, m4, m5, m6, m7, m8, m9, m10⟩ u0 u1 u2 k).hi], .int .i64 (TermS ⟨m0, m1, m2, m3, m4, m5, m6, m7, m8, m9, m10⟩ u0 u1 u2 k).e]) ∧ Kept w w' := by
  cases h : okM ⟨m0, m1, m2, m3, m4, m5, m6, m7, m8, m9, m10⟩
  · have e1 : TermS ⟨m0, m1, m2, m3, m4, m5, m6, m7, m8, m9, m10⟩ u0 u1 u2 k = ⟨0, 0, 1⟩ := by unfold TermS rdyS; rw [h]; rfl
    have e2 : vmS ⟨m0, m1, m2, m3, m4, m5, m6, m7, m8, m9, m10⟩ = 1 := by unfold vmS; rw [h]; rfl
    rw [e1]
    have HM := Lib.hid e2
    clear h e1 e2
    go_enter Try.func6, Try.ntmps6
    go_wp2_with (first | (go_at_call 14; refine (r4val_any _ _ _ _ _ _ _ _ _ _ _ _).mono ?_; rintro e w1 ⟨rfl, x1, rfl⟩; rw [HM.out]))
    refine bodyPost_ret (by simp only [results, Try.results6]; go_simp; rfl) rfl ?_
    exact ⟨rfl, by (repeat (first | exact Kept.refl _ | assumption | refine Kept.alloc ?_ _ | refine Kept.ext ?_ _ | refine Kept.drew ?_ | refine Kept.drewN ?_ _))⟩
  have e2 : vmS ⟨m0, m1, m2, m3, m4, m5, m6, m7, m8, m9, m10⟩ = 0 := by unfold vmS; rw [h]; rfl
  have HM := Lib.hid e2
  clear e2
  cases hb : inB u0 u1 u2 384
  · have e1 : TermS ⟨m0, m1, m2, m3, m4, m5, m6, m7, m8, m9, m10⟩ u0 u1 u2 k = ⟨0, 0, 1⟩ := by unfold TermS rdyS vecS; rw [h, hb]; rfl
    rw [e1]
    have HB := Lib.hid hb
    clear h hb e1
    go_enter Try.func6, Try.ntmps6
    go_wp2_with (first | (go_at_call 14; refine (r4val_any _ _ _ _ _ _ _ _ _ _ _ _).mono ?_; rintro e w1 ⟨rfl, x1, rfl⟩; rw [HM.out]) | (go_at_call 15; refine (small_any _ _ _ _ _ (by omega)).mono ?_; rintro e w1 ⟨rfl, x2, rfl⟩; rw [HB.out]))
    refine bodyPost_ret (by simp only [results, Try.results6]; go_simp; rfl) rfl ?_
    exact ⟨rfl, by (repeat (first | exact Kept.refl _ | assumption | refine Kept.alloc ?_ _ | refine Kept.ext ?_ _ | refine Kept.drew ?_ | refine Kept.drewN ?_ _))⟩
  have HB := Lib.hid hb
  by_cases hk0 : k < 0
  · have e1 : TermS ⟨m0, m1, m2, m3, m4, m5, m6, m7, m8, m9, m10⟩ u0 u1 u2 k = ⟨0, 0, 1⟩ := by unfold TermS rdyS vecS; rw [h, hb, show frB k 0 2 = false from decide_eq_false (by omega)]; rfl
    rw [e1]
    have g1 : decide (k < 0) = true := decide_eq_true hk0
    clear h hb e1
    go_enter Try.func6, Try.ntmps6
    go_wp2_with (first | (go_at_call 14; refine (r4val_any _ _ _ _ _ _ _ _ _ _ _ _).mono ?_; rintro e w1 ⟨rfl, x1, rfl⟩; rw [HM.out]) | (go_at_call 15; refine (small_any _ _ _ _ _ (by omega)).mono ?_; rintro e w1 ⟨rfl, x2, rfl⟩; rw [HB.out]))
    refine bodyPost_ret (by simp only [results, Try.results6]; go_simp; rfl) rfl ?_
    exact ⟨rfl, by (repeat (first | exact Kept.refl _ | assumption | refine Kept.alloc ?_ _ | refine Kept.ext ?_ _ | refine Kept.drew ?_ | refine Kept.drewN ?_ _))⟩
  have g1 : decide (k < 0) = false := decide_eq_false hk0
  by_cases hk2 : 2 < k
  · have e1 : TermS ⟨m0, m1, m2, m3, m4, m5, m6, m7, m8, m9, m10⟩ u0 u1 u2 k = ⟨0, 0, 1⟩ := by unfold TermS rdyS vecS; rw [h, hb, show frB k 0 2 = false from decide_eq_false (by omega)]; rfl
    rw [e1]
    have g2 : decide (2 < k) = true := decide_eq_true hk2
    clear h hb e1
    go_enter Try.func6, Try.ntmps6
    go_wp2_with (first | (go_at_call 14; refine (r4val_any _ _ _ _ _ _ _ _ _ _ _ _).mono ?_; rintro e w1 ⟨rfl, x1, rfl⟩; rw [HM.out]) | (go_at_call 15; refine (small_any _ _ _ _ _ (by omega)).mono ?_; rintro e w1 ⟨rfl, x2, rfl⟩; rw [HB.out]))
    refine bodyPost_ret (by simp only [results, Try.results6]; go_simp; rfl) rfl ?_
    exact ⟨rfl, by (repeat (first | exact Kept.refl _ | assumption | refine Kept.alloc ?_ _ | refine Kept.ext ?_ _ | refine Kept.drew ?_ | refine Kept.drewN ?_ _))⟩
  have g2 : decide (2 < k) = false := decide_eq_false hk2
  have hk : frB k 0 2 = true := decide_eq_true (by omega)
  obtain ⟨c1, c2, c3, c4, c5, c6⟩ := inB_true hb
  by_cases h0 : u0 = 0 ∧ u1 = 0 ∧ u2 = 0
  · have e1 : TermS ⟨m0, m1, m2, m3, m4, m5, m6, m7, m8, m9, m10⟩ u0 u1 u2 k = ⟨0, 0, 11⟩ := by unfold TermS rdyS vecS; rw [h, hb, hk]; simp [h0]
    rw [e1]
    have hsq : ∀ w, Calls Try.prog 16 #[.agg #[.int .i64 u0, .int .i64 u1, .int .i64 u2]] w fun e w' => e = .returned (.int .i64 0) ∧ Kept w w' := fun w => by
      obtain ⟨rfl, rfl, rfl⟩ := h0
      exact r4square_any 0 0 0 w (by omega)
    have HSQ := Lib.hid hsq
    clear h hb e1 h0 hsq
    go_enter Try.func6, Try.ntmps6
    go_wp2_with (first | (go_at_call 14; refine (r4val_any _ _ _ _ _ _ _ _ _ _ _ _).mono ?_; rintro e w1 ⟨rfl, x1, rfl⟩; rw [HM.out]) | (go_at_call 15; refine (small_any _ _ _ _ _ (by omega)).mono ?_; rintro e w1 ⟨rfl, x2, rfl⟩; rw [HB.out]) | (go_at_call 16; refine (HSQ.out _).mono ?_; rintro e w1 ⟨rfl, x3, rfl⟩))
    refine bodyPost_ret (by simp only [results, Try.results6]; go_simp; rfl) rfl ?_
    exact ⟨rfl, by (repeat (first | exact Kept.refl _ | assumption | refine Kept.alloc ?_ _ | refine Kept.ext ?_ _ | refine Kept.drew ?_ | refine Kept.drewN ?_ _))⟩
  have e1 : TermS ⟨m0, m1, m2, m3, m4, m5, m6, m7, m8, m9, m10⟩ u0 u1 u2 k = termS ⟨m0, m1, m2, m3, m4, m5, m6, m7, m8, m9, m10⟩ u0 u1 u2 k := if_pos (by unfold rdyS vecS; rw [h, hb, hk]; simp [h0])
  rw [e1]
  obtain ⟨n, d, t, r, en, ed, et, er, bn, bd, bt, br, bnr, bnn⟩ := term_bd h hb h0
  obtain ⟨q1, q2, q3, q4, q5, q6, q7, q8, q9, q10, q11⟩ := okM_bd h
  simp only at q1 q2 q3 q4 q5 q6 q7 q8 q9 q10 q11
  have z0 := mul_bd 412316860416 q3 (show -384 ≤ u0 ∧ u0 ≤ 384 by omega) rfl
  have z1 := mul_bd 412316860416 q4 (show -384 ≤ u1 ∧ u1 ≤ 384 by omega) rfl
  have z2 := mul_bd 412316860416 q5 (show -384 ≤ u2 ∧ u2 ≤ 384 by omega) rfl
  have hsq : ∀ w, Calls Try.prog 16 #[.agg #[.int .i64 u0, .int .i64 u1, .int .i64 u2]] w fun e w' => e = .returned (.int .i64 n) ∧ Kept w w' := fun w => by
    rw [← en]
    exact r4square_any u0 u1 u2 w (by omega)
  have hwt : ∀ w, Calls Try.prog 19 #[.agg #[.int .i64 m0, .int .i64 m1, .int .i64 m2, .int .i64 m3, .int .i64 m4, .int .i64 m5, .int .i64 m6, .int .i64 m7, .int .i64 m8, .int .i64 m9, .int .i64 m10], .agg #[.int .i64 u0, .int .i64 u1, .int .i64 u2]] w fun e w' => e = .returned (.int .i64 t) ∧ Kept w w' := fun w => by
    rw [← et]
    exact r4wt_any m0 m1 m2 m3 m4 m5 m6 m7 m8 m9 m10 u0 u1 u2 w h hb
  have hinv : ∀ w, Calls Try.prog 17 #[.int .i64 n, .int .i64 1] w fun e w' => e = .returned (.tuple #[.agg #[.int .i64 (inverseS n 1).lo, .int .i64 (inverseS n 1).hi], .int .i64 0]) ∧ Kept w w' := fun w => by
    have := refInv_any n 1 w
    rwa [inv1_ok (by omega)] at this
  have g3 : (n == 0) = false := beq_eq_false_iff_ne.2 (by omega)
  have g4 : decide (n = 0) = false := decide_eq_false (by omega)
  have HSQ := Lib.hid hsq
  have HW := Lib.hid hwt
  have hk3 : k = 0 ∨ k = 1 ∨ k = 2 := by omega
  clear hsq hwt h hb h0 hk g1 g2 hk0 hk2 c1 c2 c3 c4 c5 c6 e1
  rcases hk3 with rfl | rfl | rfl
  · have e : termS ⟨m0, m1, m2, m3, m4, m5, m6, m7, m8, m9, m10⟩ u0 u1 u2 0 = scaleS (inverseS n 1).lo (inverseS n 1).hi m0 := by
      unfold termS
      rw [if_pos rfl, en]
    rw [e]
    obtain ⟨x, hx⟩ : ∃ x, (inverseS n 1).lo = x := ⟨_, rfl⟩
    obtain ⟨y, hy⟩ : ∃ x, (inverseS n 1).hi = x := ⟨_, rfl⟩
    rw [hx, hy] at hinv ⊢
    have HI := Lib.hid hinv
    clear hinv e hx hy en ed et er z0 z1 z2 q1 q2 q3 q4 q5 q6 q7 q8 q9 q10 q11
    go_enter Try.func6, Try.ntmps6
    go_wp2_with (first | (go_at_call 14; refine (r4val_any _ _ _ _ _ _ _ _ _ _ _ _).mono ?_; rintro e w1 ⟨rfl, x1, rfl⟩; rw [HM.out]) | (go_at_call 15; refine (small_any _ _ _ _ _ (by omega)).mono ?_; rintro e w1 ⟨rfl, x2, rfl⟩; rw [HB.out]) | (go_at_call 16; refine (HSQ.out _).mono ?_; rintro e w1 ⟨rfl, x3, rfl⟩) | (go_at_call 17; refine (HI.out _).mono ?_; rintro e w1 ⟨rfl, x4, rfl⟩) | (go_at_call 18; refine (rscale_any _ _ _ _).mono ?_; rintro e w1 ⟨rfl, x7, rfl⟩))
    refine bodyPost_ret (by simp only [results, Try.results6]; go_simp; rfl) rfl ?_
    exact ⟨rfl, by (repeat (first | exact Kept.refl _ | assumption | refine Kept.alloc ?_ _ | refine Kept.ext ?_ _ | refine Kept.drew ?_ | refine Kept.drewN ?_ _))⟩
  · have e : termS ⟨m0, m1, m2, m3, m4, m5, m6, m7, m8, m9, m10⟩ u0 u1 u2 1 = overS (d) (3 * n) n := by
      unfold termS
      rw [if_neg (by decide), if_pos rfl, en, ← ed]
    rw [e]
    clear e en et er q1 q2 q3 q4 q5 q6 q7 q8 q9 q10 q11
    have hq : ∀ w, Calls Try.prog 20 #[.int .i64 (d), .int .i64 (3 * n)] w fun e w' => e = .returned (.tuple #[.agg #[.int .i64 (qmS (d) (3 * n)).lo, .int .i64 (qmS (d) (3 * n)).hi], .int .i64 (qmS (d) (3 * n)).e]) ∧ Kept w w' := fun w => r4quo_any (d) (3 * n) w (by omega) (by omega)
    by_cases hz : (qmS (d) (3 * n)).e = 0
    · rw [show overS (d) (3 * n) n = mulS (qmS (d) (3 * n)).lo (qmS (d) (3 * n)).hi (inverseS n 1).lo (inverseS n 1).hi from if_pos hz]
      rw [hz] at hq
      obtain ⟨x, hx⟩ : ∃ x, (qmS (d) (3 * n)).lo = x := ⟨_, rfl⟩
      obtain ⟨y, hy⟩ : ∃ x, (qmS (d) (3 * n)).hi = x := ⟨_, rfl⟩
      obtain ⟨z, hz2⟩ : ∃ x, (inverseS n 1).lo = x := ⟨_, rfl⟩
      obtain ⟨v, hv⟩ : ∃ x, (inverseS n 1).hi = x := ⟨_, rfl⟩
      rw [hx, hy] at hq ⊢
      rw [hz2, hv] at hinv ⊢
      have HQ := Lib.hid hq
      have HI := Lib.hid hinv
      clear hq hinv hz hx hy hz2 hv
      go_enter Try.func6, Try.ntmps6
      go_wp2_with (first | (go_at_call 14; refine (r4val_any _ _ _ _ _ _ _ _ _ _ _ _).mono ?_; rintro e w1 ⟨rfl, x1, rfl⟩; rw [HM.out]) | (go_at_call 15; refine (small_any _ _ _ _ _ (by omega)).mono ?_; rintro e w1 ⟨rfl, x2, rfl⟩; rw [HB.out]) | (go_at_call 16; refine (HSQ.out _).mono ?_; rintro e w1 ⟨rfl, x3, rfl⟩) | (go_at_call 17; refine (HI.out _).mono ?_; rintro e w1 ⟨rfl, x4, rfl⟩) | (go_at_call 20; refine (HQ.out _).mono ?_; rintro e w1 ⟨rfl, x5, rfl⟩) | (go_at_call 21; refine (rmul_any _ _ _ _ _).mono ?_; rintro e w1 ⟨rfl, x6, rfl⟩))
      refine bodyPost_ret (by simp only [results, Try.results6]; go_simp; rfl) rfl ?_
      exact ⟨rfl, by (repeat (first | exact Kept.refl _ | assumption | refine Kept.alloc ?_ _ | refine Kept.ext ?_ _ | refine Kept.drew ?_ | refine Kept.drewN ?_ _))⟩
    · rw [show overS (d) (3 * n) n = ⟨0, 0, 4⟩ from if_neg hz]
      rw [qm_e4 hz] at hq
      obtain ⟨x, hx⟩ : ∃ x, (qmS (d) (3 * n)).lo = x := ⟨_, rfl⟩
      obtain ⟨y, hy⟩ : ∃ x, (qmS (d) (3 * n)).hi = x := ⟨_, rfl⟩
      rw [hx, hy] at hq
      have HQ := Lib.hid hq
      have HI := Lib.hid hinv
      clear hq hinv hz hx hy
      go_enter Try.func6, Try.ntmps6
      go_wp2_with (first | (go_at_call 14; refine (r4val_any _ _ _ _ _ _ _ _ _ _ _ _).mono ?_; rintro e w1 ⟨rfl, x1, rfl⟩; rw [HM.out]) | (go_at_call 15; refine (small_any _ _ _ _ _ (by omega)).mono ?_; rintro e w1 ⟨rfl, x2, rfl⟩; rw [HB.out]) | (go_at_call 16; refine (HSQ.out _).mono ?_; rintro e w1 ⟨rfl, x3, rfl⟩) | (go_at_call 17; refine (HI.out _).mono ?_; rintro e w1 ⟨rfl, x4, rfl⟩) | (go_at_call 20; refine (HQ.out _).mono ?_; rintro e w1 ⟨rfl, x5, rfl⟩) | (go_at_call 21; refine (rmul_any _ _ _ _ _).mono ?_; rintro e w1 ⟨rfl, x6, rfl⟩))
      refine bodyPost_ret (by simp only [results, Try.results6]; go_simp; rfl) rfl ?_
      exact ⟨rfl, by (repeat (first | exact Kept.refl _ | assumption | refine Kept.alloc ?_ _ | refine Kept.ext ?_ _ | refine Kept.drew ?_ | refine Kept.drewN ?_ _))⟩
  · have e : termS ⟨m0, m1, m2, m3, m4, m5, m6, m7, m8, m9, m10⟩ u0 u1 u2 2 = overS (3 * t - n * r) (24 * n * n) n := by
      unfold termS
      rw [if_neg (by decide), if_neg (by decide), en, ← et, ← er]
    rw [e]
    clear e en et
    have hq : ∀ w, Calls Try.prog 20 #[.int .i64 (3 * t - n * r), .int .i64 (24 * n * n)] w fun e w' => e = .returned (.tuple #[.agg #[.int .i64 (qmS (3 * t - n * r) (24 * n * n)).lo, .int .i64 (qmS (3 * t - n * r) (24 * n * n)).hi], .int .i64 (qmS (3 * t - n * r) (24 * n * n)).e]) ∧ Kept w w' := fun w => r4quo_any (3 * t - n * r) (24 * n * n) w (by omega) (by omega)
    by_cases hz : (qmS (3 * t - n * r) (24 * n * n)).e = 0
    · rw [show overS (3 * t - n * r) (24 * n * n) n = mulS (qmS (3 * t - n * r) (24 * n * n)).lo (qmS (3 * t - n * r) (24 * n * n)).hi (inverseS n 1).lo (inverseS n 1).hi from if_pos hz]
      rw [hz] at hq
      obtain ⟨x, hx⟩ : ∃ x, (qmS (3 * t - n * r) (24 * n * n)).lo = x := ⟨_, rfl⟩
      obtain ⟨y, hy⟩ : ∃ x, (qmS (3 * t - n * r) (24 * n * n)).hi = x := ⟨_, rfl⟩
      obtain ⟨z, hz2⟩ : ∃ x, (inverseS n 1).lo = x := ⟨_, rfl⟩
      obtain ⟨v, hv⟩ : ∃ x, (inverseS n 1).hi = x := ⟨_, rfl⟩
      rw [hx, hy] at hq ⊢
      rw [hz2, hv] at hinv ⊢
      have HQ := Lib.hid hq
      have HI := Lib.hid hinv
      clear hq hinv hz hx hy hz2 hv
      go_enter Try.func6, Try.ntmps6
      go_wp2_with (first | (go_at_call 14; refine (r4val_any _ _ _ _ _ _ _ _ _ _ _ _).mono ?_; rintro e w1 ⟨rfl, x1, rfl⟩; rw [HM.out]) | (go_at_call 15; refine (small_any _ _ _ _ _ (by omega)).mono ?_; rintro e w1 ⟨rfl, x2, rfl⟩; rw [HB.out]) | (go_at_call 16; refine (HSQ.out _).mono ?_; rintro e w1 ⟨rfl, x3, rfl⟩) | (go_at_call 17; refine (HI.out _).mono ?_; rintro e w1 ⟨rfl, x4, rfl⟩) | (go_at_call 20; refine (HQ.out _).mono ?_; rintro e w1 ⟨rfl, x5, rfl⟩) | (go_at_call 21; refine (rmul_any _ _ _ _ _).mono ?_; rintro e w1 ⟨rfl, x6, rfl⟩))
      ((first | (with_reducible refine wp_region_kept2 (by kernel_rfl) (by kernel_rfl) ?_) | refine wp_region_kept (by kernel_rfl) (by kernel_rfl) ?_); (repeat (go_big_quiet_step (first | (go_at_call 19; exact Calls.kept_of (HW.out _))))); refine wpQuiet_nil ?_; intro x9)
      go_wp2_with (first | (go_at_call 20; refine (HQ.out _).mono ?_; rintro e w1 ⟨rfl, x5, rfl⟩) | (go_at_call 21; refine (rmul_any _ _ _ _ _).mono ?_; rintro e w1 ⟨rfl, x6, rfl⟩))
      refine bodyPost_ret (by simp only [results, Try.results6]; go_simp; rfl) rfl ?_
      exact ⟨rfl, by (repeat (first | exact Kept.refl _ | assumption | refine Kept.alloc ?_ _ | refine Kept.ext ?_ _ | refine Kept.drew ?_ | refine Kept.drewN ?_ _))⟩
    · rw [show overS (3 * t - n * r) (24 * n * n) n = ⟨0, 0, 4⟩ from if_neg hz]
      rw [qm_e4 hz] at hq
      obtain ⟨x, hx⟩ : ∃ x, (qmS (3 * t - n * r) (24 * n * n)).lo = x := ⟨_, rfl⟩
      obtain ⟨y, hy⟩ : ∃ x, (qmS (3 * t - n * r) (24 * n * n)).hi = x := ⟨_, rfl⟩
      rw [hx, hy] at hq
      have HQ := Lib.hid hq
      have HI := Lib.hid hinv
      clear hq hinv hz hx hy
      go_enter Try.func6, Try.ntmps6
      go_wp2_with (first | (go_at_call 14; refine (r4val_any _ _ _ _ _ _ _ _ _ _ _ _).mono ?_; rintro e w1 ⟨rfl, x1, rfl⟩; rw [HM.out]) | (go_at_call 15; refine (small_any _ _ _ _ _ (by omega)).mono ?_; rintro e w1 ⟨rfl, x2, rfl⟩; rw [HB.out]) | (go_at_call 16; refine (HSQ.out _).mono ?_; rintro e w1 ⟨rfl, x3, rfl⟩) | (go_at_call 17; refine (HI.out _).mono ?_; rintro e w1 ⟨rfl, x4, rfl⟩) | (go_at_call 20; refine (HQ.out _).mono ?_; rintro e w1 ⟨rfl, x5, rfl⟩) | (go_at_call 21; refine (rmul_any _ _ _ _ _).mono ?_; rintro e w1 ⟨rfl, x6, rfl⟩))
      ((first | (with_reducible refine wp_region_kept2 (by kernel_rfl) (by kernel_rfl) ?_) | refine wp_region_kept (by kernel_rfl) (by kernel_rfl) ?_); (repeat (go_big_quiet_step (first | (go_at_call 19; exact Calls.kept_of (HW.out _))))); refine wpQuiet_nil ?_; intro x9)
      go_wp2_with (first | (go_at_call 20; refine (HQ.out _).mono ?_; rintro e w1 ⟨rfl, x5, rfl⟩) | (go_at_call 21; refine (rmul_any _ _ _ _ _).mono ?_; rintro e w1 ⟨rfl, x6, rfl⟩))
      refine bodyPost_ret (by simp only [results, Try.results6]; go_simp; rfl) rfl ?_
      exact ⟨rfl, by (repeat (first | exact Kept.refl _ | assumption | refine Kept.alloc ?_ _ | refine Kept.ext ?_ _ | refine Kept.drew ?_ | refine Kept.drewN ?_ _))⟩
end Go.Proofs.Ytldchncnadllpaa
