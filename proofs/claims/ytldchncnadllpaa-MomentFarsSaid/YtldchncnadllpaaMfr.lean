/- For every input the statement MomentFars returns true and leaves its arguments as they were. No conditions. -/
import Derived.Test.YtldchncnadllpaaMvr
import Derived.Test.YtldchncnadllpaaResr
import Derived.Test.YtldchncnadllpaaSane
namespace Go.Proofs.Ytldchncnadllpaa
set_option linter.unusedVariables false
set_option linter.unusedSimpArgs false
open Go.ChangeShapes Go.WideShapes Go.ChangeAt Go.RowKit
theorem rest_bd {g0 g1 u0 u1 u2 g2 : Int} (h : (restS g0 g1 u0 u1 u2 g2).e = 0) : 0 ≤ (restS g0 g1 u0 u1 u2 g2).v ∧ (restS g0 g1 u0 u1 u2 g2).v ≤ 1099511627776 := by
  unfold restS at h ⊢
  split at h
  · rename_i hc
    rw [if_pos hc]
    simp only [Bool.and_eq_true] at hc
    obtain ⟨⟨⟨h0, h1⟩, h2⟩, h3⟩ := hc
    have c0 := frB_true h0
    have c1 := frB_true h1
    have s0 := (sqrtS_spec (show 0 ≤ g1 * 1048576 * 1048576 by omega)).1
    have a0 : 0 ≤ rootUpS (g1 * 1048576 * 1048576) := by unfold rootUpS; split <;> omega
    generalize rootUpS (g1 * 1048576 * 1048576) = a at *
    generalize sqrtS ((u0 * u0 + u1 * u1 + u2 * u2) * 1048576 * 1048576) = r at *
    unfold restV at h ⊢
    split at h
    · cases h
    · rename_i hr
      rw [if_neg hr]
      split at h
      · cases h
      · rename_i hb
        rw [if_neg hb]
        have t := upS_bd (n := a * 1048576) (d := r) (m := 1048576) (by omega) (by omega) (by omega)
        have e := (eS_bd t g2.toNat).1
        have n0 := Int.mul_nonneg c0.1 e
        have n1 := Int.mul_nonneg n0 (show (0 : Int) ≤ 1048576 by decide)
        have n2 := Int.mul_le_mul_of_nonneg_left (show 1 ≤ r - a by omega) n1
        rw [Int.mul_one] at n2
        have u := upS_bd (n := g0 * eS (upS (a * 1048576) r) g2.toNat * 1048576) (d := r - a) (m := g0 * eS (upS (a * 1048576) r) g2.toNat * 1048576) (by omega) n1 n2
        exact ⟨u.1, by show upS _ _ ≤ _; omega⟩
  · cases h
theorem good_valV {m0 m1 m2 m3 m4 m5 m6 m7 m8 m9 m10 u0 u1 u2 k : Int} : good (valV ⟨m0, m1, m2, m3, m4, m5, m6, m7, m8, m9, m10⟩ u0 u1 u2 k) := by
  unfold valV v1 v2 v3
  split
  · split
    · exact good_res _ _
    · exact .inr rfl
  · split
    · split
      · exact good_res _ _
      · exact .inr rfl
    · split
      · exact good_res _ _
      · exact .inr rfl
theorem val_ok {m0 m1 m2 m3 m4 m5 m6 m7 m8 m9 m10 u0 u1 u2 k : Int} (h : (ValS ⟨m0, m1, m2, m3, m4, m5, m6, m7, m8, m9, m10⟩ u0 u1 u2 k).e = 0) : validB (ValS ⟨m0, m1, m2, m3, m4, m5, m6, m7, m8, m9, m10⟩ u0 u1 u2 k).lo (ValS ⟨m0, m1, m2, m3, m4, m5, m6, m7, m8, m9, m10⟩ u0 u1 u2 k).hi = true := by
  unfold ValS at h ⊢
  split at h
  · rename_i hr
    rw [if_pos hr]
    exact good_v good_valV h
  · rename_i hr
    exact absurd h hr
/-- The far field with its bound. -/
def farV (m : Mo) (g u0 u1 u2 k : Int) : R := if (ValS m u0 u1 u2 k).e = 0 then (if (restS m.t g u0 u1 u2 k).e = 0 then resultS ((ValS m u0 u1 u2 k).lo - (restS m.t g u0 u1 u2 k).v) ((ValS m u0 u1 u2 k).hi + (restS m.t g u0 u1 u2 k).v) else ⟨0, 0, (restS m.t g u0 u1 u2 k).e⟩) else ⟨0, 0, (ValS m u0 u1 u2 k).e⟩
set_option maxRecDepth 100000 in
set_option maxHeartbeats 8000000 in
theorem mFar_any (m0 m1 m2 m3 m4 m5 m6 m7 m8 m9 m10 g u0 u1 u2 k : Int) (w : World) :
    Calls Try.prog 10 #[.agg #[.int .i64 m0, .int .i64 m1, .int .i64 m2, .int .i64 m3, .int .i64 m4, .int .i64 m5, .int .i64 m6, .int .i64 m7, .int .i64 m8, .int .i64 m9, .int .i64 m10], .int .i64 g, .agg #[.int .i64 u0, .int .i64 u1, .int .i64 u2], .int .i64 k] w fun e w' => e = .returned (.tuple #[.agg #[.int .i64 (farV ⟨m0, m1, m2, m3, m4, m5, m6, m7, m8, m9, m10⟩ g u0 u1 u2 k).lo, .int .i64 (farV ⟨m0, m1, m2, m3, m4, m5, m6, m7, m8, m9, m10⟩ g u0 u1 u2 k).hi], .int .i64 (farV ⟨m0, m1, m2, m3, m4, m5, m6, m7, m8, m9, m10⟩ g u0 u1 u2 k).e]) ∧ Kept w w' := by
  have hv : ∀ w, _ := fun w => mValue_any m0 m1 m2 m3 m4 m5 m6 m7 m8 m9 m10 u0 u1 u2 k w
  have hr : ∀ w, _ := fun w => mrest_any m1 g u0 u1 u2 k w
  by_cases h0 : (ValS ⟨m0, m1, m2, m3, m4, m5, m6, m7, m8, m9, m10⟩ u0 u1 u2 k).e = 0
  · have hb := valid_bd (val_ok h0)
    rw [h0] at hv
    by_cases h1 : (restS m1 g u0 u1 u2 k).e = 0
    · have hc := rest_bd h1
      rw [show farV ⟨m0, m1, m2, m3, m4, m5, m6, m7, m8, m9, m10⟩ g u0 u1 u2 k = resultS ((ValS ⟨m0, m1, m2, m3, m4, m5, m6, m7, m8, m9, m10⟩ u0 u1 u2 k).lo - (restS m1 g u0 u1 u2 k).v) ((ValS ⟨m0, m1, m2, m3, m4, m5, m6, m7, m8, m9, m10⟩ u0 u1 u2 k).hi + (restS m1 g u0 u1 u2 k).v) by unfold farV; rw [if_pos h0, if_pos h1]]
      rw [h1] at hr
      obtain ⟨x, hx⟩ : ∃ x, (ValS ⟨m0, m1, m2, m3, m4, m5, m6, m7, m8, m9, m10⟩ u0 u1 u2 k).lo = x := ⟨_, rfl⟩
      obtain ⟨y, hy⟩ : ∃ x, (ValS ⟨m0, m1, m2, m3, m4, m5, m6, m7, m8, m9, m10⟩ u0 u1 u2 k).hi = x := ⟨_, rfl⟩
      obtain ⟨z, hz⟩ : ∃ x, (restS m1 g u0 u1 u2 k).v = x := ⟨_, rfl⟩
      rw [hx, hy] at hv hb ⊢
      rw [hz] at hr hc ⊢
      have HV := Lib.hid hv
      have HR := Lib.hid hr
      clear hv hr h0 h1 hx hy hz
      unfold resultS
      cases hq : validB (x - z) (y + z)
      all_goals
        have HQ := Lib.hid hq
        clear hq
        go_enter Try.func10, Try.ntmps10
        go_wp2_with (first | (go_at_call 7; refine (HV.out _).mono ?_; rintro e w1 ⟨rfl, x1, rfl⟩) | (go_at_call 27; refine (HR.out _).mono ?_; rintro e w1 ⟨rfl, x2, rfl⟩) | (go_at_call 28; refine (valid_any _ _ _).mono ?_; rintro e w1 ⟨rfl, x3, rfl⟩; rw [HQ.out]))
        refine bodyPost_ret (by simp only [results, Try.results10]; go_simp; rfl) rfl ?_
        exact ⟨rfl, by (repeat (first | exact Kept.refl _ | assumption | refine Kept.alloc ?_ _ | refine Kept.ext ?_ _ | refine Kept.drew ?_ | refine Kept.drewN ?_ _))⟩
    · rw [show farV ⟨m0, m1, m2, m3, m4, m5, m6, m7, m8, m9, m10⟩ g u0 u1 u2 k = ⟨0, 0, (restS m1 g u0 u1 u2 k).e⟩ by unfold farV; rw [if_pos h0, if_neg h1]]
      obtain ⟨x, hx⟩ : ∃ x, (ValS ⟨m0, m1, m2, m3, m4, m5, m6, m7, m8, m9, m10⟩ u0 u1 u2 k).lo = x := ⟨_, rfl⟩
      obtain ⟨y, hy⟩ : ∃ x, (ValS ⟨m0, m1, m2, m3, m4, m5, m6, m7, m8, m9, m10⟩ u0 u1 u2 k).hi = x := ⟨_, rfl⟩
      obtain ⟨z, hz⟩ : ∃ x, (restS m1 g u0 u1 u2 k).v = x := ⟨_, rfl⟩
      obtain ⟨er, he⟩ : ∃ x, (restS m1 g u0 u1 u2 k).e = x := ⟨_, rfl⟩
      rw [hx, hy] at hv
      rw [hz, he] at hr
      rw [he] at h1 ⊢
      have HV := Lib.hid hv
      have HR := Lib.hid hr
      have g1 : (er == 0) = false := by simpa using h1
      have g2 : decide (er = 0) = false := by simpa using h1
      clear hv hr h0 h1 hx hy hz he hb
      go_enter Try.func10, Try.ntmps10
      go_wp2_with (first | (go_at_call 7; refine (HV.out _).mono ?_; rintro e w1 ⟨rfl, x1, rfl⟩) | (go_at_call 27; refine (HR.out _).mono ?_; rintro e w1 ⟨rfl, x2, rfl⟩))
      refine bodyPost_ret (by simp only [results, Try.results10]; go_simp; rfl) rfl ?_
      exact ⟨rfl, by (repeat (first | exact Kept.refl _ | assumption | refine Kept.alloc ?_ _ | refine Kept.ext ?_ _ | refine Kept.drew ?_ | refine Kept.drewN ?_ _))⟩
  · rw [show farV ⟨m0, m1, m2, m3, m4, m5, m6, m7, m8, m9, m10⟩ g u0 u1 u2 k = ⟨0, 0, (ValS ⟨m0, m1, m2, m3, m4, m5, m6, m7, m8, m9, m10⟩ u0 u1 u2 k).e⟩ from if_neg h0]
    obtain ⟨x, hx⟩ : ∃ x, (ValS ⟨m0, m1, m2, m3, m4, m5, m6, m7, m8, m9, m10⟩ u0 u1 u2 k).lo = x := ⟨_, rfl⟩
    obtain ⟨y, hy⟩ : ∃ x, (ValS ⟨m0, m1, m2, m3, m4, m5, m6, m7, m8, m9, m10⟩ u0 u1 u2 k).hi = x := ⟨_, rfl⟩
    obtain ⟨er, he⟩ : ∃ x, (ValS ⟨m0, m1, m2, m3, m4, m5, m6, m7, m8, m9, m10⟩ u0 u1 u2 k).e = x := ⟨_, rfl⟩
    rw [hx, hy, he] at hv
    rw [he] at h0 ⊢
    have HV := Lib.hid hv
    have g1 : (er == 0) = false := by simpa using h0
    have g2 : decide (er = 0) = false := by simpa using h0
    clear hv hr h0 hx hy he
    go_enter Try.func10, Try.ntmps10
    go_wp2_with (go_at_call 7; refine (HV.out _).mono ?_; rintro e w1 ⟨rfl, x1, rfl⟩)
    refine bodyPost_ret (by simp only [results, Try.results10]; go_simp; rfl) rfl ?_
    exact ⟨rfl, by (repeat (first | exact Kept.refl _ | assumption | refine Kept.alloc ?_ _ | refine Kept.ext ?_ _ | refine Kept.drew ?_ | refine Kept.drewN ?_ _))⟩
set_option maxRecDepth 100000 in
set_option maxHeartbeats 8000000 in
theorem r4Far_any (m0 m1 m2 m3 m4 m5 m6 m7 m8 m9 m10 g u0 u1 u2 k : Int) (w : World) :
    Calls Try.prog 11 #[.agg #[.int .i64 m0, .int .i64 m1, .int .i64 m2, .int .i64 m3, .int .i64 m4, .int .i64 m5, .int .i64 m6, .int .i64 m7, .int .i64 m8, .int .i64 m9, .int .i64 m10], .int .i64 g, .agg #[.int .i64 u0, .int .i64 u1, .int .i64 u2], .int .i64 k] w fun e w' => e = .returned (.tuple #[.agg #[.int .i64 (farV ⟨m0, m1, m2, m3, m4, m5, m6, m7, m8, m9, m10⟩ g u0 u1 u2 k).lo, .int .i64 (farV ⟨m0, m1, m2, m3, m4, m5, m6, m7, m8, m9, m10⟩ g u0 u1 u2 k).hi], .int .i64 (farV ⟨m0, m1, m2, m3, m4, m5, m6, m7, m8, m9, m10⟩ g u0 u1 u2 k).e]) ∧ Kept w w' := by
  have hv : ∀ w, _ := fun w => r4Value_any m0 m1 m2 m3 m4 m5 m6 m7 m8 m9 m10 u0 u1 u2 k w
  have hr : ∀ w, _ := fun w => r4rest_any m1 g u0 u1 u2 k w
  by_cases h0 : (ValS ⟨m0, m1, m2, m3, m4, m5, m6, m7, m8, m9, m10⟩ u0 u1 u2 k).e = 0
  · have hb := valid_bd (val_ok h0)
    rw [h0] at hv
    by_cases h1 : (restS m1 g u0 u1 u2 k).e = 0
    · have hc := rest_bd h1
      rw [show farV ⟨m0, m1, m2, m3, m4, m5, m6, m7, m8, m9, m10⟩ g u0 u1 u2 k = resultS ((ValS ⟨m0, m1, m2, m3, m4, m5, m6, m7, m8, m9, m10⟩ u0 u1 u2 k).lo - (restS m1 g u0 u1 u2 k).v) ((ValS ⟨m0, m1, m2, m3, m4, m5, m6, m7, m8, m9, m10⟩ u0 u1 u2 k).hi + (restS m1 g u0 u1 u2 k).v) by unfold farV; rw [if_pos h0, if_pos h1]]
      rw [h1] at hr
      obtain ⟨x, hx⟩ : ∃ x, (ValS ⟨m0, m1, m2, m3, m4, m5, m6, m7, m8, m9, m10⟩ u0 u1 u2 k).lo = x := ⟨_, rfl⟩
      obtain ⟨y, hy⟩ : ∃ x, (ValS ⟨m0, m1, m2, m3, m4, m5, m6, m7, m8, m9, m10⟩ u0 u1 u2 k).hi = x := ⟨_, rfl⟩
      obtain ⟨z, hz⟩ : ∃ x, (restS m1 g u0 u1 u2 k).v = x := ⟨_, rfl⟩
      rw [hx, hy] at hv hb ⊢
      rw [hz] at hr hc ⊢
      have HV := Lib.hid hv
      have HR := Lib.hid hr
      clear hv hr h0 h1 hx hy hz
      unfold resultS
      cases hq : validB (x - z) (y + z)
      all_goals
        have HQ := Lib.hid hq
        clear hq
        go_enter Try.func11, Try.ntmps11
        go_wp2_with (first | (go_at_call 8; refine (HV.out _).mono ?_; rintro e w1 ⟨rfl, x1, rfl⟩) | (go_at_call 29; refine (HR.out _).mono ?_; rintro e w1 ⟨rfl, x2, rfl⟩) | (go_at_call 30; refine (rvalid_any _ _ _).mono ?_; rintro e w1 ⟨rfl, x3, rfl⟩; rw [HQ.out]))
        refine bodyPost_ret (by simp only [results, Try.results11]; go_simp; rfl) rfl ?_
        exact ⟨rfl, by (repeat (first | exact Kept.refl _ | assumption | refine Kept.alloc ?_ _ | refine Kept.ext ?_ _ | refine Kept.drew ?_ | refine Kept.drewN ?_ _))⟩
    · rw [show farV ⟨m0, m1, m2, m3, m4, m5, m6, m7, m8, m9, m10⟩ g u0 u1 u2 k = ⟨0, 0, (restS m1 g u0 u1 u2 k).e⟩ by unfold farV; rw [if_pos h0, if_neg h1]]
      obtain ⟨x, hx⟩ : ∃ x, (ValS ⟨m0, m1, m2, m3, m4, m5, m6, m7, m8, m9, m10⟩ u0 u1 u2 k).lo = x := ⟨_, rfl⟩
      obtain ⟨y, hy⟩ : ∃ x, (ValS ⟨m0, m1, m2, m3, m4, m5, m6, m7, m8, m9, m10⟩ u0 u1 u2 k).hi = x := ⟨_, rfl⟩
      obtain ⟨z, hz⟩ : ∃ x, (restS m1 g u0 u1 u2 k).v = x := ⟨_, rfl⟩
      obtain ⟨er, he⟩ : ∃ x, (restS m1 g u0 u1 u2 k).e = x := ⟨_, rfl⟩
      rw [hx, hy] at hv
      rw [hz, he] at hr
      rw [he] at h1 ⊢
      have HV := Lib.hid hv
      have HR := Lib.hid hr
      have g1 : (er == 0) = false := by simpa using h1
      have g2 : decide (er = 0) = false := by simpa using h1
      clear hv hr h0 h1 hx hy hz he hb
      go_enter Try.func11, Try.ntmps11
      go_wp2_with (first | (go_at_call 8; refine (HV.out _).mono ?_; rintro e w1 ⟨rfl, x1, rfl⟩) | (go_at_call 29; refine (HR.out _).mono ?_; rintro e w1 ⟨rfl, x2, rfl⟩))
      refine bodyPost_ret (by simp only [results, Try.results11]; go_simp; rfl) rfl ?_
      exact ⟨rfl, by (repeat (first | exact Kept.refl _ | assumption | refine Kept.alloc ?_ _ | refine Kept.ext ?_ _ | refine Kept.drew ?_ | refine Kept.drewN ?_ _))⟩
  · rw [show farV ⟨m0, m1, m2, m3, m4, m5, m6, m7, m8, m9, m10⟩ g u0 u1 u2 k = ⟨0, 0, (ValS ⟨m0, m1, m2, m3, m4, m5, m6, m7, m8, m9, m10⟩ u0 u1 u2 k).e⟩ from if_neg h0]
    obtain ⟨x, hx⟩ : ∃ x, (ValS ⟨m0, m1, m2, m3, m4, m5, m6, m7, m8, m9, m10⟩ u0 u1 u2 k).lo = x := ⟨_, rfl⟩
    obtain ⟨y, hy⟩ : ∃ x, (ValS ⟨m0, m1, m2, m3, m4, m5, m6, m7, m8, m9, m10⟩ u0 u1 u2 k).hi = x := ⟨_, rfl⟩
    obtain ⟨er, he⟩ : ∃ x, (ValS ⟨m0, m1, m2, m3, m4, m5, m6, m7, m8, m9, m10⟩ u0 u1 u2 k).e = x := ⟨_, rfl⟩
    rw [hx, hy, he] at hv
    rw [he] at h0 ⊢
    have HV := Lib.hid hv
    have g1 : (er == 0) = false := by simpa using h0
    have g2 : decide (er = 0) = false := by simpa using h0
    clear hv hr h0 hx hy he
    go_enter Try.func11, Try.ntmps11
    go_wp2_with (go_at_call 8; refine (HV.out _).mono ?_; rintro e w1 ⟨rfl, x1, rfl⟩)
    refine bodyPost_ret (by simp only [results, Try.results11]; go_simp; rfl) rfl ?_
    exact ⟨rfl, by (repeat (first | exact Kept.refl _ | assumption | refine Kept.alloc ?_ _ | refine Kept.ext ?_ _ | refine Kept.drew ?_ | refine Kept.drewN ?_ _))⟩
set_option maxRecDepth 100000 in
set_option maxHeartbeats 8000000 in
theorem fars_law (m0 m1 m2 m3 m4 m5 m6 m7 m8 m9 m10 g u0 u1 u2 k : Int) (w : World) :
    Calls Try.prog 4 #[.agg #[.int .i64 m0, .int .i64 m1, .int .i64 m2, .int .i64 m3, .int .i64 m4, .int .i64 m5, .int .i64 m6, .int .i64 m7, .int .i64 m8, .int .i64 m9, .int .i64 m10], .int .i64 g, .agg #[.int .i64 u0, .int .i64 u1, .int .i64 u2, .int .i64 k]] w fun r w' => r = .returned (.bool true) ∧ Kept w w' := by
  have h1 : ∀ w, _ := fun w => mFar_any m0 m1 m2 m3 m4 m5 m6 m7 m8 m9 m10 g u0 u1 u2 k w
  have h2 : ∀ w, _ := fun w => r4Far_any m0 m1 m2 m3 m4 m5 m6 m7 m8 m9 m10 g u0 u1 u2 k w
  obtain ⟨t, ht⟩ : ∃ t, farV ⟨m0, m1, m2, m3, m4, m5, m6, m7, m8, m9, m10⟩ g u0 u1 u2 k = t := ⟨_, rfl⟩
  rw [ht] at h1 h2
  have H1 := Lib.hid h1
  have H2 := Lib.hid h2
  clear h1 h2 ht
  go_enter Try.func4, Try.ntmps4
  go_wp2_with (first | (go_at_call 10; refine (H1.out _).mono ?_; rintro e w1 ⟨rfl, x1, rfl⟩) | (go_at_call 11; refine (H2.out _).mono ?_; rintro e w1 ⟨rfl, x2, rfl⟩) | (first | (go_at_call 9; refine (sane_any _).mono ?_; rintro e w1 ⟨rfl, x, rfl⟩)))
  go_ret
  exact ⟨rfl, by (repeat (first | exact Kept.refl _ | assumption | refine Kept.alloc ?_ _ | refine Kept.ext ?_ _ | refine Kept.drew ?_ | refine Kept.drewN ?_ _))⟩
theorem ownMomentFars : ownKnob Try.prog.godebug = none := by kernel_rfl
theorem laidOutMomentFars : laidOutB Try.prog = true := by kernel_rfl
set_option linter.unusedVariables false in
set_option maxRecDepth 100000 in
theorem liftedMomentFars (os : Os) (started : os.Started) (H : Type) (enc : TypeId × Value → H) :
    ReturnsInHanded {} Try.checked os 4 .any (Rows.momentFarsSpec.pre6 enc Try.prog Try.f4 Rows.momentFarsRow.domain false) (Rows.momentFarsSpec.post enc Try.prog Try.f4 false true false false) := by
  refine returnsInHanded_of_change (C := Try.checked) ownMomentFars started (by kernel_rfl) Try.func4
    (ChangeSpec.witness6 (enc := enc) (C := Try.checked) false ⟨#[], #[.agg #[.int .i64 0, .int .i64 0, .int .i64 0, .int .i64 0, .int .i64 0, .int .i64 0, .int .i64 0, .int .i64 0, .int .i64 0, .int .i64 0, .int .i64 0], .int .i64 0, .agg #[.int .i64 0, .int .i64 0, .int .i64 0, .int .i64 0]], []⟩ 8 (by kernel_rfl) (by kernel_rfl) (by kernel_rfl) (by kernel_rfl)) ?_
  intro W base args ds gs before hval0 hW hcnd _
  have hval : ∀ (j : Nat) t v, Try.f4.params[j]? = some t → args[j]? = some v → Value.okWide Try.prog W .any base t v := hval0
  have hW' := hW
  obtain ⟨p, q, hA0, hV, rfl, hfz, hnd⟩ := hW
  have hA : DataW.TrodAll enc Try.prog W 0 (fun _ => true) true Try.f4.params.toList args.toList ds p := hA0
  rw [Try.params4] at hA hval
  obtain ⟨v0, vs0, d0, ds0, p0, q0, hargs, rfl, rfl, h0, r0⟩ := trodAll_cons hA
  obtain ⟨v1, vs1, d1, ds1, p1, q1, rfl, rfl, rfl, h1, r1⟩ := trodAll_cons r0
  obtain ⟨v2, vs2, d2, ds2, p2, q2, rfl, rfl, rfl, h2, r2⟩ := trodAll_cons r1
  obtain ⟨rfl, rfl, rfl⟩ := trodAll_nil r2
  obtain rfl : args = #[v0, v1, v2] := by cases args; simp_all
  obtain ⟨rfl, rfl⟩ := trodVars_none hV
  have lt0 : ∀ x ∈ p0, x.block < W.heap.size := by obtain ⟨m, hm⟩ := h0; exact DataW.trod_lt m _ _ _ hm
  obtain ⟨l0, rfl, e0, b0⟩ := open_agg_ints 11 (by kernel_rfl) (by kernel_rfl) (ts := [3, 3, 3, 3, 3, 3, 3, 3, 3, 3, 3]) (by kernel_rfl) (by intro u hu; simp at hu; subst hu; exact Try.underlying3) (hval 0 26 v0 rfl rfl)
  obtain ⟨z0_0, z0_1, z0_2, z0_3, z0_4, z0_5, z0_6, z0_7, z0_8, z0_9, z0_10, rfl⟩ := len11 e0
  simp only [List.map_cons, List.map_nil] at *
  simp only [List.mem_cons, List.not_mem_nil, or_false, forall_eq_or_imp, forall_eq] at b0
  have lt1 : ∀ x ∈ p1, x.block < W.heap.size := by obtain ⟨m, hm⟩ := h1; exact DataW.trod_lt m _ _ _ hm
  obtain ⟨z1, rfl, b1⟩ := okWide_int_bd Try.underlying3 (hval 1 3 v1 rfl rfl)
  have lt2 : ∀ x ∈ p2, x.block < W.heap.size := by obtain ⟨m, hm⟩ := h2; exact DataW.trod_lt m _ _ _ hm
  obtain ⟨l2, rfl, e2, b2⟩ := open_agg_ints 4 (by kernel_rfl) (by kernel_rfl) (ts := [3, 3, 3, 3]) (by kernel_rfl) (by intro u hu; simp at hu; subst hu; exact Try.underlying3) (hval 2 28 v2 rfl rfl)
  obtain ⟨z2_0, z2_1, z2_2, z2_3, rfl⟩ := len4 e2
  simp only [List.map_cons, List.map_nil] at *
  simp only [List.mem_cons, List.not_mem_nil, or_false, forall_eq_or_imp, forall_eq] at b2
  clear hA0 hval0
  refine (fars_law z0_0 z0_1 z0_2 z0_3 z0_4 z0_5 z0_6 z0_7 z0_8 z0_9 z0_10 z1 z2_0 z2_1 z2_2 z2_3 W).mono fun e W' ⟨he, hk⟩ => ?_
  subst he
  have bel := hk.below
  exact ⟨_, rfl, _, _, _, [], _, [], hW', trodAll_mk1 (shut_bool Try.underlying4 _), (trodAll_cons_mk (Below.trod laidOutMomentFars (by kernel_rfl) (of_decide_eq_true (by kernel_rfl)) h0 bel lt0) (trodAll_cons_mk (Below.trod laidOutMomentFars (by kernel_rfl) (of_decide_eq_true (by kernel_rfl)) h1 bel lt1) (trodAll_cons_mk (Below.trod laidOutMomentFars (by kernel_rfl) (of_decide_eq_true (by kernel_rfl)) h2 bel lt2) trodAll_mk0))), rfl, bel.frame _, fun h => by cases h⟩
/-- For every input the statement MomentFars returns true, and each argument reads afterwards as it read before. -/
theorem momentFars_holds : Rows.MomentFarsSaid :=
  OpenClaim.holds_of_wide 4 Try.f4 rfl rfl rfl rfl rfl rfl rfl ⟨rfl, rfl, rfl, rfl, rfl⟩ rfl rfl rfl rfl rfl (by kernel_rfl) Try.func4 (by kernel_rfl)
    (of_decide_eq_true (by kernel_rfl)) (by unfold Func.isWrapper; first | (rw [if_pos (by decide +kernel)]; kernel_rfl) | (rw [if_neg (by decide +kernel)]; exact ⟨rfl, rfl⟩))
    (fun os started H enc _ => liftedMomentFars os started H enc)
#print axioms momentFars_holds

end Go.Proofs.Ytldchncnadllpaa
