/- For every input the statement SpanLengths returns true and leaves its argument as it was. No conditions. -/
import Derived.Test.YtlkopkdbkbammaaLen
import Derived.Test.YtlkopkdbkbammaaInvl
import Derived.Test.YtlkopkdbkbammaaPlain
namespace Go.Proofs.Ytlkopkdbkbammaa
set_option linter.unusedVariables false
set_option linter.unusedSimpArgs false
open Go.ChangeShapes Go.WideShapes Go.ChangeAt Go.RowKit
theorem rootUp_up {n : Int} (h : 0 ≤ n) : 0 ≤ rootUpS n ∧ n ≤ rootUpS n * rootUpS n ∧ sqrtS n ≤ rootUpS n ∧ ∀ k, 0 ≤ k → n ≤ k * k → rootUpS n ≤ k := by
  obtain ⟨s0, s1, s2⟩ := sqrtS_spec h
  unfold rootUpS
  split
  · rename_i hk
    refine ⟨by omega, by omega, by omega, fun k k0 hk2 => ?_⟩
    have := of_sq_lt k0 (show sqrtS n * sqrtS n < k * k by omega)
    omega
  · refine ⟨s0, by omega, by omega, fun k k0 hk2 => ?_⟩
    exact of_sq_le k0 (by omega)
theorem sqrt_mono {a b : Int} (h0 : 0 ≤ a) (h : a ≤ b) : sqrtS a ≤ sqrtS b ∧ rootUpS a ≤ rootUpS b := by
  obtain ⟨s0, s1, s2⟩ := sqrtS_spec h0
  obtain ⟨t0, t1, t2⟩ := sqrtS_spec (show 0 ≤ b by omega)
  obtain ⟨u0, u1, u2, u3⟩ := rootUp_up (show 0 ≤ b by omega)
  obtain ⟨v0, v1, v2, v3⟩ := rootUp_up h0
  refine ⟨?_, v3 _ u0 (by omega)⟩
  have := of_sq_lt (show 0 ≤ sqrtS b + 1 by omega) (show sqrtS a * sqrtS a < (sqrtS b + 1) * (sqrtS b + 1) by omega)
  omega
theorem lenS_good {n : Int} (h : 0 ≤ n ∧ n ≤ 1099511627776) : lenS n = ⟨sqrtS (n * 1099511627776), rootUpS (n * 1099511627776), 0⟩ ∧ 0 ≤ sqrtS (n * 1099511627776) ∧ sqrtS (n * 1099511627776) ≤ rootUpS (n * 1099511627776) ∧ rootUpS (n * 1099511627776) ≤ 1099511627776 := by
  obtain ⟨s0, s1, s2⟩ := sqrtS_spec (show 0 ≤ n * 1099511627776 by omega)
  obtain ⟨u0, u1, u2, u3⟩ := rootUp_up (show 0 ≤ n * 1099511627776 by omega)
  have u4 := u3 1099511627776 (by omega) (by omega)
  refine ⟨?_, s0, u2, u4⟩
  unfold lenS
  rw [if_pos h]
  unfold rootUpS at *
  split
  · rename_i e
    rw [if_neg (by omega)] at *
    unfold resultS
    rw [if_pos (by unfold validB; exact decide_eq_true (by omega))]
  · rename_i e
    rw [if_pos (by omega)] at *
    unfold resultS
    rw [if_pos (by unfold validB; exact decide_eq_true (by omega))]
theorem lenS_bad {n : Int} (h : ¬ (0 ≤ n ∧ n ≤ 1099511627776)) : (lenS n).e = 1 := by unfold lenS; rw [if_neg h]
theorem inv_bad {n : Int} (h : ¬ (1 ≤ n ∧ n ≤ 1099511627776)) : (inverseS n 1).e = 1 := by unfold inverseS; rw [if_neg (by omega)]
theorem inv_good {n : Int} (h : 1 ≤ n ∧ n ≤ 1099511627776) : ∃ k m, inverseS n 1 = ⟨k, m, 0⟩ ∧ 0 ≤ k ∧ k ≤ m ∧ m ≤ 1048577 ∧ k * k * n ≤ 1099511627776 ∧ 1099511627776 ≤ m * m * n := by
  unfold inverseS
  rw [if_pos (by omega)]
  show ∃ k m, invS 1099511627776 n = ⟨k, m, 0⟩ ∧ _
  obtain ⟨q0, q1, k0, k1, k2, k3, k4, k5, d1, d2, m0, m1, m2⟩ := inv_bd (t := 1099511627776) (n := n) (by omega)
  obtain ⟨s0, s1, s2⟩ := sqrtS_spec q0
  have hq : 1099511627776 / n ≤ 1099511627776 := Int.ediv_le_self n (by decide)
  have k6 : sqrtS (1099511627776 / n) ≤ 1048576 := of_sq_le (by decide) (by omega)
  unfold invS
  split
  · rename_i e
    refine ⟨_, _, ?_, k0, Int.le_refl _, by omega, k5, by omega⟩
    unfold resultS
    rw [if_pos (by unfold validB; exact decide_eq_true (by omega))]
  · rename_i e
    refine ⟨sqrtS (1099511627776 / n), sqrtS (1099511627776 / n) + 1, ?_, k0, by omega, by omega, k5, ?_⟩
    · unfold resultS
      rw [if_pos (by unfold validB; exact decide_eq_true (by omega))]
    · have h1 := Int.mul_le_mul_of_nonneg_left (show 1099511627776 / n + 1 ≤ (sqrtS (1099511627776 / n) + 1) * (sqrtS (1099511627776 / n) + 1) by omega) (show 0 ≤ n by omega)
      rw [Int.mul_add] at h1
      rw [Int.mul_comm _ n]
      omega
theorem len_encl {n : Int} (h : 1 ≤ n ∧ n ≤ 1099511627776) :
    enclosesB (mulS (lenS n).lo (lenS n).hi (inverseS n 1).lo (inverseS n 1).hi).lo (mulS (lenS n).lo (lenS n).hi (inverseS n 1).lo (inverseS n 1).hi).hi (mulS (lenS n).lo (lenS n).hi (inverseS n 1).lo (inverseS n 1).hi).e 1048576 1048576 = true := by
  obtain ⟨e, l0, l1, l2⟩ := lenS_good (show 0 ≤ n ∧ n ≤ 1099511627776 by omega)
  obtain ⟨s0, s1, s2⟩ := sqrtS_spec (show 0 ≤ n * 1099511627776 by omega)
  obtain ⟨u0, u1, u2, u3⟩ := rootUp_up (show 0 ≤ n * 1099511627776 by omega)
  obtain ⟨k, m, e2, k0, km, m1, hk, hm⟩ := inv_good h
  rw [e, e2]
  simp only
  generalize sqrtS (n * 1099511627776) = a at *
  generalize rootUpS (n * 1099511627776) = b at *
  unfold mulS
  rw [if_pos (by unfold validB; simp only [Bool.and_eq_true, decide_eq_true_eq]; omega)]
  obtain ⟨p1, -, -, -⟩ := min4_le fDown a b k m
  obtain ⟨-, -, -, P4⟩ := le_max4 fUp a b k m
  refine encl_result (Int.le_trans p1 ?_) (Int.le_trans ?_ P4)
  · have hak : a * k ≤ 1099511627776 := by
      refine of_sq_le (by decide) ?_
      rw [show a * k * (a * k) = a * a * (k * k) by grind]
      have h1 := Int.mul_le_mul_of_nonneg_right s1 (Int.mul_nonneg k0 k0)
      rw [show n * 1099511627776 * (k * k) = k * k * n * 1099511627776 by grind] at h1
      omega
    unfold fDown
    generalize a * k = c at *
    omega
  · have hbm : 1099511627776 ≤ b * m := by
      refine of_sq_le (Int.mul_nonneg (by omega) (by omega)) ?_
      rw [show b * m * (b * m) = b * b * (m * m) by grind]
      have h1 := Int.mul_le_mul_of_nonneg_right u1 (Int.mul_nonneg (show 0 ≤ m by omega) (show 0 ≤ m by omega))
      rw [show n * 1099511627776 * (m * m) = m * m * n * 1099511627776 by grind] at h1
      omega
    unfold fUp
    generalize b * m = c at *
    omega
theorem len_mono {n : Int} (h : 0 ≤ n ∧ n < 1099511627776) : (lenS n).lo ≤ (lenS (n + 1)).lo ∧ (lenS n).hi ≤ (lenS (n + 1)).hi ∧ (lenS n).e = 0 ∧ (lenS (n + 1)).e = 0 := by
  obtain ⟨e, l0, l1, l2⟩ := lenS_good (show 0 ≤ n ∧ n ≤ 1099511627776 by omega)
  obtain ⟨e2, m0, m1, m2⟩ := lenS_good (show 0 ≤ n + 1 ∧ n + 1 ≤ 1099511627776 by omega)
  rw [e, e2]
  obtain ⟨a, b⟩ := sqrt_mono (show 0 ≤ n * 1099511627776 by omega) (show n * 1099511627776 ≤ (n + 1) * 1099511627776 by omega)
  exact ⟨a, b, rfl, rfl⟩
theorem ne_of_e {x : Int} (h : x = 1) : (x != 0) = true := by subst h; rfl
theorem eq_of_e {x : Int} (h : x = 0) : (x != 0) = false := by subst h; rfl
set_option maxRecDepth 100000 in
set_option maxHeartbeats 4000000 in
theorem lengths_law (n : Int) (w : World) :
    Calls Try.prog 14 #[.int .i64 n] w fun r w' => r = .returned (.bool true) ∧ Kept w w' := by
  by_cases h : 0 ≤ n ∧ n ≤ 1099511627776
  · by_cases h1 : n = 1099511627776
    · have he := Lib.hid (len_encl (n := n) (by omega))
      have f1 : ((inverseS n 1).e != 0) = false := eq_of_e (by obtain ⟨k, m, e, -⟩ := inv_good (n := n) (by omega); rw [e])
      have f2 : ((lenS n).e != 0) = false := eq_of_e (by rw [(lenS_good (n := n) (by omega)).1])
      have f3 : ((lenS (n + 1)).e != 0) = true := ne_of_e (lenS_bad (by omega))
      clear h1
      obtain ⟨h2, h3⟩ := h
      go_enter Try.func14, Try.ntmps14
      go_wp2_with (first | (go_at_call 55; refine (len_any _ _).mono ?_; rintro e w1 ⟨rfl, x, rfl⟩) | (go_at_call 56; refine (rlen_any _ _).mono ?_; rintro e w1 ⟨rfl, x, rfl⟩) | (go_at_call 22; refine (spanInv_any _ _ _).mono ?_; rintro e w1 ⟨rfl, x, rfl⟩) | (go_at_call 45; refine (mul_any _ _ _ _ _).mono ?_; rintro e w1 ⟨rfl, x, rfl⟩) | (go_at_call 21; refine (known_any _).mono ?_; rintro e w1 ⟨rfl, x, rfl⟩) | (go_at_call 38; refine (encloses_any _ _ _ _ _ _).mono ?_; rintro e w1 ⟨rfl, x, rfl⟩))
      have he2 := he.out
      clear he
      go_wp2_with (first | (go_at_call 21; refine (known_any _).mono ?_; rintro e w1 ⟨rfl, x, rfl⟩))
      go_ret
      refine ⟨rfl, ?_⟩
      (repeat (first | exact Kept.refl _ | assumption | refine Kept.alloc ?_ _ | refine Kept.ext ?_ _ | refine Kept.drew ?_ | refine Kept.drewN ?_ _))
    · obtain ⟨h2, h3⟩ := h
      obtain ⟨m1, m2, m3, m4⟩ := len_mono (n := n) (by omega)
      have f2 : ((lenS n).e != 0) = false := eq_of_e m3
      have f3 : ((lenS (n + 1)).e != 0) = false := eq_of_e m4
      clear m3 m4
      by_cases h0 : n = 0
      · have f1 : ((inverseS n 1).e != 0) = true := ne_of_e (inv_bad (by omega))
        clear h0
        go_enter Try.func14, Try.ntmps14
        go_wp2_with (first | (go_at_call 55; refine (len_any _ _).mono ?_; rintro e w1 ⟨rfl, x, rfl⟩) | (go_at_call 56; refine (rlen_any _ _).mono ?_; rintro e w1 ⟨rfl, x, rfl⟩) | (go_at_call 22; refine (spanInv_any _ _ _).mono ?_; rintro e w1 ⟨rfl, x, rfl⟩) | (go_at_call 45; refine (mul_any _ _ _ _ _).mono ?_; rintro e w1 ⟨rfl, x, rfl⟩) | (go_at_call 21; refine (known_any _).mono ?_; rintro e w1 ⟨rfl, x, rfl⟩) | (go_at_call 38; refine (encloses_any _ _ _ _ _ _).mono ?_; rintro e w1 ⟨rfl, x, rfl⟩))
        go_ret
        refine ⟨rfl, ?_⟩
        (repeat (first | exact Kept.refl _ | assumption | refine Kept.alloc ?_ _ | refine Kept.ext ?_ _ | refine Kept.drew ?_ | refine Kept.drewN ?_ _))
      · have he := Lib.hid (len_encl (n := n) (by omega))
        have f1 : ((inverseS n 1).e != 0) = false := eq_of_e (by obtain ⟨k, m, e, -⟩ := inv_good (n := n) (by omega); rw [e])
        clear h0
        go_enter Try.func14, Try.ntmps14
        go_wp2_with (first | (go_at_call 55; refine (len_any _ _).mono ?_; rintro e w1 ⟨rfl, x, rfl⟩) | (go_at_call 56; refine (rlen_any _ _).mono ?_; rintro e w1 ⟨rfl, x, rfl⟩) | (go_at_call 22; refine (spanInv_any _ _ _).mono ?_; rintro e w1 ⟨rfl, x, rfl⟩) | (go_at_call 45; refine (mul_any _ _ _ _ _).mono ?_; rintro e w1 ⟨rfl, x, rfl⟩) | (go_at_call 21; refine (known_any _).mono ?_; rintro e w1 ⟨rfl, x, rfl⟩) | (go_at_call 38; refine (encloses_any _ _ _ _ _ _).mono ?_; rintro e w1 ⟨rfl, x, rfl⟩))
        have he2 := he.out
        clear he
        go_wp2_with (first | (go_at_call 21; refine (known_any _).mono ?_; rintro e w1 ⟨rfl, x, rfl⟩))
        go_ret
        refine ⟨rfl, ?_⟩
        (repeat (first | exact Kept.refl _ | assumption | refine Kept.alloc ?_ _ | refine Kept.ext ?_ _ | refine Kept.drew ?_ | refine Kept.drewN ?_ _))
  · have f1 : ((inverseS n 1).e != 0) = true := ne_of_e (inv_bad (by omega))
    have f2 : ((lenS n).e != 0) = true := ne_of_e (lenS_bad h)
    clear h
    go_enter Try.func14, Try.ntmps14
    go_wp2_with (first | (go_at_call 55; refine (len_any _ _).mono ?_; rintro e w1 ⟨rfl, x, rfl⟩) | (go_at_call 56; refine (rlen_any _ _).mono ?_; rintro e w1 ⟨rfl, x, rfl⟩) | (go_at_call 22; refine (spanInv_any _ _ _).mono ?_; rintro e w1 ⟨rfl, x, rfl⟩) | (go_at_call 45; refine (mul_any _ _ _ _ _).mono ?_; rintro e w1 ⟨rfl, x, rfl⟩) | (go_at_call 21; refine (known_any _).mono ?_; rintro e w1 ⟨rfl, x, rfl⟩) | (go_at_call 38; refine (encloses_any _ _ _ _ _ _).mono ?_; rintro e w1 ⟨rfl, x, rfl⟩))
    go_ret
    refine ⟨rfl, ?_⟩
    (repeat (first | exact Kept.refl _ | assumption | refine Kept.alloc ?_ _ | refine Kept.ext ?_ _ | refine Kept.drew ?_ | refine Kept.drewN ?_ _))
theorem ownSpanLengths : ownKnob Try.prog.godebug = none := by kernel_rfl
theorem laidOutSpanLengths : laidOutB Try.prog = true := by kernel_rfl
set_option linter.unusedVariables false in
set_option maxRecDepth 100000 in
theorem liftedSpanLengths (os : Os) (started : os.Started) (H : Type) (enc : TypeId × Value → H) :
    ReturnsInHanded {} Try.checked os 14 .any (Rows.spanLengthsSpec.pre6 enc Try.prog Try.f14 Rows.spanLengthsRow.domain false) (Rows.spanLengthsSpec.post enc Try.prog Try.f14 false true false false) := by
  refine returnsInHanded_of_change (C := Try.checked) ownSpanLengths started (by kernel_rfl) Try.func14
    (ChangeSpec.witness6 (enc := enc) (C := Try.checked) false ⟨#[], #[.int .i64 0], []⟩ 8 (by kernel_rfl) (by kernel_rfl) (by kernel_rfl) (by kernel_rfl)) ?_
  intro W base args ds gs before hval0 hW hcnd _
  have hval : ∀ (j : Nat) t v, Try.f14.params[j]? = some t → args[j]? = some v → Value.okWide Try.prog W .any base t v := hval0
  have hW' := hW
  obtain ⟨p, q, hA0, hV, rfl, hfz, hnd⟩ := hW
  have hA : DataW.TrodAll enc Try.prog W 0 (fun _ => true) true Try.f14.params.toList args.toList ds p := hA0
  rw [Try.params14] at hA hval
  obtain ⟨v0, vs0, d0, ds0, p0, q0, hargs, rfl, rfl, h0, r0⟩ := trodAll_cons hA
  obtain ⟨rfl, rfl, rfl⟩ := trodAll_nil r0
  obtain rfl : args = #[v0] := by cases args; simp_all
  obtain ⟨rfl, rfl⟩ := trodVars_none hV
  have lt0 : ∀ x ∈ p0, x.block < W.heap.size := by obtain ⟨m, hm⟩ := h0; exact DataW.trod_lt m _ _ _ hm
  obtain ⟨z0, rfl, b0⟩ := okWide_int_bd Try.underlying3 (hval 0 3 v0 rfl rfl)
  clear hA0 hval0
  refine (lengths_law z0 W).mono fun e W' ⟨he, hk⟩ => ?_
  subst he
  have bel := hk.below
  exact ⟨_, rfl, _, _, _, [], _, [], hW', trodAll_mk1 (shut_bool Try.underlying4 _), (trodAll_cons_mk (Below.trod laidOutSpanLengths (by kernel_rfl) (of_decide_eq_true (by kernel_rfl)) h0 bel lt0) trodAll_mk0), rfl, bel.frame _, fun h => by cases h⟩
/-- For every input the statement SpanLengths returns true, and each argument reads afterwards as it read before. -/
theorem spanLengths_holds : Rows.SpanLengthsSaid :=
  OpenClaim.holds_of_wide 14 Try.f14 rfl rfl rfl rfl rfl rfl rfl ⟨rfl, rfl, rfl, rfl, rfl⟩ rfl rfl rfl rfl rfl (by kernel_rfl) Try.func14 (by kernel_rfl)
    (of_decide_eq_true (by kernel_rfl)) (by unfold Func.isWrapper; first | (rw [if_pos (by decide +kernel)]; kernel_rfl) | (rw [if_neg (by decide +kernel)]; exact ⟨rfl, rfl⟩))
    (fun os started H enc _ => liftedSpanLengths os started H enc)
#print axioms spanLengths_holds

end Go.Proofs.Ytlkopkdbkbammaa
