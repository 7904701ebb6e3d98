/- For every input the statement MomentTerms returns true and leaves its arguments as they were. No conditions. -/
import Derived.Test.YtldchncnadllpaaMvr
import Derived.Test.YtldchncnadllpaaSane
namespace Go.Proofs.Ytldchncnadllpaa
set_option linter.unusedVariables false
set_option linter.unusedSimpArgs false
open Go.ChangeShapes Go.WideShapes Go.ChangeAt Go.RowKit
set_option maxRecDepth 100000 in
set_option maxHeartbeats 8000000 in
theorem terms_law (m0 m1 m2 m3 m4 m5 m6 m7 m8 m9 m10 u0 u1 u2 k : Int) (w : World) :
    Calls Try.prog 3 #[.agg #[.int .i64 m0, .int .i64 m1, .int .i64 m2, .int .i64 m3, .int .i64 m4, .int .i64 m5, .int .i64 m6, .int .i64 m7, .int .i64 m8, .int .i64 m9, .int .i64 m10], .agg #[.int .i64 u0, .int .i64 u1, .int .i64 u2, .int .i64 k]] w fun r w' => r = .returned (.bool true) ∧ Kept w w' := by
  have h1 : ∀ w, _ := fun w => mTerm_any m0 m1 m2 m3 m4 m5 m6 m7 m8 m9 m10 u0 u1 u2 k w
  have h2 : ∀ w, _ := fun w => r4Term_any m0 m1 m2 m3 m4 m5 m6 m7 m8 m9 m10 u0 u1 u2 k w
  have h3 : ∀ w, _ := fun w => mValue_any m0 m1 m2 m3 m4 m5 m6 m7 m8 m9 m10 u0 u1 u2 k w
  have h4 : ∀ w, _ := fun w => r4Value_any m0 m1 m2 m3 m4 m5 m6 m7 m8 m9 m10 u0 u1 u2 k w
  obtain ⟨t, ht⟩ : ∃ t, TermS ⟨m0, m1, m2, m3, m4, m5, m6, m7, m8, m9, m10⟩ u0 u1 u2 k = t := ⟨_, rfl⟩
  obtain ⟨v, hv⟩ : ∃ t, ValS ⟨m0, m1, m2, m3, m4, m5, m6, m7, m8, m9, m10⟩ u0 u1 u2 k = t := ⟨_, rfl⟩
  rw [ht] at h1 h2
  rw [hv] at h3 h4
  have H1 := Lib.hid h1
  have H2 := Lib.hid h2
  have H3 := Lib.hid h3
  have H4 := Lib.hid h4
  clear h1 h2 h3 h4 ht hv
  go_enter Try.func3, Try.ntmps3
  go_wp2_with (first | (go_at_call 5; refine (H1.out _).mono ?_; rintro e w1 ⟨rfl, x1, rfl⟩) | (go_at_call 6; refine (H2.out _).mono ?_; rintro e w1 ⟨rfl, x2, rfl⟩) | (go_at_call 7; refine (H3.out _).mono ?_; rintro e w1 ⟨rfl, x3, rfl⟩) | (go_at_call 8; refine (H4.out _).mono ?_; rintro e w1 ⟨rfl, x4, rfl⟩) | (first | (go_at_call 9; refine (sane_any _).mono ?_; rintro e w1 ⟨rfl, x, rfl⟩)))
  go_ret
  exact ⟨rfl, by (repeat (first | exact Kept.refl _ | assumption | refine Kept.alloc ?_ _ | refine Kept.ext ?_ _ | refine Kept.drew ?_ | refine Kept.drewN ?_ _))⟩
theorem ownMomentTerms : ownKnob Try.prog.godebug = none := by kernel_rfl
theorem laidOutMomentTerms : laidOutB Try.prog = true := by kernel_rfl
set_option linter.unusedVariables false in
set_option maxRecDepth 100000 in
theorem liftedMomentTerms (os : Os) (started : os.Started) (H : Type) (enc : TypeId × Value → H) :
    ReturnsInHanded {} Try.checked os 3 .any (Rows.momentTermsSpec.pre6 enc Try.prog Try.f3 Rows.momentTermsRow.domain false) (Rows.momentTermsSpec.post enc Try.prog Try.f3 false true false false) := by
  refine returnsInHanded_of_change (C := Try.checked) ownMomentTerms started (by kernel_rfl) Try.func3
    (ChangeSpec.witness6 (enc := enc) (C := Try.checked) false ⟨#[], #[.agg #[.int .i64 0, .int .i64 0, .int .i64 0, .int .i64 0, .int .i64 0, .int .i64 0, .int .i64 0, .int .i64 0, .int .i64 0, .int .i64 0, .int .i64 0], .agg #[.int .i64 0, .int .i64 0, .int .i64 0, .int .i64 0]], []⟩ 8 (by kernel_rfl) (by kernel_rfl) (by kernel_rfl) (by kernel_rfl)) ?_
  intro W base args ds gs before hval0 hW hcnd _
  have hval : ∀ (j : Nat) t v, Try.f3.params[j]? = some t → args[j]? = some v → Value.okWide Try.prog W .any base t v := hval0
  have hW' := hW
  obtain ⟨p, q, hA0, hV, rfl, hfz, hnd⟩ := hW
  have hA : DataW.TrodAll enc Try.prog W 0 (fun _ => true) true Try.f3.params.toList args.toList ds p := hA0
  rw [Try.params3] at hA hval
  obtain ⟨v0, vs0, d0, ds0, p0, q0, hargs, rfl, rfl, h0, r0⟩ := trodAll_cons hA
  obtain ⟨v1, vs1, d1, ds1, p1, q1, rfl, rfl, rfl, h1, r1⟩ := trodAll_cons r0
  obtain ⟨rfl, rfl, rfl⟩ := trodAll_nil r1
  obtain rfl : args = #[v0, v1] := by cases args; simp_all
  obtain ⟨rfl, rfl⟩ := trodVars_none hV
  have lt0 : ∀ x ∈ p0, x.block < W.heap.size := by obtain ⟨m, hm⟩ := h0; exact DataW.trod_lt m _ _ _ hm
  obtain ⟨l0, rfl, e0, b0⟩ := open_agg_ints 11 (by kernel_rfl) (by kernel_rfl) (ts := [3, 3, 3, 3, 3, 3, 3, 3, 3, 3, 3]) (by kernel_rfl) (by intro u hu; simp at hu; subst hu; exact Try.underlying3) (hval 0 26 v0 rfl rfl)
  obtain ⟨z0_0, z0_1, z0_2, z0_3, z0_4, z0_5, z0_6, z0_7, z0_8, z0_9, z0_10, rfl⟩ := len11 e0
  simp only [List.map_cons, List.map_nil] at *
  simp only [List.mem_cons, List.not_mem_nil, or_false, forall_eq_or_imp, forall_eq] at b0
  have lt1 : ∀ x ∈ p1, x.block < W.heap.size := by obtain ⟨m, hm⟩ := h1; exact DataW.trod_lt m _ _ _ hm
  obtain ⟨l1, rfl, e1, b1⟩ := open_agg_ints 4 (by kernel_rfl) (by kernel_rfl) (ts := [3, 3, 3, 3]) (by kernel_rfl) (by intro u hu; simp at hu; subst hu; exact Try.underlying3) (hval 1 28 v1 rfl rfl)
  obtain ⟨z1_0, z1_1, z1_2, z1_3, rfl⟩ := len4 e1
  simp only [List.map_cons, List.map_nil] at *
  simp only [List.mem_cons, List.not_mem_nil, or_false, forall_eq_or_imp, forall_eq] at b1
  clear hA0 hval0
  refine (terms_law z0_0 z0_1 z0_2 z0_3 z0_4 z0_5 z0_6 z0_7 z0_8 z0_9 z0_10 z1_0 z1_1 z1_2 z1_3 W).mono fun e W' ⟨he, hk⟩ => ?_
  subst he
  have bel := hk.below
  exact ⟨_, rfl, _, _, _, [], _, [], hW', trodAll_mk1 (shut_bool Try.underlying4 _), (trodAll_cons_mk (Below.trod laidOutMomentTerms (by kernel_rfl) (of_decide_eq_true (by kernel_rfl)) h0 bel lt0) (trodAll_cons_mk (Below.trod laidOutMomentTerms (by kernel_rfl) (of_decide_eq_true (by kernel_rfl)) h1 bel lt1) trodAll_mk0)), rfl, bel.frame _, fun h => by cases h⟩
/-- For every input the statement MomentTerms returns true, and each argument reads afterwards as it read before. -/
theorem momentTerms_holds : Rows.MomentTermsSaid :=
  OpenClaim.holds_of_wide 3 Try.f3 rfl rfl rfl rfl rfl rfl rfl ⟨rfl, rfl, rfl, rfl, rfl⟩ rfl rfl rfl rfl rfl (by kernel_rfl) Try.func3 (by kernel_rfl)
    (of_decide_eq_true (by kernel_rfl)) (by unfold Func.isWrapper; first | (rw [if_pos (by decide +kernel)]; kernel_rfl) | (rw [if_neg (by decide +kernel)]; exact ⟨rfl, rfl⟩))
    (fun os started H enc _ => liftedMomentTerms os started H enc)
#print axioms momentTerms_holds

end Go.Proofs.Ytldchncnadllpaa
