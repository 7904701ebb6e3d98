/- For every input the statement SpanScales returns true and leaves its arguments as they were. No conditions. -/
import Derived.Test.YtlkopkdbkbammaaPlain
namespace Go.Proofs.Ytlkopkdbkbammaa
set_option linter.unusedVariables false
set_option linter.unusedSimpArgs false
open Go.ChangeShapes Go.WideShapes Go.ChangeAt Go.RowKit
set_option maxRecDepth 100000 in
set_option maxHeartbeats 4000000 in
theorem scales_law (al ah n : Int) (w : World) :
    Calls Try.prog 11 #[.agg #[.int .i64 al, .int .i64 ah], .int .i64 n] w fun r w' => r = .returned (.bool true) ∧ Kept w w' := by
  by_cases h : (scaleS al ah n).e = 0
  · by_cases hn : 1 ≤ n
    · have hp := scale_back h hn
      go_enter Try.func11, Try.ntmps11
      go_wp2_with (first | (go_at_call 49; refine (scale_any _ _ _ _).mono ?_; rintro e w1 ⟨rfl, x, rfl⟩) | (go_at_call 50; refine (rscale_any _ _ _ _).mono ?_; rintro e w1 ⟨rfl, x, rfl⟩) | (go_at_call 51; refine (part_any _ _ _ _).mono ?_; rintro e w1 ⟨rfl, x, rfl⟩) | (go_at_call 52; refine (rpart_any _ _ _ _).mono ?_; rintro e w1 ⟨rfl, x, rfl⟩) | (go_at_call 21; refine (known_any _).mono ?_; rintro e w1 ⟨rfl, x, rfl⟩))
      go_ret
      refine ⟨rfl, ?_⟩
      (repeat (first | exact Kept.refl _ | assumption | refine Kept.alloc ?_ _ | refine Kept.ext ?_ _ | refine Kept.drew ?_ | refine Kept.drewN ?_ _))
    · have hn' : (n < 1) = True := by simp; omega
      go_enter Try.func11, Try.ntmps11
      go_wp2_with (first | (go_at_call 49; refine (scale_any _ _ _ _).mono ?_; rintro e w1 ⟨rfl, x, rfl⟩) | (go_at_call 50; refine (rscale_any _ _ _ _).mono ?_; rintro e w1 ⟨rfl, x, rfl⟩) | (go_at_call 51; refine (part_any _ _ _ _).mono ?_; rintro e w1 ⟨rfl, x, rfl⟩) | (go_at_call 52; refine (rpart_any _ _ _ _).mono ?_; rintro e w1 ⟨rfl, x, rfl⟩) | (go_at_call 21; refine (known_any _).mono ?_; rintro e w1 ⟨rfl, x, rfl⟩))
      go_ret
      refine ⟨rfl, ?_⟩
      (repeat (first | exact Kept.refl _ | assumption | refine Kept.alloc ?_ _ | refine Kept.ext ?_ _ | refine Kept.drew ?_ | refine Kept.drewN ?_ _))
  · have he : ((scaleS al ah n).e == 0) = false := by simpa using h
    have he' : ((scaleS al ah n).e != 0) = true := by simpa using h
    clear h
    go_enter Try.func11, Try.ntmps11
    go_wp2_with (first | (go_at_call 49; refine (scale_any _ _ _ _).mono ?_; rintro e w1 ⟨rfl, x, rfl⟩) | (go_at_call 50; refine (rscale_any _ _ _ _).mono ?_; rintro e w1 ⟨rfl, x, rfl⟩) | (go_at_call 51; refine (part_any _ _ _ _).mono ?_; rintro e w1 ⟨rfl, x, rfl⟩) | (go_at_call 52; refine (rpart_any _ _ _ _).mono ?_; rintro e w1 ⟨rfl, x, rfl⟩) | (go_at_call 21; refine (known_any _).mono ?_; rintro e w1 ⟨rfl, x, rfl⟩))
    go_ret
    refine ⟨rfl, ?_⟩
    (repeat (first | exact Kept.refl _ | assumption | refine Kept.alloc ?_ _ | refine Kept.ext ?_ _ | refine Kept.drew ?_ | refine Kept.drewN ?_ _))
theorem ownSpanScales : ownKnob Try.prog.godebug = none := by kernel_rfl
theorem laidOutSpanScales : laidOutB Try.prog = true := by kernel_rfl
set_option linter.unusedVariables false in
set_option maxRecDepth 100000 in
theorem liftedSpanScales (os : Os) (started : os.Started) (H : Type) (enc : TypeId × Value → H) :
    ReturnsInHanded {} Try.checked os 11 .any (Rows.spanScalesSpec.pre6 enc Try.prog Try.f11 Rows.spanScalesRow.domain false) (Rows.spanScalesSpec.post enc Try.prog Try.f11 false true false false) := by
  refine returnsInHanded_of_change (C := Try.checked) ownSpanScales started (by kernel_rfl) Try.func11
    (ChangeSpec.witness6 (enc := enc) (C := Try.checked) false ⟨#[], #[.agg #[.int .i64 0, .int .i64 0], .int .i64 0], []⟩ 8 (by kernel_rfl) (by kernel_rfl) (by kernel_rfl) (by kernel_rfl)) ?_
  intro W base args ds gs before hval0 hW hcnd _
  have hval : ∀ (j : Nat) t v, Try.f11.params[j]? = some t → args[j]? = some v → Value.okWide Try.prog W .any base t v := hval0
  have hW' := hW
  obtain ⟨p, q, hA0, hV, rfl, hfz, hnd⟩ := hW
  have hA : DataW.TrodAll enc Try.prog W 0 (fun _ => true) true Try.f11.params.toList args.toList ds p := hA0
  rw [Try.params11] at hA hval
  obtain ⟨v0, vs0, d0, ds0, p0, q0, hargs, rfl, rfl, h0, r0⟩ := trodAll_cons hA
  obtain ⟨v1, vs1, d1, ds1, p1, q1, rfl, rfl, rfl, h1, r1⟩ := trodAll_cons r0
  obtain ⟨rfl, rfl, rfl⟩ := trodAll_nil r1
  obtain rfl : args = #[v0, v1] := by cases args; simp_all
  obtain ⟨rfl, rfl⟩ := trodVars_none hV
  have lt0 : ∀ x ∈ p0, x.block < W.heap.size := by obtain ⟨m, hm⟩ := h0; exact DataW.trod_lt m _ _ _ hm
  obtain ⟨l0, rfl, e0, b0⟩ := open_agg_ints 2 (by kernel_rfl) (by kernel_rfl) (ts := [3, 3]) (by kernel_rfl) (by intro u hu; simp at hu; subst hu; exact Try.underlying3) (hval 0 23 v0 rfl rfl)
  obtain ⟨z0_0, z0_1, rfl⟩ := len2 e0
  simp only [List.map_cons, List.map_nil] at *
  simp only [List.mem_cons, List.not_mem_nil, or_false, forall_eq_or_imp, forall_eq] at b0
  have lt1 : ∀ x ∈ p1, x.block < W.heap.size := by obtain ⟨m, hm⟩ := h1; exact DataW.trod_lt m _ _ _ hm
  obtain ⟨z1, rfl, b1⟩ := okWide_int_bd Try.underlying3 (hval 1 3 v1 rfl rfl)
  clear hA0 hval0
  refine (scales_law z0_0 z0_1 z1 W).mono fun e W' ⟨he, hk⟩ => ?_
  subst he
  have bel := hk.below
  exact ⟨_, rfl, _, _, _, [], _, [], hW', trodAll_mk1 (shut_bool Try.underlying4 _), (trodAll_cons_mk (Below.trod laidOutSpanScales (by kernel_rfl) (of_decide_eq_true (by kernel_rfl)) h0 bel lt0) (trodAll_cons_mk (Below.trod laidOutSpanScales (by kernel_rfl) (of_decide_eq_true (by kernel_rfl)) h1 bel lt1) trodAll_mk0)), rfl, bel.frame _, fun h => by cases h⟩
/-- For every input the statement SpanScales returns true, and each argument reads afterwards as it read before. -/
theorem spanScales_holds : Rows.SpanScalesSaid :=
  OpenClaim.holds_of_wide 11 Try.f11 rfl rfl rfl rfl rfl rfl rfl ⟨rfl, rfl, rfl, rfl, rfl⟩ rfl rfl rfl rfl rfl (by kernel_rfl) Try.func11 (by kernel_rfl)
    (of_decide_eq_true (by kernel_rfl)) (by unfold Func.isWrapper; first | (rw [if_pos (by decide +kernel)]; kernel_rfl) | (rw [if_neg (by decide +kernel)]; exact ⟨rfl, rfl⟩))
    (fun os started H enc _ => liftedSpanScales os started H enc)
#print axioms spanScales_holds

end Go.Proofs.Ytlkopkdbkbammaa
