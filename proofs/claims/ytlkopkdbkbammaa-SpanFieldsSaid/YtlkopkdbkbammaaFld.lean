/- For every input the statement SpanFields returns true and leaves its arguments as they were. No conditions. -/
import Derived.Test.YtlkopkdbkbammaaPlain
namespace Go.Proofs.Ytlkopkdbkbammaa
set_option linter.unusedVariables false
set_option linter.unusedSimpArgs false
open Go.ChangeShapes Go.WideShapes Go.ChangeAt Go.RowKit
set_option maxRecDepth 100000 in
set_option maxHeartbeats 4000000 in
theorem fields_law (al ah bl bh cl ch : Int) (w : World) :
    Calls Try.prog 9 #[.agg #[.int .i64 al, .int .i64 ah], .agg #[.int .i64 bl, .int .i64 bh], .agg #[.int .i64 cl, .int .i64 ch]] w fun r w' => r = .returned (.bool true) ∧ Kept w w' := by
  by_cases h1 : (addS bl bh cl ch).e = 0
  · skip
    by_cases h2 : (mulS al ah (addS bl bh cl ch).lo (addS bl bh cl ch).hi).e = 0
    · skip
      by_cases h3 : (mulS al ah bl bh).e = 0
      · skip
        by_cases h4 : (mulS al ah cl ch).e = 0
        · skip
          have he := Lib.hid (field_encl h1 h2 h3 h4)
          go_enter Try.func9, Try.ntmps9
          go_wp2_with (first | (go_at_call 39; refine (add_any _ _ _ _ _).mono ?_; rintro e w1 ⟨rfl, x, rfl⟩) | (go_at_call 45; refine (mul_any _ _ _ _ _).mono ?_; rintro e w1 ⟨rfl, x, rfl⟩) | (go_at_call 21; refine (known_any _).mono ?_; rintro e w1 ⟨rfl, x, rfl⟩) | (go_at_call 38; refine (encloses_any _ _ _ _ _ _).mono ?_; rintro e w1 ⟨rfl, x, rfl⟩))
          have he2 := he.out
          clear he
          go_wp2_with (first | (go_at_call 39; refine (add_any _ _ _ _ _).mono ?_; rintro e w1 ⟨rfl, x, rfl⟩) | (go_at_call 45; refine (mul_any _ _ _ _ _).mono ?_; rintro e w1 ⟨rfl, x, rfl⟩) | (go_at_call 21; refine (known_any _).mono ?_; rintro e w1 ⟨rfl, x, rfl⟩) | (go_at_call 38; refine (encloses_any _ _ _ _ _ _).mono ?_; rintro e w1 ⟨rfl, x, rfl⟩))
          go_ret
          refine ⟨rfl, ?_⟩
          (repeat (first | exact Kept.refl _ | assumption | refine Kept.alloc ?_ _ | refine Kept.ext ?_ _ | refine Kept.drew ?_ | refine Kept.drewN ?_ _))
        · have he : ((mulS al ah cl ch).e == 0) = false := by simpa using h4
          have he' : ((mulS al ah cl ch).e != 0) = true := by simpa using h4
          clear h4
          go_enter Try.func9, Try.ntmps9
          go_wp2_with (first | (go_at_call 39; refine (add_any _ _ _ _ _).mono ?_; rintro e w1 ⟨rfl, x, rfl⟩) | (go_at_call 45; refine (mul_any _ _ _ _ _).mono ?_; rintro e w1 ⟨rfl, x, rfl⟩) | (go_at_call 21; refine (known_any _).mono ?_; rintro e w1 ⟨rfl, x, rfl⟩) | (go_at_call 38; refine (encloses_any _ _ _ _ _ _).mono ?_; rintro e w1 ⟨rfl, x, rfl⟩))
          go_ret
          refine ⟨rfl, ?_⟩
          (repeat (first | exact Kept.refl _ | assumption | refine Kept.alloc ?_ _ | refine Kept.ext ?_ _ | refine Kept.drew ?_ | refine Kept.drewN ?_ _))
      · have he : ((mulS al ah bl bh).e == 0) = false := by simpa using h3
        have he' : ((mulS al ah bl bh).e != 0) = true := by simpa using h3
        clear h3
        go_enter Try.func9, Try.ntmps9
        go_wp2_with (first | (go_at_call 39; refine (add_any _ _ _ _ _).mono ?_; rintro e w1 ⟨rfl, x, rfl⟩) | (go_at_call 45; refine (mul_any _ _ _ _ _).mono ?_; rintro e w1 ⟨rfl, x, rfl⟩) | (go_at_call 21; refine (known_any _).mono ?_; rintro e w1 ⟨rfl, x, rfl⟩) | (go_at_call 38; refine (encloses_any _ _ _ _ _ _).mono ?_; rintro e w1 ⟨rfl, x, rfl⟩))
        go_ret
        refine ⟨rfl, ?_⟩
        (repeat (first | exact Kept.refl _ | assumption | refine Kept.alloc ?_ _ | refine Kept.ext ?_ _ | refine Kept.drew ?_ | refine Kept.drewN ?_ _))
    · have he : ((mulS al ah (addS bl bh cl ch).lo (addS bl bh cl ch).hi).e == 0) = false := by simpa using h2
      have he' : ((mulS al ah (addS bl bh cl ch).lo (addS bl bh cl ch).hi).e != 0) = true := by simpa using h2
      clear h2
      go_enter Try.func9, Try.ntmps9
      go_wp2_with (first | (go_at_call 39; refine (add_any _ _ _ _ _).mono ?_; rintro e w1 ⟨rfl, x, rfl⟩) | (go_at_call 45; refine (mul_any _ _ _ _ _).mono ?_; rintro e w1 ⟨rfl, x, rfl⟩) | (go_at_call 21; refine (known_any _).mono ?_; rintro e w1 ⟨rfl, x, rfl⟩) | (go_at_call 38; refine (encloses_any _ _ _ _ _ _).mono ?_; rintro e w1 ⟨rfl, x, rfl⟩))
      go_ret
      refine ⟨rfl, ?_⟩
      (repeat (first | exact Kept.refl _ | assumption | refine Kept.alloc ?_ _ | refine Kept.ext ?_ _ | refine Kept.drew ?_ | refine Kept.drewN ?_ _))
  · have he : ((addS bl bh cl ch).e == 0) = false := by simpa using h1
    have he' : ((addS bl bh cl ch).e != 0) = true := by simpa using h1
    clear h1
    go_enter Try.func9, Try.ntmps9
    go_wp2_with (first | (go_at_call 39; refine (add_any _ _ _ _ _).mono ?_; rintro e w1 ⟨rfl, x, rfl⟩) | (go_at_call 45; refine (mul_any _ _ _ _ _).mono ?_; rintro e w1 ⟨rfl, x, rfl⟩) | (go_at_call 21; refine (known_any _).mono ?_; rintro e w1 ⟨rfl, x, rfl⟩) | (go_at_call 38; refine (encloses_any _ _ _ _ _ _).mono ?_; rintro e w1 ⟨rfl, x, rfl⟩))
    go_ret
    refine ⟨rfl, ?_⟩
    (repeat (first | exact Kept.refl _ | assumption | refine Kept.alloc ?_ _ | refine Kept.ext ?_ _ | refine Kept.drew ?_ | refine Kept.drewN ?_ _))
theorem ownSpanFields : ownKnob Try.prog.godebug = none := by kernel_rfl
theorem laidOutSpanFields : laidOutB Try.prog = true := by kernel_rfl
set_option linter.unusedVariables false in
set_option maxRecDepth 100000 in
theorem liftedSpanFields (os : Os) (started : os.Started) (H : Type) (enc : TypeId × Value → H) :
    ReturnsInHanded {} Try.checked os 9 .any (Rows.spanFieldsSpec.pre6 enc Try.prog Try.f9 Rows.spanFieldsRow.domain false) (Rows.spanFieldsSpec.post enc Try.prog Try.f9 false true false false) := by
  refine returnsInHanded_of_change (C := Try.checked) ownSpanFields started (by kernel_rfl) Try.func9
    (ChangeSpec.witness6 (enc := enc) (C := Try.checked) false ⟨#[], #[.agg #[.int .i64 0, .int .i64 0], .agg #[.int .i64 0, .int .i64 0], .agg #[.int .i64 0, .int .i64 0]], []⟩ 8 (by kernel_rfl) (by kernel_rfl) (by kernel_rfl) (by kernel_rfl)) ?_
  intro W base args ds gs before hval0 hW hcnd _
  have hval : ∀ (j : Nat) t v, Try.f9.params[j]? = some t → args[j]? = some v → Value.okWide Try.prog W .any base t v := hval0
  have hW' := hW
  obtain ⟨p, q, hA0, hV, rfl, hfz, hnd⟩ := hW
  have hA : DataW.TrodAll enc Try.prog W 0 (fun _ => true) true Try.f9.params.toList args.toList ds p := hA0
  rw [Try.params9] at hA hval
  obtain ⟨v0, vs0, d0, ds0, p0, q0, hargs, rfl, rfl, h0, r0⟩ := trodAll_cons hA
  obtain ⟨v1, vs1, d1, ds1, p1, q1, rfl, rfl, rfl, h1, r1⟩ := trodAll_cons r0
  obtain ⟨v2, vs2, d2, ds2, p2, q2, rfl, rfl, rfl, h2, r2⟩ := trodAll_cons r1
  obtain ⟨rfl, rfl, rfl⟩ := trodAll_nil r2
  obtain rfl : args = #[v0, v1, v2] := by cases args; simp_all
  obtain ⟨rfl, rfl⟩ := trodVars_none hV
  have lt0 : ∀ x ∈ p0, x.block < W.heap.size := by obtain ⟨m, hm⟩ := h0; exact DataW.trod_lt m _ _ _ hm
  obtain ⟨l0, rfl, e0, b0⟩ := open_agg_ints 2 (by kernel_rfl) (by kernel_rfl) (ts := [3, 3]) (by kernel_rfl) (by intro u hu; simp at hu; subst hu; exact Try.underlying3) (hval 0 23 v0 rfl rfl)
  obtain ⟨z0_0, z0_1, rfl⟩ := len2 e0
  simp only [List.map_cons, List.map_nil] at *
  simp only [List.mem_cons, List.not_mem_nil, or_false, forall_eq_or_imp, forall_eq] at b0
  have lt1 : ∀ x ∈ p1, x.block < W.heap.size := by obtain ⟨m, hm⟩ := h1; exact DataW.trod_lt m _ _ _ hm
  obtain ⟨l1, rfl, e1, b1⟩ := open_agg_ints 2 (by kernel_rfl) (by kernel_rfl) (ts := [3, 3]) (by kernel_rfl) (by intro u hu; simp at hu; subst hu; exact Try.underlying3) (hval 1 23 v1 rfl rfl)
  obtain ⟨z1_0, z1_1, rfl⟩ := len2 e1
  simp only [List.map_cons, List.map_nil] at *
  simp only [List.mem_cons, List.not_mem_nil, or_false, forall_eq_or_imp, forall_eq] at b1
  have lt2 : ∀ x ∈ p2, x.block < W.heap.size := by obtain ⟨m, hm⟩ := h2; exact DataW.trod_lt m _ _ _ hm
  obtain ⟨l2, rfl, e2, b2⟩ := open_agg_ints 2 (by kernel_rfl) (by kernel_rfl) (ts := [3, 3]) (by kernel_rfl) (by intro u hu; simp at hu; subst hu; exact Try.underlying3) (hval 2 23 v2 rfl rfl)
  obtain ⟨z2_0, z2_1, rfl⟩ := len2 e2
  simp only [List.map_cons, List.map_nil] at *
  simp only [List.mem_cons, List.not_mem_nil, or_false, forall_eq_or_imp, forall_eq] at b2
  clear hA0 hval0
  refine (fields_law z0_0 z0_1 z1_0 z1_1 z2_0 z2_1 W).mono fun e W' ⟨he, hk⟩ => ?_
  subst he
  have bel := hk.below
  exact ⟨_, rfl, _, _, _, [], _, [], hW', trodAll_mk1 (shut_bool Try.underlying4 _), (trodAll_cons_mk (Below.trod laidOutSpanFields (by kernel_rfl) (of_decide_eq_true (by kernel_rfl)) h0 bel lt0) (trodAll_cons_mk (Below.trod laidOutSpanFields (by kernel_rfl) (of_decide_eq_true (by kernel_rfl)) h1 bel lt1) (trodAll_cons_mk (Below.trod laidOutSpanFields (by kernel_rfl) (of_decide_eq_true (by kernel_rfl)) h2 bel lt2) trodAll_mk0))), rfl, bel.frame _, fun h => by cases h⟩
/-- For every input the statement SpanFields returns true, and each argument reads afterwards as it read before. -/
theorem spanFields_holds : Rows.SpanFieldsSaid :=
  OpenClaim.holds_of_wide 9 Try.f9 rfl rfl rfl rfl rfl rfl rfl ⟨rfl, rfl, rfl, rfl, rfl⟩ rfl rfl rfl rfl rfl (by kernel_rfl) Try.func9 (by kernel_rfl)
    (of_decide_eq_true (by kernel_rfl)) (by unfold Func.isWrapper; first | (rw [if_pos (by decide +kernel)]; kernel_rfl) | (rw [if_neg (by decide +kernel)]; exact ⟨rfl, rfl⟩))
    (fun os started H enc _ => liftedSpanFields os started H enc)
#print axioms spanFields_holds

end Go.Proofs.Ytlkopkdbkbammaa
