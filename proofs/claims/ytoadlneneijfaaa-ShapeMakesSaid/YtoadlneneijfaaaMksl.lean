/- For every input the statement ShapeMakes returns true and leaves its arguments as they were. No conditions. -/
import Derived.Test.YtoadlneneijfaaaGoc
import Derived.Test.YtoadlneneijfaaaGsm
import Derived.Test.YtoadlneneijfaaaGkn
namespace Go.Proofs.Ytoadlneneijfaaa
set_option linter.unusedVariables false
set_option linter.unusedSimpArgs false
open Go.ChangeShapes Go.WideShapes Go.ChangeAt Go.RowKit
set_option maxRecDepth 100000 in
set_option maxHeartbeats 16000000 in
theorem makes_law (a b c : Int) (w : World) :
    Calls Try.prog 3 #[.int .i64 a, .int .i64 b, .int .i64 c] w fun r w' => r = .returned (.bool true) ∧ Kept w w' := by
  obtain ⟨e, he⟩ : ∃ e, blockE a b c = e := ⟨_, rfl⟩
  obtain ⟨e2, he2⟩ : ∃ e, octaE a = e := ⟨_, rfl⟩
  have l0 := okN_le e 8
  have l1 := okN_le e 12
  have l2 := okN_le e2 6
  have l3 := okN_le e2 8
  have HE := Lib.hid he
  have HE2 := Lib.hid he2
  clear he he2
  go_enter Try.func3, Try.ntmps3
  go_wp2_with fail
  refine (sblock_any _ _ _ _).mono ?_
  rintro r w1 ⟨A1, cp1, B1, cq1, rfl, ⟨x1, rfl⟩, hP1, hF1⟩
  rw [HE.out] at hP1 hF1 ⊢
  have HP1 := Lib.hid hP1
  have HF1 := Lib.hid hF1
  clear hP1 hF1
  go_wp2_with fail
  refine (r2block_any _ _ _ _).mono ?_
  rintro r w1 ⟨A2, cp2, B2, cq2, rfl, ⟨x2, rfl⟩, hP2, hF2⟩
  rw [HE.out] at hP2 hF2 ⊢
  have HP2 := Lib.hid hP2
  have HF2 := Lib.hid hF2
  clear hP2 hF2
  go_wp2_with fail
  refine (socta_any _ _).mono ?_
  rintro r w1 ⟨A3, cp3, B3, cq3, rfl, ⟨x3, rfl⟩, hP3, hF3⟩
  rw [HE2.out] at hP3 hF3 ⊢
  have HP3 := Lib.hid hP3
  have HF3 := Lib.hid hF3
  clear hP3 hF3
  go_wp2_with fail
  refine (r2octa_any _ _).mono ?_
  rintro r w1 ⟨A4, cp4, B4, cq4, rfl, ⟨x4, rfl⟩, hP4, hF4⟩
  rw [HE2.out] at hP4 hF4 ⊢
  have HP4 := Lib.hid hP4
  have HF4 := Lib.hid hF4
  clear hP4 hF4
  go_wp2_with fail
  refine (same_any _ _ _ _ _ _ _ _ _ _ (blockP a b c) blockF _ (by omega) (HP1.out.of (by (repeat (first | exact Kept.refl _ | assumption | refine Kept.alloc ?_ _ | refine Kept.ext ?_ _ | refine Kept.drew ?_ | refine Kept.drewN ?_ _)))) (HF1.out.of (by (repeat (first | exact Kept.refl _ | assumption | refine Kept.alloc ?_ _ | refine Kept.ext ?_ _ | refine Kept.drew ?_ | refine Kept.drewN ?_ _)))) (HP2.out.of (by (repeat (first | exact Kept.refl _ | assumption | refine Kept.alloc ?_ _ | refine Kept.ext ?_ _ | refine Kept.drew ?_ | refine Kept.drewN ?_ _)))) (HF2.out.of (by (repeat (first | exact Kept.refl _ | assumption | refine Kept.alloc ?_ _ | refine Kept.ext ?_ _ | refine Kept.drew ?_ | refine Kept.drewN ?_ _))))).mono ?_
  rintro r w1 ⟨rfl, x5, rfl⟩
  go_wp2_with fail
  refine (same_any _ _ _ _ _ _ _ _ _ _ (octaP a) octaF _ (by omega) (HP3.out.of (by (repeat (first | exact Kept.refl _ | assumption | refine Kept.alloc ?_ _ | refine Kept.ext ?_ _ | refine Kept.drew ?_ | refine Kept.drewN ?_ _)))) (HF3.out.of (by (repeat (first | exact Kept.refl _ | assumption | refine Kept.alloc ?_ _ | refine Kept.ext ?_ _ | refine Kept.drew ?_ | refine Kept.drewN ?_ _)))) (HP4.out.of (by (repeat (first | exact Kept.refl _ | assumption | refine Kept.alloc ?_ _ | refine Kept.ext ?_ _ | refine Kept.drew ?_ | refine Kept.drewN ?_ _)))) (HF4.out.of (by (repeat (first | exact Kept.refl _ | assumption | refine Kept.alloc ?_ _ | refine Kept.ext ?_ _ | refine Kept.drew ?_ | refine Kept.drewN ?_ _))))).mono ?_
  rintro r w1 ⟨rfl, x6, rfl⟩
  go_wp2_with (first | (go_at_call 19; refine (known_any _).mono ?_; rintro e w1 ⟨rfl, x, rfl⟩))
  go_ret
  exact ⟨rfl, by (repeat (first | exact Kept.refl _ | assumption | refine Kept.alloc ?_ _ | refine Kept.ext ?_ _ | refine Kept.drew ?_ | refine Kept.drewN ?_ _))⟩
theorem ownShapeMakes : ownKnob Try.prog.godebug = none := by kernel_rfl
theorem laidOutShapeMakes : laidOutB Try.prog = true := by kernel_rfl
set_option linter.unusedVariables false in
set_option maxRecDepth 100000 in
theorem liftedShapeMakes (os : Os) (started : os.Started) (H : Type) (enc : TypeId × Value → H) :
    ReturnsInHanded {} Try.checked os 3 .any (Rows.shapeMakesSpec.pre6 enc Try.prog Try.f3 Rows.shapeMakesRow.domain false) (Rows.shapeMakesSpec.post enc Try.prog Try.f3 false true false false) := by
  refine returnsInHanded_of_change (C := Try.checked) ownShapeMakes started (by kernel_rfl) Try.func3
    (ChangeSpec.witness6 (enc := enc) (C := Try.checked) false ⟨#[], #[.int .i64 0, .int .i64 0, .int .i64 0], []⟩ 8 (by kernel_rfl) (by kernel_rfl) (by kernel_rfl) (by kernel_rfl)) ?_
  intro W base args ds gs before hval0 hW hcnd _
  have hval : ∀ (j : Nat) t v, Try.f3.params[j]? = some t → args[j]? = some v → Value.okWide Try.prog W .any base t v := hval0
  have hW' := hW
  obtain ⟨p, q, hA0, hV, rfl, hfz, hnd⟩ := hW
  have hA : DataW.TrodAll enc Try.prog W 0 (fun _ => true) true Try.f3.params.toList args.toList ds p := hA0
  rw [Try.params3] at hA hval
  obtain ⟨v0, vs0, d0, ds0, p0, q0, hargs, rfl, rfl, h0, r0⟩ := trodAll_cons hA
  obtain ⟨v1, vs1, d1, ds1, p1, q1, rfl, rfl, rfl, h1, r1⟩ := trodAll_cons r0
  obtain ⟨v2, vs2, d2, ds2, p2, q2, rfl, rfl, rfl, h2, r2⟩ := trodAll_cons r1
  obtain ⟨rfl, rfl, rfl⟩ := trodAll_nil r2
  obtain rfl : args = #[v0, v1, v2] := by cases args; simp_all
  obtain ⟨rfl, rfl⟩ := trodVars_none hV
  have lt0 : ∀ x ∈ p0, x.block < W.heap.size := by obtain ⟨m, hm⟩ := h0; exact DataW.trod_lt m _ _ _ hm
  obtain ⟨z0, rfl, b0⟩ := okWide_int_bd Try.underlying3 (hval 0 3 v0 rfl rfl)
  have lt1 : ∀ x ∈ p1, x.block < W.heap.size := by obtain ⟨m, hm⟩ := h1; exact DataW.trod_lt m _ _ _ hm
  obtain ⟨z1, rfl, b1⟩ := okWide_int_bd Try.underlying3 (hval 1 3 v1 rfl rfl)
  have lt2 : ∀ x ∈ p2, x.block < W.heap.size := by obtain ⟨m, hm⟩ := h2; exact DataW.trod_lt m _ _ _ hm
  obtain ⟨z2, rfl, b2⟩ := okWide_int_bd Try.underlying3 (hval 2 3 v2 rfl rfl)
  clear hA0 hval0
  refine (makes_law z0 z1 z2 W).mono fun e W' ⟨he, hk⟩ => ?_
  subst he
  have bel := hk.below
  exact ⟨_, rfl, _, _, _, [], _, [], hW', trodAll_mk1 (shut_bool Try.underlying4 _), (trodAll_cons_mk (Below.trod laidOutShapeMakes (by kernel_rfl) (of_decide_eq_true (by kernel_rfl)) h0 bel lt0) (trodAll_cons_mk (Below.trod laidOutShapeMakes (by kernel_rfl) (of_decide_eq_true (by kernel_rfl)) h1 bel lt1) (trodAll_cons_mk (Below.trod laidOutShapeMakes (by kernel_rfl) (of_decide_eq_true (by kernel_rfl)) h2 bel lt2) trodAll_mk0))), rfl, bel.frame _, fun h => by cases h⟩
/-- For every input the statement ShapeMakes returns true, and each argument reads afterwards as it read before. -/
theorem shapeMakes_holds : Rows.ShapeMakesSaid :=
  OpenClaim.holds_of_wide 3 Try.f3 rfl rfl rfl rfl rfl rfl rfl ⟨rfl, rfl, rfl, rfl, rfl⟩ rfl rfl rfl rfl rfl (by kernel_rfl) Try.func3 (by kernel_rfl)
    (of_decide_eq_true (by kernel_rfl)) (by unfold Func.isWrapper; first | (rw [if_pos (by decide +kernel)]; kernel_rfl) | (rw [if_neg (by decide +kernel)]; exact ⟨rfl, rfl⟩))
    (fun os started H enc _ => liftedShapeMakes os started H enc)
#print axioms shapeMakes_holds

end Go.Proofs.Ytoadlneneijfaaa
