/- For every input the statement ShapeWinds returns true and leaves its argument as it was. No conditions. -/
import Derived.Test.YtoadlneneijfaaaGwx
import Derived.Test.YtoadlneneijfaaaGkn
import Derived.Test.YtoadlneneijfaaaOpm
namespace Go.Proofs.Ytoadlneneijfaaa
set_option linter.unusedVariables false
set_option linter.unusedSimpArgs false
open Go.ChangeShapes Go.WideShapes Go.ChangeAt Go.RowKit
set_option maxRecDepth 100000 in
set_option maxHeartbeats 16000000 in
theorem winds_law (A : Option Addr) (n cap : Nat) (P : Nat → Nat → Int) (B : Option Addr) (m cap2 : Nat) (F : Nat → Nat → Int) (q0 q1 q2 : Int) (w : World) (h : (n ≤ cap ∧ cap ≤ maxLen ∧ RowsAt w A n 3 P) ∧ (m ≤ cap2 ∧ cap2 ≤ maxLen ∧ RowsAt w B m 3 F)) :
    Calls Try.prog 8 #[.agg #[.slice A n cap, .slice B m cap2], .agg #[.int .i64 q0, .int .i64 q1, .int .i64 q2]] w fun r w' => r = .returned (.bool true) ∧ Kept w w' := by
  obtain ⟨⟨a1, a2, hP⟩, b1, b2, hF⟩ := h
  unfold maxLen at a2 b2
  have HP := Lib.hid hP
  have HF := Lib.hid hF
  clear hP hF
  have hn : n ≤ 9223372036854775807 ∧ m ≤ 9223372036854775807 := by omega
  by_cases hl : 200 < n ∨ 300 < m
  · have hl2 : (decide (200 < n) || decide (300 < m)) = true := by simpa using hl
    have HL := Lib.hid hl2
    clear hl hl2
    go_enter Try.func8, Try.ntmps8
    go_wp2_with fail
    refine (long_any _ _ _ _ _ _ _).mono ?_
    rintro r w1 ⟨rfl, x0, rfl⟩
    rw [HL.out]
    go_wp2_with (first | (go_at_call 19; refine (known_any _).mono ?_; rintro e w1 ⟨rfl, x, rfl⟩))
    go_ret
    exact ⟨rfl, by (repeat (first | exact Kept.refl _ | assumption | refine Kept.alloc ?_ _ | refine Kept.ext ?_ _ | refine Kept.drew ?_ | refine Kept.drewN ?_ _))⟩
  have hl2 : (decide (200 < n) || decide (300 < m)) = false := by simpa using hl
  have HL := Lib.hid hl2
  clear hl2
  go_enter Try.func8, Try.ntmps8
  go_wp2_with fail
  refine (long_any _ _ _ _ _ _ _).mono ?_
  rintro r w1 ⟨rfl, x0, rfl⟩
  rw [HL.out]
  go_wp2_with (first | (go_at_call 42; refine (sOn_any _ _ _ _ _ _ P F _ _ _ _ hn (HP.out.of (by (repeat (first | exact Kept.refl _ | assumption | refine Kept.alloc ?_ _ | refine Kept.ext ?_ _ | refine Kept.drew ?_ | refine Kept.drewN ?_ _)))) (HF.out.of (by (repeat (first | exact Kept.refl _ | assumption | refine Kept.alloc ?_ _ | refine Kept.ext ?_ _ | refine Kept.drew ?_ | refine Kept.drewN ?_ _))))).mono ?_; rintro r w1 ⟨rfl, x1, rfl⟩) | (go_at_call 43; refine (r2On_any _ _ _ _ _ _ P F _ _ _ _ hn (HP.out.of (by (repeat (first | exact Kept.refl _ | assumption | refine Kept.alloc ?_ _ | refine Kept.ext ?_ _ | refine Kept.drew ?_ | refine Kept.drewN ?_ _)))) (HF.out.of (by (repeat (first | exact Kept.refl _ | assumption | refine Kept.alloc ?_ _ | refine Kept.ext ?_ _ | refine Kept.drew ?_ | refine Kept.drewN ?_ _))))).mono ?_; rintro r w1 ⟨rfl, x2, rfl⟩) | (go_at_call 44; refine (sWinding_any _ _ _ _ _ _ P F _ _ _ _ hn (HP.out.of (by (repeat (first | exact Kept.refl _ | assumption | refine Kept.alloc ?_ _ | refine Kept.ext ?_ _ | refine Kept.drew ?_ | refine Kept.drewN ?_ _)))) (HF.out.of (by (repeat (first | exact Kept.refl _ | assumption | refine Kept.alloc ?_ _ | refine Kept.ext ?_ _ | refine Kept.drew ?_ | refine Kept.drewN ?_ _))))).mono ?_; rintro r w1 ⟨rfl, x3, rfl⟩) | (go_at_call 45; refine (r2Winding_any _ _ _ _ _ _ P F _ _ _ _ hn (HP.out.of (by (repeat (first | exact Kept.refl _ | assumption | refine Kept.alloc ?_ _ | refine Kept.ext ?_ _ | refine Kept.drew ?_ | refine Kept.drewN ?_ _)))) (HF.out.of (by (repeat (first | exact Kept.refl _ | assumption | refine Kept.alloc ?_ _ | refine Kept.ext ?_ _ | refine Kept.drew ?_ | refine Kept.drewN ?_ _))))).mono ?_; rintro r w1 ⟨rfl, x4, rfl⟩) | (go_at_call 19; refine (known_any _).mono ?_; rintro r w1 ⟨rfl, x7, rfl⟩))
  go_ret
  exact ⟨rfl, by (repeat (first | exact Kept.refl _ | assumption | refine Kept.alloc ?_ _ | refine Kept.ext ?_ _ | refine Kept.drew ?_ | refine Kept.drewN ?_ _))⟩
theorem ownShapeWinds : ownKnob Try.prog.godebug = none := by kernel_rfl
theorem laidOutShapeWinds : laidOutB Try.prog = true := by kernel_rfl
set_option linter.unusedVariables false in
set_option maxRecDepth 100000 in
theorem liftedShapeWinds (os : Os) (started : os.Started) (H : Type) (enc : TypeId × Value → H) :
    ReturnsInHanded {} Try.checked os 8 .any (Rows.shapeWindsSpec.pre6 enc Try.prog Try.f8 Rows.shapeWindsRow.domain false) (Rows.shapeWindsSpec.post enc Try.prog Try.f8 false true false false) := by
  refine returnsInHanded_of_change (C := Try.checked) ownShapeWinds started (by kernel_rfl) Try.func8
    (ChangeSpec.witness6 (enc := enc) (C := Try.checked) false ⟨#[], #[.agg #[.slice none 0 0, .slice none 0 0], .agg #[.int .i64 0, .int .i64 0, .int .i64 0]], []⟩ 8 (by kernel_rfl) (by kernel_rfl) (by kernel_rfl) (by kernel_rfl)) ?_
  intro W base args ds gs before hval0 hW hcnd _
  have hval : ∀ (j : Nat) t v, Try.f8.params[j]? = some t → args[j]? = some v → Value.okWide Try.prog W .any base t v := hval0
  have hW' := hW
  obtain ⟨p, q, hA0, hV, rfl, hfz, hnd⟩ := hW
  have hA : DataW.TrodAll enc Try.prog W 0 (fun _ => true) true Try.f8.params.toList args.toList ds p := hA0
  rw [Try.params8] at hA hval
  obtain ⟨v0, vs0, d0, ds0, p0, q0, hargs, rfl, rfl, h0, r0⟩ := trodAll_cons hA
  obtain ⟨v1, vs1, d1, ds1, p1, q1, rfl, rfl, rfl, h1, r1⟩ := trodAll_cons r0
  obtain ⟨rfl, rfl, rfl⟩ := trodAll_nil r1
  obtain rfl : args = #[v0, v1] := by cases args; simp_all
  obtain ⟨rfl, rfl⟩ := trodVars_none hV
  have lt0 : ∀ x ∈ p0, x.block < W.heap.size := by obtain ⟨m, hm⟩ := h0; exact DataW.trod_lt m _ _ _ hm
  obtain ⟨A0, n0, cap0, f0, B0, m0, capb0, g0, rfl, hpa0, hpb0⟩ := open_mesh _ _ 25 34 54 3 3 Try.underlying25 ⟨rfl, rfl, by kernel_rfl, by kernel_rfl, by kernel_rfl⟩ Try.underlying22 (by kernel_rfl) (by decide) (by kernel_rfl) Try.underlying23 (by kernel_rfl) (by decide) (by kernel_rfl) (hval 0 25 v0 rfl rfl) h0 lt0
  have lt1 : ∀ x ∈ p1, x.block < W.heap.size := by obtain ⟨m, hm⟩ := h1; exact DataW.trod_lt m _ _ _ hm
  obtain ⟨l1, rfl, e1, b1⟩ := open_agg_ints 3 (by kernel_rfl) (by kernel_rfl) (ts := [3, 3, 3]) (by kernel_rfl) (by intro u hu; simp at hu; subst hu; exact Try.underlying3) (hval 1 34 v1 rfl rfl)
  obtain ⟨z1_0, z1_1, z1_2, rfl⟩ := len3 e1
  simp only [List.map_cons, List.map_nil] at *
  simp only [List.mem_cons, List.not_mem_nil, or_false, forall_eq_or_imp, forall_eq] at b1
  clear hA0 hval0
  refine (winds_law A0 n0 cap0 f0 B0 m0 capb0 g0 z1_0 z1_1 z1_2 W ⟨hpa0, hpb0⟩).mono fun e W' ⟨he, hk⟩ => ?_
  subst he
  have bel := hk.below
  exact ⟨_, rfl, _, _, _, [], _, [], hW', trodAll_mk1 (shut_bool Try.underlying4 _), (trodAll_cons_mk (Below.trod laidOutShapeWinds (by kernel_rfl) (of_decide_eq_true (by kernel_rfl)) h0 bel lt0) (trodAll_cons_mk (Below.trod laidOutShapeWinds (by kernel_rfl) (of_decide_eq_true (by kernel_rfl)) h1 bel lt1) trodAll_mk0)), rfl, bel.frame _, fun h => by cases h⟩
/-- For every input the statement ShapeWinds returns true, and each argument reads afterwards as it read before. -/
theorem shapeWinds_holds : Rows.ShapeWindsSaid :=
  OpenClaim.holds_of_wide 8 Try.f8 rfl rfl rfl rfl rfl rfl rfl ⟨rfl, rfl, rfl, rfl, rfl⟩ rfl rfl rfl rfl rfl (by kernel_rfl) Try.func8 (by kernel_rfl)
    (of_decide_eq_true (by kernel_rfl)) (by unfold Func.isWrapper; first | (rw [if_pos (by decide +kernel)]; kernel_rfl) | (rw [if_neg (by decide +kernel)]; exact ⟨rfl, rfl⟩))
    (fun os started H enc _ => liftedShapeWinds os started H enc)
#print axioms shapeWinds_holds

end Go.Proofs.Ytoadlneneijfaaa
