/- For every input the statement ShapeCounts returns true and leaves its argument as it was. No conditions. -/
import Derived.Test.YtoadlneneijfaaaGtr
import Derived.Test.YtoadlneneijfaaaGkn
import Derived.Test.YtoadlneneijfaaaOpm
namespace Go.Proofs.Ytoadlneneijfaaa
set_option linter.unusedVariables false
set_option linter.unusedSimpArgs false
open Go.ChangeShapes Go.WideShapes Go.ChangeAt Go.RowKit
theorem numV_ge (n : Nat) (P : Nat → Nat → Int) (m : Nat) (F : Nat → Nat → Int) (p : Nat) : 0 ≤ numV n P m F p := by
  unfold numV
  split <;> omega
set_option maxRecDepth 100000 in
set_option maxHeartbeats 16000000 in
theorem counts_law (A : Option Addr) (n cap : Nat) (P : Nat → Nat → Int) (B : Option Addr) (m cap2 : Nat) (F : Nat → Nat → Int) (w : World) (h : (n ≤ cap ∧ cap ≤ maxLen ∧ RowsAt w A n 3 P) ∧ (m ≤ cap2 ∧ cap2 ≤ maxLen ∧ RowsAt w B m 3 F)) :
    Calls Try.prog 9 #[.agg #[.slice A n cap, .slice B m cap2]] w fun r w' => r = .returned (.bool true) ∧ Kept w w' := by
  obtain ⟨⟨a1, a2, hP⟩, b1, b2, hF⟩ := h
  unfold maxLen at a2 b2
  have HP := Lib.hid hP
  have HF := Lib.hid hF
  clear hP hF
  have hn : n ≤ 9223372036854775807 ∧ m ≤ 9223372036854775807 := by omega
  by_cases hl : 200 < n ∨ 300 < m
  · have hl2 : (decide (200 < n) || decide (300 < m)) = true := by simpa using hl
    have HL := Lib.hid hl2
    clear hl hl2
    go_enter Try.func9, Try.ntmps9
    go_wp2_with fail
    refine (long_any _ _ _ _ _ _ _).mono ?_
    rintro r w1 ⟨rfl, x0, rfl⟩
    rw [HL.out]
    go_wp2_with (first | (go_at_call 19; refine (s2known_any _).mono ?_; rintro e w1 ⟨rfl, x, rfl⟩))
    go_ret
    exact ⟨rfl, by (repeat (first | exact Kept.refl _ | assumption | refine Kept.alloc ?_ _ | refine Kept.ext ?_ _ | refine Kept.drew ?_ | refine Kept.drewN ?_ _))⟩
  have hl2 : (decide (200 < n) || decide (300 < m)) = false := by simpa using hl
  have HL := Lib.hid hl2
  clear hl2
  obtain ⟨p, d, hT⟩ := Top.ex n P m F
  have HT := Lib.hid hT
  clear hT
  obtain ⟨e, he⟩ : ∃ e, validE n P m F = e := ⟨_, rfl⟩
  obtain ⟨vE, hvE⟩ : ∃ v, edgeV n P m F = v := ⟨_, rfl⟩
  obtain ⟨vP, hvP⟩ : ∃ v, numV n P m F p = v := ⟨_, rfl⟩
  obtain ⟨vD, hvD⟩ : ∃ v, numV n P m F d = v := ⟨_, rfl⟩
  have hd0 : 0 ≤ vD := by rw [← hvD]; exact numV_ge _ _ _ _ _
  have HV := Lib.hid (And.intro he (And.intro hvE (And.intro hvP hvD)))
  clear he hvE hvP hvD
  go_enter Try.func9, Try.ntmps9
  go_wp2_with fail
  refine (long_any _ _ _ _ _ _ _).mono ?_
  rintro r w1 ⟨rfl, x0, rfl⟩
  rw [HL.out]
  go_wp2_with (first | (go_at_call 46; refine (sEdges_any _ _ _ _ _ _ P F _ hn (HP.out.of (by (repeat (first | exact Kept.refl _ | assumption | refine Kept.alloc ?_ _ | refine Kept.ext ?_ _ | refine Kept.drew ?_ | refine Kept.drewN ?_ _)))) (HF.out.of (by (repeat (first | exact Kept.refl _ | assumption | refine Kept.alloc ?_ _ | refine Kept.ext ?_ _ | refine Kept.drew ?_ | refine Kept.drewN ?_ _))))).mono ?_; rintro r w1 ⟨rfl, x1, rfl⟩; rw [HV.out.1, HV.out.2.1]) | (go_at_call 47; refine (r2Edges_any _ _ _ _ _ _ P F _ hn (HP.out.of (by (repeat (first | exact Kept.refl _ | assumption | refine Kept.alloc ?_ _ | refine Kept.ext ?_ _ | refine Kept.drew ?_ | refine Kept.drewN ?_ _)))) (HF.out.of (by (repeat (first | exact Kept.refl _ | assumption | refine Kept.alloc ?_ _ | refine Kept.ext ?_ _ | refine Kept.drew ?_ | refine Kept.drewN ?_ _))))).mono ?_; rintro r w1 ⟨rfl, x2, rfl⟩; rw [HV.out.1, HV.out.2.1]) | (go_at_call 48; refine (sParts_any _ _ _ _ _ _ P F p d _ hn (HP.out.of (by (repeat (first | exact Kept.refl _ | assumption | refine Kept.alloc ?_ _ | refine Kept.ext ?_ _ | refine Kept.drew ?_ | refine Kept.drewN ?_ _)))) (HF.out.of (by (repeat (first | exact Kept.refl _ | assumption | refine Kept.alloc ?_ _ | refine Kept.ext ?_ _ | refine Kept.drew ?_ | refine Kept.drewN ?_ _)))) HT.out).mono ?_; rintro r w1 ⟨rfl, x3, rfl⟩; rw [HV.out.1, HV.out.2.2.1]) | (go_at_call 49; refine (r2Parts_any _ _ _ _ _ _ P F p d _ hn (HP.out.of (by (repeat (first | exact Kept.refl _ | assumption | refine Kept.alloc ?_ _ | refine Kept.ext ?_ _ | refine Kept.drew ?_ | refine Kept.drewN ?_ _)))) (HF.out.of (by (repeat (first | exact Kept.refl _ | assumption | refine Kept.alloc ?_ _ | refine Kept.ext ?_ _ | refine Kept.drew ?_ | refine Kept.drewN ?_ _)))) HT.out).mono ?_; rintro r w1 ⟨rfl, x4, rfl⟩; rw [HV.out.1, HV.out.2.2.1]) | (go_at_call 50; refine (sHandles_any _ _ _ _ _ _ P F p d _ hn (HP.out.of (by (repeat (first | exact Kept.refl _ | assumption | refine Kept.alloc ?_ _ | refine Kept.ext ?_ _ | refine Kept.drew ?_ | refine Kept.drewN ?_ _)))) (HF.out.of (by (repeat (first | exact Kept.refl _ | assumption | refine Kept.alloc ?_ _ | refine Kept.ext ?_ _ | refine Kept.drew ?_ | refine Kept.drewN ?_ _)))) HT.out).mono ?_; rintro r w1 ⟨rfl, x5, rfl⟩; rw [HV.out.1, HV.out.2.2.2]) | (go_at_call 51; refine (r2Handles_any _ _ _ _ _ _ P F p d _ hn (HP.out.of (by (repeat (first | exact Kept.refl _ | assumption | refine Kept.alloc ?_ _ | refine Kept.ext ?_ _ | refine Kept.drew ?_ | refine Kept.drewN ?_ _)))) (HF.out.of (by (repeat (first | exact Kept.refl _ | assumption | refine Kept.alloc ?_ _ | refine Kept.ext ?_ _ | refine Kept.drew ?_ | refine Kept.drewN ?_ _)))) HT.out).mono ?_; rintro r w1 ⟨rfl, x6, rfl⟩; rw [HV.out.1, HV.out.2.2.2]) | (go_at_call 19; refine (s2known_any _).mono ?_; rintro r w1 ⟨rfl, x7, rfl⟩))
  go_ret
  exact ⟨rfl, by (repeat (first | exact Kept.refl _ | assumption | refine Kept.alloc ?_ _ | refine Kept.ext ?_ _ | refine Kept.drew ?_ | refine Kept.drewN ?_ _))⟩
theorem ownShapeCounts : ownKnob Try.prog.godebug = none := by kernel_rfl
theorem laidOutShapeCounts : laidOutB Try.prog = true := by kernel_rfl
set_option linter.unusedVariables false in
set_option maxRecDepth 100000 in
theorem liftedShapeCounts (os : Os) (started : os.Started) (H : Type) (enc : TypeId × Value → H) :
    ReturnsInHanded {} Try.checked os 9 .any (Rows.shapeCountsSpec.pre6 enc Try.prog Try.f9 Rows.shapeCountsRow.domain false) (Rows.shapeCountsSpec.post enc Try.prog Try.f9 false true false false) := by
  refine returnsInHanded_of_change (C := Try.checked) ownShapeCounts started (by kernel_rfl) Try.func9
    (ChangeSpec.witness6 (enc := enc) (C := Try.checked) false ⟨#[], #[.agg #[.slice none 0 0, .slice none 0 0]], []⟩ 8 (by kernel_rfl) (by kernel_rfl) (by kernel_rfl) (by kernel_rfl)) ?_
  intro W base args ds gs before hval0 hW hcnd _
  have hval : ∀ (j : Nat) t v, Try.f9.params[j]? = some t → args[j]? = some v → Value.okWide Try.prog W .any base t v := hval0
  have hW' := hW
  obtain ⟨p, q, hA0, hV, rfl, hfz, hnd⟩ := hW
  have hA : DataW.TrodAll enc Try.prog W 0 (fun _ => true) true Try.f9.params.toList args.toList ds p := hA0
  rw [Try.params9] at hA hval
  obtain ⟨v0, vs0, d0, ds0, p0, q0, hargs, rfl, rfl, h0, r0⟩ := trodAll_cons hA
  obtain ⟨rfl, rfl, rfl⟩ := trodAll_nil r0
  obtain rfl : args = #[v0] := by cases args; simp_all
  obtain ⟨rfl, rfl⟩ := trodVars_none hV
  have lt0 : ∀ x ∈ p0, x.block < W.heap.size := by obtain ⟨m, hm⟩ := h0; exact DataW.trod_lt m _ _ _ hm
  obtain ⟨A0, n0, cap0, f0, B0, m0, capb0, g0, rfl, hpa0, hpb0⟩ := open_mesh _ _ 25 34 54 3 3 Try.underlying25 ⟨rfl, rfl, by kernel_rfl, by kernel_rfl, by kernel_rfl⟩ Try.underlying22 (by kernel_rfl) (by decide) (by kernel_rfl) Try.underlying23 (by kernel_rfl) (by decide) (by kernel_rfl) (hval 0 25 v0 rfl rfl) h0 lt0
  clear hA0 hval0
  refine (counts_law A0 n0 cap0 f0 B0 m0 capb0 g0 W ⟨hpa0, hpb0⟩).mono fun e W' ⟨he, hk⟩ => ?_
  subst he
  have bel := hk.below
  exact ⟨_, rfl, _, _, _, [], _, [], hW', trodAll_mk1 (shut_bool Try.underlying4 _), (trodAll_cons_mk (Below.trod laidOutShapeCounts (by kernel_rfl) (of_decide_eq_true (by kernel_rfl)) h0 bel lt0) trodAll_mk0), rfl, bel.frame _, fun h => by cases h⟩
/-- For every input the statement ShapeCounts returns true, and each argument reads afterwards as it read before. -/
theorem shapeCounts_holds : Rows.ShapeCountsSaid :=
  OpenClaim.holds_of_wide 9 Try.f9 rfl rfl rfl rfl rfl rfl rfl ⟨rfl, rfl, rfl, rfl, rfl⟩ rfl rfl rfl rfl rfl (by kernel_rfl) Try.func9 (by kernel_rfl)
    (of_decide_eq_true (by kernel_rfl)) (by unfold Func.isWrapper; first | (rw [if_pos (by decide +kernel)]; kernel_rfl) | (rw [if_neg (by decide +kernel)]; exact ⟨rfl, rfl⟩))
    (fun os started H enc _ => liftedShapeCounts os started H enc)
#print axioms shapeCounts_holds

end Go.Proofs.Ytoadlneneijfaaa
