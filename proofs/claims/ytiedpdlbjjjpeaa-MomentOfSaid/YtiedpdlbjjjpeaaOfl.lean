/- For every input the statement MomentOf returns true and leaves its arguments as they were. No conditions. -/
import Derived.Test.YtiedpdlbjjjpeaaSane
import Derived.Test.YtiedpdlbjjjpeaaRof
import Derived.Test.YtiedpdlbjjjpeaaRad
namespace Go.Proofs.Ytiedpdlbjjjpeaa
set_option linter.unusedVariables false
set_option linter.unusedSimpArgs false
open Go.ChangeShapes Go.WideShapes Go.ChangeAt Go.RowKit
set_option maxRecDepth 100000 in
set_option maxHeartbeats 8000000 in
theorem of_law (A : Option Addr) (n cap : Nat) (f : Nat → Nat → Int) (c0 c1 c2 : Int) (w : World) (h : n ≤ cap ∧ cap ≤ maxLen ∧ RowsAt w A n 10 f) :
    Calls Try.prog 6 #[.slice A n cap, .agg #[.int .i64 c0, .int .i64 c1, .int .i64 c2]] w fun r w' => r = .returned (.bool true) ∧ Kept w w' := by
  obtain ⟨h1, h2, h3⟩ := h
  unfold maxLen at h2
  have HS := Lib.hid h3
  clear h3
  by_cases hn : 300 < n
  · go_enter Try.func6, Try.ntmps6
    go_wp2_with (first | (go_at_call 15; refine (sane_any _).mono ?_; rintro e w1 ⟨rfl, x, rfl⟩))
    go_ret
    exact ⟨rfl, by (repeat (first | exact Kept.refl _ | assumption | refine Kept.alloc ?_ _ | refine Kept.ext ?_ _ | refine Kept.drew ?_ | refine Kept.drewN ?_ _))⟩
  · go_enter Try.func6, Try.ntmps6
    go_wp2_with fail
    refine (mof_any _ _ _ f _ _ _ _ (by omega) (HS.out.of (by (repeat (first | exact Kept.refl _ | assumption | refine Kept.alloc ?_ _ | refine Kept.ext ?_ _ | refine Kept.drew ?_ | refine Kept.drewN ?_ _))))).mono ?_
    rintro r w1 ⟨rfl, x1, rfl⟩
    go_wp2_with fail
    refine (r4of_any _ _ _ f _ _ _ _ (by omega) (HS.out.of (by (repeat (first | exact Kept.refl _ | assumption | refine Kept.alloc ?_ _ | refine Kept.ext ?_ _ | refine Kept.drew ?_ | refine Kept.drewN ?_ _))))).mono ?_
    rintro r w1 ⟨rfl, x2, rfl⟩
    go_wp2_with fail
    refine (mrad_any _ _ _ f _ _ _ _ (by omega) (HS.out.of (by (repeat (first | exact Kept.refl _ | assumption | refine Kept.alloc ?_ _ | refine Kept.ext ?_ _ | refine Kept.drew ?_ | refine Kept.drewN ?_ _))))).mono ?_
    rintro r w1 ⟨rfl, x3, rfl⟩
    go_wp2_with fail
    refine (r4rad_any _ _ _ f _ _ _ _ (by omega) (HS.out.of (by (repeat (first | exact Kept.refl _ | assumption | refine Kept.alloc ?_ _ | refine Kept.ext ?_ _ | refine Kept.drew ?_ | refine Kept.drewN ?_ _))))).mono ?_
    rintro r w1 ⟨rfl, x4, rfl⟩
    go_wp2_with (first | (go_at_call 15; refine (sane_any _).mono ?_; rintro e w1 ⟨rfl, x, rfl⟩))
    go_ret
    exact ⟨rfl, by (repeat (first | exact Kept.refl _ | assumption | refine Kept.alloc ?_ _ | refine Kept.ext ?_ _ | refine Kept.drew ?_ | refine Kept.drewN ?_ _))⟩
theorem ownMomentOf : ownKnob Try.prog.godebug = none := by kernel_rfl
theorem laidOutMomentOf : laidOutB Try.prog = true := by kernel_rfl
set_option linter.unusedVariables false in
set_option maxRecDepth 100000 in
theorem liftedMomentOf (os : Os) (started : os.Started) (H : Type) (enc : TypeId × Value → H) :
    ReturnsInHanded {} Try.checked os 6 .any (Rows.momentOfSpec.pre6 enc Try.prog Try.f6 Rows.momentOfRow.domain false) (Rows.momentOfSpec.post enc Try.prog Try.f6 false true false false) := by
  refine returnsInHanded_of_change (C := Try.checked) ownMomentOf started (by kernel_rfl) Try.func6
    (ChangeSpec.witness6 (enc := enc) (C := Try.checked) false ⟨#[], #[.slice none 0 0, .agg #[.int .i64 0, .int .i64 0, .int .i64 0]], []⟩ 8 (by kernel_rfl) (by kernel_rfl) (by kernel_rfl) (by kernel_rfl)) ?_
  intro W base args ds gs before hval0 hW hcnd _
  have hval : ∀ (j : Nat) t v, Try.f6.params[j]? = some t → args[j]? = some v → Value.okWide Try.prog W .any base t v := hval0
  have hW' := hW
  obtain ⟨p, q, hA0, hV, rfl, hfz, hnd⟩ := hW
  have hA : DataW.TrodAll enc Try.prog W 0 (fun _ => true) true Try.f6.params.toList args.toList ds p := hA0
  rw [Try.params6] at hA hval
  obtain ⟨v0, vs0, d0, ds0, p0, q0, hargs, rfl, rfl, h0, r0⟩ := trodAll_cons hA
  obtain ⟨v1, vs1, d1, ds1, p1, q1, rfl, rfl, rfl, h1, r1⟩ := trodAll_cons r0
  obtain ⟨rfl, rfl, rfl⟩ := trodAll_nil r1
  obtain rfl : args = #[v0, v1] := by cases args; simp_all
  obtain ⟨rfl, rfl⟩ := trodVars_none hV
  have lt0 : ∀ x ∈ p0, x.block < W.heap.size := by obtain ⟨m, hm⟩ := h0; exact DataW.trod_lt m _ _ _ hm
  obtain ⟨A0, n0, cap0, f0, rfl, hl0, hm0, hr0⟩ := open_rows 10 Try.underlying32 (by kernel_rfl) (by decide) (by kernel_rfl) (hval 0 32 v0 rfl rfl) h0 lt0
  have lt1 : ∀ x ∈ p1, x.block < W.heap.size := by obtain ⟨m, hm⟩ := h1; exact DataW.trod_lt m _ _ _ hm
  obtain ⟨l1, rfl, e1, b1⟩ := open_agg_ints 3 (by kernel_rfl) (by kernel_rfl) (ts := [3, 3, 3]) (by kernel_rfl) (by intro u hu; simp at hu; subst hu; exact Try.underlying3) (hval 1 23 v1 rfl rfl)
  obtain ⟨z1_0, z1_1, z1_2, rfl⟩ := len3 e1
  simp only [List.map_cons, List.map_nil] at *
  simp only [List.mem_cons, List.not_mem_nil, or_false, forall_eq_or_imp, forall_eq] at b1
  clear hA0 hval0
  refine (of_law A0 n0 cap0 f0 z1_0 z1_1 z1_2 W ⟨hl0, hm0, hr0⟩).mono fun e W' ⟨he, hk⟩ => ?_
  subst he
  have bel := hk.below
  exact ⟨_, rfl, _, _, _, [], _, [], hW', trodAll_mk1 (shut_bool Try.underlying4 _), (trodAll_cons_mk (Below.trod laidOutMomentOf (by kernel_rfl) (of_decide_eq_true (by kernel_rfl)) h0 bel lt0) (trodAll_cons_mk (Below.trod laidOutMomentOf (by kernel_rfl) (of_decide_eq_true (by kernel_rfl)) h1 bel lt1) trodAll_mk0)), rfl, bel.frame _, fun h => by cases h⟩
/-- For every input the statement MomentOf returns true, and each argument reads afterwards as it read before. -/
theorem momentOf_holds : Rows.MomentOfSaid :=
  OpenClaim.holds_of_wide 6 Try.f6 rfl rfl rfl rfl rfl rfl rfl ⟨rfl, rfl, rfl, rfl, rfl⟩ rfl rfl rfl rfl rfl (by kernel_rfl) Try.func6 (by kernel_rfl)
    (of_decide_eq_true (by kernel_rfl)) (by unfold Func.isWrapper; first | (rw [if_pos (by decide +kernel)]; kernel_rfl) | (rw [if_neg (by decide +kernel)]; exact ⟨rfl, rfl⟩))
    (fun os started H enc _ => liftedMomentOf os started H enc)
#print axioms momentOf_holds

end Go.Proofs.Ytiedpdlbjjjpeaa
