/- For every input the statement MomentCenters returns true and leaves its arguments as they were. No conditions. -/
import Derived.Test.YtiedpdlbjjjpeaaSane
namespace Go.Proofs.Ytiedpdlbjjjpeaa
set_option linter.unusedVariables false
set_option linter.unusedSimpArgs false
open Go.ChangeShapes Go.WideShapes Go.ChangeAt Go.RowKit
theorem mov_add (m : Mo) (q a0 a1 a2 a3 a4 a5 a6 a7 a8 u v w : Int) : movM (addA m q a0 a1 a2 a3 a4 a5 a6 a7 a8) u v w = addA (movM m u v w) q (a0 - u) (a1 - v) (a2 - w) (a3 - u) (a4 - v) (a5 - w) (a6 - u) (a7 - v) (a8 - w) := by
  unfold movM addA
  simp only [Mo.mk.injEq, true_and]
  refine ⟨?_, ?_, ?_, ?_, ?_, ?_, ?_, ?_, ?_⟩ <;> grind
theorem mov_momF (f : Nat → Nat → Int) (c0 c1 c2 u v w : Int) (n : Nat) : movM (momF f c0 c1 c2 n) u v w = momF f (c0 + u) (c1 + v) (c2 + w) n := by
  induction n with
  | zero => simp [movM, momF, moZ]
  | succ n ih =>
    unfold momF
    rw [mov_add, ih]
    congr 1 <;> omega
theorem momF_ok {f : Nat → Nat → Int} {c0 c1 c2 : Int} {n : Nat} (hn : n ≤ 96) (h : firstE f n = 0) (hc : inB c0 c1 c2 64 = true) : okM (momF f c0 c1 c2 n) = true := by
  have b := momF_bd h hc (Nat.le_refl n)
  unfold MoB at b
  exact okM_mk (by omega)
theorem centers_shift {n : Nat} {f : Nat → Nat → Int} {c0 c1 c2 u v w : Int} (h1 : givE n f c0 c1 c2 = 0) (h2 : givE n f (c0 + u) (c1 + v) (c2 + w) = 0) (hu : inB u v w 128 = true) :
    shiftM (momF f c0 c1 c2 n) u v w = ⟨momF f (c0 + u) (c1 + v) (c2 + w) n, 0⟩ := by
  obtain ⟨n0, n1, n2⟩ := givE_ok h1
  obtain ⟨-, -, n3⟩ := givE_ok h2
  unfold shiftM toldM
  rw [momF_ok n0 n1 n2, hu, mov_momF, momF_ok n0 n1 n3]
  rfl
theorem of_ok {n : Nat} {f : Nat → Nat → Int} {c0 c1 c2 : Int} (h : givE n f c0 c1 c2 = 0) : ofM n f c0 c1 c2 = ⟨momF f c0 c1 c2 n, 0⟩ := if_pos h
theorem of_bad {n : Nat} {f : Nat → Nat → Int} {c0 c1 c2 : Int} (h : givE n f c0 c1 c2 ≠ 0) : ((ofM n f c0 c1 c2).e != 0) = true := by
  unfold ofM
  rw [if_neg h]
  simpa using h
set_option maxRecDepth 100000 in
set_option maxHeartbeats 8000000 in
theorem centers_law (A : Option Addr) (n cap : Nat) (f : Nat → Nat → Int) (c0 c1 c2 u0 u1 u2 : Int) (w : World) (h : n ≤ cap ∧ cap ≤ maxLen ∧ RowsAt w A n 10 f) :
    Calls Try.prog 4 #[.slice A n cap, .agg #[.int .i64 c0, .int .i64 c1, .int .i64 c2], .agg #[.int .i64 u0, .int .i64 u1, .int .i64 u2]] w fun r w' => r = .returned (.bool true) ∧ Kept w w' := by
  obtain ⟨h1, h2, h3⟩ := h
  unfold maxLen at h2
  have HS := Lib.hid h3
  clear h3
  by_cases hn : 300 < n
  · go_enter Try.func4, Try.ntmps4
    go_wp2_with (first | (go_at_call 15; refine (sane_any _).mono ?_; rintro e w1 ⟨rfl, x, rfl⟩))
    go_ret
    exact ⟨rfl, by (repeat (first | exact Kept.refl _ | assumption | refine Kept.alloc ?_ _ | refine Kept.ext ?_ _ | refine Kept.drew ?_ | refine Kept.drewN ?_ _))⟩
  cases hu : inB u0 u1 u2 128
  · go_enter Try.func4, Try.ntmps4
    go_wp2_with (first | (go_at_call 16; refine (small_any _ _ _ _ _ (by omega)).mono ?_; rintro e w1 ⟨rfl, x, rfl⟩) | (go_at_call 15; refine (sane_any _).mono ?_; rintro e w1 ⟨rfl, x, rfl⟩))
    go_ret
    exact ⟨rfl, by (repeat (first | exact Kept.refl _ | assumption | refine Kept.alloc ?_ _ | refine Kept.ext ?_ _ | refine Kept.drew ?_ | refine Kept.drewN ?_ _))⟩
  cases hc : inB c0 c1 c2 64
  · go_enter Try.func4, Try.ntmps4
    go_wp2_with (first | (go_at_call 16; refine (small_any _ _ _ _ _ (by omega)).mono ?_; rintro e w1 ⟨rfl, x, rfl⟩) | (go_at_call 15; refine (sane_any _).mono ?_; rintro e w1 ⟨rfl, x, rfl⟩))
    go_ret
    exact ⟨rfl, by (repeat (first | exact Kept.refl _ | assumption | refine Kept.alloc ?_ _ | refine Kept.ext ?_ _ | refine Kept.drew ?_ | refine Kept.drewN ?_ _))⟩
  have b1 := inB_true hu
  have b2 := inB_true hc
  by_cases g1 : givE n f c0 c1 c2 = 0
  · by_cases g2 : givE n f (c0 + u0) (c1 + u1) (c2 + u2) = 0
    · have e1 := of_ok g1
      have e2 := of_ok g2
      have e3 : shiftM ⟨(momF f c0 c1 c2 n).q, (momF f c0 c1 c2 n).t, (momF f c0 c1 c2 n).x, (momF f c0 c1 c2 n).y, (momF f c0 c1 c2 n).z, (momF f c0 c1 c2 n).a, (momF f c0 c1 c2 n).b, (momF f c0 c1 c2 n).c, (momF f c0 c1 c2 n).d, (momF f c0 c1 c2 n).e, (momF f c0 c1 c2 n).f⟩ u0 u1 u2 = ⟨momF f (c0 + u0) (c1 + u1) (c2 + u2) n, 0⟩ := centers_shift g1 g2 hu
      clear g1 g2
      go_enter Try.func4, Try.ntmps4
      go_wp2_with (first | (go_at_call 16; refine (small_any _ _ _ _ _ (by omega)).mono ?_; rintro e w1 ⟨rfl, x, rfl⟩))
      refine (mof_any _ _ _ f _ _ _ _ (by omega) (HS.out.of (by (repeat (first | exact Kept.refl _ | assumption | refine Kept.alloc ?_ _ | refine Kept.ext ?_ _ | refine Kept.drew ?_ | refine Kept.drewN ?_ _))))).mono ?_
      rintro r w1 ⟨rfl, x1, rfl⟩
      go_wp2_with (first | (go_at_call 18; refine (r4plus_any _ _ _ _ _ _ _ (by omega)).mono ?_; rintro e w1 ⟨rfl, x, rfl⟩))
      refine (mof_any _ _ _ f _ _ _ _ (by omega) (HS.out.of (by (repeat (first | exact Kept.refl _ | assumption | refine Kept.alloc ?_ _ | refine Kept.ext ?_ _ | refine Kept.drew ?_ | refine Kept.drewN ?_ _))))).mono ?_
      rintro r w1 ⟨rfl, x2, rfl⟩
      go_wp2_with (first | (go_at_call 13; refine (mshift_any _ _ _ _ _ _ _ _ _ _ _ _ _ _ _).mono ?_; rintro e w1 ⟨rfl, x, rfl⟩) | (go_at_call 15; refine (sane_any _).mono ?_; rintro e w1 ⟨rfl, x, rfl⟩))
      go_ret
      exact ⟨rfl, by (repeat (first | exact Kept.refl _ | assumption | refine Kept.alloc ?_ _ | refine Kept.ext ?_ _ | refine Kept.drew ?_ | refine Kept.drewN ?_ _))⟩
    · have e1 := of_ok g1
      have e2 := of_bad g2
      clear g1 g2
      go_enter Try.func4, Try.ntmps4
      go_wp2_with (first | (go_at_call 16; refine (small_any _ _ _ _ _ (by omega)).mono ?_; rintro e w1 ⟨rfl, x, rfl⟩))
      refine (mof_any _ _ _ f _ _ _ _ (by omega) (HS.out.of (by (repeat (first | exact Kept.refl _ | assumption | refine Kept.alloc ?_ _ | refine Kept.ext ?_ _ | refine Kept.drew ?_ | refine Kept.drewN ?_ _))))).mono ?_
      rintro r w1 ⟨rfl, x1, rfl⟩
      go_wp2_with (first | (go_at_call 18; refine (r4plus_any _ _ _ _ _ _ _ (by omega)).mono ?_; rintro e w1 ⟨rfl, x, rfl⟩))
      refine (mof_any _ _ _ f _ _ _ _ (by omega) (HS.out.of (by (repeat (first | exact Kept.refl _ | assumption | refine Kept.alloc ?_ _ | refine Kept.ext ?_ _ | refine Kept.drew ?_ | refine Kept.drewN ?_ _))))).mono ?_
      rintro r w1 ⟨rfl, x2, rfl⟩
      go_wp2_with (first | (go_at_call 15; refine (sane_any _).mono ?_; rintro e w1 ⟨rfl, x, rfl⟩))
      go_ret
      exact ⟨rfl, by (repeat (first | exact Kept.refl _ | assumption | refine Kept.alloc ?_ _ | refine Kept.ext ?_ _ | refine Kept.drew ?_ | refine Kept.drewN ?_ _))⟩
  · have e1 := of_bad g1
    clear g1
    go_enter Try.func4, Try.ntmps4
    go_wp2_with (first | (go_at_call 16; refine (small_any _ _ _ _ _ (by omega)).mono ?_; rintro e w1 ⟨rfl, x, rfl⟩))
    refine (mof_any _ _ _ f _ _ _ _ (by omega) (HS.out.of (by (repeat (first | exact Kept.refl _ | assumption | refine Kept.alloc ?_ _ | refine Kept.ext ?_ _ | refine Kept.drew ?_ | refine Kept.drewN ?_ _))))).mono ?_
    rintro r w1 ⟨rfl, x1, rfl⟩
    go_wp2_with (first | (go_at_call 18; refine (r4plus_any _ _ _ _ _ _ _ (by omega)).mono ?_; rintro e w1 ⟨rfl, x, rfl⟩))
    refine (mof_any _ _ _ f _ _ _ _ (by omega) (HS.out.of (by (repeat (first | exact Kept.refl _ | assumption | refine Kept.alloc ?_ _ | refine Kept.ext ?_ _ | refine Kept.drew ?_ | refine Kept.drewN ?_ _))))).mono ?_
    rintro r w1 ⟨rfl, x2, rfl⟩
    go_wp2_with (first | (go_at_call 15; refine (sane_any _).mono ?_; rintro e w1 ⟨rfl, x, rfl⟩))
    go_ret
    exact ⟨rfl, by (repeat (first | exact Kept.refl _ | assumption | refine Kept.alloc ?_ _ | refine Kept.ext ?_ _ | refine Kept.drew ?_ | refine Kept.drewN ?_ _))⟩
theorem ownMomentCenters : ownKnob Try.prog.godebug = none := by kernel_rfl
theorem laidOutMomentCenters : laidOutB Try.prog = true := by kernel_rfl
set_option linter.unusedVariables false in
set_option maxRecDepth 100000 in
theorem liftedMomentCenters (os : Os) (started : os.Started) (H : Type) (enc : TypeId × Value → H) :
    ReturnsInHanded {} Try.checked os 4 .any (Rows.momentCentersSpec.pre6 enc Try.prog Try.f4 Rows.momentCentersRow.domain false) (Rows.momentCentersSpec.post enc Try.prog Try.f4 false true false false) := by
  refine returnsInHanded_of_change (C := Try.checked) ownMomentCenters started (by kernel_rfl) Try.func4
    (ChangeSpec.witness6 (enc := enc) (C := Try.checked) false ⟨#[], #[.slice none 0 0, .agg #[.int .i64 0, .int .i64 0, .int .i64 0], .agg #[.int .i64 0, .int .i64 0, .int .i64 0]], []⟩ 8 (by kernel_rfl) (by kernel_rfl) (by kernel_rfl) (by kernel_rfl)) ?_
  intro W base args ds gs before hval0 hW hcnd _
  have hval : ∀ (j : Nat) t v, Try.f4.params[j]? = some t → args[j]? = some v → Value.okWide Try.prog W .any base t v := hval0
  have hW' := hW
  obtain ⟨p, q, hA0, hV, rfl, hfz, hnd⟩ := hW
  have hA : DataW.TrodAll enc Try.prog W 0 (fun _ => true) true Try.f4.params.toList args.toList ds p := hA0
  rw [Try.params4] at hA hval
  obtain ⟨v0, vs0, d0, ds0, p0, q0, hargs, rfl, rfl, h0, r0⟩ := trodAll_cons hA
  obtain ⟨v1, vs1, d1, ds1, p1, q1, rfl, rfl, rfl, h1, r1⟩ := trodAll_cons r0
  obtain ⟨v2, vs2, d2, ds2, p2, q2, rfl, rfl, rfl, h2, r2⟩ := trodAll_cons r1
  obtain ⟨rfl, rfl, rfl⟩ := trodAll_nil r2
  obtain rfl : args = #[v0, v1, v2] := by cases args; simp_all
  obtain ⟨rfl, rfl⟩ := trodVars_none hV
  have lt0 : ∀ x ∈ p0, x.block < W.heap.size := by obtain ⟨m, hm⟩ := h0; exact DataW.trod_lt m _ _ _ hm
  obtain ⟨A0, n0, cap0, f0, rfl, hl0, hm0, hr0⟩ := open_rows 10 Try.underlying32 (by kernel_rfl) (by decide) (by kernel_rfl) (hval 0 32 v0 rfl rfl) h0 lt0
  have lt1 : ∀ x ∈ p1, x.block < W.heap.size := by obtain ⟨m, hm⟩ := h1; exact DataW.trod_lt m _ _ _ hm
  obtain ⟨l1, rfl, e1, b1⟩ := open_agg_ints 3 (by kernel_rfl) (by kernel_rfl) (ts := [3, 3, 3]) (by kernel_rfl) (by intro u hu; simp at hu; subst hu; exact Try.underlying3) (hval 1 23 v1 rfl rfl)
  obtain ⟨z1_0, z1_1, z1_2, rfl⟩ := len3 e1
  simp only [List.map_cons, List.map_nil] at *
  simp only [List.mem_cons, List.not_mem_nil, or_false, forall_eq_or_imp, forall_eq] at b1
  have lt2 : ∀ x ∈ p2, x.block < W.heap.size := by obtain ⟨m, hm⟩ := h2; exact DataW.trod_lt m _ _ _ hm
  obtain ⟨l2, rfl, e2, b2⟩ := open_agg_ints 3 (by kernel_rfl) (by kernel_rfl) (ts := [3, 3, 3]) (by kernel_rfl) (by intro u hu; simp at hu; subst hu; exact Try.underlying3) (hval 2 23 v2 rfl rfl)
  obtain ⟨z2_0, z2_1, z2_2, rfl⟩ := len3 e2
  simp only [List.map_cons, List.map_nil] at *
  simp only [List.mem_cons, List.not_mem_nil, or_false, forall_eq_or_imp, forall_eq] at b2
  clear hA0 hval0
  refine (centers_law A0 n0 cap0 f0 z1_0 z1_1 z1_2 z2_0 z2_1 z2_2 W ⟨hl0, hm0, hr0⟩).mono fun e W' ⟨he, hk⟩ => ?_
  subst he
  have bel := hk.below
  exact ⟨_, rfl, _, _, _, [], _, [], hW', trodAll_mk1 (shut_bool Try.underlying4 _), (trodAll_cons_mk (Below.trod laidOutMomentCenters (by kernel_rfl) (of_decide_eq_true (by kernel_rfl)) h0 bel lt0) (trodAll_cons_mk (Below.trod laidOutMomentCenters (by kernel_rfl) (of_decide_eq_true (by kernel_rfl)) h1 bel lt1) (trodAll_cons_mk (Below.trod laidOutMomentCenters (by kernel_rfl) (of_decide_eq_true (by kernel_rfl)) h2 bel lt2) trodAll_mk0))), rfl, bel.frame _, fun h => by cases h⟩
/-- For every input the statement MomentCenters returns true, and each argument reads afterwards as it read before. -/
theorem momentCenters_holds : Rows.MomentCentersSaid :=
  OpenClaim.holds_of_wide 4 Try.f4 rfl rfl rfl rfl rfl rfl rfl ⟨rfl, rfl, rfl, rfl, rfl⟩ rfl rfl rfl rfl rfl (by kernel_rfl) Try.func4 (by kernel_rfl)
    (of_decide_eq_true (by kernel_rfl)) (by unfold Func.isWrapper; first | (rw [if_pos (by decide +kernel)]; kernel_rfl) | (rw [if_neg (by decide +kernel)]; exact ⟨rfl, rfl⟩))
    (fun os started H enc _ => liftedMomentCenters os started H enc)
#print axioms momentCenters_holds

end Go.Proofs.Ytiedpdlbjjjpeaa
