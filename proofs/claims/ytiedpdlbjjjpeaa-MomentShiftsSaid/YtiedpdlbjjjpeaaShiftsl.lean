/- For every input the statement MomentShifts returns true and leaves its arguments as they were. No conditions. -/
import Derived.Test.YtiedpdlbjjjpeaaSane
import Derived.Test.YtiedpdlbjjjpeaaMshr
namespace Go.Proofs.Ytiedpdlbjjjpeaa
set_option linter.unusedVariables false
set_option linter.unusedSimpArgs false
open Go.ChangeShapes Go.WideShapes Go.ChangeAt Go.RowKit
theorem told_ok {m : Mo} (h : (toldM m).e = 0) : toldM m = ⟨m, 0⟩ ∧ okM m = true := by
  unfold toldM at *
  split at h
  · rename_i k; rw [if_pos k]; exact ⟨rfl, k⟩
  · cases h
theorem shift_ok {m : Mo} {u v w : Int} (h : (shiftM m u v w).e = 0) : shiftM m u v w = ⟨movM m u v w, 0⟩ ∧ okM m = true ∧ inB u v w 128 = true ∧ okM (movM m u v w) = true := by
  unfold shiftM at *
  split at h
  · rename_i k
    rw [if_pos k]
    simp only [Bool.and_eq_true] at k
    obtain ⟨e, o⟩ := told_ok h
    exact ⟨e, k.1, k.2, o⟩
  · cases h
theorem mov_back (m : Mo) (u v w : Int) : movM (movM m u v w) (-u) (-v) (-w) = m := by
  unfold movM
  obtain ⟨q, t, x, y, z, a, b, c, d, e, f⟩ := m
  simp only [Mo.mk.injEq, true_and]
  refine ⟨?_, ?_, ?_, ?_, ?_, ?_, ?_, ?_, ?_⟩ <;> grind
theorem shift_back {m : Mo} {u v w : Int} (h : (shiftM m u v w).e = 0) : shiftM (shiftM m u v w).m (-u) (-v) (-w) = ⟨m, 0⟩ := by
  obtain ⟨e, o1, b, o2⟩ := shift_ok h
  rw [e]
  show shiftM (movM m u v w) (-u) (-v) (-w) = _
  have b1 := inB_true b
  unfold shiftM
  rw [if_pos (by rw [o2, inB_mk (by omega)]; rfl), mov_back]
  unfold toldM
  rw [if_pos o1]
set_option maxRecDepth 100000 in
set_option maxHeartbeats 8000000 in
theorem shifts_law (m0 m1 m2 m3 m4 m5 m6 m7 m8 m9 m10 u0 u1 u2 : Int) (w : World) :
    Calls Try.prog 3 #[.agg #[.int .i64 m0, .int .i64 m1, .int .i64 m2, .int .i64 m3, .int .i64 m4, .int .i64 m5, .int .i64 m6, .int .i64 m7, .int .i64 m8, .int .i64 m9, .int .i64 m10], .agg #[.int .i64 u0, .int .i64 u1, .int .i64 u2]] w fun r w' => r = .returned (.bool true) ∧ Kept w w' := by
  by_cases h : (shiftM ⟨m0, m1, m2, m3, m4, m5, m6, m7, m8, m9, m10⟩ u0 u1 u2).e = 0
  · have e : shiftM ⟨(shiftM ⟨m0, m1, m2, m3, m4, m5, m6, m7, m8, m9, m10⟩ u0 u1 u2).m.q, (shiftM ⟨m0, m1, m2, m3, m4, m5, m6, m7, m8, m9, m10⟩ u0 u1 u2).m.t, (shiftM ⟨m0, m1, m2, m3, m4, m5, m6, m7, m8, m9, m10⟩ u0 u1 u2).m.x, (shiftM ⟨m0, m1, m2, m3, m4, m5, m6, m7, m8, m9, m10⟩ u0 u1 u2).m.y, (shiftM ⟨m0, m1, m2, m3, m4, m5, m6, m7, m8, m9, m10⟩ u0 u1 u2).m.z, (shiftM ⟨m0, m1, m2, m3, m4, m5, m6, m7, m8, m9, m10⟩ u0 u1 u2).m.a, (shiftM ⟨m0, m1, m2, m3, m4, m5, m6, m7, m8, m9, m10⟩ u0 u1 u2).m.b, (shiftM ⟨m0, m1, m2, m3, m4, m5, m6, m7, m8, m9, m10⟩ u0 u1 u2).m.c, (shiftM ⟨m0, m1, m2, m3, m4, m5, m6, m7, m8, m9, m10⟩ u0 u1 u2).m.d, (shiftM ⟨m0, m1, m2, m3, m4, m5, m6, m7, m8, m9, m10⟩ u0 u1 u2).m.e, (shiftM ⟨m0, m1, m2, m3, m4, m5, m6, m7, m8, m9, m10⟩ u0 u1 u2).m.f⟩ (-u0) (-u1) (-u2) = ⟨⟨m0, m1, m2, m3, m4, m5, m6, m7, m8, m9, m10⟩, 0⟩ := shift_back h
    have g1 : ((shiftM ⟨m0, m1, m2, m3, m4, m5, m6, m7, m8, m9, m10⟩ u0 u1 u2).e != 0) = false := by simpa using h
    obtain ⟨-, -, b, -⟩ := shift_ok h
    have b1 := inB_true b
    clear h b
    go_enter Try.func3, Try.ntmps3
    go_wp2_with (first | (go_at_call 13; refine (mshift_any _ _ _ _ _ _ _ _ _ _ _ _ _ _ _).mono ?_; rintro e w1 ⟨rfl, x, rfl⟩) | (go_at_call 14; refine (r4shift_any _ _ _ _ _ _ _ _ _ _ _ _ _ _ _).mono ?_; rintro e w1 ⟨rfl, x, rfl⟩) | (go_at_call 15; refine (sane_any _).mono ?_; rintro e w1 ⟨rfl, x, rfl⟩))
    go_ret
    exact ⟨rfl, by (repeat (first | exact Kept.refl _ | assumption | refine Kept.alloc ?_ _ | refine Kept.ext ?_ _ | refine Kept.drew ?_ | refine Kept.drewN ?_ _))⟩
  · have g1 : ((shiftM ⟨m0, m1, m2, m3, m4, m5, m6, m7, m8, m9, m10⟩ u0 u1 u2).e != 0) = true := by simpa using h
    clear h
    go_enter Try.func3, Try.ntmps3
    go_wp2_with (first | (go_at_call 13; refine (mshift_any _ _ _ _ _ _ _ _ _ _ _ _ _ _ _).mono ?_; rintro e w1 ⟨rfl, x, rfl⟩) | (go_at_call 14; refine (r4shift_any _ _ _ _ _ _ _ _ _ _ _ _ _ _ _).mono ?_; rintro e w1 ⟨rfl, x, rfl⟩) | (go_at_call 15; refine (sane_any _).mono ?_; rintro e w1 ⟨rfl, x, rfl⟩))
    go_ret
    exact ⟨rfl, by (repeat (first | exact Kept.refl _ | assumption | refine Kept.alloc ?_ _ | refine Kept.ext ?_ _ | refine Kept.drew ?_ | refine Kept.drewN ?_ _))⟩
theorem ownMomentShifts : ownKnob Try.prog.godebug = none := by kernel_rfl
theorem laidOutMomentShifts : laidOutB Try.prog = true := by kernel_rfl
set_option linter.unusedVariables false in
set_option maxRecDepth 100000 in
theorem liftedMomentShifts (os : Os) (started : os.Started) (H : Type) (enc : TypeId × Value → H) :
    ReturnsInHanded {} Try.checked os 3 .any (Rows.momentShiftsSpec.pre6 enc Try.prog Try.f3 Rows.momentShiftsRow.domain false) (Rows.momentShiftsSpec.post enc Try.prog Try.f3 false true false false) := by
  refine returnsInHanded_of_change (C := Try.checked) ownMomentShifts started (by kernel_rfl) Try.func3
    (ChangeSpec.witness6 (enc := enc) (C := Try.checked) false ⟨#[], #[.agg #[.int .i64 0, .int .i64 0, .int .i64 0, .int .i64 0, .int .i64 0, .int .i64 0, .int .i64 0, .int .i64 0, .int .i64 0, .int .i64 0, .int .i64 0], .agg #[.int .i64 0, .int .i64 0, .int .i64 0]], []⟩ 8 (by kernel_rfl) (by kernel_rfl) (by kernel_rfl) (by kernel_rfl)) ?_
  intro W base args ds gs before hval0 hW hcnd _
  have hval : ∀ (j : Nat) t v, Try.f3.params[j]? = some t → args[j]? = some v → Value.okWide Try.prog W .any base t v := hval0
  have hW' := hW
  obtain ⟨p, q, hA0, hV, rfl, hfz, hnd⟩ := hW
  have hA : DataW.TrodAll enc Try.prog W 0 (fun _ => true) true Try.f3.params.toList args.toList ds p := hA0
  rw [Try.params3] at hA hval
  obtain ⟨v0, vs0, d0, ds0, p0, q0, hargs, rfl, rfl, h0, r0⟩ := trodAll_cons hA
  obtain ⟨v1, vs1, d1, ds1, p1, q1, rfl, rfl, rfl, h1, r1⟩ := trodAll_cons r0
  obtain ⟨rfl, rfl, rfl⟩ := trodAll_nil r1
  obtain rfl : args = #[v0, v1] := by cases args; simp_all
  obtain ⟨rfl, rfl⟩ := trodVars_none hV
  have lt0 : ∀ x ∈ p0, x.block < W.heap.size := by obtain ⟨m, hm⟩ := h0; exact DataW.trod_lt m _ _ _ hm
  obtain ⟨l0, rfl, e0, b0⟩ := open_agg_ints 11 (by kernel_rfl) (by kernel_rfl) (ts := [3, 3, 3, 3, 3, 3, 3, 3, 3, 3, 3]) (by kernel_rfl) (by intro u hu; simp at hu; subst hu; exact Try.underlying3) (hval 0 26 v0 rfl rfl)
  obtain ⟨z0_0, z0_1, z0_2, z0_3, z0_4, z0_5, z0_6, z0_7, z0_8, z0_9, z0_10, rfl⟩ := len11 e0
  simp only [List.map_cons, List.map_nil] at *
  simp only [List.mem_cons, List.not_mem_nil, or_false, forall_eq_or_imp, forall_eq] at b0
  have lt1 : ∀ x ∈ p1, x.block < W.heap.size := by obtain ⟨m, hm⟩ := h1; exact DataW.trod_lt m _ _ _ hm
  obtain ⟨l1, rfl, e1, b1⟩ := open_agg_ints 3 (by kernel_rfl) (by kernel_rfl) (ts := [3, 3, 3]) (by kernel_rfl) (by intro u hu; simp at hu; subst hu; exact Try.underlying3) (hval 1 23 v1 rfl rfl)
  obtain ⟨z1_0, z1_1, z1_2, rfl⟩ := len3 e1
  simp only [List.map_cons, List.map_nil] at *
  simp only [List.mem_cons, List.not_mem_nil, or_false, forall_eq_or_imp, forall_eq] at b1
  clear hA0 hval0
  refine (shifts_law z0_0 z0_1 z0_2 z0_3 z0_4 z0_5 z0_6 z0_7 z0_8 z0_9 z0_10 z1_0 z1_1 z1_2 W).mono fun e W' ⟨he, hk⟩ => ?_
  subst he
  have bel := hk.below
  exact ⟨_, rfl, _, _, _, [], _, [], hW', trodAll_mk1 (shut_bool Try.underlying4 _), (trodAll_cons_mk (Below.trod laidOutMomentShifts (by kernel_rfl) (of_decide_eq_true (by kernel_rfl)) h0 bel lt0) (trodAll_cons_mk (Below.trod laidOutMomentShifts (by kernel_rfl) (of_decide_eq_true (by kernel_rfl)) h1 bel lt1) trodAll_mk0)), rfl, bel.frame _, fun h => by cases h⟩
/-- For every input the statement MomentShifts returns true, and each argument reads afterwards as it read before. -/
theorem momentShifts_holds : Rows.MomentShiftsSaid :=
  OpenClaim.holds_of_wide 3 Try.f3 rfl rfl rfl rfl rfl rfl rfl ⟨rfl, rfl, rfl, rfl, rfl⟩ rfl rfl rfl rfl rfl (by kernel_rfl) Try.func3 (by kernel_rfl)
    (of_decide_eq_true (by kernel_rfl)) (by unfold Func.isWrapper; first | (rw [if_pos (by decide +kernel)]; kernel_rfl) | (rw [if_neg (by decide +kernel)]; exact ⟨rfl, rfl⟩))
    (fun os started H enc _ => liftedMomentShifts os started H enc)
#print axioms momentShifts_holds

end Go.Proofs.Ytiedpdlbjjjpeaa
