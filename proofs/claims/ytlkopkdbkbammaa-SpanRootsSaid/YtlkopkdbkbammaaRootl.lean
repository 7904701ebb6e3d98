/- For every input the statement SpanRoots returns true and leaves its arguments as they were. No conditions. -/
import Derived.Test.YtlkopkdbkbammaaRoot
import Derived.Test.YtlkopkdbkbammaaPlain
namespace Go.Proofs.Ytlkopkdbkbammaa
set_option linter.unusedVariables false
set_option linter.unusedSimpArgs false
open Go.ChangeShapes Go.WideShapes Go.ChangeAt Go.RowKit
theorem root_ok {al ah : Int} (h : (rootS al ah).e = 0) : rootS al ah = ⟨sqrtS (al * 1048576), rootUpS (ah * 1048576), 0⟩ ∧ validB al ah = true ∧ 0 ≤ al ∧ validB (sqrtS (al * 1048576)) (rootUpS (ah * 1048576)) = true := by
  unfold rootS at *
  split at h
  · rename_i k
    simp only [Bool.and_eq_true, decide_eq_true_eq] at k
    obtain ⟨e, v⟩ := result_ok h
    rw [if_pos (by simp [k]), e]
    exact ⟨rfl, k.1, k.2, v⟩
  · cases h
theorem rootUp_spec {n : Int} (h : 0 ≤ n) : 0 ≤ rootUpS n ∧ n ≤ rootUpS n * rootUpS n := by
  obtain ⟨s0, s1, s2⟩ := sqrtS_spec h
  unfold rootUpS
  split
  · exact ⟨by omega, by omega⟩
  · exact ⟨s0, by omega⟩
/-- The square of a root encloses what was there. -/
theorem root_encl {al ah : Int} (h : (rootS al ah).e = 0) :
    enclosesB (sqS (rootS al ah).lo (rootS al ah).hi).lo (sqS (rootS al ah).lo (rootS al ah).hi).hi (sqS (rootS al ah).lo (rootS al ah).hi).e al ah = true := by
  obtain ⟨e, v1, z, v2⟩ := root_ok h
  have b := valid_bd v1
  have b2 := valid_bd v2
  obtain ⟨s0, s1, s2⟩ := sqrtS_spec (show 0 ≤ al * 1048576 by omega)
  obtain ⟨t0, t1⟩ := rootUp_spec (show 0 ≤ ah * 1048576 by omega)
  rw [e]
  show enclosesB (sqS (sqrtS (al * 1048576)) (rootUpS (ah * 1048576))).lo (sqS (sqrtS (al * 1048576)) (rootUpS (ah * 1048576))).hi (sqS (sqrtS (al * 1048576)) (rootUpS (ah * 1048576))).e al ah = true
  generalize sqrtS (al * 1048576) = lo at *
  generalize rootUpS (ah * 1048576) = hi at *
  unfold sqS
  rw [if_pos v2, show nearS lo hi = lo by unfold nearS; omega, show farS lo hi = hi by unfold farS; omega]
  refine encl_result ?_ ?_
  · unfold fDown
    generalize lo * lo = p at *
    omega
  · unfold fUp
    generalize hi * hi = p at *
    omega
set_option maxRecDepth 100000 in
set_option maxHeartbeats 4000000 in
theorem roots_law (al ah : Int) (w : World) :
    Calls Try.prog 10 #[.agg #[.int .i64 al, .int .i64 ah]] w fun r w' => r = .returned (.bool true) ∧ Kept w w' := by
  by_cases h : (rootS al ah).e = 0
  · have he := Lib.hid (root_encl h)
    go_enter Try.func10, Try.ntmps10
    go_wp2_with (first | (go_at_call 46; refine (spanRoot_any _ _ _).mono ?_; rintro e w1 ⟨rfl, x, rfl⟩) | (go_at_call 47; refine (refRoot_any _ _ _).mono ?_; rintro e w1 ⟨rfl, x, rfl⟩) | (go_at_call 48; refine (sq_any _ _ _).mono ?_; rintro e w1 ⟨rfl, x, rfl⟩) | (go_at_call 21; refine (known_any _).mono ?_; rintro e w1 ⟨rfl, x, rfl⟩) | (go_at_call 38; refine (encloses_any _ _ _ _ _ _).mono ?_; rintro e w1 ⟨rfl, x, rfl⟩))
    have he2 := he.out
    clear he
    go_wp2_with (first | (go_at_call 46; refine (spanRoot_any _ _ _).mono ?_; rintro e w1 ⟨rfl, x, rfl⟩) | (go_at_call 47; refine (refRoot_any _ _ _).mono ?_; rintro e w1 ⟨rfl, x, rfl⟩) | (go_at_call 48; refine (sq_any _ _ _).mono ?_; rintro e w1 ⟨rfl, x, rfl⟩) | (go_at_call 21; refine (known_any _).mono ?_; rintro e w1 ⟨rfl, x, rfl⟩) | (go_at_call 38; refine (encloses_any _ _ _ _ _ _).mono ?_; rintro e w1 ⟨rfl, x, rfl⟩))
    go_ret
    refine ⟨rfl, ?_⟩
    (repeat (first | exact Kept.refl _ | assumption | refine Kept.alloc ?_ _ | refine Kept.ext ?_ _ | refine Kept.drew ?_ | refine Kept.drewN ?_ _))
  · have he : ((rootS al ah).e == 0) = false := by simpa using h
    have he' : ((rootS al ah).e != 0) = true := by simpa using h
    clear h
    go_enter Try.func10, Try.ntmps10
    go_wp2_with (first | (go_at_call 46; refine (spanRoot_any _ _ _).mono ?_; rintro e w1 ⟨rfl, x, rfl⟩) | (go_at_call 47; refine (refRoot_any _ _ _).mono ?_; rintro e w1 ⟨rfl, x, rfl⟩) | (go_at_call 48; refine (sq_any _ _ _).mono ?_; rintro e w1 ⟨rfl, x, rfl⟩) | (go_at_call 21; refine (known_any _).mono ?_; rintro e w1 ⟨rfl, x, rfl⟩) | (go_at_call 38; refine (encloses_any _ _ _ _ _ _).mono ?_; rintro e w1 ⟨rfl, x, rfl⟩))
    go_ret
    refine ⟨rfl, ?_⟩
    (repeat (first | exact Kept.refl _ | assumption | refine Kept.alloc ?_ _ | refine Kept.ext ?_ _ | refine Kept.drew ?_ | refine Kept.drewN ?_ _))
theorem ownSpanRoots : ownKnob Try.prog.godebug = none := by kernel_rfl
theorem laidOutSpanRoots : laidOutB Try.prog = true := by kernel_rfl
set_option linter.unusedVariables false in
set_option maxRecDepth 100000 in
theorem liftedSpanRoots (os : Os) (started : os.Started) (H : Type) (enc : TypeId × Value → H) :
    ReturnsInHanded {} Try.checked os 10 .any (Rows.spanRootsSpec.pre6 enc Try.prog Try.f10 Rows.spanRootsRow.domain false) (Rows.spanRootsSpec.post enc Try.prog Try.f10 false true false false) := by
  refine returnsInHanded_of_change (C := Try.checked) ownSpanRoots started (by kernel_rfl) Try.func10
    (ChangeSpec.witness6 (enc := enc) (C := Try.checked) false ⟨#[], #[.agg #[.int .i64 0, .int .i64 0]], []⟩ 8 (by kernel_rfl) (by kernel_rfl) (by kernel_rfl) (by kernel_rfl)) ?_
  intro W base args ds gs before hval0 hW hcnd _
  have hval : ∀ (j : Nat) t v, Try.f10.params[j]? = some t → args[j]? = some v → Value.okWide Try.prog W .any base t v := hval0
  have hW' := hW
  obtain ⟨p, q, hA0, hV, rfl, hfz, hnd⟩ := hW
  have hA : DataW.TrodAll enc Try.prog W 0 (fun _ => true) true Try.f10.params.toList args.toList ds p := hA0
  rw [Try.params10] at hA hval
  obtain ⟨v0, vs0, d0, ds0, p0, q0, hargs, rfl, rfl, h0, r0⟩ := trodAll_cons hA
  obtain ⟨rfl, rfl, rfl⟩ := trodAll_nil r0
  obtain rfl : args = #[v0] := by cases args; simp_all
  obtain ⟨rfl, rfl⟩ := trodVars_none hV
  have lt0 : ∀ x ∈ p0, x.block < W.heap.size := by obtain ⟨m, hm⟩ := h0; exact DataW.trod_lt m _ _ _ hm
  obtain ⟨l0, rfl, e0, b0⟩ := open_agg_ints 2 (by kernel_rfl) (by kernel_rfl) (ts := [3, 3]) (by kernel_rfl) (by intro u hu; simp at hu; subst hu; exact Try.underlying3) (hval 0 23 v0 rfl rfl)
  obtain ⟨z0_0, z0_1, rfl⟩ := len2 e0
  simp only [List.map_cons, List.map_nil] at *
  simp only [List.mem_cons, List.not_mem_nil, or_false, forall_eq_or_imp, forall_eq] at b0
  clear hA0 hval0
  refine (roots_law z0_0 z0_1 W).mono fun e W' ⟨he, hk⟩ => ?_
  subst he
  have bel := hk.below
  exact ⟨_, rfl, _, _, _, [], _, [], hW', trodAll_mk1 (shut_bool Try.underlying4 _), (trodAll_cons_mk (Below.trod laidOutSpanRoots (by kernel_rfl) (of_decide_eq_true (by kernel_rfl)) h0 bel lt0) trodAll_mk0), rfl, bel.frame _, fun h => by cases h⟩
/-- For every input the statement SpanRoots returns true, and each argument reads afterwards as it read before. -/
theorem spanRoots_holds : Rows.SpanRootsSaid :=
  OpenClaim.holds_of_wide 10 Try.f10 rfl rfl rfl rfl rfl rfl rfl ⟨rfl, rfl, rfl, rfl, rfl⟩ rfl rfl rfl rfl rfl (by kernel_rfl) Try.func10 (by kernel_rfl)
    (of_decide_eq_true (by kernel_rfl)) (by unfold Func.isWrapper; first | (rw [if_pos (by decide +kernel)]; kernel_rfl) | (rw [if_neg (by decide +kernel)]; exact ⟨rfl, rfl⟩))
    (fun os started H enc _ => liftedSpanRoots os started H enc)
#print axioms spanRoots_holds

end Go.Proofs.Ytlkopkdbkbammaa
