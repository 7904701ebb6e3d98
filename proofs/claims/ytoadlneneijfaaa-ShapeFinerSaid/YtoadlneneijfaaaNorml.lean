/- For every input the statement ShapeNormals returns true and leaves its argument as it was. No conditions. -/
import Derived.Test.YtoadlneneijfaaaGkn
namespace Go.Proofs.Ytoadlneneijfaaa
set_option linter.unusedVariables false
set_option linter.unusedSimpArgs false
open Go.ChangeShapes Go.WideShapes Go.ChangeAt Go.RowKit
def norX (p0 p1 p2 p3 p4 p5 p6 p7 p8 : Int) : Int := if vpanS p0 p1 p2 p3 p4 p5 p6 p7 p8 = 0 then nX p0 p1 p2 p3 p4 p5 p6 p7 p8 else 0
def norY (p0 p1 p2 p3 p4 p5 p6 p7 p8 : Int) : Int := if vpanS p0 p1 p2 p3 p4 p5 p6 p7 p8 = 0 then nY p0 p1 p2 p3 p4 p5 p6 p7 p8 else 0
def norZ (p0 p1 p2 p3 p4 p5 p6 p7 p8 : Int) : Int := if vpanS p0 p1 p2 p3 p4 p5 p6 p7 p8 = 0 then nZ p0 p1 p2 p3 p4 p5 p6 p7 p8 else 0
theorem vpan_0 {p0 p1 p2 p3 p4 p5 p6 p7 p8 : Int} (h : vpanS p0 p1 p2 p3 p4 p5 p6 p7 p8 = 0) : (-64 ≤ p0 ∧ p0 ≤ 64) ∧ (-64 ≤ p1 ∧ p1 ≤ 64) ∧ (-64 ≤ p2 ∧ p2 ≤ 64) ∧ (-64 ≤ p3 ∧ p3 ≤ 64) ∧ (-64 ≤ p4 ∧ p4 ≤ 64) ∧ (-64 ≤ p5 ∧ p5 ≤ 64) ∧ (-64 ≤ p6 ∧ p6 ≤ 64) ∧ (-64 ≤ p7 ∧ p7 ≤ 64) ∧ (-64 ≤ p8 ∧ p8 ≤ 64) := by
  unfold vpanS at h
  split at h
  · rename_i hc
    simp only [Bool.and_eq_true] at hc
    have b1 := inB_true hc.1.1
    have b2 := inB_true hc.1.2
    have b3 := inB_true hc.2
    omega
  · cases h
set_option maxHeartbeats 4000000 in
theorem snorm_any (p0 p1 p2 p3 p4 p5 p6 p7 p8 : Int) (w : World) :
    Calls Try.prog 20 #[.agg #[.int .i64 p0, .int .i64 p1, .int .i64 p2, .int .i64 p3, .int .i64 p4, .int .i64 p5, .int .i64 p6, .int .i64 p7, .int .i64 p8]] w fun e w' => e = .returned (.tuple #[.agg #[.int .i64 (norX p0 p1 p2 p3 p4 p5 p6 p7 p8), .int .i64 (norY p0 p1 p2 p3 p4 p5 p6 p7 p8), .int .i64 (norZ p0 p1 p2 p3 p4 p5 p6 p7 p8)], .int .i64 (vpanS p0 p1 p2 p3 p4 p5 p6 p7 p8)]) ∧ Kept w w' := by
  unfold norX norY norZ
  obtain ⟨e, he⟩ : ∃ e, vpanS p0 p1 p2 p3 p4 p5 p6 p7 p8 = e := ⟨_, rfl⟩
  by_cases hv : e = 0
  · subst hv
    have b := vpan_0 he
    rw [if_pos he, if_pos he, if_pos he, he]
    have HE := Lib.hid he
    clear he
    go_enter Try.func20, Try.ntmps20
    go_wp2_with (first | (go_at_call 22; refine (svpan_any _ _ _ _ _ _ _ _ _ _).mono ?_; rintro e w1 ⟨rfl, x, rfl⟩; rw [HE.out]) | (go_at_call 67; refine (snormal_any _ _ _ _ _ _ _ _ _ _ (by omega)).mono ?_; rintro e w1 ⟨rfl, x, rfl⟩))
    refine bodyPost_ret (by simp only [results, Try.results20]; go_simp; rfl) rfl ?_
    exact ⟨rfl, by (repeat (first | exact Kept.refl _ | assumption | refine Kept.alloc ?_ _ | refine Kept.ext ?_ _ | refine Kept.drew ?_ | refine Kept.drewN ?_ _))⟩
  · rw [if_neg (by omega), if_neg (by omega), if_neg (by omega), he]
    have HE := Lib.hid he
    clear he
    have hv2 : (e == 0) = false := by simpa using hv
    have hv3 : decide (e = 0) = false := by simpa using hv
    go_enter Try.func20, Try.ntmps20
    go_wp2_with (first | (go_at_call 22; refine (svpan_any _ _ _ _ _ _ _ _ _ _).mono ?_; rintro e w1 ⟨rfl, x, rfl⟩; rw [HE.out]) | fail)
    refine bodyPost_ret (by simp only [results, Try.results20]; go_simp; rfl) rfl ?_
    exact ⟨rfl, by (repeat (first | exact Kept.refl _ | assumption | refine Kept.alloc ?_ _ | refine Kept.ext ?_ _ | refine Kept.drew ?_ | refine Kept.drewN ?_ _))⟩
set_option maxHeartbeats 4000000 in
theorem r2norm_any (p0 p1 p2 p3 p4 p5 p6 p7 p8 : Int) (w : World) :
    Calls Try.prog 21 #[.agg #[.int .i64 p0, .int .i64 p1, .int .i64 p2, .int .i64 p3, .int .i64 p4, .int .i64 p5, .int .i64 p6, .int .i64 p7, .int .i64 p8]] w fun e w' => e = .returned (.tuple #[.agg #[.int .i64 (norX p0 p1 p2 p3 p4 p5 p6 p7 p8), .int .i64 (norY p0 p1 p2 p3 p4 p5 p6 p7 p8), .int .i64 (norZ p0 p1 p2 p3 p4 p5 p6 p7 p8)], .int .i64 (vpanS p0 p1 p2 p3 p4 p5 p6 p7 p8)]) ∧ Kept w w' := by
  unfold norX norY norZ
  obtain ⟨e, he⟩ : ∃ e, vpanS p0 p1 p2 p3 p4 p5 p6 p7 p8 = e := ⟨_, rfl⟩
  by_cases hv : e = 0
  · subst hv
    have b := vpan_0 he
    rw [if_pos he, if_pos he, if_pos he, he]
    have HE := Lib.hid he
    clear he
    go_enter Try.func21, Try.ntmps21
    go_wp2_with (first | (go_at_call 23; refine (r2vpan_any _ _ _ _ _ _ _ _ _ _).mono ?_; rintro e w1 ⟨rfl, x, rfl⟩; rw [HE.out]) | (go_at_call 68; refine (r2across_any _ _ _ _ _ _ _ _ _ _ (by omega)).mono ?_; rintro e w1 ⟨rfl, x, rfl⟩))
    refine bodyPost_ret (by simp only [results, Try.results21]; go_simp; rfl) rfl ?_
    exact ⟨rfl, by (repeat (first | exact Kept.refl _ | assumption | refine Kept.alloc ?_ _ | refine Kept.ext ?_ _ | refine Kept.drew ?_ | refine Kept.drewN ?_ _))⟩
  · rw [if_neg (by omega), if_neg (by omega), if_neg (by omega), he]
    have HE := Lib.hid he
    clear he
    have hv2 : (e == 0) = false := by simpa using hv
    have hv3 : decide (e = 0) = false := by simpa using hv
    go_enter Try.func21, Try.ntmps21
    go_wp2_with (first | (go_at_call 23; refine (r2vpan_any _ _ _ _ _ _ _ _ _ _).mono ?_; rintro e w1 ⟨rfl, x, rfl⟩; rw [HE.out]) | fail)
    refine bodyPost_ret (by simp only [results, Try.results21]; go_simp; rfl) rfl ?_
    exact ⟨rfl, by (repeat (first | exact Kept.refl _ | assumption | refine Kept.alloc ?_ _ | refine Kept.ext ?_ _ | refine Kept.drew ?_ | refine Kept.drewN ?_ _))⟩
theorem r2times_any (a0 a1 a2 k : Int) (w : World) (h : (-1099511627776 ≤ k * a0 ∧ k * a0 ≤ 1099511627776) ∧ (-1099511627776 ≤ k * a1 ∧ k * a1 ≤ 1099511627776) ∧ (-1099511627776 ≤ k * a2 ∧ k * a2 ≤ 1099511627776)) :
    Calls Try.prog 24 #[.agg #[.int .i64 a0, .int .i64 a1, .int .i64 a2], .int .i64 k] w fun e w' => e = .returned (.agg #[.int .i64 (k * a0), .int .i64 (k * a1), .int .i64 (k * a2)]) ∧ Kept w w' := by
  obtain ⟨⟨h0, h1⟩, ⟨h2, h3⟩, h4, h5⟩ := h
  go_enter Try.func24, Try.ntmps24
  go_wp2
  refine bodyPost_ret (by simp only [results, Try.results24]; go_simp; rfl) rfl ?_
  exact ⟨rfl, by (repeat (first | exact Kept.refl _ | assumption | refine Kept.alloc ?_ _ | refine Kept.ext ?_ _ | refine Kept.drew ?_ | refine Kept.drewN ?_ _))⟩
/-- Exchanged corners: the opposite normal. -/
theorem nX_swap (p0 p1 p2 p3 p4 p5 p6 p7 p8 : Int) : nX p0 p1 p2 p6 p7 p8 p3 p4 p5 = -1 * nX p0 p1 p2 p3 p4 p5 p6 p7 p8 := by unfold nX; grind
theorem nY_swap (p0 p1 p2 p3 p4 p5 p6 p7 p8 : Int) : nY p0 p1 p2 p6 p7 p8 p3 p4 p5 = -1 * nY p0 p1 p2 p3 p4 p5 p6 p7 p8 := by unfold nY; grind
theorem nZ_swap (p0 p1 p2 p3 p4 p5 p6 p7 p8 : Int) : nZ p0 p1 p2 p6 p7 p8 p3 p4 p5 = -1 * nZ p0 p1 p2 p3 p4 p5 p6 p7 p8 := by unfold nZ; grind
theorem vpan_swap (p0 p1 p2 p3 p4 p5 p6 p7 p8 : Int) : vpanS p0 p1 p2 p6 p7 p8 p3 p4 p5 = vpanS p0 p1 p2 p3 p4 p5 p6 p7 p8 := by
  unfold vpanS
  rw [nX_swap, nY_swap, nZ_swap]
  have e : (inB p0 p1 p2 64 && inB p6 p7 p8 64 && inB p3 p4 p5 64) = (inB p0 p1 p2 64 && inB p3 p4 p5 64 && inB p6 p7 p8 64) := by
    cases inB p0 p1 p2 64 <;> cases inB p3 p4 p5 64 <;> cases inB p6 p7 p8 64 <;> rfl
  rw [e]
  have e2 : (-1 * nX p0 p1 p2 p3 p4 p5 p6 p7 p8 = 0 ∧ -1 * nY p0 p1 p2 p3 p4 p5 p6 p7 p8 = 0 ∧ -1 * nZ p0 p1 p2 p3 p4 p5 p6 p7 p8 = 0) ↔ (nX p0 p1 p2 p3 p4 p5 p6 p7 p8 = 0 ∧ nY p0 p1 p2 p3 p4 p5 p6 p7 p8 = 0 ∧ nZ p0 p1 p2 p3 p4 p5 p6 p7 p8 = 0) := by omega
  simp only [e2]
theorem norX_swap (p0 p1 p2 p3 p4 p5 p6 p7 p8 : Int) : norX p0 p1 p2 p6 p7 p8 p3 p4 p5 = -1 * norX p0 p1 p2 p3 p4 p5 p6 p7 p8 := by unfold norX; rw [vpan_swap, nX_swap]; split <;> omega
theorem norY_swap (p0 p1 p2 p3 p4 p5 p6 p7 p8 : Int) : norY p0 p1 p2 p6 p7 p8 p3 p4 p5 = -1 * norY p0 p1 p2 p3 p4 p5 p6 p7 p8 := by unfold norY; rw [vpan_swap, nY_swap]; split <;> omega
theorem norZ_swap (p0 p1 p2 p3 p4 p5 p6 p7 p8 : Int) : norZ p0 p1 p2 p6 p7 p8 p3 p4 p5 = -1 * norZ p0 p1 p2 p3 p4 p5 p6 p7 p8 := by unfold norZ; rw [vpan_swap, nZ_swap]; split <;> omega
theorem diff_bd {a b c d e f g h : Int} (h1 : (-64 ≤ a ∧ a ≤ 64) ∧ (-64 ≤ b ∧ b ≤ 64) ∧ (-64 ≤ c ∧ c ≤ 64) ∧ (-64 ≤ d ∧ d ≤ 64) ∧ (-64 ≤ e ∧ e ≤ 64) ∧ (-64 ≤ f ∧ f ≤ 64) ∧ (-64 ≤ g ∧ g ≤ 64) ∧ (-64 ≤ h ∧ h ≤ 64)) :
    -32768 ≤ (a - b) * (c - d) - (e - f) * (g - h) ∧ (a - b) * (c - d) - (e - f) * (g - h) ≤ 32768 := by
  have k1 := mul_sq 128 16384 (show -128 ≤ a - b ∧ a - b ≤ 128 by omega) (show -128 ≤ c - d ∧ c - d ≤ 128 by omega) rfl
  have k2 := mul_sq 128 16384 (show -128 ≤ e - f ∧ e - f ≤ 128 by omega) (show -128 ≤ g - h ∧ g - h ≤ 128 by omega) rfl
  omega
theorem nor_bd (p0 p1 p2 p3 p4 p5 p6 p7 p8 : Int) : (-32768 ≤ norX p0 p1 p2 p3 p4 p5 p6 p7 p8 ∧ norX p0 p1 p2 p3 p4 p5 p6 p7 p8 ≤ 32768) ∧ (-32768 ≤ norY p0 p1 p2 p3 p4 p5 p6 p7 p8 ∧ norY p0 p1 p2 p3 p4 p5 p6 p7 p8 ≤ 32768) ∧ (-32768 ≤ norZ p0 p1 p2 p3 p4 p5 p6 p7 p8 ∧ norZ p0 p1 p2 p3 p4 p5 p6 p7 p8 ≤ 32768) := by
  unfold norX norY norZ
  by_cases h : vpanS p0 p1 p2 p3 p4 p5 p6 p7 p8 = 0
  · have b := vpan_0 h
    rw [if_pos h, if_pos h, if_pos h]
    unfold nX nY nZ
    exact ⟨diff_bd (by omega), diff_bd (by omega), diff_bd (by omega)⟩
  · rw [if_neg h, if_neg h, if_neg h]
    omega
set_option maxRecDepth 100000 in
set_option maxHeartbeats 4000000 in
theorem normals_law (p0 p1 p2 p3 p4 p5 p6 p7 p8 : Int) (w : World) :
    Calls Try.prog 4 #[.agg #[.int .i64 p0, .int .i64 p1, .int .i64 p2, .int .i64 p3, .int .i64 p4, .int .i64 p5, .int .i64 p6, .int .i64 p7, .int .i64 p8]] w fun r w' => r = .returned (.bool true) ∧ Kept w w' := by
  have sx := norX_swap p0 p1 p2 p3 p4 p5 p6 p7 p8
  have sy := norY_swap p0 p1 p2 p3 p4 p5 p6 p7 p8
  have sz := norZ_swap p0 p1 p2 p3 p4 p5 p6 p7 p8
  have sv := vpan_swap p0 p1 p2 p3 p4 p5 p6 p7 p8
  have nb := nor_bd p0 p1 p2 p3 p4 p5 p6 p7 p8
  have HS := Lib.hid (And.intro sx (And.intro sy (And.intro sz sv)))
  clear sx sy sz sv
  obtain ⟨nx, ex⟩ : ∃ x, norX p0 p1 p2 p3 p4 p5 p6 p7 p8 = x := ⟨_, rfl⟩
  obtain ⟨ny, ey⟩ : ∃ x, norY p0 p1 p2 p3 p4 p5 p6 p7 p8 = x := ⟨_, rfl⟩
  obtain ⟨nz, ez⟩ : ∃ x, norZ p0 p1 p2 p3 p4 p5 p6 p7 p8 = x := ⟨_, rfl⟩
  obtain ⟨ev, ee⟩ : ∃ x, vpanS p0 p1 p2 p3 p4 p5 p6 p7 p8 = x := ⟨_, rfl⟩
  rw [ex, ey, ez, ee] at HS
  rw [ex, ey, ez] at nb
  have HE := Lib.hid (And.intro ex (And.intro ey (And.intro ez ee)))
  clear ex ey ez ee
  go_enter Try.func4, Try.ntmps4
  go_wp2_with fail
  refine (snorm_any _ _ _ _ _ _ _ _ _ _).mono ?_
  rintro r w1 ⟨rfl, x0, rfl⟩
  rw [HE.out.1, HE.out.2.1, HE.out.2.2.1, HE.out.2.2.2]
  go_wp2_with fail
  refine (r2norm_any _ _ _ _ _ _ _ _ _ _).mono ?_
  rintro r w1 ⟨rfl, x1, rfl⟩
  rw [HE.out.1, HE.out.2.1, HE.out.2.2.1, HE.out.2.2.2]
  go_wp2_with fail
  ((first | (with_reducible refine wp_region_kept2 (by kernel_rfl) (by kernel_rfl) ?_) | refine wp_region_kept (by kernel_rfl) (by kernel_rfl) ?_); (repeat (go_big_quiet_step (first | (go_at_call 22; exact Calls.kept_of (svpan_any _ _ _ _ _ _ _ _ _ _)) | (go_at_call 23; exact Calls.kept_of (r2vpan_any _ _ _ _ _ _ _ _ _ _))))); refine wpQuiet_nil ?_; intro x)
  go_wp2_with fail
  refine (snorm_any _ _ _ _ _ _ _ _ _ _).mono ?_
  rintro r w1 ⟨rfl, x2, rfl⟩
  rw [HS.out.1, HS.out.2.1, HS.out.2.2.1, HS.out.2.2.2]
  have m0 : -1 * nx = -nx := by omega
  have m1 : -1 * ny = -ny := by omega
  have m2 : -1 * nz = -nz := by omega
  go_wp2_with fail
  ((first | (with_reducible refine wp_region_tail2 12 (by kernel_rfl) (by kernel_rfl) ?_) | refine wp_region_tail 12 (by kernel_rfl) (by kernel_rfl) ?_); simp only [List.take_succ_cons, List.take_zero, List.drop_succ_cons, List.drop_zero]; (repeat (go_big_quiet_step (first | (go_at_call 24; exact Calls.kept_of (r2times_any _ _ _ _ _ (by omega))) | (go_at_call 19; exact Calls.kept_of (s2known_any _))))); refine wpQuiet_nil ?_; intro x)
  go_wp2_with fail
  go_ret
  exact ⟨rfl, by (repeat (first | exact Kept.refl _ | assumption | refine Kept.alloc ?_ _ | refine Kept.ext ?_ _ | refine Kept.drew ?_ | refine Kept.drewN ?_ _))⟩

theorem ownShapeNormals : ownKnob Try.prog.godebug = none := by kernel_rfl
theorem laidOutShapeNormals : laidOutB Try.prog = true := by kernel_rfl
set_option linter.unusedVariables false in
set_option maxRecDepth 100000 in
theorem liftedShapeNormals (os : Os) (started : os.Started) (H : Type) (enc : TypeId × Value → H) :
    ReturnsInHanded {} Try.checked os 4 .any (Rows.shapeNormalsSpec.pre6 enc Try.prog Try.f4 Rows.shapeNormalsRow.domain false) (Rows.shapeNormalsSpec.post enc Try.prog Try.f4 false true false false) := by
  refine returnsInHanded_of_change (C := Try.checked) ownShapeNormals started (by kernel_rfl) Try.func4
    (ChangeSpec.witness6 (enc := enc) (C := Try.checked) false ⟨#[], #[.agg #[.int .i64 0, .int .i64 0, .int .i64 0, .int .i64 0, .int .i64 0, .int .i64 0, .int .i64 0, .int .i64 0, .int .i64 0]], []⟩ 8 (by kernel_rfl) (by kernel_rfl) (by kernel_rfl) (by kernel_rfl)) ?_
  intro W base args ds gs before hval0 hW hcnd _
  have hval : ∀ (j : Nat) t v, Try.f4.params[j]? = some t → args[j]? = some v → Value.okWide Try.prog W .any base t v := hval0
  have hW' := hW
  obtain ⟨p, q, hA0, hV, rfl, hfz, hnd⟩ := hW
  have hA : DataW.TrodAll enc Try.prog W 0 (fun _ => true) true Try.f4.params.toList args.toList ds p := hA0
  rw [Try.params4] at hA hval
  obtain ⟨v0, vs0, d0, ds0, p0, q0, hargs, rfl, rfl, h0, r0⟩ := trodAll_cons hA
  obtain ⟨rfl, rfl, rfl⟩ := trodAll_nil r0
  obtain rfl : args = #[v0] := by cases args; simp_all
  obtain ⟨rfl, rfl⟩ := trodVars_none hV
  have lt0 : ∀ x ∈ p0, x.block < W.heap.size := by obtain ⟨m, hm⟩ := h0; exact DataW.trod_lt m _ _ _ hm
  obtain ⟨l0, rfl, e0, b0⟩ := open_agg_ints 9 (by kernel_rfl) (by kernel_rfl) (ts := [3, 3, 3, 3, 3, 3, 3, 3, 3]) (by kernel_rfl) (by intro u hu; simp at hu; subst hu; exact Try.underlying3) (hval 0 36 v0 rfl rfl)
  obtain ⟨z0_0, z0_1, z0_2, z0_3, z0_4, z0_5, z0_6, z0_7, z0_8, rfl⟩ := len9 e0
  simp only [List.map_cons, List.map_nil] at *
  simp only [List.mem_cons, List.not_mem_nil, or_false, forall_eq_or_imp, forall_eq] at b0
  clear hA0 hval0
  refine (normals_law z0_0 z0_1 z0_2 z0_3 z0_4 z0_5 z0_6 z0_7 z0_8 W).mono fun e W' ⟨he, hk⟩ => ?_
  subst he
  have bel := hk.below
  exact ⟨_, rfl, _, _, _, [], _, [], hW', trodAll_mk1 (shut_bool Try.underlying4 _), (trodAll_cons_mk (Below.trod laidOutShapeNormals (by kernel_rfl) (of_decide_eq_true (by kernel_rfl)) h0 bel lt0) trodAll_mk0), rfl, bel.frame _, fun h => by cases h⟩
/-- For every input the statement ShapeNormals returns true, and each argument reads afterwards as it read before. -/
theorem shapeNormals_holds : Rows.ShapeNormalsSaid :=
  OpenClaim.holds_of_wide 4 Try.f4 rfl rfl rfl rfl rfl rfl rfl ⟨rfl, rfl, rfl, rfl, rfl⟩ rfl rfl rfl rfl rfl (by kernel_rfl) Try.func4 (by kernel_rfl)
    (of_decide_eq_true (by kernel_rfl)) (by unfold Func.isWrapper; first | (rw [if_pos (by decide +kernel)]; kernel_rfl) | (rw [if_neg (by decide +kernel)]; exact ⟨rfl, rfl⟩))
    (fun os started H enc _ => liftedShapeNormals os started H enc)
#print axioms shapeNormals_holds

end Go.Proofs.Ytoadlneneijfaaa
