/- For every input the statement ShapeFiner returns true and leaves its argument as it was. No conditions. -/
import Derived.Test.YtoadlneneijfaaaFnr
import Derived.Test.YtoadlneneijfaaaGsm
import Derived.Test.YtoadlneneijfaaaGkn
import Derived.Test.YtoadlneneijfaaaOpm
namespace Go.Proofs.Ytoadlneneijfaaa
set_option linter.unusedVariables false
set_option linter.unusedSimpArgs false
open Go.ChangeShapes Go.WideShapes Go.ChangeAt Go.RowKit
theorem rowsU {w : World} {base n cap : Nat} {t : TypeId} {A : Option Addr} {f : Nat → Nat → Int} {e : Int} (h : w.ownsRow base t 3 (.slice A (okN e n) cap) (okN e n) (rowC 3 f (okN e n))) (hI : e = 0 → ∀ k, k < n → ∀ j, j < 3 → I64 (f k j)) : RowsAt w A (okN e n) 3 f := by
  refine rows_of_owns h fun k hk j hj => ?_
  by_cases he : e = 0
  · rw [show okN e n = n from if_pos he] at hk
    exact hI he k hk j hj
  · rw [show okN e n = 0 from if_neg he] at hk
    omega
theorem numV_0 {n m : Nat} {P F : Nat → Nat → Int} (h : validE n P m F = 0) (p : Nat) : numV n P m F p = p := if_pos h
theorem volV_0 {n m : Nat} {P F : Nat → Nat → Int} (h : validE n P m F = 0) : volV n P m F = vol P F m := if_pos h
theorem corn_0 {n m : Nat} {P F : Nat → Nat → Int} (h : validE n P m F = 0) : ∀ i, i < m → cornB n F i = true := fun i hi => by
  have c := clo_of h
  have h0 := c.inn i hi 0 (by omega)
  have h1 := c.inn i hi 1 (by omega)
  have h2 := c.inn i hi 2 (by omega)
  unfold cornB
  simp [h0, h1, h2]
theorem top_bd {n m p d : Nat} {P F : Nat → Nat → Int} (h : validE n P m F = 0) (t : Top n P m F p d) : p ≤ 96 ∧ d ≤ 200 := by
  obtain ⟨al, c, -, -, -, h1, h2, h3⟩ := t h
  have := valid_sz h
  omega
theorem finE_0 {n m : Nat} {P F : Nat → Nat → Int} {al : Nat → Nat} (h : finE n P m F al = 0) : validE n P m F = 0 ∧ validE (npt n al (3 * m)) (finP n m P F al) (4 * m) (finF n F al) = 0 := by
  unfold finE at h
  split at h
  · omega
  · exact ⟨by omega, h⟩
theorem al_ex (n : Nat) (P : Nat → Nat → Int) (m : Nat) (F : Nat → Nat → Int) : ∃ al, validE n P m F = 0 → Oth F al m := by
  by_cases h : validE n P m F = 0
  · obtain ⟨al, ha⟩ := (clo_of h).oth
    exact ⟨al, fun _ => ha⟩
  · exact ⟨fun a => a, fun h' => absurd h' h⟩
theorem v_bd {n m : Nat} {P F : Nat → Nat → Int} (h : validE n P m F = 0) : ∀ i, i < n → ∀ j, j < 3 → -64 ≤ P i j ∧ P i j ≤ 64 := fun i hi j hj => by
  obtain ⟨-, -, hb, -⟩ := validE_ok h
  have := ptsBad_at hb i hi
  rcases (show j = 0 ∨ j = 1 ∨ j = 2 by omega) with rfl | rfl | rfl <;> omega
set_option maxRecDepth 100000 in
set_option maxHeartbeats 16000000 in
theorem finer_law (A : Option Addr) (n cap : Nat) (P : Nat → Nat → Int) (B : Option Addr) (m cap2 : Nat) (F : Nat → Nat → Int) (w : World) (h : (n ≤ cap ∧ cap ≤ maxLen ∧ RowsAt w A n 3 P) ∧ (m ≤ cap2 ∧ cap2 ≤ maxLen ∧ RowsAt w B m 3 F)) :
    Calls Try.prog 10 #[.agg #[.slice A n cap, .slice B m cap2]] w fun r w' => r = .returned (.bool true) ∧ Kept w w' := by
  obtain ⟨⟨a1, a2, hP⟩, b1, b2, hF⟩ := h
  unfold maxLen at a2 b2
  have HP := Lib.hid hP
  have HF := Lib.hid hF
  clear hP hF
  have hn : n ≤ 9223372036854775807 ∧ m ≤ 9223372036854775807 := by omega
  by_cases hl : 200 < n ∨ 300 < m
  · have hl2 : (decide (200 < n) || decide (300 < m)) = true := by simpa using hl
    have HL := Lib.hid hl2
    clear hl hl2
    go_enter Try.func10, Try.ntmps10
    go_wp2_with fail
    refine (long_any _ _ _ _ _ _ _).mono ?_
    rintro r w1 ⟨rfl, x0, rfl⟩
    rw [HL.out]
    go_wp2_with (first | (go_at_call 19; refine (s2known_any _).mono ?_; rintro e w1 ⟨rfl, x, rfl⟩))
    go_ret
    exact ⟨rfl, by (repeat (first | exact Kept.refl _ | assumption | refine Kept.alloc ?_ _ | refine Kept.ext ?_ _ | refine Kept.drew ?_ | refine Kept.drewN ?_ _))⟩
  have hl2 : (decide (200 < n) || decide (300 < m)) = false := by simpa using hl
  have HL := Lib.hid hl2
  clear hl2
  obtain ⟨al, hal⟩ := al_ex n P m F
  have HAL := Lib.hid hal
  clear hal
  obtain ⟨e, he⟩ : ∃ e, finE n P m F al = e := ⟨_, rfl⟩
  have hIP : e = 0 → ∀ k, k < npt n al (3 * m) → ∀ j, j < 3 → I64 (finP n m P F al k j) := fun h0 k hk j hj => by
    obtain ⟨v1, -⟩ := finE_0 (he.trans h0)
    have := finP_bd (clo_of v1).inn (v_bd v1) (al := al) k hk j hj
    unfold I64
    omega
  have hIF : e = 0 → ∀ k, k < 4 * m → ∀ j, j < 3 → I64 (finF n F al k j) := fun h0 => by
    obtain ⟨v1, -⟩ := finE_0 (he.trans h0)
    have s1 := valid_sz v1
    exact finF_I (by omega) (HAL.out v1) (clo_of v1).inn
  have HIP := Lib.hid hIP
  have HIF := Lib.hid hIF
  have HE := Lib.hid he
  have hnb : npt n al (3 * m) ≤ n + 3 * m := by unfold npt; have := cnB_le (newB al) (3 * m); omega
  have le1 := okN_le e (npt n al (3 * m))
  have le2 := okN_le e (4 * m)
  clear hIP hIF
  by_cases h0 : e = 0
  case neg =>
    have hv2 : (e == 0) = false := by simpa using h0
    have hv3 : decide (e = 0) = false := by simpa using h0
    clear he
    go_enter Try.func10, Try.ntmps10
    go_wp2_with fail
    refine (long_any _ _ _ _ _ _ _).mono ?_
    rintro r w1 ⟨rfl, x0, rfl⟩
    rw [HL.out]
    go_wp2_with fail
    refine (sFiner_any _ _ _ _ _ _ P F al _ hn (HP.out.of (by (repeat (first | exact Kept.refl _ | assumption | refine Kept.alloc ?_ _ | refine Kept.ext ?_ _ | refine Kept.drew ?_ | refine Kept.drewN ?_ _)))) (HF.out.of (by (repeat (first | exact Kept.refl _ | assumption | refine Kept.alloc ?_ _ | refine Kept.ext ?_ _ | refine Kept.drew ?_ | refine Kept.drewN ?_ _)))) HAL.out).mono ?_
    rw [HE.out]
    rintro r w1 ⟨A3, c3, B3, d3, rfl, ⟨x3, rfl⟩, ho1, ho2⟩
    have H3 := Lib.hid (rowsU ho1 (fun h => HIP.out (by simpa using h)))
    have H4 := Lib.hid (rowsU ho2 (fun h => HIF.out (by simpa using h)))
    clear ho1 ho2
    go_wp2_with fail
    refine (r2Finer_any _ _ _ _ _ _ P F al _ hn (HP.out.of (by (repeat (first | exact Kept.refl _ | assumption | refine Kept.alloc ?_ _ | refine Kept.ext ?_ _ | refine Kept.drew ?_ | refine Kept.drewN ?_ _)))) (HF.out.of (by (repeat (first | exact Kept.refl _ | assumption | refine Kept.alloc ?_ _ | refine Kept.ext ?_ _ | refine Kept.drew ?_ | refine Kept.drewN ?_ _)))) HAL.out).mono ?_
    rw [HE.out]
    rintro r w1 ⟨A4, c4, B4, d4, rfl, ⟨x4, rfl⟩, ho1, ho2⟩
    have H5 := Lib.hid (rowsU ho1 (fun h => HIP.out (by simpa using h)))
    have H6 := Lib.hid (rowsU ho2 (fun h => HIF.out (by simpa using h)))
    clear ho1 ho2
    go_wp2_with fail
    refine (same_any _ _ _ _ _ _ _ _ _ _ (finP n m P F al) (finF n F al) _ (by omega) (H3.out.of (by (repeat (first | exact Kept.refl _ | assumption | refine Kept.alloc ?_ _ | refine Kept.ext ?_ _ | refine Kept.drew ?_ | refine Kept.drewN ?_ _)))) (H4.out.of (by (repeat (first | exact Kept.refl _ | assumption | refine Kept.alloc ?_ _ | refine Kept.ext ?_ _ | refine Kept.drew ?_ | refine Kept.drewN ?_ _)))) (H5.out.of (by (repeat (first | exact Kept.refl _ | assumption | refine Kept.alloc ?_ _ | refine Kept.ext ?_ _ | refine Kept.drew ?_ | refine Kept.drewN ?_ _)))) (H6.out.of (by (repeat (first | exact Kept.refl _ | assumption | refine Kept.alloc ?_ _ | refine Kept.ext ?_ _ | refine Kept.drew ?_ | refine Kept.drewN ?_ _))))).mono ?_
    rintro r w1 ⟨rfl, x5, rfl⟩
    go_wp2_with (first | (go_at_call 19; refine (s2known_any _).mono ?_; rintro e w1 ⟨rfl, x, rfl⟩))
    go_ret
    exact ⟨rfl, by (repeat (first | exact Kept.refl _ | assumption | refine Kept.alloc ?_ _ | refine Kept.ext ?_ _ | refine Kept.drew ?_ | refine Kept.drewN ?_ _))⟩
  subst h0
  obtain ⟨v1, v3⟩ := finE_0 he
  obtain ⟨p1, d1, t1⟩ := Top.ex n P m F
  obtain ⟨p3, d3', t3⟩ := Top.ex (npt n al (3 * m)) (finP n m P F al) (4 * m) (finF n F al)
  obtain ⟨ep, ed⟩ := fin_top (HAL.out v1) v1 v3 t1 t3
  have q1 := top_bd v1 t1
  have ev := fin_vol (P := P) (HAL.out v1) (clo_of v1).inn
  obtain ⟨-, -, y1, -⟩ := validE_ok v1
  have bv1 := vol_bd y1 (corn_0 v1) m (Nat.le_refl _)
  have s1 := valid_sz v1
  obtain ⟨z1, hz1⟩ : ∃ z, vol P F m = z := ⟨_, rfl⟩
  obtain ⟨z3, hz3⟩ : ∃ z, vol (finP n m P F al) (finF n F al) (4 * m) = z := ⟨_, rfl⟩
  rw [hz1] at ev bv1
  rw [hz3] at ev
  have k0 : okN 0 (npt n al (3 * m)) = npt n al (3 * m) := rfl
  have k1 : okN 0 (4 * m) = 4 * m := rfl
  have X1 := Lib.hid (And.intro v1 (And.intro (numV_0 v1 p1) (And.intro (numV_0 v1 d1) (show volV n P m F = z1 by rw [volV_0 v1, hz1]))))
  have X3 := Lib.hid (And.intro v3 (And.intro (numV_0 v3 p3) (And.intro (numV_0 v3 d3') (show volV (npt n al (3 * m)) (finP n m P F al) (4 * m) (finF n F al) = z3 by rw [volV_0 v3, hz3]))))
  have T1 := Lib.hid t1
  have T3 := Lib.hid t3
  have HEV := Lib.hid ev
  clear he v1 v3 t1 t3 y1 hz1 hz3 ev
  go_enter Try.func10, Try.ntmps10
  go_wp2_with fail
  refine (long_any _ _ _ _ _ _ _).mono ?_
  rintro r w1 ⟨rfl, x0, rfl⟩
  rw [HL.out]
  go_wp2_with fail
  refine (sFiner_any _ _ _ _ _ _ P F al _ hn (HP.out.of (by (repeat (first | exact Kept.refl _ | assumption | refine Kept.alloc ?_ _ | refine Kept.ext ?_ _ | refine Kept.drew ?_ | refine Kept.drewN ?_ _)))) (HF.out.of (by (repeat (first | exact Kept.refl _ | assumption | refine Kept.alloc ?_ _ | refine Kept.ext ?_ _ | refine Kept.drew ?_ | refine Kept.drewN ?_ _)))) HAL.out).mono ?_
  rw [HE.out]
  rintro r w1 ⟨A3, c3, B3, d3, rfl, ⟨x3, rfl⟩, ho1, ho2⟩
  have H3 := Lib.hid (rowsU ho1 (fun h => HIP.out (by simp)))
  have H4 := Lib.hid (rowsU ho2 (fun h => HIF.out (by simp)))
  clear ho1 ho2
  go_wp2_with fail
  refine (r2Finer_any _ _ _ _ _ _ P F al _ hn (HP.out.of (by (repeat (first | exact Kept.refl _ | assumption | refine Kept.alloc ?_ _ | refine Kept.ext ?_ _ | refine Kept.drew ?_ | refine Kept.drewN ?_ _)))) (HF.out.of (by (repeat (first | exact Kept.refl _ | assumption | refine Kept.alloc ?_ _ | refine Kept.ext ?_ _ | refine Kept.drew ?_ | refine Kept.drewN ?_ _)))) HAL.out).mono ?_
  rw [HE.out]
  rintro r w1 ⟨A4, c4, B4, d4, rfl, ⟨x4, rfl⟩, ho1, ho2⟩
  have H5 := Lib.hid (rowsU ho1 (fun h => HIP.out (by simp)))
  have H6 := Lib.hid (rowsU ho2 (fun h => HIF.out (by simp)))
  clear ho1 ho2
  go_wp2_with fail
  refine (same_any _ _ _ _ _ _ _ _ _ _ (finP n m P F al) (finF n F al) _ (by omega) (H3.out.of (by (repeat (first | exact Kept.refl _ | assumption | refine Kept.alloc ?_ _ | refine Kept.ext ?_ _ | refine Kept.drew ?_ | refine Kept.drewN ?_ _)))) (H4.out.of (by (repeat (first | exact Kept.refl _ | assumption | refine Kept.alloc ?_ _ | refine Kept.ext ?_ _ | refine Kept.drew ?_ | refine Kept.drewN ?_ _)))) (H5.out.of (by (repeat (first | exact Kept.refl _ | assumption | refine Kept.alloc ?_ _ | refine Kept.ext ?_ _ | refine Kept.drew ?_ | refine Kept.drewN ?_ _)))) (H6.out.of (by (repeat (first | exact Kept.refl _ | assumption | refine Kept.alloc ?_ _ | refine Kept.ext ?_ _ | refine Kept.drew ?_ | refine Kept.drewN ?_ _))))).mono ?_
  rintro r w1 ⟨rfl, x5, rfl⟩
  rw [k0] at H3
  rw [k1] at H4
  go_wp2_with fail
  refine (svol6_any _ _ _ _ _ _ P F _ (by omega) (HP.out.of (by (repeat (first | exact Kept.refl _ | assumption | refine Kept.alloc ?_ _ | refine Kept.ext ?_ _ | refine Kept.drew ?_ | refine Kept.drewN ?_ _)))) (HF.out.of (by (repeat (first | exact Kept.refl _ | assumption | refine Kept.alloc ?_ _ | refine Kept.ext ?_ _ | refine Kept.drew ?_ | refine Kept.drewN ?_ _))))).mono ?_
  rintro r w1 ⟨rfl, x6, rfl⟩
  rw [X1.out.1, X1.out.2.2.2]
  go_wp2_with fail
  refine (svol6_any _ _ _ _ _ _ (finP n m P F al) (finF n F al) _ (by omega) (H3.out.of (by (repeat (first | exact Kept.refl _ | assumption | refine Kept.alloc ?_ _ | refine Kept.ext ?_ _ | refine Kept.drew ?_ | refine Kept.drewN ?_ _)))) (H4.out.of (by (repeat (first | exact Kept.refl _ | assumption | refine Kept.alloc ?_ _ | refine Kept.ext ?_ _ | refine Kept.drew ?_ | refine Kept.drewN ?_ _))))).mono ?_
  rintro r w1 ⟨rfl, x7, rfl⟩
  rw [X3.out.1, X3.out.2.2.2]
  go_wp2_with fail
  refine (sParts_any _ _ _ _ _ _ P F p1 d1 _ (by omega) (HP.out.of (by (repeat (first | exact Kept.refl _ | assumption | refine Kept.alloc ?_ _ | refine Kept.ext ?_ _ | refine Kept.drew ?_ | refine Kept.drewN ?_ _)))) (HF.out.of (by (repeat (first | exact Kept.refl _ | assumption | refine Kept.alloc ?_ _ | refine Kept.ext ?_ _ | refine Kept.drew ?_ | refine Kept.drewN ?_ _)))) T1.out).mono ?_
  rintro r w1 ⟨rfl, x8, rfl⟩
  rw [X1.out.1, X1.out.2.1]
  go_wp2_with fail
  refine (sParts_any _ _ _ _ _ _ (finP n m P F al) (finF n F al) p3 d3' _ (by omega) (H3.out.of (by (repeat (first | exact Kept.refl _ | assumption | refine Kept.alloc ?_ _ | refine Kept.ext ?_ _ | refine Kept.drew ?_ | refine Kept.drewN ?_ _)))) (H4.out.of (by (repeat (first | exact Kept.refl _ | assumption | refine Kept.alloc ?_ _ | refine Kept.ext ?_ _ | refine Kept.drew ?_ | refine Kept.drewN ?_ _)))) T3.out).mono ?_
  rintro r w1 ⟨rfl, x9, rfl⟩
  rw [X3.out.1, X3.out.2.1]
  go_wp2_with fail
  refine (sHandles_any _ _ _ _ _ _ P F p1 d1 _ (by omega) (HP.out.of (by (repeat (first | exact Kept.refl _ | assumption | refine Kept.alloc ?_ _ | refine Kept.ext ?_ _ | refine Kept.drew ?_ | refine Kept.drewN ?_ _)))) (HF.out.of (by (repeat (first | exact Kept.refl _ | assumption | refine Kept.alloc ?_ _ | refine Kept.ext ?_ _ | refine Kept.drew ?_ | refine Kept.drewN ?_ _)))) T1.out).mono ?_
  rintro r w1 ⟨rfl, x10, rfl⟩
  rw [X1.out.1, X1.out.2.2.1]
  go_wp2_with fail
  refine (sHandles_any _ _ _ _ _ _ (finP n m P F al) (finF n F al) p3 d3' _ (by omega) (H3.out.of (by (repeat (first | exact Kept.refl _ | assumption | refine Kept.alloc ?_ _ | refine Kept.ext ?_ _ | refine Kept.drew ?_ | refine Kept.drewN ?_ _)))) (H4.out.of (by (repeat (first | exact Kept.refl _ | assumption | refine Kept.alloc ?_ _ | refine Kept.ext ?_ _ | refine Kept.drew ?_ | refine Kept.drewN ?_ _)))) T3.out).mono ?_
  rintro r w1 ⟨rfl, x11, rfl⟩
  rw [X3.out.1, X3.out.2.2.1]
  rw [HEV.out]
  subst ep ed
  go_wp2_with (first | (go_at_call 19; refine (s2known_any _).mono ?_; rintro e w1 ⟨rfl, x, rfl⟩))
  go_ret
  exact ⟨rfl, by (repeat (first | exact Kept.refl _ | assumption | refine Kept.alloc ?_ _ | refine Kept.ext ?_ _ | refine Kept.drew ?_ | refine Kept.drewN ?_ _))⟩
theorem ownShapeFiner : ownKnob Try.prog.godebug = none := by kernel_rfl
theorem laidOutShapeFiner : laidOutB Try.prog = true := by kernel_rfl
set_option linter.unusedVariables false in
set_option maxRecDepth 100000 in
theorem liftedShapeFiner (os : Os) (started : os.Started) (H : Type) (enc : TypeId × Value → H) :
    ReturnsInHanded {} Try.checked os 10 .any (Rows.shapeFinerSpec.pre6 enc Try.prog Try.f10 Rows.shapeFinerRow.domain false) (Rows.shapeFinerSpec.post enc Try.prog Try.f10 false true false false) := by
  refine returnsInHanded_of_change (C := Try.checked) ownShapeFiner started (by kernel_rfl) Try.func10
    (ChangeSpec.witness6 (enc := enc) (C := Try.checked) false ⟨#[], #[.agg #[.slice none 0 0, .slice none 0 0]], []⟩ 8 (by kernel_rfl) (by kernel_rfl) (by kernel_rfl) (by kernel_rfl)) ?_
  intro W base args ds gs before hval0 hW hcnd _
  have hval : ∀ (j : Nat) t v, Try.f10.params[j]? = some t → args[j]? = some v → Value.okWide Try.prog W .any base t v := hval0
  have hW' := hW
  obtain ⟨p, q, hA0, hV, rfl, hfz, hnd⟩ := hW
  have hA : DataW.TrodAll enc Try.prog W 0 (fun _ => true) true Try.f10.params.toList args.toList ds p := hA0
  rw [Try.params10] at hA hval
  obtain ⟨v0, vs0, d0, ds0, p0, q0, hargs, rfl, rfl, h0, r0⟩ := trodAll_cons hA
  obtain ⟨rfl, rfl, rfl⟩ := trodAll_nil r0
  obtain rfl : args = #[v0] := by cases args; simp_all
  obtain ⟨rfl, rfl⟩ := trodVars_none hV
  have lt0 : ∀ x ∈ p0, x.block < W.heap.size := by obtain ⟨m, hm⟩ := h0; exact DataW.trod_lt m _ _ _ hm
  obtain ⟨A0, n0, cap0, f0, B0, m0, capb0, g0, rfl, hpa0, hpb0⟩ := open_mesh _ _ 25 34 54 3 3 Try.underlying25 ⟨rfl, rfl, by kernel_rfl, by kernel_rfl, by kernel_rfl⟩ Try.underlying22 (by kernel_rfl) (by decide) (by kernel_rfl) Try.underlying23 (by kernel_rfl) (by decide) (by kernel_rfl) (hval 0 25 v0 rfl rfl) h0 lt0
  clear hA0 hval0
  refine (finer_law A0 n0 cap0 f0 B0 m0 capb0 g0 W ⟨hpa0, hpb0⟩).mono fun e W' ⟨he, hk⟩ => ?_
  subst he
  have bel := hk.below
  exact ⟨_, rfl, _, _, _, [], _, [], hW', trodAll_mk1 (shut_bool Try.underlying4 _), (trodAll_cons_mk (Below.trod laidOutShapeFiner (by kernel_rfl) (of_decide_eq_true (by kernel_rfl)) h0 bel lt0) trodAll_mk0), rfl, bel.frame _, fun h => by cases h⟩
/-- For every input the statement ShapeFiner returns true, and each argument reads afterwards as it read before. -/
theorem shapeFiner_holds : Rows.ShapeFinerSaid :=
  OpenClaim.holds_of_wide 10 Try.f10 rfl rfl rfl rfl rfl rfl rfl ⟨rfl, rfl, rfl, rfl, rfl⟩ rfl rfl rfl rfl rfl (by kernel_rfl) Try.func10 (by kernel_rfl)
    (of_decide_eq_true (by kernel_rfl)) (by unfold Func.isWrapper; first | (rw [if_pos (by decide +kernel)]; kernel_rfl) | (rw [if_neg (by decide +kernel)]; exact ⟨rfl, rfl⟩))
    (fun os started H enc _ => liftedShapeFiner os started H enc)
#print axioms shapeFiner_holds

end Go.Proofs.Ytoadlneneijfaaa
