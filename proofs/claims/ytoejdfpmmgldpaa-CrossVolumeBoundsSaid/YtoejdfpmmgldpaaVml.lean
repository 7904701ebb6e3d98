/- For every input the statement CrossVolumes returns true and leaves its arguments as they were. No conditions. -/
import Derived.Test.YtoejdfpmmgldpaaRk
import Derived.Test.YtoejdfpmmgldpaaLg
namespace Go.Proofs.Ytoejdfpmmgldpaa
set_option linter.unusedVariables false
set_option linter.unusedSimpArgs false
open Go.ChangeShapes Go.WideShapes Go.ChangeAt Go.RowKit
/-- What the minor of a choice with the greatest minor is. -/
theorem BstC.use {n : Nat} {m : Nat → Nat} {f : Nat → Nat → Int} {k : Int} {b : Nat} {vr vc : Value} {w : World} (hv : valE n m f = 0) (h : BstC f n (m 0) k b vr vc w) :
    ∃ (RA CA : Option Addr) (L rc cc : Nat) (R C : Nat → Nat → Int), vr = .slice RA L rc ∧ vc = .slice CA L cc ∧ (L : Int) = k ∧ (L ≤ rc ∧ rc ≤ maxLen) ∧ (L ≤ cc ∧ cc ≤ maxLen) ∧ RowsAt w RA L 1 R ∧ RowsAt w CA L 1 C ∧
      choE n m f L R L C = 0 ∧ ((D L (subF f R C)).natAbs : Int) = volS f n (m 0) k ∧ Mok n m f L R C := by
  obtain ⟨r, c, h1, h2, h3, h4, h5, h6, h7⟩ := h
  obtain ⟨RA, rc, rfl⟩ := own_slice2 h6
  obtain ⟨CA, cc, rfl⟩ := own_slice2 h7
  have hll : (bl c (m 0)).length = (bl r n).length := by omega
  have hch := bl_cho (f := f) hv hll.symm
  obtain ⟨-, hk⟩ := Mok.of hch
  have hcap := own_caps h7
  rw [hll] at hch hcap
  have hR : RowsAt w RA (bl r n).length 1 (blF r n) := rows_of_owns h6 fun q hq j _ => by
    have := blN_lt hq
    have h8 := hk.n1
    rw [blF_N]; unfold I64; omega
  have hC : RowsAt w CA (bl c (m 0)).length 1 (blF c (m 0)) := rows_of_owns h7 fun q hq j _ => by
    have := blN_lt hq
    have h8 := hk.m1
    rw [blF_N]; unfold I64; omega
  rw [hll] at hC
  exact ⟨RA, CA, (bl r n).length, rc, cc, blF r n, blF c (m 0), rfl, by rw [hll], h3, own_caps h6, hcap, hR, hC, hch, h5.symm, hk⟩
set_option maxRecDepth 100000 in
set_option maxHeartbeats 16000000 in
theorem cvolumes_law (A : Option Addr) (n cap : Nat) (B : Nat → Option Addr) (m cp : Nat → Nat) (f : Nat → Nat → Int) (k : Int) (w : World)
    (h : n ≤ cap ∧ cap ≤ maxLen ∧ MatAt w A n B m cp f) :
    Calls Try.prog 8 #[.slice A n cap, .int .i64 k] w fun r w' => r = .returned (.bool true) ∧ Kept w w' := by
  obtain ⟨a1, a2, hM⟩ := h
  have HM := Lib.hid hM
  clear hM
  unfold maxLen at a2
  have hn : n ≤ 9223372036854775807 := by omega
  cases hl : longB n m
  case true =>
    have HL := Lib.hid hl
    clear hl
    go_enter Try.func8, Try.ntmps8
    go_wp2_with (first | (go_at_call 15; refine (long6_any _ _ _ _ _ _ _ _ hn (HM.out.of (by (repeat (first | exact Kept.refl _ | assumption | refine Kept.alloc ?_ _ | refine Kept.ext ?_ _ | refine Kept.drew ?_ | refine Kept.drewN ?_ _))))).mono ?_; rintro e w1 ⟨rfl, rfl⟩; rw [HL.out]) | (go_at_call 17; refine (known6_any _).mono ?_; rintro e w1 ⟨rfl, x9, rfl⟩))
    go_ret
    exact ⟨rfl, by (repeat (first | exact Kept.refl _ | assumption | refine Kept.alloc ?_ _ | refine Kept.ext ?_ _ | refine Kept.drew ?_ | refine Kept.drewN ?_ _))⟩
  have HL := Lib.hid hl
  clear hl
  obtain ⟨E, hE⟩ : ∃ e, sizE n m f k = e := ⟨_, rfl⟩
  have HE := Lib.hid hE
  by_cases h0 : E = 0
  · subst h0
    obtain ⟨hv, hk⟩ := sizE_0 hE
    obtain ⟨V, hV⟩ : ∃ v, volV n m f k = v := ⟨_, rfl⟩
    have hVS : volS f n (m 0) k = V := by rw [← hV]; unfold volV; rw [if_pos hE]
    have HV := Lib.hid hV
    have hlg : ∀ w', Kept w w' → Calls Try.prog 31 #[.slice A n cap, .int .i64 k] w' fun e w'' => ∃ (RA CA : Option Addr) (L rc cc : Nat) (d : Int), e = .returned (.tuple #[.slice RA L rc, .slice CA L cc, .int .i64 0]) ∧ (d = V ∨ d = -V) ∧ (-720000000000000 ≤ d ∧ d ≤ 720000000000000) ∧ (L : Int) = k ∧ Kept w' w'' ∧ ∀ W', Kept w'' W' → Calls Try.prog 21 #[.slice A n cap, .slice RA L rc, .slice CA L cc] W' fun e W'' => e = .returned (.tuple #[.int .i64 d, .int .i64 0]) ∧ Kept W' W'' := fun w' hkw => by
      refine (cLargest_any A n cap B m cp f k w' hn (HM.out.of hkw)).mono ?_
      rintro e w'' ⟨vr, vc, rfl, hk2, hb, -⟩
      obtain ⟨RA, CA, L, rc, cc, R, C, rfl, rfl, e1, e2, e3, e4, e5, e6, e7, e8⟩ := (hb HE.out).use hv
      rw [hVS] at e7
      have e9 := e8.bd
      refine ⟨RA, CA, L, rc, cc, D L (subF f R C), by rw [HE.out], by omega, e9, e1, hk2, fun W' hW => ?_⟩
      have := r6Minor_any A n cap B m cp f RA L rc R CA L cc C W' hn e2 e3 (HM.out.of ((hkw.trans hk2).trans hW)) (e4.of hW) (e5.of hW)
      rw [e6] at this
      rwa [show minV n m f L R L C = D L (subF f R C) from if_pos e6] at this
    have HLG := Lib.hid hlg
    have hvb : 0 ≤ V ∧ V ≤ 720000000000000 := by
      have h1 : 0 ≤ V := by rw [← hVS]; exact volS_pos
      refine ⟨h1, ?_⟩
      rcases vmat_or (f := f) (n := n) (M := m 0) (k := k) (b := 0) (2 ^ n) with e | ⟨p, q, -, -, l1, l2, e⟩
      · have : volS f n (m 0) k = 0 := e
        omega
      · have e2 : V = dV f n (m 0) p q := by rw [← hVS]; exact e
        have := (Mok.of (bl_cho (f := f) hv (show (bl p n).length = (bl q (m 0)).length by omega))).2.bd
        rw [e2]
        unfold dV
        omega
    clear hE hv hk hV hVS hlg
    go_enter Try.func8, Try.ntmps8
    go_wp2_with (first | (go_at_call 15; refine (long6_any _ _ _ _ _ _ _ _ hn (HM.out.of (by (repeat (first | exact Kept.refl _ | assumption | refine Kept.alloc ?_ _ | refine Kept.ext ?_ _ | refine Kept.drew ?_ | refine Kept.drewN ?_ _))))).mono ?_; rintro e w1 ⟨rfl, rfl⟩; rw [HL.out]) | (go_at_call 29; refine (cVolume_any _ _ _ _ _ _ _ _ _ hn (HM.out.of (by (repeat (first | exact Kept.refl _ | assumption | refine Kept.alloc ?_ _ | refine Kept.ext ?_ _ | refine Kept.drew ?_ | refine Kept.drewN ?_ _))))).mono ?_; rintro e w1 ⟨rfl, x1, rfl⟩; rw [HV.out, HE.out]) | (go_at_call 30; refine (r6Volume_any _ _ _ _ _ _ _ _ _ hn (HM.out.of (by (repeat (first | exact Kept.refl _ | assumption | refine Kept.alloc ?_ _ | refine Kept.ext ?_ _ | refine Kept.drew ?_ | refine Kept.drewN ?_ _))))).mono ?_; rintro e w1 ⟨rfl, x2, rfl⟩; rw [HV.out, HE.out]))
    refine (HLG.out _ (by (repeat (first | exact Kept.refl _ | assumption | refine Kept.alloc ?_ _ | refine Kept.ext ?_ _ | refine Kept.drew ?_ | refine Kept.drewN ?_ _)))).mono ?_
    rintro e w1 ⟨RA, CA, L, rc, cc, d, rfl, hd, hdb, hLk, ⟨x3, rfl⟩, hmn⟩
    have HMN := Lib.hid hmn
    have g1 : ((L : Int) == k) = true := by simpa using hLk
    have g1b : decide ((L : Int) = k) = true := by simpa using hLk
    clear hmn hLk
    by_cases hdv : d = V
    · have g2 : (d == V) = true := by simpa using hdv
      clear hdv hd
      go_wp2_with (first | (go_at_call 21; refine (HMN.out _ (by (repeat (first | exact Kept.refl _ | assumption | refine Kept.alloc ?_ _ | refine Kept.ext ?_ _ | refine Kept.drew ?_ | refine Kept.drewN ?_ _)))).mono ?_; rintro e w1 ⟨rfl, x4, rfl⟩) | (go_at_call 17; refine (known6_any _).mono ?_; rintro e w1 ⟨rfl, x9, rfl⟩))
      go_ret
      exact ⟨rfl, by (repeat (first | exact Kept.refl _ | assumption | refine Kept.alloc ?_ _ | refine Kept.ext ?_ _ | refine Kept.drew ?_ | refine Kept.drewN ?_ _))⟩
    · have g2 : (d == V) = false := by simpa using hdv
      have g3 : (d == -V) = true := by
        have : d = -V := by omega
        simpa using this
      clear hdv hd
      go_wp2_with (first | (go_at_call 21; refine (HMN.out _ (by (repeat (first | exact Kept.refl _ | assumption | refine Kept.alloc ?_ _ | refine Kept.ext ?_ _ | refine Kept.drew ?_ | refine Kept.drewN ?_ _)))).mono ?_; rintro e w1 ⟨rfl, x4, rfl⟩) | (go_at_call 17; refine (known6_any _).mono ?_; rintro e w1 ⟨rfl, x9, rfl⟩))
      go_ret
      exact ⟨rfl, by (repeat (first | exact Kept.refl _ | assumption | refine Kept.alloc ?_ _ | refine Kept.ext ?_ _ | refine Kept.drew ?_ | refine Kept.drewN ?_ _))⟩
  · have hlg : ∀ w', Kept w w' → Calls Try.prog 31 #[.slice A n cap, .int .i64 k] w' fun e w'' => e = .returned (.tuple #[.slice none 0 0, .slice none 0 0, .int .i64 E]) ∧ Kept w' w'' := fun w' hkw => by
      refine (cLargest_any A n cap B m cp f k w' hn (HM.out.of hkw)).mono ?_
      rintro e w'' ⟨vr, vc, rfl, hk2, -, hb⟩
      obtain ⟨rfl, rfl⟩ := hb (by rw [HE.out]; exact h0)
      rw [HE.out]
      exact ⟨rfl, hk2⟩
    obtain ⟨V, hV⟩ : ∃ v, volV n m f k = v := ⟨_, rfl⟩
    have HV := Lib.hid hV
    have HLG := Lib.hid hlg
    have hv2 : (E == 0) = false := by simpa using h0
    have hv3 : decide (E = 0) = false := by simpa using h0
    clear hE hlg hV
    go_enter Try.func8, Try.ntmps8
    go_wp2_with (first | (go_at_call 15; refine (long6_any _ _ _ _ _ _ _ _ hn (HM.out.of (by (repeat (first | exact Kept.refl _ | assumption | refine Kept.alloc ?_ _ | refine Kept.ext ?_ _ | refine Kept.drew ?_ | refine Kept.drewN ?_ _))))).mono ?_; rintro e w1 ⟨rfl, rfl⟩; rw [HL.out]) | (go_at_call 29; refine (cVolume_any _ _ _ _ _ _ _ _ _ hn (HM.out.of (by (repeat (first | exact Kept.refl _ | assumption | refine Kept.alloc ?_ _ | refine Kept.ext ?_ _ | refine Kept.drew ?_ | refine Kept.drewN ?_ _))))).mono ?_; rintro e w1 ⟨rfl, x1, rfl⟩; rw [HV.out, HE.out]) | (go_at_call 30; refine (r6Volume_any _ _ _ _ _ _ _ _ _ hn (HM.out.of (by (repeat (first | exact Kept.refl _ | assumption | refine Kept.alloc ?_ _ | refine Kept.ext ?_ _ | refine Kept.drew ?_ | refine Kept.drewN ?_ _))))).mono ?_; rintro e w1 ⟨rfl, x2, rfl⟩; rw [HV.out, HE.out]) | (go_at_call 31; refine (HLG.out _ (by (repeat (first | exact Kept.refl _ | assumption | refine Kept.alloc ?_ _ | refine Kept.ext ?_ _ | refine Kept.drew ?_ | refine Kept.drewN ?_ _)))).mono ?_; rintro e w1 ⟨rfl, x3, rfl⟩) | (go_at_call 17; refine (known6_any _).mono ?_; rintro e w1 ⟨rfl, x9, rfl⟩))
    go_ret
    exact ⟨rfl, by (repeat (first | exact Kept.refl _ | assumption | refine Kept.alloc ?_ _ | refine Kept.ext ?_ _ | refine Kept.drew ?_ | refine Kept.drewN ?_ _))⟩
theorem ownCrossVolumes : ownKnob Try.prog.godebug = none := by kernel_rfl
theorem laidOutCrossVolumes : laidOutB Try.prog = true := by kernel_rfl
set_option linter.unusedVariables false in
set_option maxRecDepth 100000 in
theorem liftedCrossVolumes (os : Os) (started : os.Started) (H : Type) (enc : TypeId × Value → H) :
    ReturnsInHanded {} Try.checked os 8 .any (Rows.crossVolumesSpec.pre6 enc Try.prog Try.f8 Rows.crossVolumesRow.domain false) (Rows.crossVolumesSpec.post enc Try.prog Try.f8 false true false false) := by
  refine returnsInHanded_of_change (C := Try.checked) ownCrossVolumes started (by kernel_rfl) Try.func8
    (ChangeSpec.witness6 (enc := enc) (C := Try.checked) false ⟨#[], #[.slice none 0 0, .int .i64 0], []⟩ 8 (by kernel_rfl) (by kernel_rfl) (by kernel_rfl) (by kernel_rfl)) ?_
  intro W base args ds gs before hval0 hW hcnd _
  have hval : ∀ (j : Nat) t v, Try.f8.params[j]? = some t → args[j]? = some v → Value.okWide Try.prog W .any base t v := hval0
  have hW' := hW
  obtain ⟨p, q, hA0, hV, rfl, hfz, hnd⟩ := hW
  have hA : DataW.TrodAll enc Try.prog W 0 (fun _ => true) true Try.f8.params.toList args.toList ds p := hA0
  rw [Try.params8] at hA hval
  obtain ⟨v0, vs0, d0, ds0, p0, q0, hargs, rfl, rfl, h0, r0⟩ := trodAll_cons hA
  obtain ⟨v1, vs1, d1, ds1, p1, q1, rfl, rfl, rfl, h1, r1⟩ := trodAll_cons r0
  obtain ⟨rfl, rfl, rfl⟩ := trodAll_nil r1
  obtain rfl : args = #[v0, v1] := by cases args; simp_all
  obtain ⟨rfl, rfl⟩ := trodVars_none hV
  have lt0 : ∀ x ∈ p0, x.block < W.heap.size := by obtain ⟨m, hm⟩ := h0; exact DataW.trod_lt m _ _ _ hm
  obtain ⟨A0, n0, cap0, B0, m0, cp0, f0, rfl, hl0, hm0, hr0⟩ := open_mat Try.underlying22 (by kernel_rfl) Try.underlying23 (by kernel_rfl) (by kernel_rfl) (hval 0 22 v0 rfl rfl) h0 lt0
  have lt1 : ∀ x ∈ p1, x.block < W.heap.size := by obtain ⟨m, hm⟩ := h1; exact DataW.trod_lt m _ _ _ hm
  obtain ⟨z1, rfl, b1⟩ := okWide_int_bd Try.underlying3 (hval 1 3 v1 rfl rfl)
  clear hA0 hval0
  refine (cvolumes_law A0 n0 cap0 B0 m0 cp0 f0 z1 W ⟨hl0, hm0, hr0⟩).mono fun e W' ⟨he, hk⟩ => ?_
  subst he
  have bel := hk.below
  exact ⟨_, rfl, _, _, _, [], _, [], hW', trodAll_mk1 (shut_bool Try.underlying4 _), (trodAll_cons_mk (Below.trod laidOutCrossVolumes (by kernel_rfl) (of_decide_eq_true (by kernel_rfl)) h0 bel lt0) (trodAll_cons_mk (Below.trod laidOutCrossVolumes (by kernel_rfl) (of_decide_eq_true (by kernel_rfl)) h1 bel lt1) trodAll_mk0)), rfl, bel.frame _, fun h => by cases h⟩
/-- For every input the statement CrossVolumes returns true, and each argument reads afterwards as it read before. -/
theorem crossVolumes_holds : Rows.CrossVolumesSaid :=
  OpenClaim.holds_of_wide 8 Try.f8 rfl rfl rfl rfl rfl rfl rfl ⟨rfl, rfl, rfl, rfl, rfl⟩ rfl rfl rfl rfl rfl (by kernel_rfl) Try.func8 (by kernel_rfl)
    (of_decide_eq_true (by kernel_rfl)) (by unfold Func.isWrapper; first | (rw [if_pos (by decide +kernel)]; kernel_rfl) | (rw [if_neg (by decide +kernel)]; exact ⟨rfl, rfl⟩))
    (fun os started H enc _ => liftedCrossVolumes os started H enc)
#print axioms crossVolumes_holds

end Go.Proofs.Ytoejdfpmmgldpaa
