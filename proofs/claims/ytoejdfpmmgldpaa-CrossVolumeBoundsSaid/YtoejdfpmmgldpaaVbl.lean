/- For every input the statement CrossVolumeBounds returns true and leaves its arguments as they were. No conditions. -/
import Derived.Test.YtoejdfpmmgldpaaIns
import Derived.Test.YtoejdfpmmgldpaaVml
import Derived.Test.YtoejdfpmmgldpaaCk
namespace Go.Proofs.Ytoejdfpmmgldpaa
set_option linter.unusedVariables false
set_option linter.unusedSimpArgs false
open Go.ChangeShapes Go.WideShapes Go.ChangeAt Go.RowKit
theorem volS_bd {n : Nat} {m : Nat → Nat} {f : Nat → Nat → Int} {k : Int} (hv : valE n m f = 0) : 0 ≤ volS f n (m 0) k ∧ volS f n (m 0) k ≤ 720000000000000 := by
  refine ⟨volS_pos, ?_⟩
  rcases vmat_or (f := f) (n := n) (M := m 0) (k := k) (b := 0) (2 ^ n) with e | ⟨p, q, -, -, l1, l2, e⟩
  · have : volS f n (m 0) k = 0 := e
    omega
  · have e2 : volS f n (m 0) k = dV f n (m 0) p q := e
    have := (Mok.of (bl_cho (f := f) hv (show (bl p n).length = (bl q (m 0)).length by omega))).2.bd
    rw [e2]
    unfold dV
    omega
set_option maxRecDepth 100000 in
set_option maxHeartbeats 16000000 in
theorem cvolbounds_law (A : Option Addr) (n cap : Nat) (B : Nat → Option Addr) (m cp : Nat → Nat) (f : Nat → Nat → Int) (k : Int) (w : World)
    (h : n ≤ cap ∧ cap ≤ maxLen ∧ MatAt w A n B m cp f) :
    Calls Try.prog 13 #[.slice A n cap, .int .i64 k] w fun r w' => r = .returned (.bool true) ∧ Kept w w' := by
  obtain ⟨a1, a2, hM⟩ := h
  have HM := Lib.hid hM
  clear hM
  unfold maxLen at a2
  have hn : n ≤ 9223372036854775807 := by omega
  cases hl : longB n m
  case true =>
    have HL := Lib.hid hl
    clear hl
    go_enter Try.func13, Try.ntmps13
    go_wp2_with (first | (go_at_call 15; refine (long6_any _ _ _ _ _ _ _ _ hn (HM.out.of (by (repeat (first | exact Kept.refl _ | assumption | refine Kept.alloc ?_ _ | refine Kept.ext ?_ _ | refine Kept.drew ?_ | refine Kept.drewN ?_ _))))).mono ?_; rintro e w1 ⟨rfl, rfl⟩; rw [HL.out]) | (go_at_call 17; refine (known6_any _).mono ?_; rintro e w1 ⟨rfl, x9, rfl⟩))
    go_ret
    exact ⟨rfl, by (repeat (first | exact Kept.refl _ | assumption | refine Kept.alloc ?_ _ | refine Kept.ext ?_ _ | refine Kept.drew ?_ | refine Kept.drewN ?_ _))⟩
  have HL := Lib.hid hl
  clear hl
  obtain ⟨E, hE⟩ : ∃ e, sizE n m f k = e := ⟨_, rfl⟩
  obtain ⟨V, hV⟩ : ∃ v, volV n m f k = v := ⟨_, rfl⟩
  have HE := Lib.hid hE
  have HV := Lib.hid hV
  by_cases h0 : E = 0
  · subst h0
    obtain ⟨hv, hk⟩ := sizE_0 hE
    have hVS : volS f n (m 0) k = V := by rw [← hV]; unfold volV; rw [if_pos hE]
    have hvb : 0 ≤ V ∧ V ≤ 720000000000000 := by rw [← hVS]; exact volS_bd hv
    by_cases hz : V = 0
    · subst hz
      clear hE hv hk hV hVS hvb
      go_enter Try.func13, Try.ntmps13
      go_wp2_with (first | (go_at_call 15; refine (long6_any _ _ _ _ _ _ _ _ hn (HM.out.of (by (repeat (first | exact Kept.refl _ | assumption | refine Kept.alloc ?_ _ | refine Kept.ext ?_ _ | refine Kept.drew ?_ | refine Kept.drewN ?_ _))))).mono ?_; rintro e w1 ⟨rfl, rfl⟩; rw [HL.out]) | (go_at_call 29; refine (cVolume_any _ _ _ _ _ _ _ _ _ hn (HM.out.of (by (repeat (first | exact Kept.refl _ | assumption | refine Kept.alloc ?_ _ | refine Kept.ext ?_ _ | refine Kept.drew ?_ | refine Kept.drewN ?_ _))))).mono ?_; rintro e w1 ⟨rfl, x1, rfl⟩; rw [HV.out, HE.out]) | (go_at_call 17; refine (known6_any _).mono ?_; rintro e w1 ⟨rfl, x9, rfl⟩))
      go_ret
      exact ⟨rfl, by (repeat (first | exact Kept.refl _ | assumption | refine Kept.alloc ?_ _ | refine Kept.ext ?_ _ | refine Kept.drew ?_ | refine Kept.drewN ?_ _))⟩
    · obtain ⟨E2, hE2⟩ : ∃ e, sizE n m f (k + 1) = e := ⟨_, rfl⟩
      obtain ⟨V2, hV2⟩ : ∃ v, volV n m f (k + 1) = v := ⟨_, rfl⟩
      have HE2 := Lib.hid hE2
      have HV2 := Lib.hid hV2
      have hnx : ∀ L : Nat, (L : Int) = k → (if L + 1 ≤ min n (m 0) then volS f n (m 0) ((L : Int) + 1) else 0) = if E2 = 0 then V2 else 0 := by
        intro L hL
        by_cases hlt : L + 1 ≤ min n (m 0)
        · have h2 : sizE n m f (k + 1) = 0 := by
            unfold sizE
            rw [if_pos hv, if_pos (by omega)]
          rw [if_pos hlt, ← hE2, if_pos h2, ← hV2]
          unfold volV
          rw [if_pos h2, hL]
        · have h2 : sizE n m f (k + 1) = 1 := by
            unfold sizE
            rw [if_pos hv, if_neg (by omega)]
          rw [if_neg hlt, ← hE2, h2, if_neg (by decide)]
      have hv2b : 0 ≤ (if E2 = 0 then V2 else 0) ∧ (if E2 = 0 then V2 else 0) ≤ 720000000000000 := by
        rw [← hnx k.toNat (by omega)]
        split
        · exact volS_bd hv
        · omega
      have hlg : ∀ w', Kept w w' → Calls Try.prog 31 #[.slice A n cap, .int .i64 k] w' fun e w'' => ∃ (RA CA : Option Addr) (L rc cc : Nat) (wN wD : Int), e = .returned (.tuple #[.slice RA L rc, .slice CA L cc, .int .i64 0]) ∧ (0 ≤ wN ∧ wN ≤ 720000000000000) ∧ (1 ≤ wD ∧ wD ≤ 720000000000000) ∧ wN * V ≤ (if E2 = 0 then V2 else 0) * wD ∧ Kept w' w'' ∧ ∀ W', Kept w'' W' → Calls Try.prog 49 #[.slice A n cap, .slice RA L rc, .slice CA L cc] W' fun e W'' => e = .returned (.tuple #[.agg #[.int .i64 wN, .int .i64 wD], .int .i64 0]) ∧ Kept W' W'' := fun w' hkw => by
        refine (cLargest_any A n cap B m cp f k w' hn (HM.out.of hkw)).mono ?_
        rintro e w'' ⟨vr, vc, rfl, hk2, hb, -⟩
        obtain ⟨RA, CA, L, rc, cc, R, C, rfl, rfl, e1, e2, e3, e4, e5, e6, e7, e8⟩ := (hb HE.out).use hv
        rw [hVS] at e7
        obtain ⟨-, hs, ht, -⟩ := choE_0 e6
        have hd : D L (subF f R C) ≠ 0 := by
          intro q
          rw [q] at e7
          simp at e7
          omega
        have hop : opnE n m f L R L C = 0 := by
          unfold opnE
          rw [if_pos e6, if_neg hd]
        have hwb := wmat_bd e8 hs n (Nat.le_refl n)
        have hwv := wmat_vol (f := f) hs ht
        rw [hnx L e1] at hwv
        have e9 := e8.bd
        obtain ⟨q1, q2⟩ := fr_pos hwb (show 1 ≤ ((D L (subF f R C)).natAbs : Int) ∧ ((D L (subF f R C)).natAbs : Int) ≤ 720000000000000 by omega)
        have q3 := frD_pos (n := wmat f L R C (m 0) n) (d := ((D L (subF f R C)).natAbs : Int)) (by omega)
        have q4 := fr_vol (W := wmat f L R C (m 0) n) (V := if E2 = 0 then V2 else 0) (d := ((D L (subF f R C)).natAbs : Int)) hwb.1 (by omega) hwv
        have hN : wstN n m f L R L C = frN (wmat f L R C (m 0) n) ((D L (subF f R C)).natAbs : Int) := if_pos hop
        have hD : wstD n m f L R L C = frD (wmat f L R C (m 0) n) ((D L (subF f R C)).natAbs : Int) := if_pos hop
        have hl6 := e8.hl
        rw [e7] at q1 q2 q3 q4 hN hD
        refine ⟨RA, CA, L, rc, cc, _, _, by rw [HE.out], q1, ⟨by omega, q2.2⟩, q4, hk2, fun W' hW => ?_⟩
        have := cWorst_any A n cap B m cp f RA L rc R CA L cc C W' hn (by omega) (by omega) (HM.out.of ((hkw.trans hk2).trans hW)) (e4.of hW) (e5.of hW)
        rw [hN, hD, hop] at this
        exact this
      have HLG := Lib.hid hlg
      have hk6 : 0 ≤ k ∧ k ≤ 6 := by
        obtain ⟨v1, -, -, -⟩ := valE_0 hv
        omega
      have g1 : (V == 0) = false := by simpa using hz
      have g2 : decide (V = 0) = false := by simpa using hz
      clear hE hv hk hV hVS hlg hnx hE2 hV2
      go_enter Try.func13, Try.ntmps13
      go_wp2_with (first | (go_at_call 15; refine (long6_any _ _ _ _ _ _ _ _ hn (HM.out.of (by (repeat (first | exact Kept.refl _ | assumption | refine Kept.alloc ?_ _ | refine Kept.ext ?_ _ | refine Kept.drew ?_ | refine Kept.drewN ?_ _))))).mono ?_; rintro e w1 ⟨rfl, rfl⟩; rw [HL.out]) | (go_at_call 29; refine (cVolume_any _ _ _ _ _ _ _ _ _ hn (HM.out.of (by (repeat (first | exact Kept.refl _ | assumption | refine Kept.alloc ?_ _ | refine Kept.ext ?_ _ | refine Kept.drew ?_ | refine Kept.drewN ?_ _))))).mono ?_; rintro e w1 ⟨rfl, x1, rfl⟩; first | rw [HV.out, HE.out] | rw [HV2.out, HE2.out]))
      refine (HLG.out _ (by (repeat (first | exact Kept.refl _ | assumption | refine Kept.alloc ?_ _ | refine Kept.ext ?_ _ | refine Kept.drew ?_ | refine Kept.drewN ?_ _)))).mono ?_
      rintro e w1 ⟨RA, CA, L, rc, cc, wN, wD, rfl, hNb, hDb, hle, ⟨x3, rfl⟩, hws⟩
      have HWS := Lib.hid hws
      clear hws
      have d1 : decide (0 < wD) = true := decide_eq_true (by omega)
      have d2 : decide (0 ≤ wN) = true := decide_eq_true (by omega)
      by_cases h2 : E2 = 0
      · subst h2
        rw [if_pos rfl] at hle hv2b
        have ham := fun W => atmost_any wN wD V2 V W ⟨by omega, by omega, by omega, by omega⟩
        rw [decide_eq_true hle] at ham
        have HAM := Lib.hid ham
        clear hle ham
        go_wp2_with (first | (go_at_call 49; refine (HWS.out _ (by (repeat (first | exact Kept.refl _ | assumption | refine Kept.alloc ?_ _ | refine Kept.ext ?_ _ | refine Kept.drew ?_ | refine Kept.drewN ?_ _)))).mono ?_; rintro e w1 ⟨rfl, x4, rfl⟩) | (go_at_call 48; refine (HAM.out _).mono ?_; rintro e w1 ⟨rfl, x5, rfl⟩) | (go_at_call 17; refine (known6_any _).mono ?_; rintro e w1 ⟨rfl, x9, rfl⟩))
        go_ret
        exact ⟨rfl, by (repeat (first | exact Kept.refl _ | assumption | refine Kept.alloc ?_ _ | refine Kept.ext ?_ _ | refine Kept.drew ?_ | refine Kept.drewN ?_ _))⟩
      · rw [if_neg h2] at hle hv2b
        have g3 : (E2 == 0) = false := by simpa using h2
        have g4 : decide (E2 = 0) = false := by simpa using h2
        have ham := fun W => atmost_any wN wD 0 V W ⟨by omega, by omega, by omega, by omega⟩
        rw [decide_eq_true hle] at ham
        have HAM := Lib.hid ham
        clear hle ham
        go_wp2_with (first | (go_at_call 49; refine (HWS.out _ (by (repeat (first | exact Kept.refl _ | assumption | refine Kept.alloc ?_ _ | refine Kept.ext ?_ _ | refine Kept.drew ?_ | refine Kept.drewN ?_ _)))).mono ?_; rintro e w1 ⟨rfl, x4, rfl⟩) | (go_at_call 48; refine (HAM.out _).mono ?_; rintro e w1 ⟨rfl, x5, rfl⟩) | (go_at_call 17; refine (known6_any _).mono ?_; rintro e w1 ⟨rfl, x9, rfl⟩))
        go_ret
        exact ⟨rfl, by (repeat (first | exact Kept.refl _ | assumption | refine Kept.alloc ?_ _ | refine Kept.ext ?_ _ | refine Kept.drew ?_ | refine Kept.drewN ?_ _))⟩
  · have hv2 : (E == 0) = false := by simpa using h0
    have hv3 : decide (E = 0) = false := by simpa using h0
    clear hE hV
    go_enter Try.func13, Try.ntmps13
    go_wp2_with (first | (go_at_call 15; refine (long6_any _ _ _ _ _ _ _ _ hn (HM.out.of (by (repeat (first | exact Kept.refl _ | assumption | refine Kept.alloc ?_ _ | refine Kept.ext ?_ _ | refine Kept.drew ?_ | refine Kept.drewN ?_ _))))).mono ?_; rintro e w1 ⟨rfl, rfl⟩; rw [HL.out]) | (go_at_call 29; refine (cVolume_any _ _ _ _ _ _ _ _ _ hn (HM.out.of (by (repeat (first | exact Kept.refl _ | assumption | refine Kept.alloc ?_ _ | refine Kept.ext ?_ _ | refine Kept.drew ?_ | refine Kept.drewN ?_ _))))).mono ?_; rintro e w1 ⟨rfl, x1, rfl⟩; rw [HV.out, HE.out]) | (go_at_call 17; refine (known6_any _).mono ?_; rintro e w1 ⟨rfl, x9, rfl⟩))
    go_ret
    exact ⟨rfl, by (repeat (first | exact Kept.refl _ | assumption | refine Kept.alloc ?_ _ | refine Kept.ext ?_ _ | refine Kept.drew ?_ | refine Kept.drewN ?_ _))⟩
theorem ownCrossVolumeBounds : ownKnob Try.prog.godebug = none := by kernel_rfl
theorem laidOutCrossVolumeBounds : laidOutB Try.prog = true := by kernel_rfl
set_option linter.unusedVariables false in
set_option maxRecDepth 100000 in
theorem liftedCrossVolumeBounds (os : Os) (started : os.Started) (H : Type) (enc : TypeId × Value → H) :
    ReturnsInHanded {} Try.checked os 13 .any (Rows.crossVolumeBoundsSpec.pre6 enc Try.prog Try.f13 Rows.crossVolumeBoundsRow.domain false) (Rows.crossVolumeBoundsSpec.post enc Try.prog Try.f13 false true false false) := by
  refine returnsInHanded_of_change (C := Try.checked) ownCrossVolumeBounds started (by kernel_rfl) Try.func13
    (ChangeSpec.witness6 (enc := enc) (C := Try.checked) false ⟨#[], #[.slice none 0 0, .int .i64 0], []⟩ 8 (by kernel_rfl) (by kernel_rfl) (by kernel_rfl) (by kernel_rfl)) ?_
  intro W base args ds gs before hval0 hW hcnd _
  have hval : ∀ (j : Nat) t v, Try.f13.params[j]? = some t → args[j]? = some v → Value.okWide Try.prog W .any base t v := hval0
  have hW' := hW
  obtain ⟨p, q, hA0, hV, rfl, hfz, hnd⟩ := hW
  have hA : DataW.TrodAll enc Try.prog W 0 (fun _ => true) true Try.f13.params.toList args.toList ds p := hA0
  rw [Try.params13] at hA hval
  obtain ⟨v0, vs0, d0, ds0, p0, q0, hargs, rfl, rfl, h0, r0⟩ := trodAll_cons hA
  obtain ⟨v1, vs1, d1, ds1, p1, q1, rfl, rfl, rfl, h1, r1⟩ := trodAll_cons r0
  obtain ⟨rfl, rfl, rfl⟩ := trodAll_nil r1
  obtain rfl : args = #[v0, v1] := by cases args; simp_all
  obtain ⟨rfl, rfl⟩ := trodVars_none hV
  have lt0 : ∀ x ∈ p0, x.block < W.heap.size := by obtain ⟨m, hm⟩ := h0; exact DataW.trod_lt m _ _ _ hm
  obtain ⟨A0, n0, cap0, B0, m0, cp0, f0, rfl, hl0, hm0, hr0⟩ := open_mat Try.underlying22 (by kernel_rfl) Try.underlying23 (by kernel_rfl) (by kernel_rfl) (hval 0 22 v0 rfl rfl) h0 lt0
  have lt1 : ∀ x ∈ p1, x.block < W.heap.size := by obtain ⟨m, hm⟩ := h1; exact DataW.trod_lt m _ _ _ hm
  obtain ⟨z1, rfl, b1⟩ := okWide_int_bd Try.underlying3 (hval 1 3 v1 rfl rfl)
  clear hA0 hval0
  refine (cvolbounds_law A0 n0 cap0 B0 m0 cp0 f0 z1 W ⟨hl0, hm0, hr0⟩).mono fun e W' ⟨he, hk⟩ => ?_
  subst he
  have bel := hk.below
  exact ⟨_, rfl, _, _, _, [], _, [], hW', trodAll_mk1 (shut_bool Try.underlying4 _), (trodAll_cons_mk (Below.trod laidOutCrossVolumeBounds (by kernel_rfl) (of_decide_eq_true (by kernel_rfl)) h0 bel lt0) (trodAll_cons_mk (Below.trod laidOutCrossVolumeBounds (by kernel_rfl) (of_decide_eq_true (by kernel_rfl)) h1 bel lt1) trodAll_mk0)), rfl, bel.frame _, fun h => by cases h⟩
/-- For every input the statement CrossVolumeBounds returns true, and each argument reads afterwards as it read before. -/
theorem crossVolumeBounds_holds : Rows.CrossVolumeBoundsSaid :=
  OpenClaim.holds_of_wide 13 Try.f13 rfl rfl rfl rfl rfl rfl rfl ⟨rfl, rfl, rfl, rfl, rfl⟩ rfl rfl rfl rfl rfl (by kernel_rfl) Try.func13 (by kernel_rfl)
    (of_decide_eq_true (by kernel_rfl)) (by unfold Func.isWrapper; first | (rw [if_pos (by decide +kernel)]; kernel_rfl) | (rw [if_neg (by decide +kernel)]; exact ⟨rfl, rfl⟩))
    (fun os started H enc _ => liftedCrossVolumeBounds os started H enc)
#print axioms crossVolumeBounds_holds

end Go.Proofs.Ytoejdfpmmgldpaa
