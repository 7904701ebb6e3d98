/- For every input the statement CrossProducts returns true and leaves its arguments as they were. No conditions. -/
import Derived.Test.YtoejdfpmmgldpaaPe
namespace Go.Proofs.Ytoejdfpmmgldpaa
set_option linter.unusedVariables false
set_option linter.unusedSimpArgs false
open Go.ChangeShapes Go.WideShapes Go.ChangeAt Go.RowKit
set_option maxRecDepth 100000 in
set_option maxHeartbeats 16000000 in
theorem cproducts_law (A : Option Addr) (n cap : Nat) (B : Nat → Option Addr) (m cp : Nat → Nat) (f : Nat → Nat → Int) (RA : Option Addr) (rl rc : Nat) (R : Nat → Nat → Int) (CA : Option Addr) (cl cc : Nat) (C : Nat → Nat → Int) (XA : Option Addr) (xl xc : Nat) (X : Nat → Nat → Int) (w : World)
    (h : n ≤ cap ∧ cap ≤ maxLen ∧ MatAt w A n B m cp f) (h2 : (rl ≤ rc ∧ rc ≤ maxLen ∧ RowsAt w RA rl 1 R) ∧ (cl ≤ cc ∧ cc ≤ maxLen ∧ RowsAt w CA cl 1 C) ∧ (xl ≤ xc ∧ xc ≤ maxLen ∧ RowsAt w XA xl 1 X)) :
    Calls Try.prog 11 #[.slice A n cap, .agg #[.slice RA rl rc, .slice CA cl cc, .slice XA xl xc]] w fun r w' => r = .returned (.bool true) ∧ Kept w w' := by
  obtain ⟨a1, a2, hM⟩ := h
  obtain ⟨⟨b1, b2, hR⟩, ⟨c1, c2, hC⟩, d1, d2, hX⟩ := h2
  have HM := Lib.hid hM
  have HR := Lib.hid hR
  have HC := Lib.hid hC
  have HX := Lib.hid hX
  have B2 := Lib.hid (And.intro b1 b2)
  have C2 := Lib.hid (And.intro c1 c2)
  clear hM hR hC hX
  unfold maxLen at a2 b2 c2 d2
  have hn : n ≤ 9223372036854775807 := by omega
  have hrl : rl ≤ 9223372036854775807 := by omega
  have hcl : cl ≤ 9223372036854775807 := by omega
  have hxl : xl ≤ 9223372036854775807 := by omega
  clear a1 a2 b1 b2 c1 c2 d1 d2
  cases hl : longB n m
  case true =>
    have HL := Lib.hid hl
    clear hl
    go_enter Try.func11, Try.ntmps11
    go_wp2_with (first | (go_at_call 15; refine (long6_any _ _ _ _ _ _ _ _ hn (HM.out.of (by (repeat (first | exact Kept.refl _ | assumption | refine Kept.alloc ?_ _ | refine Kept.ext ?_ _ | refine Kept.drew ?_ | refine Kept.drewN ?_ _))))).mono ?_; rintro e w1 ⟨rfl, rfl⟩; rw [HL.out]) | (go_at_call 17; refine (known6_any _).mono ?_; rintro e w1 ⟨rfl, x9, rfl⟩))
    go_ret
    exact ⟨rfl, by (repeat (first | exact Kept.refl _ | assumption | refine Kept.alloc ?_ _ | refine Kept.ext ?_ _ | refine Kept.drew ?_ | refine Kept.drewN ?_ _))⟩
  have HL := Lib.hid hl
  clear hl
  by_cases g1 : (40 : Int) < rl
  · have e1 : decide ((40 : Int) < rl) = true := decide_eq_true g1
    go_enter Try.func11, Try.ntmps11
    go_wp2_with (first | (go_at_call 15; refine (long6_any _ _ _ _ _ _ _ _ hn (HM.out.of (by (repeat (first | exact Kept.refl _ | assumption | refine Kept.alloc ?_ _ | refine Kept.ext ?_ _ | refine Kept.drew ?_ | refine Kept.drewN ?_ _))))).mono ?_; rintro e w1 ⟨rfl, rfl⟩; rw [HL.out]) | (go_at_call 17; refine (known6_any _).mono ?_; rintro e w1 ⟨rfl, x9, rfl⟩))
    go_ret
    exact ⟨rfl, by (repeat (first | exact Kept.refl _ | assumption | refine Kept.alloc ?_ _ | refine Kept.ext ?_ _ | refine Kept.drew ?_ | refine Kept.drewN ?_ _))⟩
  have e1 : decide ((40 : Int) < rl) = false := decide_eq_false g1
  by_cases g2 : (40 : Int) < cl
  · have e2 : decide ((40 : Int) < cl) = true := decide_eq_true g2
    go_enter Try.func11, Try.ntmps11
    go_wp2_with (first | (go_at_call 15; refine (long6_any _ _ _ _ _ _ _ _ hn (HM.out.of (by (repeat (first | exact Kept.refl _ | assumption | refine Kept.alloc ?_ _ | refine Kept.ext ?_ _ | refine Kept.drew ?_ | refine Kept.drewN ?_ _))))).mono ?_; rintro e w1 ⟨rfl, rfl⟩; rw [HL.out]) | (go_at_call 17; refine (known6_any _).mono ?_; rintro e w1 ⟨rfl, x9, rfl⟩))
    go_ret
    exact ⟨rfl, by (repeat (first | exact Kept.refl _ | assumption | refine Kept.alloc ?_ _ | refine Kept.ext ?_ _ | refine Kept.drew ?_ | refine Kept.drewN ?_ _))⟩
  have e2 : decide ((40 : Int) < cl) = false := decide_eq_false g2
  by_cases g3 : (40 : Int) < xl
  · have e3 : decide ((40 : Int) < xl) = true := decide_eq_true g3
    go_enter Try.func11, Try.ntmps11
    go_wp2_with (first | (go_at_call 15; refine (long6_any _ _ _ _ _ _ _ _ hn (HM.out.of (by (repeat (first | exact Kept.refl _ | assumption | refine Kept.alloc ?_ _ | refine Kept.ext ?_ _ | refine Kept.drew ?_ | refine Kept.drewN ?_ _))))).mono ?_; rintro e w1 ⟨rfl, rfl⟩; rw [HL.out]) | (go_at_call 17; refine (known6_any _).mono ?_; rintro e w1 ⟨rfl, x9, rfl⟩))
    go_ret
    exact ⟨rfl, by (repeat (first | exact Kept.refl _ | assumption | refine Kept.alloc ?_ _ | refine Kept.ext ?_ _ | refine Kept.drew ?_ | refine Kept.drewN ?_ _))⟩
  have e3 : decide ((40 : Int) < xl) = false := decide_eq_false g3
  go_enter Try.func11, Try.ntmps11
  go_wp2_with (first | (go_at_call 15; refine (long6_any _ _ _ _ _ _ _ _ hn (HM.out.of (by (repeat (first | exact Kept.refl _ | assumption | refine Kept.alloc ?_ _ | refine Kept.ext ?_ _ | refine Kept.drew ?_ | refine Kept.drewN ?_ _))))).mono ?_; rintro e w1 ⟨rfl, rfl⟩; rw [HL.out]) | (go_at_call 17; refine (known6_any _).mono ?_; rintro e w1 ⟨rfl, x9, rfl⟩) | (go_at_call 40; refine (cProd_any _ _ _ _ _ _ _ _ _ _ _ _ hn hxl (HM.out.of (by (repeat (first | exact Kept.refl _ | assumption | refine Kept.alloc ?_ _ | refine Kept.ext ?_ _ | refine Kept.drew ?_ | refine Kept.drewN ?_ _)))) (HX.out.of (by (repeat (first | exact Kept.refl _ | assumption | refine Kept.alloc ?_ _ | refine Kept.ext ?_ _ | refine Kept.drew ?_ | refine Kept.drewN ?_ _))))).mono ?_; rintro e w1 ⟨O1, o1, rfl, ⟨y1, rfl⟩, hq1⟩; have HQ1 := Lib.hid hq1; clear hq1) | (go_at_call 41; refine (r6Prod_any _ _ _ _ _ _ _ _ _ _ _ _ hn hxl (HM.out.of (by (repeat (first | exact Kept.refl _ | assumption | refine Kept.alloc ?_ _ | refine Kept.ext ?_ _ | refine Kept.drew ?_ | refine Kept.drewN ?_ _)))) (HX.out.of (by (repeat (first | exact Kept.refl _ | assumption | refine Kept.alloc ?_ _ | refine Kept.ext ?_ _ | refine Kept.drew ?_ | refine Kept.drewN ?_ _))))).mono ?_; rintro e w1 ⟨O2, o2, rfl, ⟨y2, rfl⟩, hq2⟩; have HQ2 := Lib.hid hq2; clear hq2) | (go_at_call 42; refine (cFast_any _ _ _ _ _ _ _ _ _ _ _ _ _ _ _ _ _ _ _ _ hn hrl hcl hxl (HM.out.of (by (repeat (first | exact Kept.refl _ | assumption | refine Kept.alloc ?_ _ | refine Kept.ext ?_ _ | refine Kept.drew ?_ | refine Kept.drewN ?_ _)))) (HR.out.of (by (repeat (first | exact Kept.refl _ | assumption | refine Kept.alloc ?_ _ | refine Kept.ext ?_ _ | refine Kept.drew ?_ | refine Kept.drewN ?_ _)))) (HC.out.of (by (repeat (first | exact Kept.refl _ | assumption | refine Kept.alloc ?_ _ | refine Kept.ext ?_ _ | refine Kept.drew ?_ | refine Kept.drewN ?_ _)))) (HX.out.of (by (repeat (first | exact Kept.refl _ | assumption | refine Kept.alloc ?_ _ | refine Kept.ext ?_ _ | refine Kept.drew ?_ | refine Kept.drewN ?_ _))))).mono ?_; rintro e w1 ⟨O3, o3, rfl, ⟨y3, rfl⟩, hq3⟩; have HQ3 := Lib.hid hq3; clear hq3) | (go_at_call 43; refine (r6Fast_any _ _ _ _ _ _ _ _ _ _ _ _ _ _ _ _ _ _ _ _ hn B2.out C2.out hxl (HM.out.of (by (repeat (first | exact Kept.refl _ | assumption | refine Kept.alloc ?_ _ | refine Kept.ext ?_ _ | refine Kept.drew ?_ | refine Kept.drewN ?_ _)))) (HR.out.of (by (repeat (first | exact Kept.refl _ | assumption | refine Kept.alloc ?_ _ | refine Kept.ext ?_ _ | refine Kept.drew ?_ | refine Kept.drewN ?_ _)))) (HC.out.of (by (repeat (first | exact Kept.refl _ | assumption | refine Kept.alloc ?_ _ | refine Kept.ext ?_ _ | refine Kept.drew ?_ | refine Kept.drewN ?_ _)))) (HX.out.of (by (repeat (first | exact Kept.refl _ | assumption | refine Kept.alloc ?_ _ | refine Kept.ext ?_ _ | refine Kept.drew ?_ | refine Kept.drewN ?_ _))))).mono ?_; rintro e w1 ⟨O4, o4, rfl, ⟨y4, rfl⟩, hq4⟩; have HQ4 := Lib.hid hq4; clear hq4) | (go_at_call 44; refine (cOff_any _ _ _ _ _ _ _ _ _ _ _ _ _ _ _ _ _ _ _ _ hn hrl hcl hxl (HM.out.of (by (repeat (first | exact Kept.refl _ | assumption | refine Kept.alloc ?_ _ | refine Kept.ext ?_ _ | refine Kept.drew ?_ | refine Kept.drewN ?_ _)))) (HR.out.of (by (repeat (first | exact Kept.refl _ | assumption | refine Kept.alloc ?_ _ | refine Kept.ext ?_ _ | refine Kept.drew ?_ | refine Kept.drewN ?_ _)))) (HC.out.of (by (repeat (first | exact Kept.refl _ | assumption | refine Kept.alloc ?_ _ | refine Kept.ext ?_ _ | refine Kept.drew ?_ | refine Kept.drewN ?_ _)))) (HX.out.of (by (repeat (first | exact Kept.refl _ | assumption | refine Kept.alloc ?_ _ | refine Kept.ext ?_ _ | refine Kept.drew ?_ | refine Kept.drewN ?_ _))))).mono ?_; rintro e w1 ⟨rfl, y5, rfl⟩) | (go_at_call 45; refine (r6Off_any _ _ _ _ _ _ _ _ _ _ _ _ _ _ _ _ _ _ _ _ hn B2.out C2.out hxl (HM.out.of (by (repeat (first | exact Kept.refl _ | assumption | refine Kept.alloc ?_ _ | refine Kept.ext ?_ _ | refine Kept.drew ?_ | refine Kept.drewN ?_ _)))) (HR.out.of (by (repeat (first | exact Kept.refl _ | assumption | refine Kept.alloc ?_ _ | refine Kept.ext ?_ _ | refine Kept.drew ?_ | refine Kept.drewN ?_ _)))) (HC.out.of (by (repeat (first | exact Kept.refl _ | assumption | refine Kept.alloc ?_ _ | refine Kept.ext ?_ _ | refine Kept.drew ?_ | refine Kept.drewN ?_ _)))) (HX.out.of (by (repeat (first | exact Kept.refl _ | assumption | refine Kept.alloc ?_ _ | refine Kept.ext ?_ _ | refine Kept.drew ?_ | refine Kept.drewN ?_ _))))).mono ?_; rintro e w1 ⟨rfl, y6, rfl⟩) | (go_at_call 46; refine (sameInts_any _ _ _ _ _ _ _ (Nat.le_trans prL_le hn) (HQ1.out.of (by (repeat (first | exact Kept.refl _ | assumption | refine Kept.alloc ?_ _ | refine Kept.ext ?_ _ | refine Kept.drew ?_ | refine Kept.drewN ?_ _)))) (HQ2.out.of (by (repeat (first | exact Kept.refl _ | assumption | refine Kept.alloc ?_ _ | refine Kept.ext ?_ _ | refine Kept.drew ?_ | refine Kept.drewN ?_ _))))).mono ?_; rintro e w1 ⟨rfl, y7, rfl⟩) | (go_at_call 47; refine (sameRats_any _ _ _ _ _ _ _ (Nat.le_trans fsL_le hn) (HQ3.out.of (by (repeat (first | exact Kept.refl _ | assumption | refine Kept.alloc ?_ _ | refine Kept.ext ?_ _ | refine Kept.drew ?_ | refine Kept.drewN ?_ _)))) (HQ4.out.of (by (repeat (first | exact Kept.refl _ | assumption | refine Kept.alloc ?_ _ | refine Kept.ext ?_ _ | refine Kept.drew ?_ | refine Kept.drewN ?_ _))))).mono ?_; rintro e w1 ⟨rfl, y8, rfl⟩))
  go_ret
  exact ⟨rfl, by (repeat (first | exact Kept.refl _ | assumption | refine Kept.alloc ?_ _ | refine Kept.ext ?_ _ | refine Kept.drew ?_ | refine Kept.drewN ?_ _))⟩
theorem ownCrossProducts : ownKnob Try.prog.godebug = none := by kernel_rfl
theorem laidOutCrossProducts : laidOutB Try.prog = true := by kernel_rfl
set_option linter.unusedVariables false in
set_option maxRecDepth 100000 in
theorem liftedCrossProducts (os : Os) (started : os.Started) (H : Type) (enc : TypeId × Value → H) :
    ReturnsInHanded {} Try.checked os 11 .any (Rows.crossProductsSpec.pre6 enc Try.prog Try.f11 Rows.crossProductsRow.domain false) (Rows.crossProductsSpec.post enc Try.prog Try.f11 false true false false) := by
  refine returnsInHanded_of_change (C := Try.checked) ownCrossProducts started (by kernel_rfl) Try.func11
    (ChangeSpec.witness6 (enc := enc) (C := Try.checked) false ⟨#[], #[.slice none 0 0, .agg #[.slice none 0 0, .slice none 0 0, .slice none 0 0]], []⟩ 8 (by kernel_rfl) (by kernel_rfl) (by kernel_rfl) (by kernel_rfl)) ?_
  intro W base args ds gs before hval0 hW hcnd _
  have hval : ∀ (j : Nat) t v, Try.f11.params[j]? = some t → args[j]? = some v → Value.okWide Try.prog W .any base t v := hval0
  have hW' := hW
  obtain ⟨p, q, hA0, hV, rfl, hfz, hnd⟩ := hW
  have hA : DataW.TrodAll enc Try.prog W 0 (fun _ => true) true Try.f11.params.toList args.toList ds p := hA0
  rw [Try.params11] at hA hval
  obtain ⟨v0, vs0, d0, ds0, p0, q0, hargs, rfl, rfl, h0, r0⟩ := trodAll_cons hA
  obtain ⟨v1, vs1, d1, ds1, p1, q1, rfl, rfl, rfl, h1, r1⟩ := trodAll_cons r0
  obtain ⟨rfl, rfl, rfl⟩ := trodAll_nil r1
  obtain rfl : args = #[v0, v1] := by cases args; simp_all
  obtain ⟨rfl, rfl⟩ := trodVars_none hV
  have lt0 : ∀ x ∈ p0, x.block < W.heap.size := by obtain ⟨m, hm⟩ := h0; exact DataW.trod_lt m _ _ _ hm
  obtain ⟨A0, n0, cap0, B0, m0, cp0, f0, rfl, hl0, hm0, hr0⟩ := open_mat Try.underlying22 (by kernel_rfl) Try.underlying23 (by kernel_rfl) (by kernel_rfl) (hval 0 22 v0 rfl rfl) h0 lt0
  have lt1 : ∀ x ∈ p1, x.block < W.heap.size := by obtain ⟨m, hm⟩ := h1; exact DataW.trod_lt m _ _ _ hm
  obtain ⟨A1, n1, cap1, f1, B1, m1, capb1, g1, C1, l1, capc1, u1, rfl, hpa1, hpb1, hpc1⟩ := open_work _ _ _ 58 3 Try.underlying58 ⟨rfl, rfl, rfl, by kernel_rfl, by kernel_rfl, by kernel_rfl, by kernel_rfl⟩ Try.underlying23 Try.underlying23 Try.underlying23 (by kernel_rfl) (by kernel_rfl) (hval 1 58 v1 rfl rfl) h1 lt1
  clear hA0 hval0
  refine (cproducts_law A0 n0 cap0 B0 m0 cp0 f0 A1 n1 cap1 f1 B1 m1 capb1 g1 C1 l1 capc1 u1 W ⟨hl0, hm0, hr0⟩ ⟨hpa1, hpb1, hpc1⟩).mono fun e W' ⟨he, hk⟩ => ?_
  subst he
  have bel := hk.below
  exact ⟨_, rfl, _, _, _, [], _, [], hW', trodAll_mk1 (shut_bool Try.underlying4 _), (trodAll_cons_mk (Below.trod laidOutCrossProducts (by kernel_rfl) (of_decide_eq_true (by kernel_rfl)) h0 bel lt0) (trodAll_cons_mk (Below.trod laidOutCrossProducts (by kernel_rfl) (of_decide_eq_true (by kernel_rfl)) h1 bel lt1) trodAll_mk0)), rfl, bel.frame _, fun h => by cases h⟩
/-- For every input the statement CrossProducts returns true, and each argument reads afterwards as it read before. -/
theorem crossProducts_holds : Rows.CrossProductsSaid :=
  OpenClaim.holds_of_wide 11 Try.f11 rfl rfl rfl rfl rfl rfl rfl ⟨rfl, rfl, rfl, rfl, rfl⟩ rfl rfl rfl rfl rfl (by kernel_rfl) Try.func11 (by kernel_rfl)
    (of_decide_eq_true (by kernel_rfl)) (by unfold Func.isWrapper; first | (rw [if_pos (by decide +kernel)]; kernel_rfl) | (rw [if_neg (by decide +kernel)]; exact ⟨rfl, rfl⟩))
    (fun os started H enc _ => liftedCrossProducts os started H enc)
#print axioms crossProducts_holds

end Go.Proofs.Ytoejdfpmmgldpaa
