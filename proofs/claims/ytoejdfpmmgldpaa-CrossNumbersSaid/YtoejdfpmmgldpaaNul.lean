/- For every input the statement CrossNumbers returns true and leaves its arguments as they were. No conditions. -/
import Derived.Test.YtoejdfpmmgldpaaNu
namespace Go.Proofs.Ytoejdfpmmgldpaa
set_option linter.unusedVariables false
set_option linter.unusedSimpArgs false
open Go.ChangeShapes Go.WideShapes Go.ChangeAt Go.RowKit
set_option maxRecDepth 100000 in
set_option maxHeartbeats 16000000 in
theorem cnumbers_law (A : Option Addr) (n cap : Nat) (B : Nat → Option Addr) (m cp : Nat → Nat) (f : Nat → Nat → Int) (RA : Option Addr) (rl rc : Nat) (R : Nat → Nat → Int) (w : World)
    (h : n ≤ cap ∧ cap ≤ maxLen ∧ MatAt w A n B m cp f) (h2 : rl ≤ rc ∧ rc ≤ maxLen ∧ RowsAt w RA rl 1 R) :
    Calls Try.prog 5 #[.slice A n cap, .slice RA rl rc] w fun r w' => r = .returned (.bool true) ∧ Kept w w' := by
  obtain ⟨a1, a2, hM⟩ := h
  obtain ⟨b1, b2, hR⟩ := h2
  have HM := Lib.hid hM
  have HR := Lib.hid hR
  clear hM hR
  unfold maxLen at a2 b2
  have hn : n ≤ 9223372036854775807 := by omega
  have hrl : rl ≤ 9223372036854775807 := by omega
  cases hl : longB n m
  case true =>
    have HL := Lib.hid hl
    clear hl
    go_enter Try.func5, Try.ntmps5
    go_wp2_with (first | (go_at_call 15; refine (long6_any _ _ _ _ _ _ _ _ hn (HM.out.of (by (repeat (first | exact Kept.refl _ | assumption | refine Kept.alloc ?_ _ | refine Kept.ext ?_ _ | refine Kept.drew ?_ | refine Kept.drewN ?_ _))))).mono ?_; rintro e w1 ⟨rfl, rfl⟩; rw [HL.out]) | (go_at_call 17; refine (known6_any _).mono ?_; rintro e w1 ⟨rfl, x9, rfl⟩))
    go_ret
    exact ⟨rfl, by (repeat (first | exact Kept.refl _ | assumption | refine Kept.alloc ?_ _ | refine Kept.ext ?_ _ | refine Kept.drew ?_ | refine Kept.drewN ?_ _))⟩
  have HL := Lib.hid hl
  clear hl
  by_cases h40 : 40 < rl
  · have g1 : decide (40 < rl) = true := decide_eq_true h40
    have g2 : decide ((40 : Int) < rl) = true := decide_eq_true (by omega)
    go_enter Try.func5, Try.ntmps5
    go_wp2_with (first | (go_at_call 15; refine (long6_any _ _ _ _ _ _ _ _ hn (HM.out.of (by (repeat (first | exact Kept.refl _ | assumption | refine Kept.alloc ?_ _ | refine Kept.ext ?_ _ | refine Kept.drew ?_ | refine Kept.drewN ?_ _))))).mono ?_; rintro e w1 ⟨rfl, rfl⟩; rw [HL.out]) | (go_at_call 17; refine (known6_any _).mono ?_; rintro e w1 ⟨rfl, x9, rfl⟩))
    go_ret
    exact ⟨rfl, by (repeat (first | exact Kept.refl _ | assumption | refine Kept.alloc ?_ _ | refine Kept.ext ?_ _ | refine Kept.drew ?_ | refine Kept.drewN ?_ _))⟩
  have g1 : decide (40 < rl) = false := decide_eq_false h40
  have g2 : decide ((40 : Int) < rl) = false := decide_eq_false (by omega)
  go_enter Try.func5, Try.ntmps5
  go_wp2_with (first | (go_at_call 15; refine (long6_any _ _ _ _ _ _ _ _ hn (HM.out.of (by (repeat (first | exact Kept.refl _ | assumption | refine Kept.alloc ?_ _ | refine Kept.ext ?_ _ | refine Kept.drew ?_ | refine Kept.drewN ?_ _))))).mono ?_; rintro e w1 ⟨rfl, rfl⟩; rw [HL.out]) | (go_at_call 17; refine (known6_any _).mono ?_; rintro e w1 ⟨rfl, x9, rfl⟩) | (go_at_call 24; refine (cNum_any _ _ _ _ _ _ _ _ _ _ _ _ hn hrl (HM.out.of (by (repeat (first | exact Kept.refl _ | assumption | refine Kept.alloc ?_ _ | refine Kept.ext ?_ _ | refine Kept.drew ?_ | refine Kept.drewN ?_ _)))) (HR.out.of (by (repeat (first | exact Kept.refl _ | assumption | refine Kept.alloc ?_ _ | refine Kept.ext ?_ _ | refine Kept.drew ?_ | refine Kept.drewN ?_ _))))).mono ?_; rintro e w1 ⟨rfl, x1, rfl⟩) | (go_at_call 25; refine (r6Num_any _ _ _ _ _ _ _ _ _ _ _ _ hn hrl (HM.out.of (by (repeat (first | exact Kept.refl _ | assumption | refine Kept.alloc ?_ _ | refine Kept.ext ?_ _ | refine Kept.drew ?_ | refine Kept.drewN ?_ _)))) (HR.out.of (by (repeat (first | exact Kept.refl _ | assumption | refine Kept.alloc ?_ _ | refine Kept.ext ?_ _ | refine Kept.drew ?_ | refine Kept.drewN ?_ _))))).mono ?_; rintro e w1 ⟨rfl, x2, rfl⟩))
  go_ret
  exact ⟨rfl, by (repeat (first | exact Kept.refl _ | assumption | refine Kept.alloc ?_ _ | refine Kept.ext ?_ _ | refine Kept.drew ?_ | refine Kept.drewN ?_ _))⟩
theorem ownCrossNumbers : ownKnob Try.prog.godebug = none := by kernel_rfl
theorem laidOutCrossNumbers : laidOutB Try.prog = true := by kernel_rfl
set_option linter.unusedVariables false in
set_option maxRecDepth 100000 in
theorem liftedCrossNumbers (os : Os) (started : os.Started) (H : Type) (enc : TypeId × Value → H) :
    ReturnsInHanded {} Try.checked os 5 .any (Rows.crossNumbersSpec.pre6 enc Try.prog Try.f5 Rows.crossNumbersRow.domain false) (Rows.crossNumbersSpec.post enc Try.prog Try.f5 false true false false) := by
  refine returnsInHanded_of_change (C := Try.checked) ownCrossNumbers started (by kernel_rfl) Try.func5
    (ChangeSpec.witness6 (enc := enc) (C := Try.checked) false ⟨#[], #[.slice none 0 0, .slice none 0 0], []⟩ 8 (by kernel_rfl) (by kernel_rfl) (by kernel_rfl) (by kernel_rfl)) ?_
  intro W base args ds gs before hval0 hW hcnd _
  have hval : ∀ (j : Nat) t v, Try.f5.params[j]? = some t → args[j]? = some v → Value.okWide Try.prog W .any base t v := hval0
  have hW' := hW
  obtain ⟨p, q, hA0, hV, rfl, hfz, hnd⟩ := hW
  have hA : DataW.TrodAll enc Try.prog W 0 (fun _ => true) true Try.f5.params.toList args.toList ds p := hA0
  rw [Try.params5] at hA hval
  obtain ⟨v0, vs0, d0, ds0, p0, q0, hargs, rfl, rfl, h0, r0⟩ := trodAll_cons hA
  obtain ⟨v1, vs1, d1, ds1, p1, q1, rfl, rfl, rfl, h1, r1⟩ := trodAll_cons r0
  obtain ⟨rfl, rfl, rfl⟩ := trodAll_nil r1
  obtain rfl : args = #[v0, v1] := by cases args; simp_all
  obtain ⟨rfl, rfl⟩ := trodVars_none hV
  have lt0 : ∀ x ∈ p0, x.block < W.heap.size := by obtain ⟨m, hm⟩ := h0; exact DataW.trod_lt m _ _ _ hm
  obtain ⟨A0, n0, cap0, B0, m0, cp0, f0, rfl, hl0, hm0, hr0⟩ := open_mat Try.underlying22 (by kernel_rfl) Try.underlying23 (by kernel_rfl) (by kernel_rfl) (hval 0 22 v0 rfl rfl) h0 lt0
  have lt1 : ∀ x ∈ p1, x.block < W.heap.size := by obtain ⟨m, hm⟩ := h1; exact DataW.trod_lt m _ _ _ hm
  obtain ⟨A1, n1, cap1, f1, rfl, hl1, hm1, hr1⟩ := open_rows 1 Try.underlying23 (by kernel_rfl) (by decide) (by kernel_rfl) (hval 1 23 v1 rfl rfl) h1 lt1
  clear hA0 hval0
  refine (cnumbers_law A0 n0 cap0 B0 m0 cp0 f0 A1 n1 cap1 f1 W ⟨hl0, hm0, hr0⟩ ⟨hl1, hm1, hr1⟩).mono fun e W' ⟨he, hk⟩ => ?_
  subst he
  have bel := hk.below
  exact ⟨_, rfl, _, _, _, [], _, [], hW', trodAll_mk1 (shut_bool Try.underlying4 _), (trodAll_cons_mk (Below.trod laidOutCrossNumbers (by kernel_rfl) (of_decide_eq_true (by kernel_rfl)) h0 bel lt0) (trodAll_cons_mk (Below.trod laidOutCrossNumbers (by kernel_rfl) (of_decide_eq_true (by kernel_rfl)) h1 bel lt1) trodAll_mk0)), rfl, bel.frame _, fun h => by cases h⟩
/-- For every input the statement CrossNumbers returns true, and each argument reads afterwards as it read before. -/
theorem crossNumbers_holds : Rows.CrossNumbersSaid :=
  OpenClaim.holds_of_wide 5 Try.f5 rfl rfl rfl rfl rfl rfl rfl ⟨rfl, rfl, rfl, rfl, rfl⟩ rfl rfl rfl rfl rfl (by kernel_rfl) Try.func5 (by kernel_rfl)
    (of_decide_eq_true (by kernel_rfl)) (by unfold Func.isWrapper; first | (rw [if_pos (by decide +kernel)]; kernel_rfl) | (rw [if_neg (by decide +kernel)]; exact ⟨rfl, rfl⟩))
    (fun os started H enc _ => liftedCrossNumbers os started H enc)
#print axioms crossNumbers_holds

end Go.Proofs.Ytoejdfpmmgldpaa
