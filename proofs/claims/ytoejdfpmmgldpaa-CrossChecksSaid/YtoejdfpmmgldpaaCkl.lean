/- For every input the statement CrossChecks returns true and leaves its arguments as they were. No conditions. -/
import Derived.Test.YtoejdfpmmgldpaaCk
namespace Go.Proofs.Ytoejdfpmmgldpaa
set_option linter.unusedVariables false
set_option linter.unusedSimpArgs false
open Go.ChangeShapes Go.WideShapes Go.ChangeAt Go.RowKit
set_option maxRecDepth 100000 in
set_option maxHeartbeats 16000000 in
theorem cchecks_law (A : Option Addr) (n cap : Nat) (B : Nat → Option Addr) (m cp : Nat → Nat) (f : Nat → Nat → Int) (RA : Option Addr) (rl rc : Nat) (R : Nat → Nat → Int) (CA : Option Addr) (cl cc : Nat) (C : Nat → Nat → Int) (p q : Int) (w : World)
    (h : n ≤ cap ∧ cap ≤ maxLen ∧ MatAt w A n B m cp f) (h2 : (rl ≤ rc ∧ rc ≤ maxLen ∧ RowsAt w RA rl 1 R) ∧ (cl ≤ cc ∧ cc ≤ maxLen ∧ RowsAt w CA cl 1 C)) :
    Calls Try.prog 7 #[.slice A n cap, .agg #[.slice RA rl rc, .slice CA cl cc], .agg #[.int .i64 p, .int .i64 q]] w fun r w' => r = .returned (.bool true) ∧ Kept w w' := by
  obtain ⟨a1, a2, hM⟩ := h
  obtain ⟨⟨b1, b2, hR⟩, c1, c2, hC⟩ := h2
  have HM := Lib.hid hM
  have HR := Lib.hid hR
  have HC := Lib.hid hC
  have B2 := Lib.hid (And.intro b1 b2)
  have C2 := Lib.hid (And.intro c1 c2)
  clear hM hR hC
  unfold maxLen at a2 b2 c2
  have hn : n ≤ 9223372036854775807 := by omega
  have hrl : rl ≤ 9223372036854775807 := by omega
  have hcl : cl ≤ 9223372036854775807 := by omega
  cases hl : longB n m
  case true =>
    have HL := Lib.hid hl
    clear hl
    go_enter Try.func7, Try.ntmps7
    go_wp2_with (first | (go_at_call 15; refine (long6_any _ _ _ _ _ _ _ _ hn (HM.out.of (by (repeat (first | exact Kept.refl _ | assumption | refine Kept.alloc ?_ _ | refine Kept.ext ?_ _ | refine Kept.drew ?_ | refine Kept.drewN ?_ _))))).mono ?_; rintro e w1 ⟨rfl, rfl⟩; rw [HL.out]) | (go_at_call 17; refine (known6_any _).mono ?_; rintro e w1 ⟨rfl, x9, rfl⟩))
    go_ret
    exact ⟨rfl, by (repeat (first | exact Kept.refl _ | assumption | refine Kept.alloc ?_ _ | refine Kept.ext ?_ _ | refine Kept.drew ?_ | refine Kept.drewN ?_ _))⟩
  cases hy : manyB rl cl
  case true =>
    have HL := Lib.hid hl
    have HY := Lib.hid hy
    clear hl hy
    go_enter Try.func7, Try.ntmps7
    go_wp2_with (first | (go_at_call 15; refine (long6_any _ _ _ _ _ _ _ _ hn (HM.out.of (by (repeat (first | exact Kept.refl _ | assumption | refine Kept.alloc ?_ _ | refine Kept.ext ?_ _ | refine Kept.drew ?_ | refine Kept.drewN ?_ _))))).mono ?_; rintro e w1 ⟨rfl, rfl⟩; rw [HL.out]) | (go_at_call 16; refine (many6_any _ _ _ _ _ _ _).mono ?_; rintro e w1 ⟨rfl, x8, rfl⟩; rw [HY.out]) | (go_at_call 17; refine (known6_any _).mono ?_; rintro e w1 ⟨rfl, x9, rfl⟩))
    go_ret
    exact ⟨rfl, by (repeat (first | exact Kept.refl _ | assumption | refine Kept.alloc ?_ _ | refine Kept.ext ?_ _ | refine Kept.drew ?_ | refine Kept.drewN ?_ _))⟩
  have HL := Lib.hid hl
  have HY := Lib.hid hy
  clear hl hy
  go_enter Try.func7, Try.ntmps7
  go_wp2_with (first | (go_at_call 15; refine (long6_any _ _ _ _ _ _ _ _ hn (HM.out.of (by (repeat (first | exact Kept.refl _ | assumption | refine Kept.alloc ?_ _ | refine Kept.ext ?_ _ | refine Kept.drew ?_ | refine Kept.drewN ?_ _))))).mono ?_; rintro e w1 ⟨rfl, rfl⟩; rw [HL.out]) | (go_at_call 16; refine (many6_any _ _ _ _ _ _ _).mono ?_; rintro e w1 ⟨rfl, x8, rfl⟩; rw [HY.out]) | (go_at_call 17; refine (known6_any _).mono ?_; rintro e w1 ⟨rfl, x9, rfl⟩) )
  ((first | (with_reducible refine wp_region_kept2 (by kernel_rfl) (by kernel_rfl) ?_) | refine wp_region_kept (by kernel_rfl) (by kernel_rfl) ?_); (repeat (go_big_quiet_step (first | (go_at_call 27; exact Calls.kept_of (cChk_any _ _ _ _ _ _ _ _ _ _ _ _ _ _ _ _ _ _ hn hrl hcl (HM.out.of (by (repeat (first | exact Kept.refl _ | assumption | refine Kept.alloc ?_ _ | refine Kept.ext ?_ _ | refine Kept.drew ?_ | refine Kept.drewN ?_ _)))) (HR.out.of (by (repeat (first | exact Kept.refl _ | assumption | refine Kept.alloc ?_ _ | refine Kept.ext ?_ _ | refine Kept.drew ?_ | refine Kept.drewN ?_ _)))) (HC.out.of (by (repeat (first | exact Kept.refl _ | assumption | refine Kept.alloc ?_ _ | refine Kept.ext ?_ _ | refine Kept.drew ?_ | refine Kept.drewN ?_ _)))))) | (go_at_call 28; exact Calls.kept_of (r6Chk_any _ _ _ _ _ _ _ _ _ _ _ _ _ _ _ _ _ _ hn B2.out C2.out (HM.out.of (by (repeat (first | exact Kept.refl _ | assumption | refine Kept.alloc ?_ _ | refine Kept.ext ?_ _ | refine Kept.drew ?_ | refine Kept.drewN ?_ _)))) (HR.out.of (by (repeat (first | exact Kept.refl _ | assumption | refine Kept.alloc ?_ _ | refine Kept.ext ?_ _ | refine Kept.drew ?_ | refine Kept.drewN ?_ _)))) (HC.out.of (by (repeat (first | exact Kept.refl _ | assumption | refine Kept.alloc ?_ _ | refine Kept.ext ?_ _ | refine Kept.drew ?_ | refine Kept.drewN ?_ _)))))) | (go_at_call 17; exact Calls.kept_of (known6_any _))))); refine wpQuiet_nil ?_; intro x)
  go_wp2
  go_ret
  exact ⟨rfl, by (repeat (first | exact Kept.refl _ | assumption | refine Kept.alloc ?_ _ | refine Kept.ext ?_ _ | refine Kept.drew ?_ | refine Kept.drewN ?_ _))⟩
theorem ownCrossChecks : ownKnob Try.prog.godebug = none := by kernel_rfl
theorem laidOutCrossChecks : laidOutB Try.prog = true := by kernel_rfl
set_option linter.unusedVariables false in
set_option maxRecDepth 100000 in
theorem liftedCrossChecks (os : Os) (started : os.Started) (H : Type) (enc : TypeId × Value → H) :
    ReturnsInHanded {} Try.checked os 7 .any (Rows.crossChecksSpec.pre6 enc Try.prog Try.f7 Rows.crossChecksRow.domain false) (Rows.crossChecksSpec.post enc Try.prog Try.f7 false true false false) := by
  refine returnsInHanded_of_change (C := Try.checked) ownCrossChecks started (by kernel_rfl) Try.func7
    (ChangeSpec.witness6 (enc := enc) (C := Try.checked) false ⟨#[], #[.slice none 0 0, .agg #[.slice none 0 0, .slice none 0 0], .agg #[.int .i64 0, .int .i64 0]], []⟩ 8 (by kernel_rfl) (by kernel_rfl) (by kernel_rfl) (by kernel_rfl)) ?_
  intro W base args ds gs before hval0 hW hcnd _
  have hval : ∀ (j : Nat) t v, Try.f7.params[j]? = some t → args[j]? = some v → Value.okWide Try.prog W .any base t v := hval0
  have hW' := hW
  obtain ⟨p, q, hA0, hV, rfl, hfz, hnd⟩ := hW
  have hA : DataW.TrodAll enc Try.prog W 0 (fun _ => true) true Try.f7.params.toList args.toList ds p := hA0
  rw [Try.params7] at hA hval
  obtain ⟨v0, vs0, d0, ds0, p0, q0, hargs, rfl, rfl, h0, r0⟩ := trodAll_cons hA
  obtain ⟨v1, vs1, d1, ds1, p1, q1, rfl, rfl, rfl, h1, r1⟩ := trodAll_cons r0
  obtain ⟨v2, vs2, d2, ds2, p2, q2, rfl, rfl, rfl, h2, r2⟩ := trodAll_cons r1
  obtain ⟨rfl, rfl, rfl⟩ := trodAll_nil r2
  obtain rfl : args = #[v0, v1, v2] := by cases args; simp_all
  obtain ⟨rfl, rfl⟩ := trodVars_none hV
  have lt0 : ∀ x ∈ p0, x.block < W.heap.size := by obtain ⟨m, hm⟩ := h0; exact DataW.trod_lt m _ _ _ hm
  obtain ⟨A0, n0, cap0, B0, m0, cp0, f0, rfl, hl0, hm0, hr0⟩ := open_mat Try.underlying22 (by kernel_rfl) Try.underlying23 (by kernel_rfl) (by kernel_rfl) (hval 0 22 v0 rfl rfl) h0 lt0
  have lt1 : ∀ x ∈ p1, x.block < W.heap.size := by obtain ⟨m, hm⟩ := h1; exact DataW.trod_lt m _ _ _ hm
  obtain ⟨A1, n1, cap1, f1, B1, m1, capb1, g1, rfl, hpa1, hpb1⟩ := open_mesh _ _ 25 3 3 1 1 Try.underlying25 ⟨rfl, rfl, by kernel_rfl, by kernel_rfl, by kernel_rfl⟩ Try.underlying23 (by kernel_rfl) (by decide) (by kernel_rfl) Try.underlying23 (by kernel_rfl) (by decide) (by kernel_rfl) (hval 1 25 v1 rfl rfl) h1 lt1
  have lt2 : ∀ x ∈ p2, x.block < W.heap.size := by obtain ⟨m, hm⟩ := h2; exact DataW.trod_lt m _ _ _ hm
  obtain ⟨l2, rfl, e2, b2⟩ := open_agg_ints 2 (by kernel_rfl) (by kernel_rfl) (ts := [3, 3]) (by kernel_rfl) (by intro u hu; simp at hu; subst hu; exact Try.underlying3) (hval 2 32 v2 rfl rfl)
  obtain ⟨z2_0, z2_1, rfl⟩ := len2 e2
  simp only [List.map_cons, List.map_nil] at *
  simp only [List.mem_cons, List.not_mem_nil, or_false, forall_eq_or_imp, forall_eq] at b2
  clear hA0 hval0
  refine (cchecks_law A0 n0 cap0 B0 m0 cp0 f0 A1 n1 cap1 f1 B1 m1 capb1 g1 z2_0 z2_1 W ⟨hl0, hm0, hr0⟩ ⟨hpa1, hpb1⟩).mono fun e W' ⟨he, hk⟩ => ?_
  subst he
  have bel := hk.below
  exact ⟨_, rfl, _, _, _, [], _, [], hW', trodAll_mk1 (shut_bool Try.underlying4 _), (trodAll_cons_mk (Below.trod laidOutCrossChecks (by kernel_rfl) (of_decide_eq_true (by kernel_rfl)) h0 bel lt0) (trodAll_cons_mk (Below.trod laidOutCrossChecks (by kernel_rfl) (of_decide_eq_true (by kernel_rfl)) h1 bel lt1) (trodAll_cons_mk (Below.trod laidOutCrossChecks (by kernel_rfl) (of_decide_eq_true (by kernel_rfl)) h2 bel lt2) trodAll_mk0))), rfl, bel.frame _, fun h => by cases h⟩
/-- For every input the statement CrossChecks returns true, and each argument reads afterwards as it read before. -/
theorem crossChecks_holds : Rows.CrossChecksSaid :=
  OpenClaim.holds_of_wide 7 Try.f7 rfl rfl rfl rfl rfl rfl rfl ⟨rfl, rfl, rfl, rfl, rfl⟩ rfl rfl rfl rfl rfl (by kernel_rfl) Try.func7 (by kernel_rfl)
    (of_decide_eq_true (by kernel_rfl)) (by unfold Func.isWrapper; first | (rw [if_pos (by decide +kernel)]; kernel_rfl) | (rw [if_neg (by decide +kernel)]; exact ⟨rfl, rfl⟩))
    (fun os started H enc _ => liftedCrossChecks os started H enc)
#print axioms crossChecks_holds

end Go.Proofs.Ytoejdfpmmgldpaa
