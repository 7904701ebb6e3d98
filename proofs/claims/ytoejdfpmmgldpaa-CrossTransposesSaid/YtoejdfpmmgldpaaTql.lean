/- For every input the statement CrossTransposes returns true and leaves its arguments as they were. No conditions. -/
import Derived.Test.YtoejdfpmmgldpaaTq
namespace Go.Proofs.Ytoejdfpmmgldpaa
set_option linter.unusedVariables false
set_option linter.unusedSimpArgs false
open Go.ChangeShapes Go.WideShapes Go.ChangeAt Go.RowKit
set_option maxRecDepth 100000 in
set_option maxHeartbeats 16000000 in
theorem ctransposes_law (A : Option Addr) (n cap : Nat) (B : Nat → Option Addr) (m cp : Nat → Nat) (f : Nat → Nat → Int) (RA : Option Addr) (rl rc : Nat) (R : Nat → Nat → Int) (CA : Option Addr) (cl cc : Nat) (C : Nat → Nat → Int) (i j : Int) (w : World)
    (h : n ≤ cap ∧ cap ≤ maxLen ∧ MatAt w A n B m cp f) (h2 : (rl ≤ rc ∧ rc ≤ maxLen ∧ RowsAt w RA rl 1 R) ∧ (cl ≤ cc ∧ cc ≤ maxLen ∧ RowsAt w CA cl 1 C)) :
    Calls Try.prog 6 #[.slice A n cap, .agg #[.slice RA rl rc, .slice CA cl cc], .agg #[.int .i64 i, .int .i64 j]] w fun r w' => r = .returned (.bool true) ∧ Kept w w' := by
  obtain ⟨a1, a2, hM⟩ := h
  obtain ⟨⟨b1, b2, hR⟩, c1, c2, hC⟩ := h2
  have HM := Lib.hid hM
  have HR := Lib.hid hR
  have HC := Lib.hid hC
  have B2 := Lib.hid (And.intro b1 b2)
  have C2 := Lib.hid (And.intro c1 c2)
  clear hM hR hC
  unfold maxLen at a2 b2 c2
  have hn : n ≤ 9223372036854775807 := by omega
  have hrl : rl ≤ 9223372036854775807 := by omega
  have hcl : cl ≤ 9223372036854775807 := by omega
  cases hl : longB n m
  case true =>
    have HL := Lib.hid hl
    clear hl
    go_enter Try.func6, Try.ntmps6
    go_wp2_with (first | (go_at_call 15; refine (long6_any _ _ _ _ _ _ _ _ hn (HM.out.of (by (repeat (first | exact Kept.refl _ | assumption | refine Kept.alloc ?_ _ | refine Kept.ext ?_ _ | refine Kept.drew ?_ | refine Kept.drewN ?_ _))))).mono ?_; rintro e w1 ⟨rfl, rfl⟩; rw [HL.out]) | (go_at_call 17; refine (known6_any _).mono ?_; rintro e w1 ⟨rfl, x9, rfl⟩))
    go_ret
    exact ⟨rfl, by (repeat (first | exact Kept.refl _ | assumption | refine Kept.alloc ?_ _ | refine Kept.ext ?_ _ | refine Kept.drew ?_ | refine Kept.drewN ?_ _))⟩
  cases hy : manyB rl cl
  case true =>
    have HL := Lib.hid hl
    have HY := Lib.hid hy
    clear hl hy
    go_enter Try.func6, Try.ntmps6
    go_wp2_with (first | (go_at_call 15; refine (long6_any _ _ _ _ _ _ _ _ hn (HM.out.of (by (repeat (first | exact Kept.refl _ | assumption | refine Kept.alloc ?_ _ | refine Kept.ext ?_ _ | refine Kept.drew ?_ | refine Kept.drewN ?_ _))))).mono ?_; rintro e w1 ⟨rfl, rfl⟩; rw [HL.out]) | (go_at_call 16; refine (many6_any _ _ _ _ _ _ _).mono ?_; rintro e w1 ⟨rfl, x8, rfl⟩; rw [HY.out]) | (go_at_call 17; refine (known6_any _).mono ?_; rintro e w1 ⟨rfl, x9, rfl⟩))
    go_ret
    exact ⟨rfl, by (repeat (first | exact Kept.refl _ | assumption | refine Kept.alloc ?_ _ | refine Kept.ext ?_ _ | refine Kept.drew ?_ | refine Kept.drewN ?_ _))⟩
  have HL := Lib.hid hl
  have HY := Lib.hid hy
  clear hl hy
  by_cases hv : valE n m f = 0
  case neg =>
    obtain ⟨ev, he⟩ : ∃ e, valE n m f = e := ⟨_, rfl⟩
    have HV := Lib.hid hv
    have HE := Lib.hid he
    rw [he] at hv
    clear he
    have hv2 : (ev == 0) = false := by simpa using hv
    have hv3 : decide (ev = 0) = false := by simpa using hv
    go_enter Try.func6, Try.ntmps6
    go_wp2_with (first | (go_at_call 15; refine (long6_any _ _ _ _ _ _ _ _ hn (HM.out.of (by (repeat (first | exact Kept.refl _ | assumption | refine Kept.alloc ?_ _ | refine Kept.ext ?_ _ | refine Kept.drew ?_ | refine Kept.drewN ?_ _))))).mono ?_; rintro e w1 ⟨rfl, rfl⟩; rw [HL.out]) | (go_at_call 16; refine (many6_any _ _ _ _ _ _ _).mono ?_; rintro e w1 ⟨rfl, x8, rfl⟩; rw [HY.out]) | (go_at_call 17; refine (known6_any _).mono ?_; rintro e w1 ⟨rfl, x9, rfl⟩) | (go_at_call 26; refine (cTrno_any _ _ _ _ _ _ _ _ hn (HM.out.of (by (repeat (first | exact Kept.refl _ | assumption | refine Kept.alloc ?_ _ | refine Kept.ext ?_ _ | refine Kept.drew ?_ | refine Kept.drewN ?_ _)))) HV.out).mono ?_; rintro e w1 ⟨rfl, x1, rfl⟩; rw [HE.out]))
    go_ret
    exact ⟨rfl, by (repeat (first | exact Kept.refl _ | assumption | refine Kept.alloc ?_ _ | refine Kept.ext ?_ _ | refine Kept.drew ?_ | refine Kept.drewN ?_ _))⟩
  have HV := Lib.hid hv
  obtain ⟨h1, h2, h3, h4⟩ := valE_0 hv
  have hI : ∀ i, i < m 0 → ∀ j, j < n → I64 (f j i) := fun i hi j hj => by
    have := h4 j hj i hi
    unfold I64
    omega
  obtain ⟨r1, r2, r3⟩ := res_flip hv rl cl R C i j
  have R1 := Lib.hid r1
  have R2 := Lib.hid r2
  have R3 := Lib.hid r3
  have HI := Lib.hid hI
  have hm0 : m 0 ≤ 9223372036854775807 := by omega
  clear r1 r2 r3 hI h3 h4 hv
  go_enter Try.func6, Try.ntmps6
  go_wp2_with (first | (go_at_call 15; refine (long6_any _ _ _ _ _ _ _ _ hn (HM.out.of (by (repeat (first | exact Kept.refl _ | assumption | refine Kept.alloc ?_ _ | refine Kept.ext ?_ _ | refine Kept.drew ?_ | refine Kept.drewN ?_ _))))).mono ?_; rintro e w1 ⟨rfl, rfl⟩; rw [HL.out]) | (go_at_call 16; refine (many6_any _ _ _ _ _ _ _).mono ?_; rintro e w1 ⟨rfl, x8, rfl⟩; rw [HY.out]) | (go_at_call 17; refine (known6_any _).mono ?_; rintro e w1 ⟨rfl, x9, rfl⟩))
  refine (cTrok_any _ _ _ _ _ _ _ _ hn (HM.out.of (by (repeat (first | exact Kept.refl _ | assumption | refine Kept.alloc ?_ _ | refine Kept.ext ?_ _ | refine Kept.drew ?_ | refine Kept.drewN ?_ _)))) HV.out).mono ?_
  rintro e w1 ⟨g, V, rfl, hO⟩
  obtain ⟨B', cp', hT⟩ := hO.read HI.out
  have hkw := hO.on
  have HT := Lib.hid hT
  clear hT hO
  obtain ⟨y1, rfl⟩ := hkw
  have hr1 : ∀ w', Kept w w' → Calls Try.prog 18 #[.slice A n cap, .slice RA rl rc, .slice CA cl cc, .int .i64 i, .int .i64 j] w' fun e w'' => e = .returned (.tuple #[.agg #[.int .i64 (resN n m f rl R cl C i j), .int .i64 (resD n m f rl R cl C i j)], .int .i64 (resE n m f rl R cl C i j)]) ∧ Kept w' w'' :=
    fun w' hk => cRes_any _ _ _ _ _ _ _ _ _ _ _ _ _ _ _ _ _ _ hn hrl hcl (HM.out.of hk) (HR.out.of hk) (HC.out.of hk)
  have H1 := Lib.hid hr1
  clear hr1
  generalize resN n m f rl R cl C i j = v1 at *
  generalize resD n m f rl R cl C i j = v2 at *
  generalize resE n m f rl R cl C i j = v3 at *
  go_wp2_with (first | (go_at_call 17; refine (known6_any _).mono ?_; rintro e w1 ⟨rfl, x9, rfl⟩) | (go_at_call 18; (with_reducible refine (H1.out _ (by (repeat (first | exact Kept.refl _ | assumption | refine Kept.alloc ?_ _ | refine Kept.ext ?_ _ | refine Kept.drew ?_ | refine Kept.drewN ?_ _)))).mono ?_); rintro e w1 ⟨rfl, x5, rfl⟩) | (go_at_call 18; refine (cRes_any _ _ _ _ _ _ _ _ _ _ _ _ _ _ _ _ _ _ hm0 hcl hrl (HT.out.of (by (repeat (first | exact Kept.refl _ | assumption | refine Kept.alloc ?_ _ | refine Kept.ext ?_ _ | refine Kept.drew ?_ | refine Kept.drewN ?_ _)))) (HC.out.of (by (repeat (first | exact Kept.refl _ | assumption | refine Kept.alloc ?_ _ | refine Kept.ext ?_ _ | refine Kept.drew ?_ | refine Kept.drewN ?_ _)))) (HR.out.of (by (repeat (first | exact Kept.refl _ | assumption | refine Kept.alloc ?_ _ | refine Kept.ext ?_ _ | refine Kept.drew ?_ | refine Kept.drewN ?_ _))))).mono ?_; rintro e w1 ⟨rfl, x6, rfl⟩; rw [R1.out, R2.out, R3.out]))
  go_ret
  exact ⟨rfl, by (repeat (first | exact Kept.refl _ | assumption | refine Kept.alloc ?_ _ | refine Kept.ext ?_ _ | refine Kept.drew ?_ | refine Kept.drewN ?_ _))⟩
theorem ownCrossTransposes : ownKnob Try.prog.godebug = none := by kernel_rfl
theorem laidOutCrossTransposes : laidOutB Try.prog = true := by kernel_rfl
set_option linter.unusedVariables false in
set_option maxRecDepth 100000 in
theorem liftedCrossTransposes (os : Os) (started : os.Started) (H : Type) (enc : TypeId × Value → H) :
    ReturnsInHanded {} Try.checked os 6 .any (Rows.crossTransposesSpec.pre6 enc Try.prog Try.f6 Rows.crossTransposesRow.domain false) (Rows.crossTransposesSpec.post enc Try.prog Try.f6 false true false false) := by
  refine returnsInHanded_of_change (C := Try.checked) ownCrossTransposes started (by kernel_rfl) Try.func6
    (ChangeSpec.witness6 (enc := enc) (C := Try.checked) false ⟨#[], #[.slice none 0 0, .agg #[.slice none 0 0, .slice none 0 0], .agg #[.int .i64 0, .int .i64 0]], []⟩ 8 (by kernel_rfl) (by kernel_rfl) (by kernel_rfl) (by kernel_rfl)) ?_
  intro W base args ds gs before hval0 hW hcnd _
  have hval : ∀ (j : Nat) t v, Try.f6.params[j]? = some t → args[j]? = some v → Value.okWide Try.prog W .any base t v := hval0
  have hW' := hW
  obtain ⟨p, q, hA0, hV, rfl, hfz, hnd⟩ := hW
  have hA : DataW.TrodAll enc Try.prog W 0 (fun _ => true) true Try.f6.params.toList args.toList ds p := hA0
  rw [Try.params6] at hA hval
  obtain ⟨v0, vs0, d0, ds0, p0, q0, hargs, rfl, rfl, h0, r0⟩ := trodAll_cons hA
  obtain ⟨v1, vs1, d1, ds1, p1, q1, rfl, rfl, rfl, h1, r1⟩ := trodAll_cons r0
  obtain ⟨v2, vs2, d2, ds2, p2, q2, rfl, rfl, rfl, h2, r2⟩ := trodAll_cons r1
  obtain ⟨rfl, rfl, rfl⟩ := trodAll_nil r2
  obtain rfl : args = #[v0, v1, v2] := by cases args; simp_all
  obtain ⟨rfl, rfl⟩ := trodVars_none hV
  have lt0 : ∀ x ∈ p0, x.block < W.heap.size := by obtain ⟨m, hm⟩ := h0; exact DataW.trod_lt m _ _ _ hm
  obtain ⟨A0, n0, cap0, B0, m0, cp0, f0, rfl, hl0, hm0, hr0⟩ := open_mat Try.underlying22 (by kernel_rfl) Try.underlying23 (by kernel_rfl) (by kernel_rfl) (hval 0 22 v0 rfl rfl) h0 lt0
  have lt1 : ∀ x ∈ p1, x.block < W.heap.size := by obtain ⟨m, hm⟩ := h1; exact DataW.trod_lt m _ _ _ hm
  obtain ⟨A1, n1, cap1, f1, B1, m1, capb1, g1, rfl, hpa1, hpb1⟩ := open_mesh _ _ 25 3 3 1 1 Try.underlying25 ⟨rfl, rfl, by kernel_rfl, by kernel_rfl, by kernel_rfl⟩ Try.underlying23 (by kernel_rfl) (by decide) (by kernel_rfl) Try.underlying23 (by kernel_rfl) (by decide) (by kernel_rfl) (hval 1 25 v1 rfl rfl) h1 lt1
  have lt2 : ∀ x ∈ p2, x.block < W.heap.size := by obtain ⟨m, hm⟩ := h2; exact DataW.trod_lt m _ _ _ hm
  obtain ⟨l2, rfl, e2, b2⟩ := open_agg_ints 2 (by kernel_rfl) (by kernel_rfl) (ts := [3, 3]) (by kernel_rfl) (by intro u hu; simp at hu; subst hu; exact Try.underlying3) (hval 2 27 v2 rfl rfl)
  obtain ⟨z2_0, z2_1, rfl⟩ := len2 e2
  simp only [List.map_cons, List.map_nil] at *
  simp only [List.mem_cons, List.not_mem_nil, or_false, forall_eq_or_imp, forall_eq] at b2
  clear hA0 hval0
  refine (ctransposes_law A0 n0 cap0 B0 m0 cp0 f0 A1 n1 cap1 f1 B1 m1 capb1 g1 z2_0 z2_1 W ⟨hl0, hm0, hr0⟩ ⟨hpa1, hpb1⟩).mono fun e W' ⟨he, hk⟩ => ?_
  subst he
  have bel := hk.below
  exact ⟨_, rfl, _, _, _, [], _, [], hW', trodAll_mk1 (shut_bool Try.underlying4 _), (trodAll_cons_mk (Below.trod laidOutCrossTransposes (by kernel_rfl) (of_decide_eq_true (by kernel_rfl)) h0 bel lt0) (trodAll_cons_mk (Below.trod laidOutCrossTransposes (by kernel_rfl) (of_decide_eq_true (by kernel_rfl)) h1 bel lt1) (trodAll_cons_mk (Below.trod laidOutCrossTransposes (by kernel_rfl) (of_decide_eq_true (by kernel_rfl)) h2 bel lt2) trodAll_mk0))), rfl, bel.frame _, fun h => by cases h⟩
/-- For every input the statement CrossTransposes returns true, and each argument reads afterwards as it read before. -/
theorem crossTransposes_holds : Rows.CrossTransposesSaid :=
  OpenClaim.holds_of_wide 6 Try.f6 rfl rfl rfl rfl rfl rfl rfl ⟨rfl, rfl, rfl, rfl, rfl⟩ rfl rfl rfl rfl rfl (by kernel_rfl) Try.func6 (by kernel_rfl)
    (of_decide_eq_true (by kernel_rfl)) (by unfold Func.isWrapper; first | (rw [if_pos (by decide +kernel)]; kernel_rfl) | (rw [if_neg (by decide +kernel)]; exact ⟨rfl, rfl⟩))
    (fun os started H enc _ => liftedCrossTransposes os started H enc)
#print axioms crossTransposes_holds

end Go.Proofs.Ytoejdfpmmgldpaa
