/- For every input the statement CrossFewest returns true and leaves its arguments as they were. No conditions. -/
import Derived.Test.YtoejdfpmmgldpaaRf
import Derived.Test.YtoejdfpmmgldpaaLg
namespace Go.Proofs.Ytoejdfpmmgldpaa
set_option linter.unusedVariables false
set_option linter.unusedSimpArgs false
open Go.ChangeShapes Go.WideShapes Go.ChangeAt Go.RowKit
set_option maxRecDepth 100000 in
set_option maxHeartbeats 16000000 in
theorem cfewest_law (A : Option Addr) (n cap : Nat) (B : Nat → Option Addr) (m cp : Nat → Nat) (f : Nat → Nat → Int) (p q : Int) (w : World)
    (h : n ≤ cap ∧ cap ≤ maxLen ∧ MatAt w A n B m cp f) :
    Calls Try.prog 10 #[.slice A n cap, .agg #[.int .i64 p, .int .i64 q]] w fun r w' => r = .returned (.bool true) ∧ Kept w w' := by
  obtain ⟨a1, a2, hM⟩ := h
  have HM := Lib.hid hM
  clear hM
  unfold maxLen at a2
  have hn : n ≤ 9223372036854775807 := by omega
  cases hl : longB n m
  case true =>
    have HL := Lib.hid hl
    clear hl
    go_enter Try.func10, Try.ntmps10
    go_wp2_with (first | (go_at_call 15; refine (long6_any _ _ _ _ _ _ _ _ hn (HM.out.of (by (repeat (first | exact Kept.refl _ | assumption | refine Kept.alloc ?_ _ | refine Kept.ext ?_ _ | refine Kept.drew ?_ | refine Kept.drewN ?_ _))))).mono ?_; rintro e w1 ⟨rfl, rfl⟩; rw [HL.out]) | (go_at_call 17; refine (known6_any _).mono ?_; rintro e w1 ⟨rfl, x9, rfl⟩))
    go_ret
    exact ⟨rfl, by (repeat (first | exact Kept.refl _ | assumption | refine Kept.alloc ?_ _ | refine Kept.ext ?_ _ | refine Kept.drew ?_ | refine Kept.drewN ?_ _))⟩
  have HL := Lib.hid hl
  clear hl
  obtain ⟨K, hK⟩ : ∃ K, fewE n m f p q = 0 → IsFew n m f p q K := by
    by_cases h : fewE n m f p q = 0
    · obtain ⟨h1, h2⟩ := fewE_0 h
      obtain ⟨K, hK⟩ := few_some h1 h2
      exact ⟨K, fun _ => hK⟩
    · exact ⟨0, fun h2 => absurd h2 h⟩
  have HK := Lib.hid hK
  obtain ⟨E, hE⟩ : ∃ e, fewE n m f p q = e := ⟨_, rfl⟩
  obtain ⟨F, hF⟩ : ∃ e, fewN n m f p q K = e := ⟨_, rfl⟩
  have hcf : ∀ w', Kept w w' → Calls Try.prog 37 #[.slice A n cap, .agg #[.int .i64 p, .int .i64 q]] w' fun e w'' => e = .returned (.tuple #[.int .i64 (F : Int), .int .i64 E]) ∧ Kept w' w'' := fun w' hk => by
    have := cFewest_any A n cap B m cp f p q K w' hn (HM.out.of hk) HK.out
    rwa [hF, hE] at this
  have hrf : ∀ w', Kept w w' → Calls Try.prog 38 #[.slice A n cap, .agg #[.int .i64 p, .int .i64 q]] w' fun e w'' => e = .returned (.tuple #[.int .i64 (F : Int), .int .i64 E]) ∧ Kept w' w'' := fun w' hk => by
    have := r6Few_any A n cap B m cp f p q K w' hn (HM.out.of hk) HK.out
    rwa [hF, hE] at this
  have HCF := Lib.hid hcf
  have HRF := Lib.hid hrf
  have HE := Lib.hid hE
  have HF := Lib.hid hF
  clear hK hcf hrf hE hF
  by_cases h0 : E = 0
  · subst h0
    obtain ⟨hv, hb⟩ := fewE_0 HE.out
    have hFK : F = K := by rw [← HF.out]; exact if_pos HE.out
    subst hFK
    have hcm : ∀ w', Kept w w' → Calls Try.prog 39 #[.slice A n cap, .agg #[.int .i64 p, .int .i64 q]] w' fun e w'' => ∃ (RA CA : Option Addr) (rc cc : Nat), e = .returned (.tuple #[.slice RA F rc, .slice CA F cc, .int .i64 0]) ∧ Kept w' w'' ∧ ∀ W', Kept w'' W' → Calls Try.prog 28 #[.slice A n cap, .slice RA F rc, .slice CA F cc, .agg #[.int .i64 p, .int .i64 q]] W' fun e W'' => e = .returned (.int .i64 0) ∧ Kept W' W'' := fun w' hk => by
      refine (cCompok_any A n cap B m cp f p q F w' hn (HM.out.of hk) hv hb (HK.out HE.out)).mono ?_
      rintro e w'' ⟨vr, vc, rfl, h1, r, c, e1, e2, e3, e4, e5, e6, e7⟩
      obtain ⟨RA, rc, rfl⟩ := own_slice2 e6
      obtain ⟨CA, cc, rfl⟩ := own_slice2 e7
      have hw := ChoW.of (f := f) (RA := RA) (CA := CA) hv (by omega) e6 e7
      have c1 := own_caps e6
      have c2 := own_caps e7
      refine ⟨RA, CA, rc, cc, by rw [e3, e4], h1, fun W' hW => ?_⟩
      have := r6Chk_any A n cap B m cp f RA (bl r n).length rc (blF r n) CA (bl c (m 0)).length cc (blF c (m 0)) p q W' hn c1 c2 (HM.out.of ((hk.trans h1).trans hW)) (hw.hr.of hW) (hw.hc.of hW)
      rw [show chkE n m f (bl r n).length (blF r n) (bl c (m 0)).length (blF c (m 0)) p q = 0 from e5] at this
      rwa [e3, e4] at this
    have HCM := Lib.hid hcm
    clear hcm hv hb
    go_enter Try.func10, Try.ntmps10
    go_wp2_with (first | (go_at_call 15; refine (long6_any _ _ _ _ _ _ _ _ hn (HM.out.of (by (repeat (first | exact Kept.refl _ | assumption | refine Kept.alloc ?_ _ | refine Kept.ext ?_ _ | refine Kept.drew ?_ | refine Kept.drewN ?_ _))))).mono ?_; rintro e w1 ⟨rfl, rfl⟩; rw [HL.out]) | (go_at_call 37; refine (HCF.out _ (by (repeat (first | exact Kept.refl _ | assumption | refine Kept.alloc ?_ _ | refine Kept.ext ?_ _ | refine Kept.drew ?_ | refine Kept.drewN ?_ _)))).mono ?_; rintro e w1 ⟨rfl, x1, rfl⟩) | (go_at_call 38; refine (HRF.out _ (by (repeat (first | exact Kept.refl _ | assumption | refine Kept.alloc ?_ _ | refine Kept.ext ?_ _ | refine Kept.drew ?_ | refine Kept.drewN ?_ _)))).mono ?_; rintro e w1 ⟨rfl, x2, rfl⟩))
    refine (HCM.out _ (by (repeat (first | exact Kept.refl _ | assumption | refine Kept.alloc ?_ _ | refine Kept.ext ?_ _ | refine Kept.drew ?_ | refine Kept.drewN ?_ _)))).mono ?_
    rintro e w1 ⟨RA, CA, rc, cc, rfl, ⟨x3, rfl⟩, hch⟩
    have HCH := Lib.hid hch
    clear hch
    go_wp2_with (first | (go_at_call 28; refine (HCH.out _ (by (repeat (first | exact Kept.refl _ | assumption | refine Kept.alloc ?_ _ | refine Kept.ext ?_ _ | refine Kept.drew ?_ | refine Kept.drewN ?_ _)))).mono ?_; rintro e w1 ⟨rfl, x4, rfl⟩) | (go_at_call 17; refine (known6_any _).mono ?_; rintro e w1 ⟨rfl, x9, rfl⟩))
    go_ret
    exact ⟨rfl, by (repeat (first | exact Kept.refl _ | assumption | refine Kept.alloc ?_ _ | refine Kept.ext ?_ _ | refine Kept.drew ?_ | refine Kept.drewN ?_ _))⟩
  · have hv2 : (E == 0) = false := by simpa using h0
    have hv3 : decide (E = 0) = false := by simpa using h0
    have hcm : ∀ w', Kept w w' → Calls Try.prog 39 #[.slice A n cap, .agg #[.int .i64 p, .int .i64 q]] w' fun e w'' => e = .returned (.tuple #[.slice none 0 0, .slice none 0 0, .int .i64 E]) ∧ Kept w' w'' := fun w' hk => by
      have := cCompno_any A n cap B m cp f p q w' hn (HM.out.of hk) (by rw [HE.out]; exact h0)
      rwa [HE.out] at this
    have HCM := Lib.hid hcm
    clear hcm
    go_enter Try.func10, Try.ntmps10
    go_wp2_with (first | (go_at_call 15; refine (long6_any _ _ _ _ _ _ _ _ hn (HM.out.of (by (repeat (first | exact Kept.refl _ | assumption | refine Kept.alloc ?_ _ | refine Kept.ext ?_ _ | refine Kept.drew ?_ | refine Kept.drewN ?_ _))))).mono ?_; rintro e w1 ⟨rfl, rfl⟩; rw [HL.out]) | (go_at_call 37; refine (HCF.out _ (by (repeat (first | exact Kept.refl _ | assumption | refine Kept.alloc ?_ _ | refine Kept.ext ?_ _ | refine Kept.drew ?_ | refine Kept.drewN ?_ _)))).mono ?_; rintro e w1 ⟨rfl, x1, rfl⟩) | (go_at_call 38; refine (HRF.out _ (by (repeat (first | exact Kept.refl _ | assumption | refine Kept.alloc ?_ _ | refine Kept.ext ?_ _ | refine Kept.drew ?_ | refine Kept.drewN ?_ _)))).mono ?_; rintro e w1 ⟨rfl, x2, rfl⟩) | (go_at_call 39; refine (HCM.out _ (by (repeat (first | exact Kept.refl _ | assumption | refine Kept.alloc ?_ _ | refine Kept.ext ?_ _ | refine Kept.drew ?_ | refine Kept.drewN ?_ _)))).mono ?_; rintro e w1 ⟨rfl, x3, rfl⟩) | (go_at_call 17; refine (known6_any _).mono ?_; rintro e w1 ⟨rfl, x9, rfl⟩))
    go_ret
    exact ⟨rfl, by (repeat (first | exact Kept.refl _ | assumption | refine Kept.alloc ?_ _ | refine Kept.ext ?_ _ | refine Kept.drew ?_ | refine Kept.drewN ?_ _))⟩
theorem ownCrossFewest : ownKnob Try.prog.godebug = none := by kernel_rfl
theorem laidOutCrossFewest : laidOutB Try.prog = true := by kernel_rfl
set_option linter.unusedVariables false in
set_option maxRecDepth 100000 in
theorem liftedCrossFewest (os : Os) (started : os.Started) (H : Type) (enc : TypeId × Value → H) :
    ReturnsInHanded {} Try.checked os 10 .any (Rows.crossFewestSpec.pre6 enc Try.prog Try.f10 Rows.crossFewestRow.domain false) (Rows.crossFewestSpec.post enc Try.prog Try.f10 false true false false) := by
  refine returnsInHanded_of_change (C := Try.checked) ownCrossFewest started (by kernel_rfl) Try.func10
    (ChangeSpec.witness6 (enc := enc) (C := Try.checked) false ⟨#[], #[.slice none 0 0, .agg #[.int .i64 0, .int .i64 0]], []⟩ 8 (by kernel_rfl) (by kernel_rfl) (by kernel_rfl) (by kernel_rfl)) ?_
  intro W base args ds gs before hval0 hW hcnd _
  have hval : ∀ (j : Nat) t v, Try.f10.params[j]? = some t → args[j]? = some v → Value.okWide Try.prog W .any base t v := hval0
  have hW' := hW
  obtain ⟨p, q, hA0, hV, rfl, hfz, hnd⟩ := hW
  have hA : DataW.TrodAll enc Try.prog W 0 (fun _ => true) true Try.f10.params.toList args.toList ds p := hA0
  rw [Try.params10] at hA hval
  obtain ⟨v0, vs0, d0, ds0, p0, q0, hargs, rfl, rfl, h0, r0⟩ := trodAll_cons hA
  obtain ⟨v1, vs1, d1, ds1, p1, q1, rfl, rfl, rfl, h1, r1⟩ := trodAll_cons r0
  obtain ⟨rfl, rfl, rfl⟩ := trodAll_nil r1
  obtain rfl : args = #[v0, v1] := by cases args; simp_all
  obtain ⟨rfl, rfl⟩ := trodVars_none hV
  have lt0 : ∀ x ∈ p0, x.block < W.heap.size := by obtain ⟨m, hm⟩ := h0; exact DataW.trod_lt m _ _ _ hm
  obtain ⟨A0, n0, cap0, B0, m0, cp0, f0, rfl, hl0, hm0, hr0⟩ := open_mat Try.underlying22 (by kernel_rfl) Try.underlying23 (by kernel_rfl) (by kernel_rfl) (hval 0 22 v0 rfl rfl) h0 lt0
  have lt1 : ∀ x ∈ p1, x.block < W.heap.size := by obtain ⟨m, hm⟩ := h1; exact DataW.trod_lt m _ _ _ hm
  obtain ⟨l1, rfl, e1, b1⟩ := open_agg_ints 2 (by kernel_rfl) (by kernel_rfl) (ts := [3, 3]) (by kernel_rfl) (by intro u hu; simp at hu; subst hu; exact Try.underlying3) (hval 1 32 v1 rfl rfl)
  obtain ⟨z1_0, z1_1, rfl⟩ := len2 e1
  simp only [List.map_cons, List.map_nil] at *
  simp only [List.mem_cons, List.not_mem_nil, or_false, forall_eq_or_imp, forall_eq] at b1
  clear hA0 hval0
  refine (cfewest_law A0 n0 cap0 B0 m0 cp0 f0 z1_0 z1_1 W ⟨hl0, hm0, hr0⟩).mono fun e W' ⟨he, hk⟩ => ?_
  subst he
  have bel := hk.below
  exact ⟨_, rfl, _, _, _, [], _, [], hW', trodAll_mk1 (shut_bool Try.underlying4 _), (trodAll_cons_mk (Below.trod laidOutCrossFewest (by kernel_rfl) (of_decide_eq_true (by kernel_rfl)) h0 bel lt0) (trodAll_cons_mk (Below.trod laidOutCrossFewest (by kernel_rfl) (of_decide_eq_true (by kernel_rfl)) h1 bel lt1) trodAll_mk0)), rfl, bel.frame _, fun h => by cases h⟩
/-- For every input the statement CrossFewest returns true, and each argument reads afterwards as it read before. -/
theorem crossFewest_holds : Rows.CrossFewestSaid :=
  OpenClaim.holds_of_wide 10 Try.f10 rfl rfl rfl rfl rfl rfl rfl ⟨rfl, rfl, rfl, rfl, rfl⟩ rfl rfl rfl rfl rfl (by kernel_rfl) Try.func10 (by kernel_rfl)
    (of_decide_eq_true (by kernel_rfl)) (by unfold Func.isWrapper; first | (rw [if_pos (by decide +kernel)]; kernel_rfl) | (rw [if_neg (by decide +kernel)]; exact ⟨rfl, rfl⟩))
    (fun os started H enc _ => liftedCrossFewest os started H enc)
#print axioms crossFewest_holds

end Go.Proofs.Ytoejdfpmmgldpaa
