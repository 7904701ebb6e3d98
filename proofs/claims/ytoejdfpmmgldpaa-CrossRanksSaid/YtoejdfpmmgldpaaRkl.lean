/- For every input the statement CrossRanks returns true and leaves its arguments as they were. No conditions. -/
import Derived.Test.YtoejdfpmmgldpaaRc
import Derived.Test.YtoejdfpmmgldpaaRk
namespace Go.Proofs.Ytoejdfpmmgldpaa
set_option linter.unusedVariables false
set_option linter.unusedSimpArgs false
open Go.ChangeShapes Go.WideShapes Go.ChangeAt Go.RowKit
theorem dV_flip {f : Nat → Nat → Int} {n M r c : Nat} (h : (bl r M).length = (bl c n).length) : dV (fun i j => f j i) M n r c = dV f n M c r := by
  unfold dV
  rw [h, sub_flip]
theorem vol_flip {f : Nat → Nat → Int} {n M : Nat} {k : Int} : volS (fun i j => f j i) M n k = volS f n M k := by
  have key : ∀ (g : Nat → Nat → Int) (a b : Nat), volS (fun i j => g j i) b a k ≤ volS g a b k := by
    intro g a b
    rcases vmat_or (f := fun i j => g j i) (n := b) (M := a) (k := k) (b := 0) (2 ^ b) with e | ⟨p, q, h1, h2, h3, h4, e⟩
    · have : volS (fun i j => g j i) b a k = 0 := e
      have := volS_pos (f := g) (n := a) (M := b) (k := k)
      omega
    · have e2 : volS (fun i j => g j i) b a k = dV (fun i j => g j i) b a p q := e
      rw [e2, dV_flip (by omega)]
      exact volS_ge h2 h4 h1 h3
  exact Int.le_antisymm (key f n M) (key (fun i j => f j i) M n)
theorem rk_flip {f : Nat → Nat → Int} {n M : Nat} : ∀ q, rkP (fun i j => f j i) M n q = rkP f n M q
  | 0 => rfl
  | q + 1 => by
    unfold rkP
    rw [vol_flip, rk_flip q]
theorem rank_flip {n : Nat} {m : Nat → Nat} {f : Nat → Nat → Int} (h : valE n m f = 0) : rankV (m 0) (fun _ => n) (fun i j => f j i) = rankV n m f := by
  unfold rankV
  rw [if_pos h, if_pos (val_flip h), rk_flip, Nat.min_comm]
theorem mat_nil (w : World) : MatAt w none 0 (fun _ => none) (fun _ => 0) (fun _ => 0) (fun _ _ => 0) :=
  ⟨fun h => absurd h (by omega), fun k h => absurd h (by omega), fun k h => absurd h (by omega)⟩
set_option maxRecDepth 100000 in
set_option maxHeartbeats 16000000 in
theorem cranks_law (A : Option Addr) (n cap : Nat) (B : Nat → Option Addr) (m cp : Nat → Nat) (f : Nat → Nat → Int) (w : World)
    (h : n ≤ cap ∧ cap ≤ maxLen ∧ MatAt w A n B m cp f) :
    Calls Try.prog 9 #[.slice A n cap] w fun r w' => r = .returned (.bool true) ∧ Kept w w' := by
  obtain ⟨a1, a2, hM⟩ := h
  have HM := Lib.hid hM
  unfold maxLen at a2
  have hn : n ≤ 9223372036854775807 := by omega
  cases hl : longB n m
  case true =>
    have HL := Lib.hid hl
    clear hl hM
    go_enter Try.func9, Try.ntmps9
    go_wp2_with (first | (go_at_call 15; refine (long6_any _ _ _ _ _ _ _ _ hn (HM.out.of (by (repeat (first | exact Kept.refl _ | assumption | refine Kept.alloc ?_ _ | refine Kept.ext ?_ _ | refine Kept.drew ?_ | refine Kept.drewN ?_ _))))).mono ?_; rintro e w1 ⟨rfl, rfl⟩; rw [HL.out]) | (go_at_call 17; refine (known6_any _).mono ?_; rintro e w1 ⟨rfl, x9, rfl⟩))
    go_ret
    exact ⟨rfl, by (repeat (first | exact Kept.refl _ | assumption | refine Kept.alloc ?_ _ | refine Kept.ext ?_ _ | refine Kept.drew ?_ | refine Kept.drewN ?_ _))⟩
  have HL := Lib.hid hl
  obtain ⟨hn20, hm20⟩ : n ≤ 20 ∧ ∀ k, k < n → m k ≤ 20 := by
    unfold longB at hl
    rw [Bool.or_eq_false_iff, any_range_false] at hl
    refine ⟨by have := hl.1; simp at this; omega, fun k hk => ?_⟩
    have := hl.2 k hk
    simp at this
    omega
  have HM20 := Lib.hid hm20
  have hfI : ∀ i, i < n → ∀ k, k < m i → I64 (f i k) := fun i hi k hk => (rows1 (hM.el i hi) hk).choose_spec.choose_spec.2.2.2
  have HFI := Lib.hid hfI
  obtain ⟨E, hE⟩ : ∃ e, valE n m f = e := ⟨_, rfl⟩
  obtain ⟨rk, hrk⟩ : ∃ e, rankV n m f = e := ⟨_, rfl⟩
  have HE := Lib.hid hE
  have HRK := Lib.hid hrk
  clear hl hm20 hM hfI hrk
  by_cases h0 : E = 0
  · subst h0
    obtain ⟨⟨n1, n6⟩, ⟨m1, m6⟩, hmm, hff⟩ := valE_0 hE
    have hvf := val_flip hE
    have hrf := rank_flip hE
    rw [HRK.out] at hrf
    have HVF := Lib.hid hvf
    have HRF := Lib.hid hrf
    have hgI : ∀ i, i < m 0 → ∀ j, j < n → I64 (f j i) := fun i hi j hj => by
      have := hff j hj i hi
      unfold I64
      omega
    have HGI := Lib.hid hgI
    clear hE hmm hff hvf hrf hgI
    go_enter Try.func9, Try.ntmps9
    go_wp2_with (first | (go_at_call 15; refine (long6_any _ _ _ _ _ _ _ _ hn (HM.out.of (by (repeat (first | exact Kept.refl _ | assumption | refine Kept.alloc ?_ _ | refine Kept.ext ?_ _ | refine Kept.drew ?_ | refine Kept.drewN ?_ _))))).mono ?_; rintro e w1 ⟨rfl, rfl⟩; rw [HL.out]))
    refine (r6copy_any _ _ _ _ _ _ _ _ hn20 HM20.out (HM.out.of (by (repeat (first | exact Kept.refl _ | assumption | refine Kept.alloc ?_ _ | refine Kept.ext ?_ _ | refine Kept.drew ?_ | refine Kept.drewN ?_ _))))).mono ?_
    rintro e w1 ⟨v, rfl, hkc, ho⟩
    obtain ⟨OA, oc, rfl⟩ := ho.slice
    obtain ⟨OB, od, hOM⟩ := ho.mat HFI.out
    have HOM := Lib.hid hOM
    have HKC := Lib.hid hkc
    clear ho hOM hkc
    go_wp2_with (first | (go_at_call 33; refine (cRank_any _ _ _ _ _ _ _ _ hn (HOM.out.of (by (repeat (first | exact Kept.refl _ | assumption | refine Kept.alloc ?_ _ | refine Kept.ext ?_ _ | refine Kept.drew ?_ | refine Kept.drewN ?_ _))))).mono ?_; rintro e w2 ⟨rfl, x1, rfl⟩; rw [HRK.out, HE.out]) | (go_at_call 34; refine (r6Rank_any _ _ _ _ _ _ _ _ hn (HM.out.of (HKC.out.trans (by (repeat (first | exact Kept.refl _ | assumption | refine Kept.alloc ?_ _ | refine Kept.ext ?_ _ | refine Kept.drew ?_ | refine Kept.drewN ?_ _)))))).mono ?_; rintro e w2 ⟨rfl, x2, rfl⟩; rw [HRK.out, HE.out]))
    refine (cTrok_any _ _ _ _ _ _ _ _ hn (HOM.out.of (by (repeat (first | exact Kept.refl _ | assumption | refine Kept.alloc ?_ _ | refine Kept.ext ?_ _ | refine Kept.drew ?_ | refine Kept.drewN ?_ _)))) HE.out).mono ?_
    rintro e w3 ⟨g, V, rfl, hT⟩
    obtain ⟨TB, td, hTM⟩ := hT.read HGI.out
    have HT := Lib.hid hT
    have HTM := Lib.hid hTM
    have HKT := Lib.hid (show Kept w1 w3 from (by (repeat (first | exact Kept.refl _ | assumption | refine Kept.alloc ?_ _ | refine Kept.ext ?_ _ | refine Kept.drew ?_ | refine Kept.drewN ?_ _)) : Kept w1 (ext (ext w1 x1) x2)).trans hT.on)
    clear hT hTM
    go_wp2_with fail
    refine (r6trok_any _ _ _ _ _ _ _ _ hn (HM.out.of (HKC.out.trans (HKT.out.trans (by (repeat (first | exact Kept.refl _ | assumption | refine Kept.alloc ?_ _ | refine Kept.ext ?_ _ | refine Kept.drew ?_ | refine Kept.drewN ?_ _)))))) HE.out).mono ?_
    rintro e w4 ⟨v, rfl, ⟨x4, rfl⟩, hs⟩
    obtain ⟨SA, sc, rfl⟩ := hs.slice
    obtain ⟨SB, sd, hSM⟩ := hs.mat (fun i hi k hk => HGI.out i hi k hk)
    have HSM := Lib.hid hSM
    clear hs hSM
    go_wp2_with fail
    refine (r6same_any _ _ _ _ _ _ _ _ _ _ _ _ (by omega) (HTM.out.of (by (repeat (first | exact Kept.refl _ | assumption | refine Kept.alloc ?_ _ | refine Kept.ext ?_ _ | refine Kept.drew ?_ | refine Kept.drewN ?_ _)))) (HSM.out.of (by (repeat (first | exact Kept.refl _ | assumption | refine Kept.alloc ?_ _ | refine Kept.ext ?_ _ | refine Kept.drew ?_ | refine Kept.drewN ?_ _))))).mono ?_
    rintro e w5 ⟨rfl, x5, rfl⟩
    go_wp2_with (go_at_call 33; refine (cRank_any _ _ _ _ _ _ _ _ (by omega) (HTM.out.of (by (repeat (first | exact Kept.refl _ | assumption | refine Kept.alloc ?_ _ | refine Kept.ext ?_ _ | refine Kept.drew ?_ | refine Kept.drewN ?_ _))))).mono ?_; rintro e w2 ⟨rfl, x6, rfl⟩; rw [HRF.out, HVF.out])
    have HT0 := Lib.hid (HT.out.next (wr' := ext (ext (ext w3 x4) x5) x6) (by (repeat (first | exact Kept.refl _ | assumption | refine Kept.alloc ?_ _ | refine Kept.ext ?_ _ | refine Kept.drew ?_ | refine Kept.drewN ?_ _))))
    obtain ⟨W0, hW0⟩ : ∃ W0, ext (ext w1 x1) x2 = W0 := ⟨_, rfl⟩
    have HKW := Lib.hid (show Kept w1 W0 by rw [← hW0]; (repeat (first | exact Kept.refl _ | assumption | refine Kept.alloc ?_ _ | refine Kept.ext ?_ _ | refine Kept.drew ?_ | refine Kept.drewN ?_ _)))
    rw [hW0] at HT0
    clear hW0
    go_loopw [14] (fun i wr => ∃ t : Nat, t ≤ m 0 ∧ i = .int .i64 t ∧ ∃ F, OwnM W0 W0.heap.size g (m 0) V (fun _ => n) F wr) (fun i _ => m 0 - (intOf i).toNat)
    case atStart => exact ⟨0, by omega, rfl, _, HT0.out⟩
    case round =>
      obtain ⟨t, ht, rfl, F, hF⟩ := hrel
      by_cases hlt : t < m 0
      · obtain ⟨b, c, hV, hb1, hb2⟩ := (hF.r t hlt).form (by omega)
        have HVt := Lib.hid hV
        obtain ⟨v1, v2, v3, v4⟩ := hF.cellV hlt
        rw [hV] at v1
        have LG : Lower g wr.heap.size := ⟨v4⟩
        have HF := Lib.hid hF
        clear hF hV
        go_wp2_with fail
        go_loopw [15] (fun j w2 => ∃ u : Nat, u ≤ n ∧ j = .int .i64 u ∧ ∃ F, OwnM W0 W0.heap.size g (m 0) V (fun _ => n) F w2) (fun j _ => n - (intOf j).toNat)
        case atStart => exact ⟨0, by omega, rfl, _, HF.out⟩
        case round =>
          obtain ⟨u, hu, rfl, F2, hF2⟩ := hrel
          obtain ⟨u1, u2, u3, u4⟩ := hF2.cellV hlt
          rw [HVt.out] at u1
          have LG2 : Lower g wr.heap.size := ⟨u4⟩
          have HF2 := Lib.hid hF2
          by_cases hlu : u < n
          · obtain ⟨e1, e2, e3, e4, -⟩ := hF2.cellE hlt (j := u) hlu HVt.out
            have LB : Lower b wr.heap.size := ⟨e4⟩
            clear hF2
            go_wp2_with fail
            go_roundw
            case rel => exact ⟨u + 1, by omega, by go_num, _, HF2.out.setE hlt hlu HVt.out _⟩
            case measure => simp [intOf]; omega
          · obtain rfl : u = n := by omega
            clear hF2
            go_wp2_with fail
            go_roundw
            case rel => exact ⟨t + 1, by omega, by go_num, _, HF2.out⟩
            case measure => simp [intOf]; omega
      · obtain rfl : t = m 0 := by omega
        have HKE := Lib.hid (HKW.out.trans hF.on)
        clear hF
        go_wp2_with (first | (go_at_call 36; refine (r6same_any _ _ _ _ _ _ _ _ _ _ _ _ hn (HOM.out.of (HKE.out.trans (by (repeat (first | exact Kept.refl _ | assumption | refine Kept.alloc ?_ _ | refine Kept.ext ?_ _ | refine Kept.drew ?_ | refine Kept.drewN ?_ _))))) (HM.out.of (HKC.out.trans (HKE.out.trans (by (repeat (first | exact Kept.refl _ | assumption | refine Kept.alloc ?_ _ | refine Kept.ext ?_ _ | refine Kept.drew ?_ | refine Kept.drewN ?_ _))))))).mono ?_; rintro e w6 ⟨rfl, x7, rfl⟩) | (go_at_call 17; refine (known6_any _).mono ?_; rintro e w7 ⟨rfl, x9, rfl⟩))
        go_ret
        exact ⟨rfl, HKC.out.trans (HKE.out.trans (by (repeat (first | exact Kept.refl _ | assumption | refine Kept.alloc ?_ _ | refine Kept.ext ?_ _ | refine Kept.drew ?_ | refine Kept.drewN ?_ _))))⟩
  · have hv2 : (E == 0) = false := by simpa using h0
    have hv3 : decide (E = 0) = false := by simpa using h0
    have hct : ∀ (A : Option Addr) (B : Nat → Option Addr) (cp : Nat → Nat) (cap : Nat) w', MatAt w' A n B m cp f → Calls Try.prog 26 #[.slice A n cap] w' fun e w'' => e = .returned (.tuple #[.slice none 0 0, .int .i64 E]) ∧ Kept w' w'' := fun A B cp cap w' hm => by
      have := cTrno_any A n cap B m cp f w' hn hm (by rw [HE.out]; exact h0)
      rwa [HE.out] at this
    have hrt : ∀ w', Kept w w' → Calls Try.prog 35 #[.slice A n cap] w' fun e w'' => e = .returned (.tuple #[.slice none 0 0, .int .i64 E]) ∧ Kept w' w'' := fun w' hk => by
      have := r6trno_any A n cap B m cp f w' hn (HM.out.of hk) (by rw [HE.out]; exact h0)
      rwa [HE.out] at this
    have hs0 : ∀ w', Calls Try.prog 36 #[.slice none 0 0, .slice none 0 0] w' fun e w'' => e = .returned (.bool true) ∧ Kept w' w'' := fun w' =>
      r6same_any none none 0 0 0 (fun _ => none) (fun _ => none) (fun _ => 0) (fun _ => 0) (fun _ => 0) (fun _ _ => 0) w' (by omega) (mat_nil w') (mat_nil w')
    have hr0 : ∀ w', Calls Try.prog 33 #[.slice none 0 0] w' fun e w'' => e = .returned (.tuple #[.int .i64 0, .int .i64 4]) ∧ Kept w' w'' := fun w' =>
      cRank_any none 0 0 (fun _ => none) (fun _ => 0) (fun _ => 0) (fun _ _ => 0) w' (by omega) (mat_nil w')
    have HCT := Lib.hid hct
    have HRT := Lib.hid hrt
    have HS0 := Lib.hid hs0
    have HR0 := Lib.hid hr0
    clear hE hct hrt hs0 hr0 h0
    go_enter Try.func9, Try.ntmps9
    go_wp2_with (first | (go_at_call 15; refine (long6_any _ _ _ _ _ _ _ _ hn (HM.out.of (by (repeat (first | exact Kept.refl _ | assumption | refine Kept.alloc ?_ _ | refine Kept.ext ?_ _ | refine Kept.drew ?_ | refine Kept.drewN ?_ _))))).mono ?_; rintro e w1 ⟨rfl, rfl⟩; rw [HL.out]))
    refine (r6copy_any _ _ _ _ _ _ _ _ hn20 HM20.out (HM.out.of (by (repeat (first | exact Kept.refl _ | assumption | refine Kept.alloc ?_ _ | refine Kept.ext ?_ _ | refine Kept.drew ?_ | refine Kept.drewN ?_ _))))).mono ?_
    rintro e w1 ⟨v, rfl, hkc, ho⟩
    obtain ⟨OA, oc, rfl⟩ := ho.slice
    obtain ⟨OB, od, hOM⟩ := ho.mat HFI.out
    have HOM := Lib.hid hOM
    have HKC := Lib.hid hkc
    clear ho hOM hkc
    go_wp2_with (first | (go_at_call 33; (with_reducible refine (HR0.out _).mono ?_); rintro e w2 ⟨rfl, x3, rfl⟩) | (go_at_call 33; refine (cRank_any _ _ _ _ _ _ _ _ hn (HOM.out.of (by (repeat (first | exact Kept.refl _ | assumption | refine Kept.alloc ?_ _ | refine Kept.ext ?_ _ | refine Kept.drew ?_ | refine Kept.drewN ?_ _))))).mono ?_; rintro e w2 ⟨rfl, x1, rfl⟩; rw [HRK.out, HE.out]) | (go_at_call 34; refine (r6Rank_any _ _ _ _ _ _ _ _ hn (HM.out.of (HKC.out.trans (by (repeat (first | exact Kept.refl _ | assumption | refine Kept.alloc ?_ _ | refine Kept.ext ?_ _ | refine Kept.drew ?_ | refine Kept.drewN ?_ _)))))).mono ?_; rintro e w2 ⟨rfl, x2, rfl⟩; rw [HRK.out, HE.out]) | (go_at_call 26; refine (HCT.out _ _ _ _ _ (HOM.out.of (by (repeat (first | exact Kept.refl _ | assumption | refine Kept.alloc ?_ _ | refine Kept.ext ?_ _ | refine Kept.drew ?_ | refine Kept.drewN ?_ _))))).mono ?_; rintro e w2 ⟨rfl, x4, rfl⟩) | (go_at_call 35; refine (HRT.out _ (HKC.out.trans (by (repeat (first | exact Kept.refl _ | assumption | refine Kept.alloc ?_ _ | refine Kept.ext ?_ _ | refine Kept.drew ?_ | refine Kept.drewN ?_ _))))).mono ?_; rintro e w2 ⟨rfl, x5, rfl⟩) | (go_at_call 36; (with_reducible refine (HS0.out _).mono ?_); rintro e w2 ⟨rfl, x6, rfl⟩))
    go_loopw [14] (fun i wr => i = .int .i64 0 ∧ Kept w1 wr) (fun _ _ => 0)
    case atStart => exact ⟨rfl, by (repeat (first | exact Kept.refl _ | assumption | refine Kept.alloc ?_ _ | refine Kept.ext ?_ _ | refine Kept.drew ?_ | refine Kept.drewN ?_ _))⟩
    case round =>
      obtain ⟨rfl, y, rfl⟩ := hrel
      go_wp2_with (first | (go_at_call 36; refine (r6same_any _ _ _ _ _ _ _ _ _ _ _ _ hn (HOM.out.of (by (repeat (first | exact Kept.refl _ | assumption | refine Kept.alloc ?_ _ | refine Kept.ext ?_ _ | refine Kept.drew ?_ | refine Kept.drewN ?_ _)))) (HM.out.of (HKC.out.trans (by (repeat (first | exact Kept.refl _ | assumption | refine Kept.alloc ?_ _ | refine Kept.ext ?_ _ | refine Kept.drew ?_ | refine Kept.drewN ?_ _)))))).mono ?_; rintro e w6 ⟨rfl, x7, rfl⟩) | (go_at_call 17; refine (known6_any _).mono ?_; rintro e w7 ⟨rfl, x9, rfl⟩))
      go_ret
      exact ⟨rfl, HKC.out.trans (by (repeat (first | exact Kept.refl _ | assumption | refine Kept.alloc ?_ _ | refine Kept.ext ?_ _ | refine Kept.drew ?_ | refine Kept.drewN ?_ _)))⟩
theorem ownCrossRanks : ownKnob Try.prog.godebug = none := by kernel_rfl
theorem laidOutCrossRanks : laidOutB Try.prog = true := by kernel_rfl
set_option linter.unusedVariables false in
set_option maxRecDepth 100000 in
theorem liftedCrossRanks (os : Os) (started : os.Started) (H : Type) (enc : TypeId × Value → H) :
    ReturnsInHanded {} Try.checked os 9 .any (Rows.crossRanksSpec.pre6 enc Try.prog Try.f9 Rows.crossRanksRow.domain false) (Rows.crossRanksSpec.post enc Try.prog Try.f9 false true false false) := by
  refine returnsInHanded_of_change (C := Try.checked) ownCrossRanks started (by kernel_rfl) Try.func9
    (ChangeSpec.witness6 (enc := enc) (C := Try.checked) false ⟨#[], #[.slice none 0 0], []⟩ 8 (by kernel_rfl) (by kernel_rfl) (by kernel_rfl) (by kernel_rfl)) ?_
  intro W base args ds gs before hval0 hW hcnd _
  have hval : ∀ (j : Nat) t v, Try.f9.params[j]? = some t → args[j]? = some v → Value.okWide Try.prog W .any base t v := hval0
  have hW' := hW
  obtain ⟨p, q, hA0, hV, rfl, hfz, hnd⟩ := hW
  have hA : DataW.TrodAll enc Try.prog W 0 (fun _ => true) true Try.f9.params.toList args.toList ds p := hA0
  rw [Try.params9] at hA hval
  obtain ⟨v0, vs0, d0, ds0, p0, q0, hargs, rfl, rfl, h0, r0⟩ := trodAll_cons hA
  obtain ⟨rfl, rfl, rfl⟩ := trodAll_nil r0
  obtain rfl : args = #[v0] := by cases args; simp_all
  obtain ⟨rfl, rfl⟩ := trodVars_none hV
  have lt0 : ∀ x ∈ p0, x.block < W.heap.size := by obtain ⟨m, hm⟩ := h0; exact DataW.trod_lt m _ _ _ hm
  obtain ⟨A0, n0, cap0, B0, m0, cp0, f0, rfl, hl0, hm0, hr0⟩ := open_mat Try.underlying22 (by kernel_rfl) Try.underlying23 (by kernel_rfl) (by kernel_rfl) (hval 0 22 v0 rfl rfl) h0 lt0
  clear hA0 hval0
  refine (cranks_law A0 n0 cap0 B0 m0 cp0 f0 W ⟨hl0, hm0, hr0⟩).mono fun e W' ⟨he, hk⟩ => ?_
  subst he
  have bel := hk.below
  exact ⟨_, rfl, _, _, _, [], _, [], hW', trodAll_mk1 (shut_bool Try.underlying4 _), (trodAll_cons_mk (Below.trod laidOutCrossRanks (by kernel_rfl) (of_decide_eq_true (by kernel_rfl)) h0 bel lt0) trodAll_mk0), rfl, bel.frame _, fun h => by cases h⟩
/-- For every input the statement CrossRanks returns true, and each argument reads afterwards as it read before. -/
theorem crossRanks_holds : Rows.CrossRanksSaid :=
  OpenClaim.holds_of_wide 9 Try.f9 rfl rfl rfl rfl rfl rfl rfl ⟨rfl, rfl, rfl, rfl, rfl⟩ rfl rfl rfl rfl rfl (by kernel_rfl) Try.func9 (by kernel_rfl)
    (of_decide_eq_true (by kernel_rfl)) (by unfold Func.isWrapper; first | (rw [if_pos (by decide +kernel)]; kernel_rfl) | (rw [if_neg (by decide +kernel)]; exact ⟨rfl, rfl⟩))
    (fun os started H enc _ => liftedCrossRanks os started H enc)
#print axioms crossRanks_holds

end Go.Proofs.Ytoejdfpmmgldpaa
