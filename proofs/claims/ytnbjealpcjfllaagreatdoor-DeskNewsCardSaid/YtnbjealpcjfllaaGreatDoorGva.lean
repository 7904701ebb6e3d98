/- Contract: the error of a mesh, of the program. Conditions: the lists' lengths are ints. -/
import Derived.Test.YtnbjealpcjfllaaGreatDoorGsf
import Derived.Test.YtnbjealpcjfllaaGreatDoorGcv
namespace Go.Proofs.YtnbjealpcjfllaaGreatDoor
set_option linter.unusedVariables false
set_option linter.unusedSimpArgs false
open Go.RowKit Go.Maps
theorem used_step {F : Nat → Nat → Int} {k n : Nat} (hc : cornB n F k = true) (i : Nat) :
    (if i = (F k 2).toNat then true else if i = (F k 1).toNat then true else if i = (F k 0).toNat then true else usedB F k i) = usedB F (k + 1) i := by
  obtain ⟨⟨a0, a1⟩, ⟨b0, b1⟩, c0, c1⟩ := cornB_true hc
  unfold usedB
  rw [List.range_succ, List.any_append]
  by_cases h2 : i = (F k 2).toNat
  · have e : F k 2 = i := by omega
    rw [if_pos h2]; simp [e]
  by_cases h1 : i = (F k 1).toNat
  · have e : F k 1 = i := by omega
    rw [if_neg h2, if_pos h1]; simp [e]
  by_cases h0 : i = (F k 0).toNat
  · have e : F k 0 = i := by omega
    rw [if_neg h2, if_neg h1, if_pos h0]; simp [e]
  · have e0 : ¬ F k 0 = i := by omega
    have e1 : ¬ F k 1 = i := by omega
    have e2 : ¬ F k 2 = i := by omega
    rw [if_neg h2, if_neg h1, if_neg h0]; simp [e0, e1, e2]
theorem frB_range (m : Nat) : frB (m : Int) 1 96 = decide (1 ≤ m ∧ m ≤ 96) := by unfold frB; rw [decide_eq_decide]; omega
theorem validE_4a {n m : Nat} {P F : Nat → Nat → Int} (h : 64 < n) : validE n P m F = 4 := by
  unfold validE largeB
  simp [h]
theorem validE_4b {n m : Nat} {P F : Nat → Nat → Int} (h : ¬ (1 ≤ m ∧ m ≤ 96)) : validE n P m F = 4 := by
  unfold validE largeB
  simp only [h, decide_false, Bool.not_false, Bool.or_true, if_true]
theorem large_no {n m : Nat} (h1 : n ≤ 64) (h2 : 1 ≤ m ∧ m ≤ 96) : ¬ largeB n m = true := by
  unfold largeB
  simp only [h2, and_self, decide_true, Bool.not_true, Bool.or_false, decide_eq_true_eq]
  omega
theorem validE_1 {n m : Nat} {P F : Nat → Nat → Int} (h1 : n ≤ 64) (h2 : 1 ≤ m ∧ m ≤ 96) (h : ptsBad P n = true) : validE n P m F = 1 := by
  unfold validE
  rw [if_neg (large_no h1 h2), if_pos h]
theorem validE_f {n m : Nat} {P F : Nat → Nat → Int} (h1 : n ≤ 64) (h2 : 1 ≤ m ∧ m ≤ 96) (h : ptsBad P n = false) (hf : facesE n P F m ≠ 0) : validE n P m F = facesE n P F m := by
  unfold validE
  rw [if_neg (large_no h1 h2), if_neg (by rw [h]; simp), if_pos hf]
theorem validE_7 {n m : Nat} {P F : Nat → Nat → Int} (h1 : n ≤ 64) (h2 : 1 ≤ m ∧ m ≤ 96) (h : ptsBad P n = false) (hf : facesE n P F m = 0) (ho : openB F m = true) : validE n P m F = 7 := by
  unfold validE
  rw [if_neg (large_no h1 h2), if_neg (by rw [h]; simp), if_neg (by simpa using hf), if_pos ho]
theorem validE_5 {n m : Nat} {P F : Nat → Nat → Int} (h1 : n ≤ 64) (h2 : 1 ≤ m ∧ m ≤ 96) (h : ptsBad P n = false) (hf : facesE n P F m = 0) (ho : openB F m = false) (hl : looseB F m n = true) : validE n P m F = 5 := by
  unfold validE
  rw [if_neg (large_no h1 h2), if_neg (by rw [h]; simp), if_neg (by simpa using hf), if_neg (by rw [ho]; simp), if_pos hl]
theorem validE_v {n m : Nat} {P F : Nat → Nat → Int} (h1 : n ≤ 64) (h2 : 1 ≤ m ∧ m ≤ 96) (h : ptsBad P n = false) (hf : facesE n P F m = 0) (ho : openB F m = false) (hl : looseB F m n = false) : validE n P m F = if vol P F m ≤ 0 then 8 else 0 := by
  unfold validE
  rw [if_neg (large_no h1 h2), if_neg (by rw [h]; simp), if_neg (by simpa using hf), if_neg (by rw [ho]; simp), if_neg (by rw [hl]; simp)]
theorem side_no {F : Nat → Nat → Int} {m : Nat} {p q : Int} (h : sideBad F m p q = false) : cnt F m p q = 1 ∧ cnt F m q p = 1 := by
  unfold sideBad at h
  simpa using h
theorem side_yes {F : Nat → Nat → Int} {m : Nat} {p q : Int} (h : sideBad F m p q = true) : cnt F m p q ≠ 1 ∨ (cnt F m p q = 1 ∧ cnt F m q p ≠ 1) := by
  unfold sideBad at h
  simp only [Bool.or_eq_true, Bool.not_eq_true', decide_eq_false_iff_not] at h
  by_cases e : cnt F m p q = 1
  · exact .inr ⟨e, h.resolve_left (fun q => q e)⟩
  · exact .inl e
theorem infoBool : (Tryz.prog.info? 4).map (fun i => (i.zero, i.size, i.bytes)) = some (some (.bool false), 1, 1) := by kernel_rfl
set_option maxRecDepth 100000 in
set_option maxHeartbeats 40000000 in
theorem svalidate_any (A B : Option Addr) (n cap m cap2 : Nat) (P F : Nat → Nat → Int) (w : World) (hn : n ≤ 9223372036854775807 ∧ m ≤ 9223372036854775807) (hP : RowsAt w A n 3 P) (hF : RowsAt w B m 3 F) :
    Calls Tryz.prog 71 #[.agg #[.slice A n cap, .slice B m cap2]] w fun r w' => r = .returned (.int .i64 (validE n P m F)) ∧ Kept w w' := by
  obtain ⟨hn1, hn2⟩ := hn
  have HP := Lib.hid hP
  have HF := Lib.hid hF
  have IF := rows_I hF
  clear hP hF
  have hfr := frB_range m
  by_cases h1 : 64 < n
  · rw [validE_4a h1]
    clear hfr
    go_enter Tryz.func71, Tryz.ntmps71
    go_wp2_with fail
    go_ret
    exact ⟨rfl, by (repeat (first | exact Kept.refl _ | assumption | refine Kept.alloc ?_ _ | refine Kept.ext ?_ _ | refine Kept.drew ?_ | refine Kept.drewN ?_ _))⟩
  have h1' : n ≤ 64 := by omega
  by_cases h2 : 1 ≤ m ∧ m ≤ 96
  case neg =>
    rw [validE_4b h2]
    rw [decide_eq_false h2] at hfr
    clear h2
    go_enter Tryz.func71, Tryz.ntmps71
    go_wp2_with (first | (go_at_call 115; refine (sfrom_any _ _ _ _).mono ?_; rintro e w1 ⟨rfl, rfl⟩))
    go_ret
    exact ⟨rfl, by (repeat (first | exact Kept.refl _ | assumption | refine Kept.alloc ?_ _ | refine Kept.ext ?_ _ | refine Kept.drew ?_ | refine Kept.drewN ?_ _))⟩
  rw [decide_eq_true h2] at hfr
  cases hpb : ptsBad P n
  case true =>
    rw [validE_1 h1' h2 hpb]
    have hpe : ptsE P n = 1 := if_pos hpb
    clear hpb h2
    go_enter Tryz.func71, Tryz.ntmps71
    go_wp2_with (first | (go_at_call 115; refine (sfrom_any _ _ _ _).mono ?_; rintro e w1 ⟨rfl, rfl⟩) | (go_at_call 116; refine (spoints_any _ _ _ _ _ _ P _ h1' (HP.out.of (by (repeat (first | exact Kept.refl _ | assumption | refine Kept.alloc ?_ _ | refine Kept.ext ?_ _ | refine Kept.drew ?_ | refine Kept.drewN ?_ _))))).mono ?_; rintro e w1 ⟨rfl, x, rfl⟩; rw [hpe]))
    go_ret
    exact ⟨rfl, by (repeat (first | exact Kept.refl _ | assumption | refine Kept.alloc ?_ _ | refine Kept.ext ?_ _ | refine Kept.drew ?_ | refine Kept.drewN ?_ _))⟩
  have hpe : ptsE P n = 0 := if_neg (by rw [hpb]; simp)
  obtain ⟨i0, hi, hz0, hz1, hz2⟩ := info_parts infoBool
  have HI := Lib.hid (And.intro hi (And.intro hz0 (And.intro hz1 hz2)))
  clear hi hz0 hz1 hz2
  have HB := Lib.hid hpb
  have HPE := Lib.hid hpe
  clear hpe
  go_enter Tryz.func71, Tryz.ntmps71
  go_wp2_with (first | (go_at_call 115; refine (sfrom_any _ _ _ _).mono ?_; rintro e w1 ⟨rfl, rfl⟩))
  refine (spoints_any _ _ _ _ _ _ P _ h1' (HP.out.of (by (repeat (first | exact Kept.refl _ | assumption | refine Kept.alloc ?_ _ | refine Kept.ext ?_ _ | refine Kept.drew ?_ | refine Kept.drewN ?_ _))))).mono ?_
  rintro e w1 ⟨rfl, x0, rfl⟩
  rw [HPE.out]
  go_wp2_with (at_make; refine wpList_make_row _ rfl _ _ _ rfl 4 i0 _ Tryz.underlying185 HI.out.1 HI.out.2.1 HI.out.2.2.1 rfl .i64 .i64 n rfl rfl ?_ (by omega) ?_)
  · rw [HI.out.2.2.2]; omega
  clear hfr
  go_loopw [40] (fun i wr => ∃ k : Nat, k ≤ m ∧ i = .int .i64 k ∧ (∀ j, j < k → faceE n P F j = 0) ∧ (∃ y, wr = ext (ext (w.alloc (.cells #[.slice A n cap, .slice B m cap2] 42)) x0) y) ∧ RowU wr (adv (w.heap.size + 1) x0.obs.size) n (usedB F k)) (fun i _ => m - (intOf i).toNat)
  case atStart => exact ⟨0, by omega, rfl, fun j h => by omega, show Kept _ _ by (repeat (first | exact Kept.refl _ | assumption | refine Kept.alloc ?_ _ | refine Kept.ext ?_ _ | refine Kept.drew ?_ | refine Kept.drewN ?_ _)), by
    have := RowU.made (ext (w.alloc (.cells #[.slice A n cap, .slice B m cap2] 42)) x0) n 4
    rw [ext_size, World.size_alloc] at this
    exact this⟩
  case round =>
    obtain ⟨k, hk, rfl, hz, ⟨y, rfl⟩, hU⟩ := hrel
    have HZ := Lib.hid hz
    have HU := Lib.hid hU
    clear hz hU
    by_cases hlt : k < m
    · obtain ⟨fb, off, rfl, hb, f0, f1, f2⟩ := rows3 HF.out hlt
      have LB : Lower fb w.heap.size := ⟨hb⟩
      by_cases hfe : faceE n P F k = 0
      case neg =>
        have hv := validE_f h1' h2 HB.out (by rw [facesE_hit HZ.out hfe hlt]; exact hfe)
        rw [facesE_hit HZ.out hfe hlt] at hv
        have hfe2 : (faceE n P F k == 0) = false := by simpa using hfe
        have HV := Lib.hid hv
        clear hv
        go_wp2_with (go_at_call 117; refine (sface_any _ _ _ _ _ _ P F k _ hn1 HB.out (HP.out.of (by (repeat (first | exact Kept.refl _ | assumption | refine Kept.alloc ?_ _ | refine Kept.ext ?_ _ | refine Kept.drew ?_ | refine Kept.drewN ?_ _))))).mono ?_; rintro e w1 ⟨rfl, x, rfl⟩)
        go_ret
        rw [HV.out]
        exact ⟨rfl, by (repeat (first | exact Kept.refl _ | assumption | refine Kept.alloc ?_ _ | refine Kept.ext ?_ _ | refine Kept.drew ?_ | refine Kept.drewN ?_ _))⟩
      · have hcB := (faceE_0 hfe).1
        obtain ⟨c0, c1, c2⟩ := cornB_true hcB
        have HFE := Lib.hid hfe
        clear hfe
        go_wp2_with (go_at_call 117; refine (sface_any _ _ _ _ _ _ P F k _ hn1 HB.out (HP.out.of (by (repeat (first | exact Kept.refl _ | assumption | refine Kept.alloc ?_ _ | refine Kept.ext ?_ _ | refine Kept.drew ?_ | refine Kept.drewN ?_ _))))).mono ?_; rintro e w1 ⟨rfl, x, rfl⟩; rw [HFE.out])
        refine wp_loop_rounds 4 ?_
        rw [rounds_succ]
        go_wp2_with (refine wp_putU _ rfl _ _ rfl (adv (w.heap.size + 1) x0.obs.size) n _ (HU.out.kept (by (repeat (first | exact Kept.refl _ | assumption | refine Kept.alloc ?_ _ | refine Kept.ext ?_ _ | refine Kept.drew ?_ | refine Kept.drewN ?_ _)))) (F k 0).toNat true rfl rfl (by omega) ?_; intro w2 hU2 hg2)
        have hk2 : Kept (ext (w.alloc (.cells #[.slice A n cap, .slice (some ⟨fb, off, none⟩) m cap2] 42)) x0) w2 := Kept.map_store (by (repeat (first | exact Kept.refl _ | assumption | refine Kept.alloc ?_ _ | refine Kept.ext ?_ _ | refine Kept.drew ?_ | refine Kept.drewN ?_ _))) (by simp) hg2
        obtain ⟨y1, rfl⟩ := hk2
        have HU1 := Lib.hid hU2
        clear hU2 hg2
        rw [rounds_succ]
        go_wp2_with (refine wp_putU _ rfl _ _ rfl (adv (w.heap.size + 1) x0.obs.size) n _ (HU1.out.kept (by (repeat (first | exact Kept.refl _ | assumption | refine Kept.alloc ?_ _ | refine Kept.ext ?_ _ | refine Kept.drew ?_ | refine Kept.drewN ?_ _)))) (F k 1).toNat true rfl rfl (by omega) ?_; intro w2 hU2 hg2)
        have hk2 : Kept (ext (w.alloc (.cells #[.slice A n cap, .slice (some ⟨fb, off, none⟩) m cap2] 42)) x0) w2 := Kept.map_store (by (repeat (first | exact Kept.refl _ | assumption | refine Kept.alloc ?_ _ | refine Kept.ext ?_ _ | refine Kept.drew ?_ | refine Kept.drewN ?_ _))) (by simp) hg2
        obtain ⟨y2, rfl⟩ := hk2
        have HU2 := Lib.hid hU2
        clear hU2 hg2
        rw [rounds_succ]
        go_wp2_with (refine wp_putU _ rfl _ _ rfl (adv (w.heap.size + 1) x0.obs.size) n _ (HU2.out.kept (by (repeat (first | exact Kept.refl _ | assumption | refine Kept.alloc ?_ _ | refine Kept.ext ?_ _ | refine Kept.drew ?_ | refine Kept.drewN ?_ _)))) (F k 2).toNat true rfl rfl (by omega) ?_; intro w2 hU2 hg2)
        have hk2 : Kept (ext (w.alloc (.cells #[.slice A n cap, .slice (some ⟨fb, off, none⟩) m cap2] 42)) x0) w2 := Kept.map_store (by (repeat (first | exact Kept.refl _ | assumption | refine Kept.alloc ?_ _ | refine Kept.ext ?_ _ | refine Kept.drew ?_ | refine Kept.drewN ?_ _))) (by simp) hg2
        obtain ⟨y3, rfl⟩ := hk2
        have HU3 := Lib.hid hU2
        clear hU2 hg2
        rw [rounds_succ]
        go_wp2_with fail
        go_roundw
        case rel => exact ⟨k + 1, by omega, by go_num, fun i hi => by
            by_cases e : i = k
            · subst e; exact HFE.out
            · exact HZ.out i (by omega), ⟨y3, rfl⟩, HU3.out.congr fun i _ => used_step (n := n) hcB i⟩
        case measure => simp [intOf]; omega
    · obtain rfl : k = m := by omega
      have hfz := facesE_zero HZ.out
      have HFZ := Lib.hid hfz
      have HCB := Lib.hid (fun i (hi : i < k) => (faceE_0 (HZ.out i hi)).1)
      clear hfz HZ
      go_wp2_with fail
      refine (counted_any _ _ _ _ _ _ F _ (by omega) (HF.out.of (by (repeat (first | exact Kept.refl _ | assumption | refine Kept.alloc ?_ _ | refine Kept.ext ?_ _ | refine Kept.drew ?_ | refine Kept.drewN ?_ _))))).mono ?_
      rintro e w1 ⟨cb, rfl, ⟨x1, rfl⟩, hM⟩
      obtain ⟨c, hce, hM⟩ : ∃ c : Int × Int → Int, (∀ s, c s = cnt F k s.1 s.2) ∧ MapS _ cb (3 * k) c := ⟨_, fun _ => rfl, hM⟩
      have HCE := Lib.hid hce
      clear hce
      have HM := Lib.hid hM
      have HV := Lib.hid (HU.out.kept (show Kept _ (ext (ext (ext (w.alloc (.cells #[.slice A n cap, .slice B k cap2] 42)) x0) y) x1) by (repeat (first | exact Kept.refl _ | assumption | refine Kept.alloc ?_ _ | refine Kept.ext ?_ _ | refine Kept.drew ?_ | refine Kept.drewN ?_ _))))
      clear hM HU
      go_wp2_with fail
      go_loopw [64] (fun i wr => ∃ q : Nat, q ≤ k ∧ i = .int .i64 q ∧ (∀ j, j < q → fOpen F k j = false) ∧ (∃ z, wr = ext (ext (ext (ext (w.alloc (.cells #[.slice A n cap, .slice B k cap2] 42)) x0) y) x1) z)) (fun i _ => k - (intOf i).toNat)
      case atStart => exact ⟨0, by omega, rfl, fun j h => by omega, show Kept _ _ by (repeat (first | exact Kept.refl _ | assumption | refine Kept.alloc ?_ _ | refine Kept.ext ?_ _ | refine Kept.drew ?_ | refine Kept.drewN ?_ _))⟩
      case round =>
        obtain ⟨q, hq, rfl, hz, z, rfl⟩ := hrel
        have HZ := Lib.hid hz
        clear hz
        by_cases hlt : q < k
        · obtain ⟨fb, off, rfl, hb, f0, f1, f2⟩ := rows3 HF.out hlt
          have LB : Lower fb w.heap.size := ⟨hb⟩
          have i0 := IF q hlt 0 (by omega)
          have i1 := IF q hlt 1 (by omega)
          have i2 := IF q hlt 2 (by omega)
          have HI3 := Lib.hid (And.intro i0 (And.intro i1 i2))
          clear i0 i1 i2
          have bad7 : fOpen F k q = true → validE n P k F = 7 := fun h => validE_7 h1' h2 HB.out HFZ.out (any_true hlt h)
          go_wp2_with (first | (go_at_call 119; refine (ssides_any _ _ _ _).mono ?_; rintro e w1 ⟨rfl, x, rfl⟩))
          refine wp_loop_rounds 4 ?_
          cases hs0 : sideBad F k (F q 0) (F q 1)
          case true =>
            have HV7 := Lib.hid (bad7 (by unfold fOpen; rw [hs0]; rfl))
            rcases side_yes hs0 with g1 | ⟨g1, g2⟩
            · rw [← HCE.out (F q 0, F q 1)] at g1
              have g1b : (c (F q 0, F q 1) == 1) = false := by simpa using g1
              have g1c : decide (c (F q 0, F q 1) = 1) = false := by simpa using g1
              rw [rounds_succ]
              go_wp2_with (first | (at_lookup; refine wp_lookI _ (by rfl) _ _ _ rfl (Keyed.of_law lawSide) Tryz.underlying187 Tryz.underlying3 (zeroInt _) cb (3 * k) c (HM.out.kept (by (repeat (first | exact Kept.refl _ | assumption | refine Kept.alloc ?_ _ | refine Kept.ext ?_ _ | refine Kept.drew ?_ | refine Kept.drewN ?_ _)))) (F q 0, F q 1) rfl rfl ⟨HI3.out.1, HI3.out.2.1⟩ (keyOf_side _ ⟨HI3.out.1, HI3.out.2.1⟩) ?_) | (at_lookup; refine wp_lookI _ (by rfl) _ _ _ rfl (Keyed.of_law lawSide) Tryz.underlying187 Tryz.underlying3 (zeroInt _) cb (3 * k) c (HM.out.kept (by (repeat (first | exact Kept.refl _ | assumption | refine Kept.alloc ?_ _ | refine Kept.ext ?_ _ | refine Kept.drew ?_ | refine Kept.drewN ?_ _)))) (F q 1, F q 0) rfl rfl ⟨HI3.out.2.1, HI3.out.1⟩ (keyOf_side _ ⟨HI3.out.2.1, HI3.out.1⟩) ?_) | (go_at_call 120; refine (sback_any _ _ _).mono ?_; rintro e w1 ⟨rfl, xb, rfl⟩))
              all_goals first
              | (go_ret; rw [HV7.out]; exact ⟨rfl, by (repeat (first | exact Kept.refl _ | assumption | refine Kept.alloc ?_ _ | refine Kept.ext ?_ _ | refine Kept.drew ?_ | refine Kept.drewN ?_ _))⟩)
              | (exfalso; omega)
            · rw [← HCE.out (F q 0, F q 1)] at g1
              rw [← HCE.out (F q 1, F q 0)] at g2
              have g2b : (c (F q 1, F q 0) == 1) = false := by simpa using g2
              have g2c : decide (c (F q 1, F q 0) = 1) = false := by simpa using g2
              rw [rounds_succ]
              go_wp2_with (first | (at_lookup; refine wp_lookI _ (by rfl) _ _ _ rfl (Keyed.of_law lawSide) Tryz.underlying187 Tryz.underlying3 (zeroInt _) cb (3 * k) c (HM.out.kept (by (repeat (first | exact Kept.refl _ | assumption | refine Kept.alloc ?_ _ | refine Kept.ext ?_ _ | refine Kept.drew ?_ | refine Kept.drewN ?_ _)))) (F q 0, F q 1) rfl rfl ⟨HI3.out.1, HI3.out.2.1⟩ (keyOf_side _ ⟨HI3.out.1, HI3.out.2.1⟩) ?_) | (at_lookup; refine wp_lookI _ (by rfl) _ _ _ rfl (Keyed.of_law lawSide) Tryz.underlying187 Tryz.underlying3 (zeroInt _) cb (3 * k) c (HM.out.kept (by (repeat (first | exact Kept.refl _ | assumption | refine Kept.alloc ?_ _ | refine Kept.ext ?_ _ | refine Kept.drew ?_ | refine Kept.drewN ?_ _)))) (F q 1, F q 0) rfl rfl ⟨HI3.out.2.1, HI3.out.1⟩ (keyOf_side _ ⟨HI3.out.2.1, HI3.out.1⟩) ?_) | (go_at_call 120; refine (sback_any _ _ _).mono ?_; rintro e w1 ⟨rfl, xb, rfl⟩))
              all_goals first
              | (go_ret; rw [HV7.out]; exact ⟨rfl, by (repeat (first | exact Kept.refl _ | assumption | refine Kept.alloc ?_ _ | refine Kept.ext ?_ _ | refine Kept.drew ?_ | refine Kept.drewN ?_ _))⟩)
              | (exfalso; omega)
          obtain ⟨g0, g0'⟩ := side_no hs0
          rw [← HCE.out (F q 0, F q 1)] at g0
          rw [← HCE.out (F q 1, F q 0)] at g0'
          rw [rounds_succ]
          go_wp2_with (first | (at_lookup; refine wp_lookI _ (by rfl) _ _ _ rfl (Keyed.of_law lawSide) Tryz.underlying187 Tryz.underlying3 (zeroInt _) cb (3 * k) c (HM.out.kept (by (repeat (first | exact Kept.refl _ | assumption | refine Kept.alloc ?_ _ | refine Kept.ext ?_ _ | refine Kept.drew ?_ | refine Kept.drewN ?_ _)))) (F q 0, F q 1) rfl rfl ⟨HI3.out.1, HI3.out.2.1⟩ (keyOf_side _ ⟨HI3.out.1, HI3.out.2.1⟩) ?_) | (at_lookup; refine wp_lookI _ (by rfl) _ _ _ rfl (Keyed.of_law lawSide) Tryz.underlying187 Tryz.underlying3 (zeroInt _) cb (3 * k) c (HM.out.kept (by (repeat (first | exact Kept.refl _ | assumption | refine Kept.alloc ?_ _ | refine Kept.ext ?_ _ | refine Kept.drew ?_ | refine Kept.drewN ?_ _)))) (F q 1, F q 0) rfl rfl ⟨HI3.out.2.1, HI3.out.1⟩ (keyOf_side _ ⟨HI3.out.2.1, HI3.out.1⟩) ?_) | (go_at_call 120; refine (sback_any _ _ _).mono ?_; rintro e w1 ⟨rfl, xb, rfl⟩))
          clear g0 g0'
          cases hs1 : sideBad F k (F q 1) (F q 2)
          case true =>
            have HV7 := Lib.hid (bad7 (by unfold fOpen; rw [hs0, hs1]; rfl))
            rcases side_yes hs1 with g1 | ⟨g1, g2⟩
            · rw [← HCE.out (F q 1, F q 2)] at g1
              have g1b : (c (F q 1, F q 2) == 1) = false := by simpa using g1
              have g1c : decide (c (F q 1, F q 2) = 1) = false := by simpa using g1
              rw [rounds_succ]
              go_wp2_with (first | (at_lookup; refine wp_lookI _ (by rfl) _ _ _ rfl (Keyed.of_law lawSide) Tryz.underlying187 Tryz.underlying3 (zeroInt _) cb (3 * k) c (HM.out.kept (by (repeat (first | exact Kept.refl _ | assumption | refine Kept.alloc ?_ _ | refine Kept.ext ?_ _ | refine Kept.drew ?_ | refine Kept.drewN ?_ _)))) (F q 1, F q 2) rfl rfl ⟨HI3.out.2.1, HI3.out.2.2⟩ (keyOf_side _ ⟨HI3.out.2.1, HI3.out.2.2⟩) ?_) | (at_lookup; refine wp_lookI _ (by rfl) _ _ _ rfl (Keyed.of_law lawSide) Tryz.underlying187 Tryz.underlying3 (zeroInt _) cb (3 * k) c (HM.out.kept (by (repeat (first | exact Kept.refl _ | assumption | refine Kept.alloc ?_ _ | refine Kept.ext ?_ _ | refine Kept.drew ?_ | refine Kept.drewN ?_ _)))) (F q 2, F q 1) rfl rfl ⟨HI3.out.2.2, HI3.out.2.1⟩ (keyOf_side _ ⟨HI3.out.2.2, HI3.out.2.1⟩) ?_) | (go_at_call 120; refine (sback_any _ _ _).mono ?_; rintro e w1 ⟨rfl, xb, rfl⟩))
              all_goals first
              | (go_ret; rw [HV7.out]; exact ⟨rfl, by (repeat (first | exact Kept.refl _ | assumption | refine Kept.alloc ?_ _ | refine Kept.ext ?_ _ | refine Kept.drew ?_ | refine Kept.drewN ?_ _))⟩)
              | (exfalso; omega)
            · rw [← HCE.out (F q 1, F q 2)] at g1
              rw [← HCE.out (F q 2, F q 1)] at g2
              have g2b : (c (F q 2, F q 1) == 1) = false := by simpa using g2
              have g2c : decide (c (F q 2, F q 1) = 1) = false := by simpa using g2
              rw [rounds_succ]
              go_wp2_with (first | (at_lookup; refine wp_lookI _ (by rfl) _ _ _ rfl (Keyed.of_law lawSide) Tryz.underlying187 Tryz.underlying3 (zeroInt _) cb (3 * k) c (HM.out.kept (by (repeat (first | exact Kept.refl _ | assumption | refine Kept.alloc ?_ _ | refine Kept.ext ?_ _ | refine Kept.drew ?_ | refine Kept.drewN ?_ _)))) (F q 1, F q 2) rfl rfl ⟨HI3.out.2.1, HI3.out.2.2⟩ (keyOf_side _ ⟨HI3.out.2.1, HI3.out.2.2⟩) ?_) | (at_lookup; refine wp_lookI _ (by rfl) _ _ _ rfl (Keyed.of_law lawSide) Tryz.underlying187 Tryz.underlying3 (zeroInt _) cb (3 * k) c (HM.out.kept (by (repeat (first | exact Kept.refl _ | assumption | refine Kept.alloc ?_ _ | refine Kept.ext ?_ _ | refine Kept.drew ?_ | refine Kept.drewN ?_ _)))) (F q 2, F q 1) rfl rfl ⟨HI3.out.2.2, HI3.out.2.1⟩ (keyOf_side _ ⟨HI3.out.2.2, HI3.out.2.1⟩) ?_) | (go_at_call 120; refine (sback_any _ _ _).mono ?_; rintro e w1 ⟨rfl, xb, rfl⟩))
              all_goals first
              | (go_ret; rw [HV7.out]; exact ⟨rfl, by (repeat (first | exact Kept.refl _ | assumption | refine Kept.alloc ?_ _ | refine Kept.ext ?_ _ | refine Kept.drew ?_ | refine Kept.drewN ?_ _))⟩)
              | (exfalso; omega)
          obtain ⟨g1, g1'⟩ := side_no hs1
          rw [← HCE.out (F q 1, F q 2)] at g1
          rw [← HCE.out (F q 2, F q 1)] at g1'
          rw [rounds_succ]
          go_wp2_with (first | (at_lookup; refine wp_lookI _ (by rfl) _ _ _ rfl (Keyed.of_law lawSide) Tryz.underlying187 Tryz.underlying3 (zeroInt _) cb (3 * k) c (HM.out.kept (by (repeat (first | exact Kept.refl _ | assumption | refine Kept.alloc ?_ _ | refine Kept.ext ?_ _ | refine Kept.drew ?_ | refine Kept.drewN ?_ _)))) (F q 1, F q 2) rfl rfl ⟨HI3.out.2.1, HI3.out.2.2⟩ (keyOf_side _ ⟨HI3.out.2.1, HI3.out.2.2⟩) ?_) | (at_lookup; refine wp_lookI _ (by rfl) _ _ _ rfl (Keyed.of_law lawSide) Tryz.underlying187 Tryz.underlying3 (zeroInt _) cb (3 * k) c (HM.out.kept (by (repeat (first | exact Kept.refl _ | assumption | refine Kept.alloc ?_ _ | refine Kept.ext ?_ _ | refine Kept.drew ?_ | refine Kept.drewN ?_ _)))) (F q 2, F q 1) rfl rfl ⟨HI3.out.2.2, HI3.out.2.1⟩ (keyOf_side _ ⟨HI3.out.2.2, HI3.out.2.1⟩) ?_) | (go_at_call 120; refine (sback_any _ _ _).mono ?_; rintro e w1 ⟨rfl, xb, rfl⟩))
          clear g1 g1'
          cases hs2 : sideBad F k (F q 2) (F q 0)
          case true =>
            have HV7 := Lib.hid (bad7 (by unfold fOpen; rw [hs0, hs1, hs2]; rfl))
            rcases side_yes hs2 with g1 | ⟨g1, g2⟩
            · rw [← HCE.out (F q 2, F q 0)] at g1
              have g1b : (c (F q 2, F q 0) == 1) = false := by simpa using g1
              have g1c : decide (c (F q 2, F q 0) = 1) = false := by simpa using g1
              rw [rounds_succ]
              go_wp2_with (first | (at_lookup; refine wp_lookI _ (by rfl) _ _ _ rfl (Keyed.of_law lawSide) Tryz.underlying187 Tryz.underlying3 (zeroInt _) cb (3 * k) c (HM.out.kept (by (repeat (first | exact Kept.refl _ | assumption | refine Kept.alloc ?_ _ | refine Kept.ext ?_ _ | refine Kept.drew ?_ | refine Kept.drewN ?_ _)))) (F q 2, F q 0) rfl rfl ⟨HI3.out.2.2, HI3.out.1⟩ (keyOf_side _ ⟨HI3.out.2.2, HI3.out.1⟩) ?_) | (at_lookup; refine wp_lookI _ (by rfl) _ _ _ rfl (Keyed.of_law lawSide) Tryz.underlying187 Tryz.underlying3 (zeroInt _) cb (3 * k) c (HM.out.kept (by (repeat (first | exact Kept.refl _ | assumption | refine Kept.alloc ?_ _ | refine Kept.ext ?_ _ | refine Kept.drew ?_ | refine Kept.drewN ?_ _)))) (F q 0, F q 2) rfl rfl ⟨HI3.out.1, HI3.out.2.2⟩ (keyOf_side _ ⟨HI3.out.1, HI3.out.2.2⟩) ?_) | (go_at_call 120; refine (sback_any _ _ _).mono ?_; rintro e w1 ⟨rfl, xb, rfl⟩))
              all_goals first
              | (go_ret; rw [HV7.out]; exact ⟨rfl, by (repeat (first | exact Kept.refl _ | assumption | refine Kept.alloc ?_ _ | refine Kept.ext ?_ _ | refine Kept.drew ?_ | refine Kept.drewN ?_ _))⟩)
              | (exfalso; omega)
            · rw [← HCE.out (F q 2, F q 0)] at g1
              rw [← HCE.out (F q 0, F q 2)] at g2
              have g2b : (c (F q 0, F q 2) == 1) = false := by simpa using g2
              have g2c : decide (c (F q 0, F q 2) = 1) = false := by simpa using g2
              rw [rounds_succ]
              go_wp2_with (first | (at_lookup; refine wp_lookI _ (by rfl) _ _ _ rfl (Keyed.of_law lawSide) Tryz.underlying187 Tryz.underlying3 (zeroInt _) cb (3 * k) c (HM.out.kept (by (repeat (first | exact Kept.refl _ | assumption | refine Kept.alloc ?_ _ | refine Kept.ext ?_ _ | refine Kept.drew ?_ | refine Kept.drewN ?_ _)))) (F q 2, F q 0) rfl rfl ⟨HI3.out.2.2, HI3.out.1⟩ (keyOf_side _ ⟨HI3.out.2.2, HI3.out.1⟩) ?_) | (at_lookup; refine wp_lookI _ (by rfl) _ _ _ rfl (Keyed.of_law lawSide) Tryz.underlying187 Tryz.underlying3 (zeroInt _) cb (3 * k) c (HM.out.kept (by (repeat (first | exact Kept.refl _ | assumption | refine Kept.alloc ?_ _ | refine Kept.ext ?_ _ | refine Kept.drew ?_ | refine Kept.drewN ?_ _)))) (F q 0, F q 2) rfl rfl ⟨HI3.out.1, HI3.out.2.2⟩ (keyOf_side _ ⟨HI3.out.1, HI3.out.2.2⟩) ?_) | (go_at_call 120; refine (sback_any _ _ _).mono ?_; rintro e w1 ⟨rfl, xb, rfl⟩))
              all_goals first
              | (go_ret; rw [HV7.out]; exact ⟨rfl, by (repeat (first | exact Kept.refl _ | assumption | refine Kept.alloc ?_ _ | refine Kept.ext ?_ _ | refine Kept.drew ?_ | refine Kept.drewN ?_ _))⟩)
              | (exfalso; omega)
          obtain ⟨g2, g2'⟩ := side_no hs2
          rw [← HCE.out (F q 2, F q 0)] at g2
          rw [← HCE.out (F q 0, F q 2)] at g2'
          rw [rounds_succ]
          go_wp2_with (first | (at_lookup; refine wp_lookI _ (by rfl) _ _ _ rfl (Keyed.of_law lawSide) Tryz.underlying187 Tryz.underlying3 (zeroInt _) cb (3 * k) c (HM.out.kept (by (repeat (first | exact Kept.refl _ | assumption | refine Kept.alloc ?_ _ | refine Kept.ext ?_ _ | refine Kept.drew ?_ | refine Kept.drewN ?_ _)))) (F q 2, F q 0) rfl rfl ⟨HI3.out.2.2, HI3.out.1⟩ (keyOf_side _ ⟨HI3.out.2.2, HI3.out.1⟩) ?_) | (at_lookup; refine wp_lookI _ (by rfl) _ _ _ rfl (Keyed.of_law lawSide) Tryz.underlying187 Tryz.underlying3 (zeroInt _) cb (3 * k) c (HM.out.kept (by (repeat (first | exact Kept.refl _ | assumption | refine Kept.alloc ?_ _ | refine Kept.ext ?_ _ | refine Kept.drew ?_ | refine Kept.drewN ?_ _)))) (F q 0, F q 2) rfl rfl ⟨HI3.out.1, HI3.out.2.2⟩ (keyOf_side _ ⟨HI3.out.1, HI3.out.2.2⟩) ?_) | (go_at_call 120; refine (sback_any _ _ _).mono ?_; rintro e w1 ⟨rfl, xb, rfl⟩))
          clear g2 g2'
          rw [rounds_succ]
          go_wp2_with fail
          go_roundw
          case rel => exact ⟨q + 1, by omega, by go_num, fun i hi => by
              by_cases e : i = q
              · subst e; unfold fOpen; rw [hs0, hs1, hs2]; rfl
              · exact HZ.out i (by omega), show Kept _ _ by (repeat (first | exact Kept.refl _ | assumption | refine Kept.alloc ?_ _ | refine Kept.ext ?_ _ | refine Kept.drew ?_ | refine Kept.drewN ?_ _))⟩
          case measure => simp [intOf]; omega
        · obtain rfl : q = k := by omega
          have HO := Lib.hid (show openB F q = false from any_false HZ.out)
          clear HZ HM HCE
          go_wp2_with fail
          go_loopw [88] (fun i wr => ∃ p : Nat, p ≤ n ∧ i = .int .i64 p ∧ (∀ j, j < p → usedB F q j = true) ∧ (∃ z2, wr = ext (ext (ext (ext (w.alloc (.cells #[.slice A n cap, .slice B q cap2] 42)) x0) y) x1) z2)) (fun i _ => n - (intOf i).toNat)
          case atStart => exact ⟨0, by omega, rfl, fun j h => by omega, show Kept _ _ by (repeat (first | exact Kept.refl _ | assumption | refine Kept.alloc ?_ _ | refine Kept.ext ?_ _ | refine Kept.drew ?_ | refine Kept.drewN ?_ _))⟩
          case round =>
            obtain ⟨p, hp, rfl, hz, z2, rfl⟩ := hrel
            have HZ := Lib.hid hz
            clear hz
            by_cases hlt2 : p < n
            · have cu := (HV.out.kept (show Kept _ (ext (ext (ext (ext (w.alloc (.cells #[.slice A n cap, .slice B q cap2] 42)) x0) y) x1) z2) by (repeat (first | exact Kept.refl _ | assumption | refine Kept.alloc ?_ _ | refine Kept.ext ?_ _ | refine Kept.drew ?_ | refine Kept.drewN ?_ _)))).cell p hlt2
              cases hu : usedB F q p
              · rw [hu] at cu
                have HV5 := Lib.hid (validE_5 h1' h2 HB.out HFZ.out HO.out (show looseB F q n = true from any_true hlt2 (by rw [hu]; rfl)))
                go_wp2_with fail
                go_ret
                rw [HV5.out]
                exact ⟨rfl, by (repeat (first | exact Kept.refl _ | assumption | refine Kept.alloc ?_ _ | refine Kept.ext ?_ _ | refine Kept.drew ?_ | refine Kept.drewN ?_ _))⟩
              · rw [hu] at cu
                go_wp2_with fail
                go_roundw
                case rel => exact ⟨p + 1, by omega, by go_num, fun i hi => by
                    by_cases e : i = p
                    · subst e; exact hu
                    · exact HZ.out i (by omega), ⟨z2, rfl⟩⟩
                case measure => simp [intOf]; omega
            · obtain rfl : p = n := by omega
              have HVV := Lib.hid (validE_v h1' h2 HB.out HFZ.out HO.out (show looseB F q p = false from any_false fun i hi => by rw [HZ.out i hi]; rfl))
              clear HZ HV
              go_wp2_with fail
              refine (svolume_any _ _ _ _ _ _ P F _ (by omega) (by omega) HB.out HCB.out (HP.out.of (by (repeat (first | exact Kept.refl _ | assumption | refine Kept.alloc ?_ _ | refine Kept.ext ?_ _ | refine Kept.drew ?_ | refine Kept.drewN ?_ _)))) (HF.out.of (by (repeat (first | exact Kept.refl _ | assumption | refine Kept.alloc ?_ _ | refine Kept.ext ?_ _ | refine Kept.drew ?_ | refine Kept.drewN ?_ _))))).mono ?_
              rintro e w1 ⟨rfl, x5, rfl⟩
              by_cases hv : vol P F q ≤ 0
              · go_wp2_with fail
                go_ret
                rw [HVV.out, if_pos hv]
                exact ⟨rfl, by (repeat (first | exact Kept.refl _ | assumption | refine Kept.alloc ?_ _ | refine Kept.ext ?_ _ | refine Kept.drew ?_ | refine Kept.drewN ?_ _))⟩
              · go_wp2_with fail
                go_ret
                rw [HVV.out, if_neg (by omega)]
                exact ⟨rfl, by (repeat (first | exact Kept.refl _ | assumption | refine Kept.alloc ?_ _ | refine Kept.ext ?_ _ | refine Kept.drew ?_ | refine Kept.drewN ?_ _))⟩
end Go.Proofs.YtnbjealpcjfllaaGreatDoor
