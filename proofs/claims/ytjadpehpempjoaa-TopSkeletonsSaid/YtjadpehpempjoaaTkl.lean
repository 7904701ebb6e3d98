/- For every input the statement TopSkeletons returns true and leaves its arguments as they were. No conditions. -/
import Derived.Test.YtjadpehpempjoaaTp
import Derived.Test.YtjadpehpempjoaaFe
import Derived.Deep.DeepCutAuto
namespace Go.Proofs.Ytjadpehpempjoaa
set_option linter.unusedVariables false
set_option linter.unusedSimpArgs false
open Go.ChangeShapes Go.WideShapes Go.ChangeAt Go.RowKit Go.Deep
set_option maxRecDepth 100000 in
set_option maxHeartbeats 16000000 in
theorem tskel_1 (A : Option Addr) (n cap : Nat) (B : Nat → Option Addr) (m cp : Nat → Nat) (f : Nat → Nat → Int) (RA : Option Addr) (rl rc : Nat) (R : Nat → Nat → Int) (CA : Option Addr) (cl cc : Nat) (C : Nat → Nat → Int) (XA : Option Addr) (xl xc : Nat) (X : Nat → Nat → Int) (p q : Int) (w : World)
    (h : n ≤ cap ∧ cap ≤ maxLen ∧ MatAt w A n B m cp f) (h2 : (rl ≤ rc ∧ rc ≤ maxLen ∧ RowsAt w RA rl 1 R) ∧ (cl ≤ cc ∧ cc ≤ maxLen ∧ RowsAt w CA cl 1 C) ∧ (xl ≤ xc ∧ xc ≤ maxLen ∧ RowsAt w XA xl 1 X)) (hl : longB n m = true) :
    Calls Try.prog 3 #[.slice A n cap, .agg #[.slice RA rl rc, .slice CA cl cc, .slice XA xl xc], .agg #[.int .i64 p, .int .i64 q]] w fun r w' => r = .returned (.bool true) ∧ Kept w w' := by
  obtain ⟨a1, a2, hM⟩ := h
  obtain ⟨⟨b1, b2, hR⟩, ⟨c1, c2, hC⟩, d1, d2, hX⟩ := h2
  have HM := Lib.hid hM
  have HR := Lib.hid hR
  have HC := Lib.hid hC
  have HX := Lib.hid hX
  clear hM hR hC hX
  unfold maxLen at a2 b2 c2 d2
  have hn : n ≤ 9223372036854775807 := by omega
  have hrl : rl ≤ 9223372036854775807 := by omega
  have hcl : cl ≤ 9223372036854775807 := by omega
  have hxl : xl ≤ 9223372036854775807 := by omega
  clear a1 a2 b1 b2 c1 c2 d1 d2
  have HL := Lib.hid hl
  clear hl
  go_enter Try.func3, Try.ntmps3
  go_wp2_with (first | (go_at_call 4; refine (lit_minor ((w.alloc (.cells #[.slice RA rl rc, .slice CA cl cc, .slice XA xl xc] 25)).alloc (.cells #[.int .i64 p, .int .i64 q] 27)) _ (by go_simp)).mono ?_; rintro e w1 ⟨rfl, x0, rfl⟩) | (go_at_call 5; refine (long6_any _ _ _ _ _ _ _ _ hn (HM.out.of (by (repeat (first | exact Kept.refl _ | assumption | refine Kept.alloc ?_ _ | refine Kept.ext ?_ _ | refine Kept.drew ?_ | refine Kept.drewN ?_ _))))).mono ?_; rintro e w1 ⟨rfl, rfl⟩; rw [HL.out]))
  go_ret
  exact ⟨rfl, by (repeat (first | exact Kept.refl _ | assumption | refine Kept.alloc ?_ _ | refine Kept.ext ?_ _ | refine Kept.drew ?_ | refine Kept.drewN ?_ _))⟩
set_option maxRecDepth 100000 in
set_option maxHeartbeats 16000000 in
theorem tskel_2 (A : Option Addr) (n cap : Nat) (B : Nat → Option Addr) (m cp : Nat → Nat) (f : Nat → Nat → Int) (RA : Option Addr) (rl rc : Nat) (R : Nat → Nat → Int) (CA : Option Addr) (cl cc : Nat) (C : Nat → Nat → Int) (XA : Option Addr) (xl xc : Nat) (X : Nat → Nat → Int) (p q : Int) (w : World)
    (h : n ≤ cap ∧ cap ≤ maxLen ∧ MatAt w A n B m cp f) (h2 : (rl ≤ rc ∧ rc ≤ maxLen ∧ RowsAt w RA rl 1 R) ∧ (cl ≤ cc ∧ cc ≤ maxLen ∧ RowsAt w CA cl 1 C) ∧ (xl ≤ xc ∧ xc ≤ maxLen ∧ RowsAt w XA xl 1 X)) (hl : longB n m = false) (hg : ¬ (¬ (40 : Int) < rl ∧ ¬ (40 : Int) < cl ∧ ¬ (40 : Int) < xl)) :
    Calls Try.prog 3 #[.slice A n cap, .agg #[.slice RA rl rc, .slice CA cl cc, .slice XA xl xc], .agg #[.int .i64 p, .int .i64 q]] w fun r w' => r = .returned (.bool true) ∧ Kept w w' := by
  obtain ⟨a1, a2, hM⟩ := h
  obtain ⟨⟨b1, b2, hR⟩, ⟨c1, c2, hC⟩, d1, d2, hX⟩ := h2
  have HM := Lib.hid hM
  have HR := Lib.hid hR
  have HC := Lib.hid hC
  have HX := Lib.hid hX
  clear hM hR hC hX
  unfold maxLen at a2 b2 c2 d2
  have hn : n ≤ 9223372036854775807 := by omega
  have hrl : rl ≤ 9223372036854775807 := by omega
  have hcl : cl ≤ 9223372036854775807 := by omega
  have hxl : xl ≤ 9223372036854775807 := by omega
  clear a1 a2 b1 b2 c1 c2 d1 d2
  have HL := Lib.hid hl
  clear hl
  by_cases g0 : (40 : Int) < rl
  · have e0 : decide ((40 : Int) < rl) = true := decide_eq_true g0
    go_enter Try.func3, Try.ntmps3
    go_wp2_with (first | (go_at_call 4; refine (lit_minor ((w.alloc (.cells #[.slice RA rl rc, .slice CA cl cc, .slice XA xl xc] 25)).alloc (.cells #[.int .i64 p, .int .i64 q] 27)) _ (by go_simp)).mono ?_; rintro e w1 ⟨rfl, x0, rfl⟩) | (go_at_call 5; refine (long6_any _ _ _ _ _ _ _ _ hn (HM.out.of (by (repeat (first | exact Kept.refl _ | assumption | refine Kept.alloc ?_ _ | refine Kept.ext ?_ _ | refine Kept.drew ?_ | refine Kept.drewN ?_ _))))).mono ?_; rintro e w1 ⟨rfl, rfl⟩; rw [HL.out]))
    go_ret
    exact ⟨rfl, by (repeat (first | exact Kept.refl _ | assumption | refine Kept.alloc ?_ _ | refine Kept.ext ?_ _ | refine Kept.drew ?_ | refine Kept.drewN ?_ _))⟩
  have e0 : decide ((40 : Int) < rl) = false := decide_eq_false g0
  by_cases g1 : (40 : Int) < cl
  · have e1 : decide ((40 : Int) < cl) = true := decide_eq_true g1
    go_enter Try.func3, Try.ntmps3
    go_wp2_with (first | (go_at_call 4; refine (lit_minor ((w.alloc (.cells #[.slice RA rl rc, .slice CA cl cc, .slice XA xl xc] 25)).alloc (.cells #[.int .i64 p, .int .i64 q] 27)) _ (by go_simp)).mono ?_; rintro e w1 ⟨rfl, x0, rfl⟩) | (go_at_call 5; refine (long6_any _ _ _ _ _ _ _ _ hn (HM.out.of (by (repeat (first | exact Kept.refl _ | assumption | refine Kept.alloc ?_ _ | refine Kept.ext ?_ _ | refine Kept.drew ?_ | refine Kept.drewN ?_ _))))).mono ?_; rintro e w1 ⟨rfl, rfl⟩; rw [HL.out]))
    go_ret
    exact ⟨rfl, by (repeat (first | exact Kept.refl _ | assumption | refine Kept.alloc ?_ _ | refine Kept.ext ?_ _ | refine Kept.drew ?_ | refine Kept.drewN ?_ _))⟩
  have e1 : decide ((40 : Int) < cl) = false := decide_eq_false g1
  by_cases g2 : (40 : Int) < xl
  · have e2 : decide ((40 : Int) < xl) = true := decide_eq_true g2
    go_enter Try.func3, Try.ntmps3
    go_wp2_with (first | (go_at_call 4; refine (lit_minor ((w.alloc (.cells #[.slice RA rl rc, .slice CA cl cc, .slice XA xl xc] 25)).alloc (.cells #[.int .i64 p, .int .i64 q] 27)) _ (by go_simp)).mono ?_; rintro e w1 ⟨rfl, x0, rfl⟩) | (go_at_call 5; refine (long6_any _ _ _ _ _ _ _ _ hn (HM.out.of (by (repeat (first | exact Kept.refl _ | assumption | refine Kept.alloc ?_ _ | refine Kept.ext ?_ _ | refine Kept.drew ?_ | refine Kept.drewN ?_ _))))).mono ?_; rintro e w1 ⟨rfl, rfl⟩; rw [HL.out]))
    go_ret
    exact ⟨rfl, by (repeat (first | exact Kept.refl _ | assumption | refine Kept.alloc ?_ _ | refine Kept.ext ?_ _ | refine Kept.drew ?_ | refine Kept.drewN ?_ _))⟩
  have e2 : decide ((40 : Int) < xl) = false := decide_eq_false g2
  exact absurd ⟨g0, g1, g2⟩ hg
theorem tcomp_any (A : Option Addr) (n cap : Nat) (B : Nat → Option Addr) (m cp : Nat → Nat) (f : Nat → Nat → Int) (p q : Int) (w : World) (hn : n ≤ 9223372036854775807) (hM : MatAt w A n B m cp f) :
    ∃ E : Int, ∀ w', Kept w w' → Calls Try.prog 6 #[.slice A n cap, .agg #[.int .i64 p, .int .i64 q]] w' fun e w'' => ∃ vr vc, e = .returned (.tuple #[vr, vc, .int .i64 E]) ∧ Kept w' w'' ∧ (E = 0 → ∀ W', Kept w'' W' → Calls Try.prog 7 #[.slice A n cap, vr, vc, .agg #[.int .i64 p, .int .i64 q]] W' fun e W'' => e = .returned (.int .i64 0) ∧ Kept W' W'') := by
    have HM := Lib.hid hM
    clear hM
    by_cases h0 : fewE n m f p q = 0
    · obtain ⟨hv, hb⟩ := fewE_0 h0
      obtain ⟨K, hK⟩ := few_some hv hb
      refine ⟨0, fun w' hk => ?_⟩
      refine (cCompok_any A n cap B m cp f p q K w' hn (HM.out.of hk) hv hb hK).mono ?_
      rintro e w'' ⟨vr, vc, rfl, h1, r, c, e1, e2, e3, e4, e5, e6, e7⟩
      obtain ⟨RA, rc, rfl⟩ := own_slice2 e6
      obtain ⟨CA, cc, rfl⟩ := own_slice2 e7
      have hw := ChoW.of (f := f) (RA := RA) (CA := CA) hv (by omega) e6 e7
      have hl6 : (bl r n).length ≤ 6 := hw.l6
      have hl7 : (bl c (m 0)).length ≤ 6 := by omega
      refine ⟨_, _, rfl, h1, fun _ W' hW => ?_⟩
      have := cChk_any A n cap B m cp f RA (bl r n).length rc (blF r n) CA (bl c (m 0)).length cc (blF c (m 0)) p q W' hn (by omega) (by omega) (HM.out.of ((hk.trans h1).trans hW)) (hw.hr.of hW) (hw.hc.of hW)
      rwa [show chkE n m f (bl r n).length (blF r n) (bl c (m 0)).length (blF c (m 0)) p q = 0 from e5] at this
    · refine ⟨fewE n m f p q, fun w' hk => ?_⟩
      refine (cCompno_any A n cap B m cp f p q w' hn (HM.out.of hk) h0).mono ?_
      rintro e w'' ⟨rfl, h1⟩
      exact ⟨_, _, rfl, h1, fun h => absurd h h0⟩
set_option maxRecDepth 100000 in
set_option maxHeartbeats 16000000 in
theorem tskel_3 (A : Option Addr) (n cap : Nat) (B : Nat → Option Addr) (m cp : Nat → Nat) (f : Nat → Nat → Int) (RA : Option Addr) (rl rc : Nat) (R : Nat → Nat → Int) (CA : Option Addr) (cl cc : Nat) (C : Nat → Nat → Int) (XA : Option Addr) (xl xc : Nat) (X : Nat → Nat → Int) (p q : Int) (w : World)
    (h : n ≤ cap ∧ cap ≤ maxLen ∧ MatAt w A n B m cp f) (h2 : (rl ≤ rc ∧ rc ≤ maxLen ∧ RowsAt w RA rl 1 R) ∧ (cl ≤ cc ∧ cc ≤ maxLen ∧ RowsAt w CA cl 1 C) ∧ (xl ≤ xc ∧ xc ≤ maxLen ∧ RowsAt w XA xl 1 X)) (hl : longB n m = false) (hg : ¬ (40 : Int) < rl ∧ ¬ (40 : Int) < cl ∧ ¬ (40 : Int) < xl) (hno : ¬ (opnE n m f rl R cl C = 0 ∧ ¬ (6 : Int) ≤ rl)) :
    Calls Try.prog 3 #[.slice A n cap, .agg #[.slice RA rl rc, .slice CA cl cc, .slice XA xl xc], .agg #[.int .i64 p, .int .i64 q]] w fun r w' => r = .returned (.bool true) ∧ Kept w w' := by
  obtain ⟨a1, a2, hM⟩ := h
  obtain ⟨⟨b1, b2, hR⟩, ⟨c1, c2, hC⟩, d1, d2, hX⟩ := h2
  have HM := Lib.hid hM
  have HR := Lib.hid hR
  have HC := Lib.hid hC
  have HX := Lib.hid hX
  clear hM hR hC hX
  unfold maxLen at a2 b2 c2 d2
  have hn : n ≤ 9223372036854775807 := by omega
  have hrl : rl ≤ 9223372036854775807 := by omega
  have hcl : cl ≤ 9223372036854775807 := by omega
  have hxl : xl ≤ 9223372036854775807 := by omega
  clear a1 a2 b1 b2 c1 c2 d1 d2
  have HL := Lib.hid hl
  clear hl
  have e1 : decide ((40 : Int) < rl) = false := decide_eq_false hg.1
  have e2 : decide ((40 : Int) < cl) = false := decide_eq_false hg.2.1
  have e3 : decide ((40 : Int) < xl) = false := decide_eq_false hg.2.2
  clear hg
  obtain ⟨E, hcm⟩ := tcomp_any A n cap B m cp f p q w hn HM.out
  have HCM := Lib.hid hcm
  clear hcm
  go_enter Try.func3, Try.ntmps3
  go_upto_region 7 with (first | (go_at_call 4; refine (lit_minor ((w.alloc (.cells #[.slice RA rl rc, .slice CA cl cc, .slice XA xl xc] 25)).alloc (.cells #[.int .i64 p, .int .i64 q] 27)) _ (by go_simp)).mono ?_; rintro e w1 ⟨rfl, x0, rfl⟩) | (go_at_call 5; refine (long6_any _ _ _ _ _ _ _ _ hn (HM.out.of (by (repeat (first | exact Kept.refl _ | assumption | refine Kept.alloc ?_ _ | refine Kept.ext ?_ _ | refine Kept.drew ?_ | refine Kept.drewN ?_ _))))).mono ?_; rintro e w1 ⟨rfl, rfl⟩; rw [HL.out]) | (go_at_call 6; refine (HCM.out _ (by (repeat (first | exact Kept.refl _ | assumption | refine Kept.alloc ?_ _ | refine Kept.ext ?_ _ | refine Kept.drew ?_ | refine Kept.drewN ?_ _)))).mono ?_; rintro e w1 ⟨vr, vc, rfl, ⟨x1, rfl⟩, hch⟩; have HCH := Lib.hid hch; clear hch))
  go_cut [78] from 69 (fun s78 wx => s78 = .bool false ∧ Kept w wx ∧ wx.cell? ⟨w.heap.size, 0, none⟩ = some (.slice RA rl rc) ∧ wx.cell? ⟨w.heap.size, 1, none⟩ = some (.slice CA cl cc) ∧ wx.cell? ⟨w.heap.size, 2, none⟩ = some (.slice XA xl xc) ∧ w.heap.size < wx.heap.size)
  case first =>
    by_cases hE : E = 0
    · subst hE
      have HC2 := Lib.hid (HCH.out rfl)
      clear HCH
      go_wp2_with (go_at_call 7; refine (HC2.out _ (by (repeat (first | exact Kept.refl _ | assumption | refine Kept.alloc ?_ _ | refine Kept.ext ?_ _ | refine Kept.drew ?_ | refine Kept.drewN ?_ _)))).mono ?_; rintro e w1 ⟨rfl, x2, rfl⟩)
      all_goals (go_wp2_with fail; go_meet)
      exact ⟨rfl, by (repeat (first | exact Kept.refl _ | assumption | refine Kept.alloc ?_ _ | refine Kept.ext ?_ _ | refine Kept.drew ?_ | refine Kept.drewN ?_ _)), by go_simp, by go_simp, by go_simp, low⟩
    · have k1 : (E == 0) = false := by simpa using hE
      have k2 : decide (E = 0) = false := by simpa using hE
      go_wp2_with fail
      all_goals (go_wp2_with fail; go_meet)
      exact ⟨rfl, by (repeat (first | exact Kept.refl _ | assumption | refine Kept.alloc ?_ _ | refine Kept.ext ?_ _ | refine Kept.drew ?_ | refine Kept.drewN ?_ _)), by go_simp, by go_simp, by go_simp, low⟩
  case rest =>
    obtain ⟨rfl, hkc, bx0, bx1, bx2, hlo⟩ := hcut
    have Lb : Lower w.heap.size wc.heap.size := ⟨hlo⟩
    obtain ⟨wb, hwb⟩ : ∃ wb, w.heap.size = wb := ⟨_, rfl⟩
    rw [hwb] at bx0 bx1 bx2 Lb ⊢
    have HKC := Lib.hid hkc
    have HM0 := Lib.hid (HM.out.of hkc)
    have HR0 := Lib.hid (HR.out.of hkc)
    have HC0 := Lib.hid (HC.out.of hkc)
    have HX0 := Lib.hid (HX.out.of hkc)
    clear hwb hlo hkc HCM HCH HM HR HC HX
    have hmn : ∀ w', Kept wc w' → Calls Try.prog 4 #[.slice A n cap, .slice RA rl rc, .slice CA cl cc] w' fun e w'' => e = .returned (.tuple #[.int .i64 (minV n m f rl R cl C), .int .i64 (choE n m f rl R cl C)]) ∧ Kept w' w'' := fun w' hk =>
      cMinor_any A n cap B m cp f RA rl rc R CA cl cc C w' hn hrl hcl (HM0.out.of hk) (HR0.out.of hk) (HC0.out.of hk)
    by_cases hc : choE n m f rl R cl C = 0
    case neg =>
      obtain ⟨ce, hce⟩ : ∃ e, choE n m f rl R cl C = e := ⟨_, rfl⟩
      obtain ⟨mv, hmv⟩ : ∃ e, minV n m f rl R cl C = e := ⟨_, rfl⟩
      rw [hce] at hc
      rw [hce, hmv] at hmn
      have HMN := Lib.hid hmn
      have k1 : (ce == 0) = false := by simpa using hc
      have k2 : decide (ce = 0) = false := by simpa using hc
      have k3 : (ce != 0) = true := by simpa using hc
      clear hmn hce hmv hc
      go_wp2_with (go_at_call 4; refine (HMN.out _ (by (repeat (first | exact Kept.refl _ | assumption | refine Kept.alloc ?_ _ | refine Kept.ext ?_ _ | refine Kept.drew ?_ | refine Kept.drewN ?_ _)))).mono ?_; rintro e w1 ⟨rfl, x3, rfl⟩)
      go_ret
      exact ⟨rfl, HKC.out.trans (by (repeat (first | exact Kept.refl _ | assumption | refine Kept.alloc ?_ _ | refine Kept.ext ?_ _ | refine Kept.drew ?_ | refine Kept.drewN ?_ _)))⟩
    obtain ⟨dd, hdd⟩ : ∃ e, D rl (subF f R C) = e := ⟨_, rfl⟩
    have hmv : minV n m f rl R cl C = dd := by rw [← hdd]; exact if_pos hc
    rw [hc, hmv] at hmn
    have HMN := Lib.hid hmn
    clear hmn hmv
    by_cases hd0 : dd = 0
    · have k1 : (dd == 0) = true := by simpa using hd0
      clear hd0 hdd hc
      go_wp2_with (go_at_call 4; refine (HMN.out _ (by (repeat (first | exact Kept.refl _ | assumption | refine Kept.alloc ?_ _ | refine Kept.ext ?_ _ | refine Kept.drew ?_ | refine Kept.drewN ?_ _)))).mono ?_; rintro e w1 ⟨rfl, x3, rfl⟩)
      go_ret
      exact ⟨rfl, HKC.out.trans (by (repeat (first | exact Kept.refl _ | assumption | refine Kept.alloc ?_ _ | refine Kept.ext ?_ _ | refine Kept.drew ?_ | refine Kept.drewN ?_ _)))⟩
    have k1 : (dd == 0) = false := by simpa using hd0
    have k2 : decide (dd = 0) = false := by simpa using hd0
    by_cases h6 : (6 : Int) ≤ rl
    · have k4 : decide ((6 : Int) ≤ rl) = true := decide_eq_true h6
      clear hd0 hdd hc
      go_wp2_with (go_at_call 4; refine (HMN.out _ (by (repeat (first | exact Kept.refl _ | assumption | refine Kept.alloc ?_ _ | refine Kept.ext ?_ _ | refine Kept.drew ?_ | refine Kept.drewN ?_ _)))).mono ?_; rintro e w1 ⟨rfl, x3, rfl⟩)
      go_ret
      exact ⟨rfl, HKC.out.trans (by (repeat (first | exact Kept.refl _ | assumption | refine Kept.alloc ?_ _ | refine Kept.ext ?_ _ | refine Kept.drew ?_ | refine Kept.drewN ?_ _)))⟩
    have k4 : decide ((6 : Int) ≤ rl) = false := decide_eq_false (by omega)
    exact absurd ⟨by unfold opnE; rw [if_pos hc, if_neg (by rw [hdd]; exact hd0)], by omega⟩ hno
set_option maxRecDepth 100000 in
set_option maxHeartbeats 16000000 in
theorem tskel_4 (A : Option Addr) (n cap : Nat) (B : Nat → Option Addr) (m cp : Nat → Nat) (f : Nat → Nat → Int) (RA : Option Addr) (rl rc : Nat) (R : Nat → Nat → Int) (CA : Option Addr) (cl cc : Nat) (C : Nat → Nat → Int) (XA : Option Addr) (xl xc : Nat) (X : Nat → Nat → Int) (p q : Int) (w : World)
    (h : n ≤ cap ∧ cap ≤ maxLen ∧ MatAt w A n B m cp f) (h2 : (rl ≤ rc ∧ rc ≤ maxLen ∧ RowsAt w RA rl 1 R) ∧ (cl ≤ cc ∧ cc ≤ maxLen ∧ RowsAt w CA cl 1 C) ∧ (xl ≤ xc ∧ xc ≤ maxLen ∧ RowsAt w XA xl 1 X)) (hl : longB n m = false) (hg : ¬ (40 : Int) < rl ∧ ¬ (40 : Int) < cl ∧ ¬ (40 : Int) < xl) (hyes : opnE n m f rl R cl C = 0 ∧ ¬ (6 : Int) ≤ rl) (hfe : mulE n m f rl R cl C xl X = 0) :
    Calls Try.prog 3 #[.slice A n cap, .agg #[.slice RA rl rc, .slice CA cl cc, .slice XA xl xc], .agg #[.int .i64 p, .int .i64 q]] w fun r w' => r = .returned (.bool true) ∧ Kept w w' := by
  obtain ⟨a1, a2, hM⟩ := h
  obtain ⟨⟨b1, b2, hR⟩, ⟨c1, c2, hC⟩, d1, d2, hX⟩ := h2
  have HM := Lib.hid hM
  have HR := Lib.hid hR
  have HC := Lib.hid hC
  have HX := Lib.hid hX
  clear hM hR hC hX
  unfold maxLen at a2 b2 c2 d2
  have hn : n ≤ 9223372036854775807 := by omega
  have hrl : rl ≤ 9223372036854775807 := by omega
  have hcl : cl ≤ 9223372036854775807 := by omega
  have hxl : xl ≤ 9223372036854775807 := by omega
  clear a1 a2 b1 b2 c1 c2 d1 d2
  have HL := Lib.hid hl
  clear hl
  have e1 : decide ((40 : Int) < rl) = false := decide_eq_false hg.1
  have e2 : decide ((40 : Int) < cl) = false := decide_eq_false hg.2.1
  have e3 : decide ((40 : Int) < xl) = false := decide_eq_false hg.2.2
  clear hg
  obtain ⟨E, hcm⟩ := tcomp_any A n cap B m cp f p q w hn HM.out
  have HCM := Lib.hid hcm
  clear hcm
  go_enter Try.func3, Try.ntmps3
  go_upto_region 7 with (first | (go_at_call 4; refine (lit_minor ((w.alloc (.cells #[.slice RA rl rc, .slice CA cl cc, .slice XA xl xc] 25)).alloc (.cells #[.int .i64 p, .int .i64 q] 27)) _ (by go_simp)).mono ?_; rintro e w1 ⟨rfl, x0, rfl⟩) | (go_at_call 5; refine (long6_any _ _ _ _ _ _ _ _ hn (HM.out.of (by (repeat (first | exact Kept.refl _ | assumption | refine Kept.alloc ?_ _ | refine Kept.ext ?_ _ | refine Kept.drew ?_ | refine Kept.drewN ?_ _))))).mono ?_; rintro e w1 ⟨rfl, rfl⟩; rw [HL.out]) | (go_at_call 6; refine (HCM.out _ (by (repeat (first | exact Kept.refl _ | assumption | refine Kept.alloc ?_ _ | refine Kept.ext ?_ _ | refine Kept.drew ?_ | refine Kept.drewN ?_ _)))).mono ?_; rintro e w1 ⟨vr, vc, rfl, ⟨x1, rfl⟩, hch⟩; have HCH := Lib.hid hch; clear hch))
  go_cut [78] from 69 (fun s78 wx => s78 = .bool false ∧ Kept w wx ∧ wx.cell? ⟨w.heap.size, 0, none⟩ = some (.slice RA rl rc) ∧ wx.cell? ⟨w.heap.size, 1, none⟩ = some (.slice CA cl cc) ∧ wx.cell? ⟨w.heap.size, 2, none⟩ = some (.slice XA xl xc) ∧ w.heap.size < wx.heap.size)
  case first =>
    by_cases hE : E = 0
    · subst hE
      have HC2 := Lib.hid (HCH.out rfl)
      clear HCH
      go_wp2_with (go_at_call 7; refine (HC2.out _ (by (repeat (first | exact Kept.refl _ | assumption | refine Kept.alloc ?_ _ | refine Kept.ext ?_ _ | refine Kept.drew ?_ | refine Kept.drewN ?_ _)))).mono ?_; rintro e w1 ⟨rfl, x2, rfl⟩)
      all_goals (go_wp2_with fail; go_meet)
      exact ⟨rfl, by (repeat (first | exact Kept.refl _ | assumption | refine Kept.alloc ?_ _ | refine Kept.ext ?_ _ | refine Kept.drew ?_ | refine Kept.drewN ?_ _)), by go_simp, by go_simp, by go_simp, low⟩
    · have k1 : (E == 0) = false := by simpa using hE
      have k2 : decide (E = 0) = false := by simpa using hE
      go_wp2_with fail
      all_goals (go_wp2_with fail; go_meet)
      exact ⟨rfl, by (repeat (first | exact Kept.refl _ | assumption | refine Kept.alloc ?_ _ | refine Kept.ext ?_ _ | refine Kept.drew ?_ | refine Kept.drewN ?_ _)), by go_simp, by go_simp, by go_simp, low⟩
  case rest =>
    obtain ⟨rfl, hkc, bx0, bx1, bx2, hlo⟩ := hcut
    have Lb : Lower w.heap.size wc.heap.size := ⟨hlo⟩
    obtain ⟨wb, hwb⟩ : ∃ wb, w.heap.size = wb := ⟨_, rfl⟩
    rw [hwb] at bx0 bx1 bx2 Lb ⊢
    have HKC := Lib.hid hkc
    have HM0 := Lib.hid (HM.out.of hkc)
    have HR0 := Lib.hid (HR.out.of hkc)
    have HC0 := Lib.hid (HC.out.of hkc)
    have HX0 := Lib.hid (HX.out.of hkc)
    clear hwb hlo hkc HCM HCH HM HR HC HX
    have hmn : ∀ w', Kept wc w' → Calls Try.prog 4 #[.slice A n cap, .slice RA rl rc, .slice CA cl cc] w' fun e w'' => e = .returned (.tuple #[.int .i64 (minV n m f rl R cl C), .int .i64 (choE n m f rl R cl C)]) ∧ Kept w' w'' := fun w' hk =>
      cMinor_any A n cap B m cp f RA rl rc R CA cl cc C w' hn hrl hcl (HM0.out.of hk) (HR0.out.of hk) (HC0.out.of hk)
    obtain ⟨ho, h6⟩ := hyes
    obtain ⟨hc, hd0⟩ := opnE_0 ho
    obtain ⟨dd, hdd⟩ : ∃ e, D rl (subF f R C) = e := ⟨_, rfl⟩
    have hmv : minV n m f rl R cl C = dd := by rw [← hdd]; exact if_pos hc
    rw [hdd] at hd0
    rw [hc, hmv] at hmn
    have HMN := Lib.hid hmn
    clear hmn hmv
    have k1 : (dd == 0) = false := by simpa using hd0
    have k2 : decide (dd = 0) = false := by simpa using hd0
    have k4 : decide ((6 : Int) ≤ rl) = false := decide_eq_false (by omega)
    have HO := Lib.hid ho
    obtain ⟨hv, hsr, hsc, hrc⟩ := choE_0 hc
    obtain ⟨-, hok⟩ := Mok.of hc
    obtain ⟨⟨n1, n6⟩, ⟨m1, m6⟩, hmm, -⟩ := valE_0 hv
    have hdb := hok.bd
    rw [hdd] at hdb
    have HV := Lib.hid hv
    have HSR := Lib.hid hsr
    have HSC := Lib.hid hsc
    have HRC := Lib.hid hrc
    have HOK := Lib.hid hok
    have HMM := Lib.hid hmm
    have HDD := Lib.hid hdd
    have HD0 := Lib.hid hd0
    have hpm := prod_mul (xl := xl) (X := X) ho
    clear hc hdd hd0 ho hv hsr hsc hrc hok hmm
    have HE := Lib.hid hfe
    obtain ⟨-, hfac, -⟩ := mulE_0 hfe
    obtain ⟨hxe, -⟩ := facB_at hfac
    have HFAC := Lib.hid hfac
    have HXE := Lib.hid hxe
    rw [hfe] at hpm
    have hp : ∀ w', Kept wc w' → Calls Try.prog 8 #[.slice A n cap, .slice XA xl xc] w' fun e w'' => ∃ OA oc, e = .returned (.tuple #[.slice OA n oc, .int .i64 0]) ∧ Kept w' w'' ∧ RowsAt w'' OA n 1 (prF m f X) := fun w' hk => by
      have := cProd_any A n cap B m cp f XA xl xc X w' hn hxl (HM0.out.of hk) (HX0.out.of hk)
      rwa [hpm, show prL n m f xl X = n from if_pos hpm] at this
    have hf : ∀ w', Kept wc w' → Calls Try.prog 9 #[.slice A n cap, .slice RA rl rc, .slice CA cl cc, .slice XA xl xc] w' fun e w'' => ∃ OA oc, e = .returned (.tuple #[.slice OA n oc, .int .i64 0]) ∧ Kept w' w'' ∧ RowsAt w'' OA n 2 (fstF m f rl R C X) := fun w' hk => by
      have := cFast_any A n cap B m cp f RA rl rc R CA cl cc C XA xl xc X w' hn hrl hcl hxl (HM0.out.of hk) (HR0.out.of hk) (HC0.out.of hk) (HX0.out.of hk)
      rwa [hfe, show fsL n m f rl R cl C xl X = n from if_pos hfe] at this
    have HP := Lib.hid hp
    have HF := Lib.hid hf
    clear hfe hfac hxe hpm hp hf
    go_wp2_with (first | (go_at_call 4; refine (HMN.out _ (by (repeat (first | exact Kept.refl _ | assumption | refine Kept.alloc ?_ _ | refine Kept.ext ?_ _ | refine Kept.drew ?_ | refine Kept.drewN ?_ _)))).mono ?_; rintro e w1 ⟨rfl, x3, rfl⟩) | (go_at_call 8; refine (HP.out _ (by (repeat (first | exact Kept.refl _ | assumption | refine Kept.alloc ?_ _ | refine Kept.ext ?_ _ | refine Kept.drew ?_ | refine Kept.drewN ?_ _)))).mono ?_; rintro e w1 ⟨O1, o1, rfl, ⟨y1, rfl⟩, hq1⟩; have HQ1 := Lib.hid hq1; clear hq1) | (go_at_call 9; refine (HF.out _ (by (repeat (first | exact Kept.refl _ | assumption | refine Kept.alloc ?_ _ | refine Kept.ext ?_ _ | refine Kept.drew ?_ | refine Kept.drewN ?_ _)))).mono ?_; rintro e w1 ⟨O2, o2, rfl, ⟨y2, rfl⟩, hq2⟩; have HQ2 := Lib.hid hq2; clear hq2))
    refine wp_gen (fun W0 hW0 => ?_)
    have hk0 : Kept wc W0 := by rw [hW0]; (repeat (first | exact Kept.refl _ | assumption | refine Kept.alloc ?_ _ | refine Kept.ext ?_ _ | refine Kept.drew ?_ | refine Kept.drewN ?_ _))
    have hr1 : RowsAt W0 O1 n 1 (prF m f X) := by rw [hW0]; exact HQ1.out.of (by (repeat (first | exact Kept.refl _ | assumption | refine Kept.alloc ?_ _ | refine Kept.ext ?_ _ | refine Kept.drew ?_ | refine Kept.drewN ?_ _)))
    have hr2 : RowsAt W0 O2 n 2 (fstF m f rl R C X) := by rw [hW0]; exact HQ2.out.of (by (repeat (first | exact Kept.refl _ | assumption | refine Kept.alloc ?_ _ | refine Kept.ext ?_ _ | refine Kept.drew ?_ | refine Kept.drewN ?_ _)))
    have HQ3 := Lib.hid hr1
    have HQ4 := Lib.hid hr2
    clear hr1 hr2
    have bz0 : W0.cell? ⟨wb, 0, none⟩ = some (.slice RA rl rc) := cell_on bx0 Lb.lt hk0
    have bz1 : W0.cell? ⟨wb, 1, none⟩ = some (.slice CA cl cc) := cell_on bx1 Lb.lt hk0
    have bz2 : W0.cell? ⟨wb, 2, none⟩ = some (.slice XA xl xc) := cell_on bx2 Lb.lt hk0
    have Lb2 : Lower wb W0.heap.size := ⟨Nat.lt_of_lt_of_le Lb.lt (kept_le hk0)⟩
    have HK0 := Lib.hid hk0
    clear hW0 hk0 bx0 bx1 bx2 Lb HMN HP HF
    go_loopw [16] (fun i wr => ∃ k : Nat, k ≤ n ∧ i = .int .i64 k ∧ Kept W0 wr) (fun i _ => n - (intOf i).toNat)
    case atStart => exact ⟨0, by omega, rfl, Kept.refl _⟩
    case round =>
      obtain ⟨k, hk, rfl, y3, rfl⟩ := hrel
      by_cases hlt : k < n
      case neg =>
        obtain rfl : k = n := by omega
        go_wp2_with fail
        go_ret
        exact ⟨rfl, HKC.out.trans (HK0.out.trans (by (repeat (first | exact Kept.refl _ | assumption | refine Kept.alloc ?_ _ | refine Kept.ext ?_ _ | refine Kept.drew ?_ | refine Kept.drewN ?_ _))))⟩
      obtain ⟨ab, ao, rfl, hab, c1⟩ := (HM0.out.of HK0.out).at hlt
      have hmk := HMM.out k hlt
      rw [hmk] at c1
      have LA : Lower ab W0.heap.size := ⟨hab⟩
      clear hmk
      go_wp2_with fail
      obtain ⟨wo, hwo⟩ : ∃ wo : World, wo = ext W0 y3 := ⟨_, rfl⟩
      go_loopw [17, 18] (fun s j wr => ∃ t : Nat, t ≤ m 0 ∧ j = .int .i64 t ∧ s = .int .i64 (sumZ (oTerm f rl R C X k) t) ∧ Kept W0 wr) (fun _ j _ => m 0 - (intOf j).toNat)
      case atStart => exact ⟨0, by omega, rfl, rfl, by (repeat (first | exact Kept.refl _ | assumption | refine Kept.alloc ?_ _ | refine Kept.ext ?_ _ | refine Kept.drew ?_ | refine Kept.drewN ?_ _))⟩
      case round =>
        obtain ⟨t, ht, rfl, rfl, y4, rfl⟩ := hrel
        by_cases hlt2 : t < m 0
        · obtain ⟨N, D0, q1, q2, q3, q4, q5, q6, q7, q8, q9, q10, q11, q12, q13⟩ := top_el HO.out hlt hlt2
          obtain ⟨lv, hlv⟩ : ∃ e, leftV f rl R C k t = e := ⟨_, rfl⟩
          rw [hlv] at q8 q9 q10 q11
          rw [HDD.out] at q7 q8 q12 q13
          have hres : ∀ w', Kept W0 w' → Calls Try.prog 10 #[.slice (some ⟨ab, ao, none⟩) n cap, .slice RA rl rc, .slice CA cl cc, .int .i64 k, .int .i64 t] w' fun e w'' => e = .returned (.tuple #[.agg #[.int .i64 N, .int .i64 D0], .int .i64 0]) ∧ Kept w' w'' := fun w' hk => by
            have hkk := HK0.out.trans hk
            have := cRes_any (some ⟨ab, ao, none⟩) n cap B m cp f RA rl rc R CA cl cc C k t w' hn hrl hcl (HM0.out.of hkk) (HR0.out.of hkk) (HC0.out.of hkk)
            rwa [q1, q2, q3] at this
          have HRES := Lib.hid hres
          have d1 : decide (D0 < 1) = false := decide_eq_false (by omega)
          have d2 : (D0 == 0) = false := by simpa using (show D0 ≠ 0 by omega)
          have d3 : decide (D0 = 0) = false := decide_eq_false (by omega)
          obtain ⟨qq, hqq⟩ : ∃ e, dd.tdiv D0 = e := ⟨_, rfl⟩
          rw [hqq] at q8 q12 q13
          clear q1 q2 q3 hres
          have htx : t < xl := by have := HXE.out; omega
          obtain ⟨xb, xo, rfl, hxb, c3, -⟩ := rows1 (k := t) (HX0.out.of HK0.out) htx
          have LX : Lower xb W0.heap.size := ⟨hxb⟩
          obtain ⟨xj, hxj⟩ : ∃ e, X t 0 = e := ⟨_, rfl⟩
          obtain ⟨tt, htt⟩ : ∃ e, lv * xj = e := ⟨_, rfl⟩
          have b1 := oTerm_bd HOK.out HSR.out HFAC.out hlt hlt2
          have b2 := oSum_bd HOK.out HSR.out HFAC.out hlt (q := t) (by omega)
          have b3 := oSum_bd HOK.out HSR.out HFAC.out hlt (q := t + 1) (by omega)
          have hS2 : sumZ (oTerm f rl R C X k) (t + 1) = sumZ (oTerm f rl R C X k) t + oTerm f rl R C X k t := rfl
          have hot : oTerm f rl R C X k t = tt := by
            show leftV f rl R C k t * X t 0 = tt
            rw [hlv, hxj, htt]
          rw [hot] at hS2 b1
          rw [hS2] at b3
          obtain ⟨S, hS⟩ : ∃ x, sumZ (oTerm f rl R C X k) t = x := ⟨_, rfl⟩
          rw [hS] at b2 b3 hS2 ⊢
          rw [hxj] at c3
          have HS2 := Lib.hid hS2
          clear hS2 hot hS hxj
          have HLV := Lib.hid hlv
          clear hlv
          cases hbR : hasB rl R (k : Int) with
          | true =>
            have hz : N = 0 := q9.2 (by rw [← HLV.out]; unfold leftV; rw [hbR, Bool.true_or, if_pos rfl])
            subst hz
            clear q9
            obtain ⟨s, s1, s2, s3⟩ := set_found HSR.out hbR
            have hlr : ∀ w', Kept W0 w' → Calls Try.prog 11 #[.slice RA rl rc, .int .i64 k] w' fun e w'' => e = .returned (.tuple #[.slice none 0 0, .bool false]) ∧ Kept w' w'' := fun w' hk =>
              longerF_any RA rl rc R k s w' (by omega) (by unfold I64; omega) s1 s2 s3 (HR0.out.of (HK0.out.trans hk))
            have hlc : ∀ w', Kept W0 w' → Calls Try.prog 11 #[.slice CA cl cc, .int .i64 t] w' fun e w'' => ∃ v b, e = .returned (.tuple #[v, .bool b]) ∧ Kept w' w'' := fun w' hk => by
              have hcl5 : cl ≤ 5 := by have := HRC.out; omega
              cases hbC : hasB cl C (t : Int) with
              | true =>
                obtain ⟨s, s1, s2, s3⟩ := set_found HSC.out hbC
                exact (longerF_any CA cl cc C t s w' hcl5 (by unfold I64; omega) s1 s2 s3 (HC0.out.of (HK0.out.trans hk))).mono fun e w'' ⟨h1, h2⟩ => ⟨_, _, h1, h2⟩
              | false =>
                obtain ⟨s, s1, s2, s3⟩ := set_place HSC.out hbC
                exact (longerN_any CA cl cc C t s w' hcl5 (by unfold I64; omega) s1 s2 s3 (HC0.out.of (HK0.out.trans hk))).mono fun e w'' ⟨v, h1, h2, _⟩ => ⟨_, _, h1, h2⟩
            have HLR := Lib.hid hlr
            have HLC := Lib.hid hlc
            clear hlr hlc s1 s2 s3 hbR
            go_wp2_with (first | (go_at_call 10; refine (HRES.out _ (by (repeat (first | exact Kept.refl _ | assumption | refine Kept.alloc ?_ _ | refine Kept.ext ?_ _ | refine Kept.drew ?_ | refine Kept.drewN ?_ _)))).mono ?_; rintro e w1 ⟨rfl, x4, rfl⟩) | (go_at_call 11; (with_reducible refine (HLR.out _ (by (repeat (first | exact Kept.refl _ | assumption | refine Kept.alloc ?_ _ | refine Kept.ext ?_ _ | refine Kept.drew ?_ | refine Kept.drewN ?_ _)))).mono ?_); rintro e w1 ⟨rfl, x5, rfl⟩) | (go_at_call 11; (with_reducible refine (HLC.out _ (by (repeat (first | exact Kept.refl _ | assumption | refine Kept.alloc ?_ _ | refine Kept.ext ?_ _ | refine Kept.drew ?_ | refine Kept.drewN ?_ _)))).mono ?_); rintro e w1 ⟨v8, b8, rfl, x6, rfl⟩))
            ((first | (with_reducible refine wp_region_kept2 (by kernel_rfl) (by kernel_rfl) ?_) | refine wp_region_kept (by kernel_rfl) (by kernel_rfl) ?_); (repeat (go_big_quiet_step (fail))); refine wpQuiet_nil ?_; intro x9)
            go_wp2_with (first | (go_at_call 10; refine (HRES.out _ (by (repeat (first | exact Kept.refl _ | assumption | refine Kept.alloc ?_ _ | refine Kept.ext ?_ _ | refine Kept.drew ?_ | refine Kept.drewN ?_ _)))).mono ?_; rintro e w1 ⟨rfl, x4, rfl⟩) | (go_at_call 11; (with_reducible refine (HLR.out _ (by (repeat (first | exact Kept.refl _ | assumption | refine Kept.alloc ?_ _ | refine Kept.ext ?_ _ | refine Kept.drew ?_ | refine Kept.drewN ?_ _)))).mono ?_); rintro e w1 ⟨rfl, x5, rfl⟩) | (go_at_call 11; (with_reducible refine (HLC.out _ (by (repeat (first | exact Kept.refl _ | assumption | refine Kept.alloc ?_ _ | refine Kept.ext ?_ _ | refine Kept.drew ?_ | refine Kept.drewN ?_ _)))).mono ?_); rintro e w1 ⟨v8, b8, rfl, x6, rfl⟩))
            go_roundw
            case rel => exact ⟨t + 1, by omega, by go_num, by rw [HS2.out], by (repeat (first | exact Kept.refl _ | assumption | refine Kept.alloc ?_ _ | refine Kept.ext ?_ _ | refine Kept.drew ?_ | refine Kept.drewN ?_ _))⟩
            case measure => simp [intOf]; omega
          | false =>
            obtain ⟨s, s1, s2, s3⟩ := set_place HSR.out hbR
            have hlr : ∀ w', Kept W0 w' → Calls Try.prog 11 #[.slice RA rl rc, .int .i64 k] w' fun e w'' => ∃ A' c', e = .returned (.tuple #[.slice A' (rl + 1) c', .bool true]) ∧ Kept w' w'' ∧ RowsAt w'' A' (rl + 1) 1 (insZ s R k) := fun w' hk => by
              refine (longerN_any RA rl rc R k s w' (by omega) (by unfold I64; omega) s1 s2 s3 (HR0.out.of (HK0.out.trans hk))).mono ?_
              rintro e w'' ⟨v, rfl, h1, h2⟩
              obtain ⟨A', c', rfl⟩ := own_slice2 h2
              exact ⟨A', c', rfl, h1, rows_of_owns h2 fun a ha j _ => insZ_I HSR.out (show (0 : Int) ≤ k ∧ (k : Int) < n by omega) n6 s1 ha⟩
            cases hbC : hasB cl C (t : Int) with
            | true =>
              have hz : N = 0 := q9.2 (by rw [← HLV.out]; unfold leftV; rw [← HRC.out] at hbC; rw [hbC, Bool.or_true, if_pos rfl])
              subst hz
              clear q9
              obtain ⟨u, u1, u2, u3⟩ := set_found HSC.out hbC
              have hlc : ∀ w', Kept W0 w' → Calls Try.prog 11 #[.slice CA cl cc, .int .i64 t] w' fun e w'' => e = .returned (.tuple #[.slice none 0 0, .bool false]) ∧ Kept w' w'' := fun w' hk =>
                longerF_any CA cl cc C t u w' (by have := HRC.out; omega) (by unfold I64; omega) u1 u2 u3 (HC0.out.of (HK0.out.trans hk))
              have HLR := Lib.hid hlr
              have HLC := Lib.hid hlc
              clear hlr hlc s1 s2 s3 u1 u2 u3 hbR hbC
              go_wp2_with (first | (go_at_call 10; refine (HRES.out _ (by (repeat (first | exact Kept.refl _ | assumption | refine Kept.alloc ?_ _ | refine Kept.ext ?_ _ | refine Kept.drew ?_ | refine Kept.drewN ?_ _)))).mono ?_; rintro e w1 ⟨rfl, x4, rfl⟩) | (go_at_call 11; (with_reducible refine (HLR.out _ (by (repeat (first | exact Kept.refl _ | assumption | refine Kept.alloc ?_ _ | refine Kept.ext ?_ _ | refine Kept.drew ?_ | refine Kept.drewN ?_ _)))).mono ?_); rintro e w1 ⟨A5, c5, rfl, ⟨x5, rfl⟩, -⟩) | (go_at_call 11; (with_reducible refine (HLC.out _ (by (repeat (first | exact Kept.refl _ | assumption | refine Kept.alloc ?_ _ | refine Kept.ext ?_ _ | refine Kept.drew ?_ | refine Kept.drewN ?_ _)))).mono ?_); rintro e w1 ⟨rfl, x6, rfl⟩))
              ((first | (with_reducible refine wp_region_kept2 (by kernel_rfl) (by kernel_rfl) ?_) | refine wp_region_kept (by kernel_rfl) (by kernel_rfl) ?_); (repeat (go_big_quiet_step (fail))); refine wpQuiet_nil ?_; intro x9)
              go_wp2_with (first | (go_at_call 10; refine (HRES.out _ (by (repeat (first | exact Kept.refl _ | assumption | refine Kept.alloc ?_ _ | refine Kept.ext ?_ _ | refine Kept.drew ?_ | refine Kept.drewN ?_ _)))).mono ?_; rintro e w1 ⟨rfl, x4, rfl⟩) | (go_at_call 11; (with_reducible refine (HLR.out _ (by (repeat (first | exact Kept.refl _ | assumption | refine Kept.alloc ?_ _ | refine Kept.ext ?_ _ | refine Kept.drew ?_ | refine Kept.drewN ?_ _)))).mono ?_); rintro e w1 ⟨A5, c5, rfl, ⟨x5, rfl⟩, -⟩) | (go_at_call 11; (with_reducible refine (HLC.out _ (by (repeat (first | exact Kept.refl _ | assumption | refine Kept.alloc ?_ _ | refine Kept.ext ?_ _ | refine Kept.drew ?_ | refine Kept.drewN ?_ _)))).mono ?_); rintro e w1 ⟨rfl, x6, rfl⟩))
              go_roundw
              case rel => exact ⟨t + 1, by omega, by go_num, by rw [HS2.out], by (repeat (first | exact Kept.refl _ | assumption | refine Kept.alloc ?_ _ | refine Kept.ext ?_ _ | refine Kept.drew ?_ | refine Kept.drewN ?_ _))⟩
              case measure => simp [intOf]; omega
            | false =>
              obtain ⟨u, u1, u2, u3⟩ := set_place HSC.out hbC
              have hlc : ∀ w', Kept W0 w' → Calls Try.prog 11 #[.slice CA cl cc, .int .i64 t] w' fun e w'' => ∃ A' c', e = .returned (.tuple #[.slice A' (cl + 1) c', .bool true]) ∧ Kept w' w'' ∧ RowsAt w'' A' (cl + 1) 1 (insZ u C t) := fun w' hk => by
                refine (longerN_any CA cl cc C t u w' (by have := HRC.out; omega) (by unfold I64; omega) u1 u2 u3 (HC0.out.of (HK0.out.trans hk))).mono ?_
                rintro e w'' ⟨v, rfl, h1, h2⟩
                obtain ⟨A', c', rfl⟩ := own_slice2 h2
                exact ⟨A', c', rfl, h1, rows_of_owns h2 fun a ha j _ => insZ_I HSC.out (show (0 : Int) ≤ t ∧ (t : Int) < m 0 by omega) m6 u1 ha⟩
              obtain ⟨z1, z2⟩ := top_choice HO.out hlt hlt2 s1 u1 hbR hbC s2 s3 u2 u3
              obtain ⟨mv, hmv⟩ : ∃ e, minV n m f (rl + 1) (insZ s R k) (cl + 1) (insZ u C t) = e := ⟨_, rfl⟩
              rw [hmv, HLV.out] at z2
              have hm2 : ∀ A5 c5 A6 c6 w', Kept W0 w' → RowsAt w' A5 (rl + 1) 1 (insZ s R k) → RowsAt w' A6 (cl + 1) 1 (insZ u C t) → Calls Try.prog 4 #[.slice (some ⟨ab, ao, none⟩) n cap, .slice A5 (rl + 1) c5, .slice A6 (cl + 1) c6] w' fun e w'' => e = .returned (.tuple #[.int .i64 mv, .int .i64 0]) ∧ Kept w' w'' := fun A5 c5 A6 c6 w' hk h5 h6 => by
                have := cMinor_any (some ⟨ab, ao, none⟩) n cap B m cp f A5 (rl + 1) c5 (insZ s R k) A6 (cl + 1) c6 (insZ u C t) w' hn (by omega) (by have := HRC.out; omega) (HM0.out.of (HK0.out.trans hk)) h5 h6
                rwa [z1, hmv] at this
              have HLR := Lib.hid hlr
              have HLC := Lib.hid hlc
              have HM2 := Lib.hid hm2
              clear hlr hlc hm2 s1 s2 s3 u1 u2 u3 hbR hbC z1 hmv
              by_cases hz : lv = 0
              · have f1 : N = 0 := q9.2 hz
                have f2 : mv = 0 := z2.2 hz
                subst f1
                subst f2
                clear q9 z2 hz
                go_wp2_with (first | (go_at_call 10; refine (HRES.out _ (by (repeat (first | exact Kept.refl _ | assumption | refine Kept.alloc ?_ _ | refine Kept.ext ?_ _ | refine Kept.drew ?_ | refine Kept.drewN ?_ _)))).mono ?_; rintro e w1 ⟨rfl, x4, rfl⟩) | (go_at_call 11; (with_reducible refine (HLR.out _ (by (repeat (first | exact Kept.refl _ | assumption | refine Kept.alloc ?_ _ | refine Kept.ext ?_ _ | refine Kept.drew ?_ | refine Kept.drewN ?_ _)))).mono ?_); rintro e w1 ⟨A5, c5, rfl, ⟨x5, rfl⟩, h5⟩; have H5 := Lib.hid h5; clear h5) | (go_at_call 11; (with_reducible refine (HLC.out _ (by (repeat (first | exact Kept.refl _ | assumption | refine Kept.alloc ?_ _ | refine Kept.ext ?_ _ | refine Kept.drew ?_ | refine Kept.drewN ?_ _)))).mono ?_); rintro e w1 ⟨A6, c6, rfl, ⟨x6, rfl⟩, h6⟩; have H6 := Lib.hid h6; clear h6) | (go_at_call 4; refine (HM2.out _ _ _ _ _ (by (repeat (first | exact Kept.refl _ | assumption | refine Kept.alloc ?_ _ | refine Kept.ext ?_ _ | refine Kept.drew ?_ | refine Kept.drewN ?_ _))) (H5.out.of (by (repeat (first | exact Kept.refl _ | assumption | refine Kept.alloc ?_ _ | refine Kept.ext ?_ _ | refine Kept.drew ?_ | refine Kept.drewN ?_ _)))) H6.out).mono ?_; rintro e w1 ⟨rfl, x7, rfl⟩))
                ((first | (with_reducible refine wp_region_kept2 (by kernel_rfl) (by kernel_rfl) ?_) | refine wp_region_kept (by kernel_rfl) (by kernel_rfl) ?_); (repeat (go_big_quiet_step (fail))); refine wpQuiet_nil ?_; intro x9)
                go_wp2_with (first | (go_at_call 10; refine (HRES.out _ (by (repeat (first | exact Kept.refl _ | assumption | refine Kept.alloc ?_ _ | refine Kept.ext ?_ _ | refine Kept.drew ?_ | refine Kept.drewN ?_ _)))).mono ?_; rintro e w1 ⟨rfl, x4, rfl⟩) | (go_at_call 11; (with_reducible refine (HLR.out _ (by (repeat (first | exact Kept.refl _ | assumption | refine Kept.alloc ?_ _ | refine Kept.ext ?_ _ | refine Kept.drew ?_ | refine Kept.drewN ?_ _)))).mono ?_); rintro e w1 ⟨A5, c5, rfl, ⟨x5, rfl⟩, h5⟩; have H5 := Lib.hid h5; clear h5) | (go_at_call 11; (with_reducible refine (HLC.out _ (by (repeat (first | exact Kept.refl _ | assumption | refine Kept.alloc ?_ _ | refine Kept.ext ?_ _ | refine Kept.drew ?_ | refine Kept.drewN ?_ _)))).mono ?_); rintro e w1 ⟨A6, c6, rfl, ⟨x6, rfl⟩, h6⟩; have H6 := Lib.hid h6; clear h6) | (go_at_call 4; refine (HM2.out _ _ _ _ _ (by (repeat (first | exact Kept.refl _ | assumption | refine Kept.alloc ?_ _ | refine Kept.ext ?_ _ | refine Kept.drew ?_ | refine Kept.drewN ?_ _))) (H5.out.of (by (repeat (first | exact Kept.refl _ | assumption | refine Kept.alloc ?_ _ | refine Kept.ext ?_ _ | refine Kept.drew ?_ | refine Kept.drewN ?_ _)))) H6.out).mono ?_; rintro e w1 ⟨rfl, x7, rfl⟩))
                go_roundw
                case rel => exact ⟨t + 1, by omega, by go_num, by rw [HS2.out], by (repeat (first | exact Kept.refl _ | assumption | refine Kept.alloc ?_ _ | refine Kept.ext ?_ _ | refine Kept.drew ?_ | refine Kept.drewN ?_ _))⟩
                case measure => simp [intOf]; omega
              · have f1 : (N != 0) = true := by simpa using (fun h => hz (q9.1 h))
                have f2 : (mv != 0) = true := by simpa using (fun h => hz (z2.1 h))
                have f3 : (N == 0) = false := by simpa using (fun h => hz (q9.1 h))
                have f4 : (mv == 0) = false := by simpa using (fun h => hz (z2.1 h))
                have f5 : decide (N = 0) = false := decide_eq_false (fun h => hz (q9.1 h))
                have f6 : decide (mv = 0) = false := decide_eq_false (fun h => hz (z2.1 h))
                clear q9 z2 hz
                go_wp2_with (first | (go_at_call 10; refine (HRES.out _ (by (repeat (first | exact Kept.refl _ | assumption | refine Kept.alloc ?_ _ | refine Kept.ext ?_ _ | refine Kept.drew ?_ | refine Kept.drewN ?_ _)))).mono ?_; rintro e w1 ⟨rfl, x4, rfl⟩) | (go_at_call 11; (with_reducible refine (HLR.out _ (by (repeat (first | exact Kept.refl _ | assumption | refine Kept.alloc ?_ _ | refine Kept.ext ?_ _ | refine Kept.drew ?_ | refine Kept.drewN ?_ _)))).mono ?_); rintro e w1 ⟨A5, c5, rfl, ⟨x5, rfl⟩, h5⟩; have H5 := Lib.hid h5; clear h5) | (go_at_call 11; (with_reducible refine (HLC.out _ (by (repeat (first | exact Kept.refl _ | assumption | refine Kept.alloc ?_ _ | refine Kept.ext ?_ _ | refine Kept.drew ?_ | refine Kept.drewN ?_ _)))).mono ?_); rintro e w1 ⟨A6, c6, rfl, ⟨x6, rfl⟩, h6⟩; have H6 := Lib.hid h6; clear h6) | (go_at_call 4; refine (HM2.out _ _ _ _ _ (by (repeat (first | exact Kept.refl _ | assumption | refine Kept.alloc ?_ _ | refine Kept.ext ?_ _ | refine Kept.drew ?_ | refine Kept.drewN ?_ _))) (H5.out.of (by (repeat (first | exact Kept.refl _ | assumption | refine Kept.alloc ?_ _ | refine Kept.ext ?_ _ | refine Kept.drew ?_ | refine Kept.drewN ?_ _)))) H6.out).mono ?_; rintro e w1 ⟨rfl, x7, rfl⟩))
                ((first | (with_reducible refine wp_region_kept2 (by kernel_rfl) (by kernel_rfl) ?_) | refine wp_region_kept (by kernel_rfl) (by kernel_rfl) ?_); (repeat (go_big_quiet_step (fail))); refine wpQuiet_nil ?_; intro x9)
                go_wp2_with (first | (go_at_call 10; refine (HRES.out _ (by (repeat (first | exact Kept.refl _ | assumption | refine Kept.alloc ?_ _ | refine Kept.ext ?_ _ | refine Kept.drew ?_ | refine Kept.drewN ?_ _)))).mono ?_; rintro e w1 ⟨rfl, x4, rfl⟩) | (go_at_call 11; (with_reducible refine (HLR.out _ (by (repeat (first | exact Kept.refl _ | assumption | refine Kept.alloc ?_ _ | refine Kept.ext ?_ _ | refine Kept.drew ?_ | refine Kept.drewN ?_ _)))).mono ?_); rintro e w1 ⟨A5, c5, rfl, ⟨x5, rfl⟩, h5⟩; have H5 := Lib.hid h5; clear h5) | (go_at_call 11; (with_reducible refine (HLC.out _ (by (repeat (first | exact Kept.refl _ | assumption | refine Kept.alloc ?_ _ | refine Kept.ext ?_ _ | refine Kept.drew ?_ | refine Kept.drewN ?_ _)))).mono ?_); rintro e w1 ⟨A6, c6, rfl, ⟨x6, rfl⟩, h6⟩; have H6 := Lib.hid h6; clear h6) | (go_at_call 4; refine (HM2.out _ _ _ _ _ (by (repeat (first | exact Kept.refl _ | assumption | refine Kept.alloc ?_ _ | refine Kept.ext ?_ _ | refine Kept.drew ?_ | refine Kept.drewN ?_ _))) (H5.out.of (by (repeat (first | exact Kept.refl _ | assumption | refine Kept.alloc ?_ _ | refine Kept.ext ?_ _ | refine Kept.drew ?_ | refine Kept.drewN ?_ _)))) H6.out).mono ?_; rintro e w1 ⟨rfl, x7, rfl⟩))
                go_roundw
                case rel => exact ⟨t + 1, by omega, by go_num, by rw [HS2.out], by (repeat (first | exact Kept.refl _ | assumption | refine Kept.alloc ?_ _ | refine Kept.ext ?_ _ | refine Kept.drew ?_ | refine Kept.drewN ?_ _))⟩
                case measure => simp [intOf]; omega
        · obtain rfl : t = m 0 := by omega
          obtain ⟨pb, po, hpa, hpb, c4, -⟩ := rows1 HQ3.out hlt
          obtain ⟨xb, xo, hxa, hxb, c5, c6⟩ := rows2 HQ4.out hlt
          subst hpa
          subst hxa
          have LP : Lower pb W0.heap.size := ⟨hpb⟩
          have LX : Lower xb W0.heap.size := ⟨hxb⟩
          have b1 := pSum_bd HV.out HFAC.out hlt (q := m 0) (Nat.le_refl _)
          rw [show sumZ (pTerm f X k) (m 0) = prF m f X k 0 from rfl] at b1
          have b2 := oSum_bd HOK.out HSR.out HFAC.out hlt (q := m 0) (Nat.le_refl _)
          obtain ⟨P, hP⟩ : ∃ x, prF m f X k 0 = x := ⟨_, rfl⟩
          obtain ⟨S, hS⟩ : ∃ x, sumZ (oTerm f rl R C X k) (m 0) = x := ⟨_, rfl⟩
          have hdb5 : -1200000000000 ≤ dd ∧ dd ≤ 1200000000000 := by
            have := D5_bd HOK.out (by omega)
            rw [HDD.out] at this
            exact this
          have b3 := mul_abs (c := 600000) (d := 1200000000000) (a := P) (b := dd) (by rw [← hP]; exact b1) hdb5 (by decide) (by decide)
          have e0 : fstF m f rl R C X k 0 = frN (P * dd - S) dd := by
            rw [(fr_less HD0.out).1, ← hP, ← hS, ← HDD.out]
            rfl
          have e1 : fstF m f rl R C X k 1 = frD (P * dd - S) dd := by
            rw [(fr_less HD0.out).2, ← hS, ← HDD.out]
            rfl
          rw [hS] at b2 ⊢
          rw [hP] at c4 b1
          rw [e0] at c5
          rw [e1] at c6
          obtain ⟨PD, hPD⟩ : ∃ x, P * dd = x := ⟨_, rfl⟩
          rw [hPD] at b3 c5 c6
          obtain ⟨Z, hZ⟩ : ∃ x, PD - S = x := ⟨_, rfl⟩
          rw [hZ] at c5 c6
          have hrt : ∀ w', Calls Try.prog 12 #[.int .i64 Z, .int .i64 dd] w' fun e w'' => e = .returned (.agg #[.int .i64 (frN Z dd), .int .i64 (frD Z dd)]) ∧ Kept w' w'' := fun w' => ratio_big Z dd w' (by omega) ⟨HD0.out, by omega, by omega⟩
          obtain ⟨zn, hzn⟩ : ∃ x, frN Z dd = x := ⟨_, rfl⟩
          obtain ⟨zd, hzd⟩ : ∃ x, frD Z dd = x := ⟨_, rfl⟩
          rw [hzn] at c5 hrt
          rw [hzd] at c6 hrt
          have HRT := Lib.hid hrt
          clear hrt e0 e1 hP hS hzn hzd hwo
          go_wp2_with fail
          ((first | (with_reducible refine wp_region_kept2 (by kernel_rfl) (by kernel_rfl) ?_) | refine wp_region_kept (by kernel_rfl) (by kernel_rfl) ?_); (repeat (go_big_quiet_step (first | (go_at_call 12; exact Calls.kept_of (HRT.out _))))); refine wpQuiet_nil ?_; intro x5)
          go_wp2_with fail
          go_roundw
          case rel => exact ⟨k + 1, by omega, by go_num, by (repeat (first | exact Kept.refl _ | assumption | refine Kept.alloc ?_ _ | refine Kept.ext ?_ _ | refine Kept.drew ?_ | refine Kept.drewN ?_ _))⟩
          case measure => simp [intOf]; omega
set_option maxRecDepth 100000 in
set_option maxHeartbeats 16000000 in
theorem tskel_5 (A : Option Addr) (n cap : Nat) (B : Nat → Option Addr) (m cp : Nat → Nat) (f : Nat → Nat → Int) (RA : Option Addr) (rl rc : Nat) (R : Nat → Nat → Int) (CA : Option Addr) (cl cc : Nat) (C : Nat → Nat → Int) (XA : Option Addr) (xl xc : Nat) (X : Nat → Nat → Int) (p q : Int) (w : World)
    (h : n ≤ cap ∧ cap ≤ maxLen ∧ MatAt w A n B m cp f) (h2 : (rl ≤ rc ∧ rc ≤ maxLen ∧ RowsAt w RA rl 1 R) ∧ (cl ≤ cc ∧ cc ≤ maxLen ∧ RowsAt w CA cl 1 C) ∧ (xl ≤ xc ∧ xc ≤ maxLen ∧ RowsAt w XA xl 1 X)) (hl : longB n m = false) (hg : ¬ (40 : Int) < rl ∧ ¬ (40 : Int) < cl ∧ ¬ (40 : Int) < xl) (hyes : opnE n m f rl R cl C = 0 ∧ ¬ (6 : Int) ≤ rl) (hfe : ¬ mulE n m f rl R cl C xl X = 0) :
    Calls Try.prog 3 #[.slice A n cap, .agg #[.slice RA rl rc, .slice CA cl cc, .slice XA xl xc], .agg #[.int .i64 p, .int .i64 q]] w fun r w' => r = .returned (.bool true) ∧ Kept w w' := by
  obtain ⟨a1, a2, hM⟩ := h
  obtain ⟨⟨b1, b2, hR⟩, ⟨c1, c2, hC⟩, d1, d2, hX⟩ := h2
  have HM := Lib.hid hM
  have HR := Lib.hid hR
  have HC := Lib.hid hC
  have HX := Lib.hid hX
  clear hM hR hC hX
  unfold maxLen at a2 b2 c2 d2
  have hn : n ≤ 9223372036854775807 := by omega
  have hrl : rl ≤ 9223372036854775807 := by omega
  have hcl : cl ≤ 9223372036854775807 := by omega
  have hxl : xl ≤ 9223372036854775807 := by omega
  clear a1 a2 b1 b2 c1 c2 d1 d2
  have HL := Lib.hid hl
  clear hl
  have e1 : decide ((40 : Int) < rl) = false := decide_eq_false hg.1
  have e2 : decide ((40 : Int) < cl) = false := decide_eq_false hg.2.1
  have e3 : decide ((40 : Int) < xl) = false := decide_eq_false hg.2.2
  clear hg
  obtain ⟨E, hcm⟩ := tcomp_any A n cap B m cp f p q w hn HM.out
  have HCM := Lib.hid hcm
  clear hcm
  go_enter Try.func3, Try.ntmps3
  go_upto_region 7 with (first | (go_at_call 4; refine (lit_minor ((w.alloc (.cells #[.slice RA rl rc, .slice CA cl cc, .slice XA xl xc] 25)).alloc (.cells #[.int .i64 p, .int .i64 q] 27)) _ (by go_simp)).mono ?_; rintro e w1 ⟨rfl, x0, rfl⟩) | (go_at_call 5; refine (long6_any _ _ _ _ _ _ _ _ hn (HM.out.of (by (repeat (first | exact Kept.refl _ | assumption | refine Kept.alloc ?_ _ | refine Kept.ext ?_ _ | refine Kept.drew ?_ | refine Kept.drewN ?_ _))))).mono ?_; rintro e w1 ⟨rfl, rfl⟩; rw [HL.out]) | (go_at_call 6; refine (HCM.out _ (by (repeat (first | exact Kept.refl _ | assumption | refine Kept.alloc ?_ _ | refine Kept.ext ?_ _ | refine Kept.drew ?_ | refine Kept.drewN ?_ _)))).mono ?_; rintro e w1 ⟨vr, vc, rfl, ⟨x1, rfl⟩, hch⟩; have HCH := Lib.hid hch; clear hch))
  go_cut [78] from 69 (fun s78 wx => s78 = .bool false ∧ Kept w wx ∧ wx.cell? ⟨w.heap.size, 0, none⟩ = some (.slice RA rl rc) ∧ wx.cell? ⟨w.heap.size, 1, none⟩ = some (.slice CA cl cc) ∧ wx.cell? ⟨w.heap.size, 2, none⟩ = some (.slice XA xl xc) ∧ w.heap.size < wx.heap.size)
  case first =>
    by_cases hE : E = 0
    · subst hE
      have HC2 := Lib.hid (HCH.out rfl)
      clear HCH
      go_wp2_with (go_at_call 7; refine (HC2.out _ (by (repeat (first | exact Kept.refl _ | assumption | refine Kept.alloc ?_ _ | refine Kept.ext ?_ _ | refine Kept.drew ?_ | refine Kept.drewN ?_ _)))).mono ?_; rintro e w1 ⟨rfl, x2, rfl⟩)
      all_goals (go_wp2_with fail; go_meet)
      exact ⟨rfl, by (repeat (first | exact Kept.refl _ | assumption | refine Kept.alloc ?_ _ | refine Kept.ext ?_ _ | refine Kept.drew ?_ | refine Kept.drewN ?_ _)), by go_simp, by go_simp, by go_simp, low⟩
    · have k1 : (E == 0) = false := by simpa using hE
      have k2 : decide (E = 0) = false := by simpa using hE
      go_wp2_with fail
      all_goals (go_wp2_with fail; go_meet)
      exact ⟨rfl, by (repeat (first | exact Kept.refl _ | assumption | refine Kept.alloc ?_ _ | refine Kept.ext ?_ _ | refine Kept.drew ?_ | refine Kept.drewN ?_ _)), by go_simp, by go_simp, by go_simp, low⟩
  case rest =>
    obtain ⟨rfl, hkc, bx0, bx1, bx2, hlo⟩ := hcut
    have Lb : Lower w.heap.size wc.heap.size := ⟨hlo⟩
    obtain ⟨wb, hwb⟩ : ∃ wb, w.heap.size = wb := ⟨_, rfl⟩
    rw [hwb] at bx0 bx1 bx2 Lb ⊢
    have HKC := Lib.hid hkc
    have HM0 := Lib.hid (HM.out.of hkc)
    have HR0 := Lib.hid (HR.out.of hkc)
    have HC0 := Lib.hid (HC.out.of hkc)
    have HX0 := Lib.hid (HX.out.of hkc)
    clear hwb hlo hkc HCM HCH HM HR HC HX
    have hmn : ∀ w', Kept wc w' → Calls Try.prog 4 #[.slice A n cap, .slice RA rl rc, .slice CA cl cc] w' fun e w'' => e = .returned (.tuple #[.int .i64 (minV n m f rl R cl C), .int .i64 (choE n m f rl R cl C)]) ∧ Kept w' w'' := fun w' hk =>
      cMinor_any A n cap B m cp f RA rl rc R CA cl cc C w' hn hrl hcl (HM0.out.of hk) (HR0.out.of hk) (HC0.out.of hk)
    obtain ⟨ho, h6⟩ := hyes
    obtain ⟨hc, hd0⟩ := opnE_0 ho
    obtain ⟨dd, hdd⟩ : ∃ e, D rl (subF f R C) = e := ⟨_, rfl⟩
    have hmv : minV n m f rl R cl C = dd := by rw [← hdd]; exact if_pos hc
    rw [hdd] at hd0
    rw [hc, hmv] at hmn
    have HMN := Lib.hid hmn
    clear hmn hmv
    have k1 : (dd == 0) = false := by simpa using hd0
    have k2 : decide (dd = 0) = false := by simpa using hd0
    have k4 : decide ((6 : Int) ≤ rl) = false := decide_eq_false (by omega)
    have HO := Lib.hid ho
    obtain ⟨hv, hsr, hsc, hrc⟩ := choE_0 hc
    obtain ⟨-, hok⟩ := Mok.of hc
    obtain ⟨⟨n1, n6⟩, ⟨m1, m6⟩, hmm, -⟩ := valE_0 hv
    have hdb := hok.bd
    rw [hdd] at hdb
    have HV := Lib.hid hv
    have HSR := Lib.hid hsr
    have HSC := Lib.hid hsc
    have HRC := Lib.hid hrc
    have HOK := Lib.hid hok
    have HMM := Lib.hid hmm
    have HDD := Lib.hid hdd
    have HD0 := Lib.hid hd0
    have hpm := prod_mul (xl := xl) (X := X) ho
    clear hc hdd hd0 ho hv hsr hsc hrc hok hmm
    obtain ⟨fe, hfe2⟩ : ∃ e, mulE n m f rl R cl C xl X = e := ⟨_, rfl⟩
    have hL1 : prL n m f xl X = 0 := if_neg (by rw [hpm]; exact hfe)
    have hL2 : fsL n m f rl R cl C xl X = 0 := if_neg hfe
    have hp : ∀ w', Kept wc w' → Calls Try.prog 8 #[.slice A n cap, .slice XA xl xc] w' fun e w'' => ∃ OA oc, e = .returned (.tuple #[.slice OA 0 oc, .int .i64 fe]) ∧ Kept w' w'' := fun w' hk => by
      have := cProd_any A n cap B m cp f XA xl xc X w' hn hxl (HM0.out.of hk) (HX0.out.of hk)
      rw [hpm, hL1, hfe2] at this
      exact this.mono fun e w'' ⟨OA, oc, h1, h2, _⟩ => ⟨OA, oc, h1, h2⟩
    have hf : ∀ w', Kept wc w' → Calls Try.prog 9 #[.slice A n cap, .slice RA rl rc, .slice CA cl cc, .slice XA xl xc] w' fun e w'' => ∃ OA oc, e = .returned (.tuple #[.slice OA 0 oc, .int .i64 fe]) ∧ Kept w' w'' := fun w' hk => by
      have := cFast_any A n cap B m cp f RA rl rc R CA cl cc C XA xl xc X w' hn hrl hcl hxl (HM0.out.of hk) (HR0.out.of hk) (HC0.out.of hk) (HX0.out.of hk)
      rw [hL2, hfe2] at this
      exact this.mono fun e w'' ⟨OA, oc, h1, h2, _⟩ => ⟨OA, oc, h1, h2⟩
    have HP := Lib.hid hp
    have HF := Lib.hid hf
    rw [hfe2] at hfe
    have k5 : (fe == 0) = false := by simpa using hfe
    have k6 : decide (fe = 0) = false := by simpa using hfe
    have k7 : (fe != fe) = false := by simp
    clear hfe hfe2 hpm hp hf hL1 hL2
    go_wp2_with (first | (go_at_call 4; refine (HMN.out _ (by (repeat (first | exact Kept.refl _ | assumption | refine Kept.alloc ?_ _ | refine Kept.ext ?_ _ | refine Kept.drew ?_ | refine Kept.drewN ?_ _)))).mono ?_; rintro e w1 ⟨rfl, x3, rfl⟩) | (go_at_call 8; refine (HP.out _ (by (repeat (first | exact Kept.refl _ | assumption | refine Kept.alloc ?_ _ | refine Kept.ext ?_ _ | refine Kept.drew ?_ | refine Kept.drewN ?_ _)))).mono ?_; rintro e w1 ⟨O1, o1, rfl, y1, rfl⟩) | (go_at_call 9; refine (HF.out _ (by (repeat (first | exact Kept.refl _ | assumption | refine Kept.alloc ?_ _ | refine Kept.ext ?_ _ | refine Kept.drew ?_ | refine Kept.drewN ?_ _)))).mono ?_; rintro e w1 ⟨O2, o2, rfl, y2, rfl⟩))
    refine wp_gen (fun W0 hW0 => ?_)
    have hk0 : Kept wc W0 := by rw [hW0]; (repeat (first | exact Kept.refl _ | assumption | refine Kept.alloc ?_ _ | refine Kept.ext ?_ _ | refine Kept.drew ?_ | refine Kept.drewN ?_ _))
    have bz0 : W0.cell? ⟨wb, 0, none⟩ = some (.slice RA rl rc) := cell_on bx0 Lb.lt hk0
    have bz1 : W0.cell? ⟨wb, 1, none⟩ = some (.slice CA cl cc) := cell_on bx1 Lb.lt hk0
    have bz2 : W0.cell? ⟨wb, 2, none⟩ = some (.slice XA xl xc) := cell_on bx2 Lb.lt hk0
    have Lb2 : Lower wb W0.heap.size := ⟨Nat.lt_of_lt_of_le Lb.lt (kept_le hk0)⟩
    have HK0 := Lib.hid hk0
    clear hW0 hk0 bx0 bx1 bx2 Lb HMN HP HF
    go_loopw [16] (fun i wr => ∃ k : Nat, k ≤ n ∧ i = .int .i64 k ∧ Kept W0 wr) (fun i _ => n - (intOf i).toNat)
    case atStart => exact ⟨0, by omega, rfl, Kept.refl _⟩
    case round =>
      obtain ⟨k, hk, rfl, y3, rfl⟩ := hrel
      by_cases hlt : k < n
      case neg =>
        obtain rfl : k = n := by omega
        go_wp2_with fail
        go_ret
        exact ⟨rfl, HKC.out.trans (HK0.out.trans (by (repeat (first | exact Kept.refl _ | assumption | refine Kept.alloc ?_ _ | refine Kept.ext ?_ _ | refine Kept.drew ?_ | refine Kept.drewN ?_ _))))⟩
      obtain ⟨ab, ao, rfl, hab, c1⟩ := (HM0.out.of HK0.out).at hlt
      have hmk := HMM.out k hlt
      rw [hmk] at c1
      have LA : Lower ab W0.heap.size := ⟨hab⟩
      clear hmk
      go_wp2_with fail
      obtain ⟨wo, hwo⟩ : ∃ wo : World, wo = ext W0 y3 := ⟨_, rfl⟩
      go_loopw [17, 18] (fun s j wr => ∃ t : Nat, t ≤ m 0 ∧ j = .int .i64 t ∧ s = .int .i64 (0) ∧ Kept W0 wr) (fun _ j _ => m 0 - (intOf j).toNat)
      case atStart => exact ⟨0, by omega, rfl, rfl, by (repeat (first | exact Kept.refl _ | assumption | refine Kept.alloc ?_ _ | refine Kept.ext ?_ _ | refine Kept.drew ?_ | refine Kept.drewN ?_ _))⟩
      case round =>
        obtain ⟨t, ht, rfl, rfl, y4, rfl⟩ := hrel
        by_cases hlt2 : t < m 0
        · obtain ⟨N, D0, q1, q2, q3, q4, q5, q6, q7, q8, q9, q10, q11, q12, q13⟩ := top_el HO.out hlt hlt2
          obtain ⟨lv, hlv⟩ : ∃ e, leftV f rl R C k t = e := ⟨_, rfl⟩
          rw [hlv] at q8 q9 q10 q11
          rw [HDD.out] at q7 q8 q12 q13
          have hres : ∀ w', Kept W0 w' → Calls Try.prog 10 #[.slice (some ⟨ab, ao, none⟩) n cap, .slice RA rl rc, .slice CA cl cc, .int .i64 k, .int .i64 t] w' fun e w'' => e = .returned (.tuple #[.agg #[.int .i64 N, .int .i64 D0], .int .i64 0]) ∧ Kept w' w'' := fun w' hk => by
            have hkk := HK0.out.trans hk
            have := cRes_any (some ⟨ab, ao, none⟩) n cap B m cp f RA rl rc R CA cl cc C k t w' hn hrl hcl (HM0.out.of hkk) (HR0.out.of hkk) (HC0.out.of hkk)
            rwa [q1, q2, q3] at this
          have HRES := Lib.hid hres
          have d1 : decide (D0 < 1) = false := decide_eq_false (by omega)
          have d2 : (D0 == 0) = false := by simpa using (show D0 ≠ 0 by omega)
          have d3 : decide (D0 = 0) = false := decide_eq_false (by omega)
          obtain ⟨qq, hqq⟩ : ∃ e, dd.tdiv D0 = e := ⟨_, rfl⟩
          rw [hqq] at q8 q12 q13
          clear q1 q2 q3 hres
          have HLV := Lib.hid hlv
          clear hlv
          cases hbR : hasB rl R (k : Int) with
          | true =>
            have hz : N = 0 := q9.2 (by rw [← HLV.out]; unfold leftV; rw [hbR, Bool.true_or, if_pos rfl])
            subst hz
            clear q9
            obtain ⟨s, s1, s2, s3⟩ := set_found HSR.out hbR
            have hlr : ∀ w', Kept W0 w' → Calls Try.prog 11 #[.slice RA rl rc, .int .i64 k] w' fun e w'' => e = .returned (.tuple #[.slice none 0 0, .bool false]) ∧ Kept w' w'' := fun w' hk =>
              longerF_any RA rl rc R k s w' (by omega) (by unfold I64; omega) s1 s2 s3 (HR0.out.of (HK0.out.trans hk))
            have hlc : ∀ w', Kept W0 w' → Calls Try.prog 11 #[.slice CA cl cc, .int .i64 t] w' fun e w'' => ∃ v b, e = .returned (.tuple #[v, .bool b]) ∧ Kept w' w'' := fun w' hk => by
              have hcl5 : cl ≤ 5 := by have := HRC.out; omega
              cases hbC : hasB cl C (t : Int) with
              | true =>
                obtain ⟨s, s1, s2, s3⟩ := set_found HSC.out hbC
                exact (longerF_any CA cl cc C t s w' hcl5 (by unfold I64; omega) s1 s2 s3 (HC0.out.of (HK0.out.trans hk))).mono fun e w'' ⟨h1, h2⟩ => ⟨_, _, h1, h2⟩
              | false =>
                obtain ⟨s, s1, s2, s3⟩ := set_place HSC.out hbC
                exact (longerN_any CA cl cc C t s w' hcl5 (by unfold I64; omega) s1 s2 s3 (HC0.out.of (HK0.out.trans hk))).mono fun e w'' ⟨v, h1, h2, _⟩ => ⟨_, _, h1, h2⟩
            have HLR := Lib.hid hlr
            have HLC := Lib.hid hlc
            clear hlr hlc s1 s2 s3 hbR
            go_wp2_with (first | (go_at_call 10; refine (HRES.out _ (by (repeat (first | exact Kept.refl _ | assumption | refine Kept.alloc ?_ _ | refine Kept.ext ?_ _ | refine Kept.drew ?_ | refine Kept.drewN ?_ _)))).mono ?_; rintro e w1 ⟨rfl, x4, rfl⟩) | (go_at_call 11; (with_reducible refine (HLR.out _ (by (repeat (first | exact Kept.refl _ | assumption | refine Kept.alloc ?_ _ | refine Kept.ext ?_ _ | refine Kept.drew ?_ | refine Kept.drewN ?_ _)))).mono ?_); rintro e w1 ⟨rfl, x5, rfl⟩) | (go_at_call 11; (with_reducible refine (HLC.out _ (by (repeat (first | exact Kept.refl _ | assumption | refine Kept.alloc ?_ _ | refine Kept.ext ?_ _ | refine Kept.drew ?_ | refine Kept.drewN ?_ _)))).mono ?_); rintro e w1 ⟨v8, b8, rfl, x6, rfl⟩))
            go_roundw
            case rel => exact ⟨t + 1, by omega, by go_num, rfl, by (repeat (first | exact Kept.refl _ | assumption | refine Kept.alloc ?_ _ | refine Kept.ext ?_ _ | refine Kept.drew ?_ | refine Kept.drewN ?_ _))⟩
            case measure => simp [intOf]; omega
          | false =>
            obtain ⟨s, s1, s2, s3⟩ := set_place HSR.out hbR
            have hlr : ∀ w', Kept W0 w' → Calls Try.prog 11 #[.slice RA rl rc, .int .i64 k] w' fun e w'' => ∃ A' c', e = .returned (.tuple #[.slice A' (rl + 1) c', .bool true]) ∧ Kept w' w'' ∧ RowsAt w'' A' (rl + 1) 1 (insZ s R k) := fun w' hk => by
              refine (longerN_any RA rl rc R k s w' (by omega) (by unfold I64; omega) s1 s2 s3 (HR0.out.of (HK0.out.trans hk))).mono ?_
              rintro e w'' ⟨v, rfl, h1, h2⟩
              obtain ⟨A', c', rfl⟩ := own_slice2 h2
              exact ⟨A', c', rfl, h1, rows_of_owns h2 fun a ha j _ => insZ_I HSR.out (show (0 : Int) ≤ k ∧ (k : Int) < n by omega) n6 s1 ha⟩
            cases hbC : hasB cl C (t : Int) with
            | true =>
              have hz : N = 0 := q9.2 (by rw [← HLV.out]; unfold leftV; rw [← HRC.out] at hbC; rw [hbC, Bool.or_true, if_pos rfl])
              subst hz
              clear q9
              obtain ⟨u, u1, u2, u3⟩ := set_found HSC.out hbC
              have hlc : ∀ w', Kept W0 w' → Calls Try.prog 11 #[.slice CA cl cc, .int .i64 t] w' fun e w'' => e = .returned (.tuple #[.slice none 0 0, .bool false]) ∧ Kept w' w'' := fun w' hk =>
                longerF_any CA cl cc C t u w' (by have := HRC.out; omega) (by unfold I64; omega) u1 u2 u3 (HC0.out.of (HK0.out.trans hk))
              have HLR := Lib.hid hlr
              have HLC := Lib.hid hlc
              clear hlr hlc s1 s2 s3 u1 u2 u3 hbR hbC
              go_wp2_with (first | (go_at_call 10; refine (HRES.out _ (by (repeat (first | exact Kept.refl _ | assumption | refine Kept.alloc ?_ _ | refine Kept.ext ?_ _ | refine Kept.drew ?_ | refine Kept.drewN ?_ _)))).mono ?_; rintro e w1 ⟨rfl, x4, rfl⟩) | (go_at_call 11; (with_reducible refine (HLR.out _ (by (repeat (first | exact Kept.refl _ | assumption | refine Kept.alloc ?_ _ | refine Kept.ext ?_ _ | refine Kept.drew ?_ | refine Kept.drewN ?_ _)))).mono ?_); rintro e w1 ⟨A5, c5, rfl, ⟨x5, rfl⟩, -⟩) | (go_at_call 11; (with_reducible refine (HLC.out _ (by (repeat (first | exact Kept.refl _ | assumption | refine Kept.alloc ?_ _ | refine Kept.ext ?_ _ | refine Kept.drew ?_ | refine Kept.drewN ?_ _)))).mono ?_); rintro e w1 ⟨rfl, x6, rfl⟩))
              go_roundw
              case rel => exact ⟨t + 1, by omega, by go_num, rfl, by (repeat (first | exact Kept.refl _ | assumption | refine Kept.alloc ?_ _ | refine Kept.ext ?_ _ | refine Kept.drew ?_ | refine Kept.drewN ?_ _))⟩
              case measure => simp [intOf]; omega
            | false =>
              obtain ⟨u, u1, u2, u3⟩ := set_place HSC.out hbC
              have hlc : ∀ w', Kept W0 w' → Calls Try.prog 11 #[.slice CA cl cc, .int .i64 t] w' fun e w'' => ∃ A' c', e = .returned (.tuple #[.slice A' (cl + 1) c', .bool true]) ∧ Kept w' w'' ∧ RowsAt w'' A' (cl + 1) 1 (insZ u C t) := fun w' hk => by
                refine (longerN_any CA cl cc C t u w' (by have := HRC.out; omega) (by unfold I64; omega) u1 u2 u3 (HC0.out.of (HK0.out.trans hk))).mono ?_
                rintro e w'' ⟨v, rfl, h1, h2⟩
                obtain ⟨A', c', rfl⟩ := own_slice2 h2
                exact ⟨A', c', rfl, h1, rows_of_owns h2 fun a ha j _ => insZ_I HSC.out (show (0 : Int) ≤ t ∧ (t : Int) < m 0 by omega) m6 u1 ha⟩
              obtain ⟨z1, z2⟩ := top_choice HO.out hlt hlt2 s1 u1 hbR hbC s2 s3 u2 u3
              obtain ⟨mv, hmv⟩ : ∃ e, minV n m f (rl + 1) (insZ s R k) (cl + 1) (insZ u C t) = e := ⟨_, rfl⟩
              rw [hmv, HLV.out] at z2
              have hm2 : ∀ A5 c5 A6 c6 w', Kept W0 w' → RowsAt w' A5 (rl + 1) 1 (insZ s R k) → RowsAt w' A6 (cl + 1) 1 (insZ u C t) → Calls Try.prog 4 #[.slice (some ⟨ab, ao, none⟩) n cap, .slice A5 (rl + 1) c5, .slice A6 (cl + 1) c6] w' fun e w'' => e = .returned (.tuple #[.int .i64 mv, .int .i64 0]) ∧ Kept w' w'' := fun A5 c5 A6 c6 w' hk h5 h6 => by
                have := cMinor_any (some ⟨ab, ao, none⟩) n cap B m cp f A5 (rl + 1) c5 (insZ s R k) A6 (cl + 1) c6 (insZ u C t) w' hn (by omega) (by have := HRC.out; omega) (HM0.out.of (HK0.out.trans hk)) h5 h6
                rwa [z1, hmv] at this
              have HLR := Lib.hid hlr
              have HLC := Lib.hid hlc
              have HM2 := Lib.hid hm2
              clear hlr hlc hm2 s1 s2 s3 u1 u2 u3 hbR hbC z1 hmv
              by_cases hz : lv = 0
              · have f1 : N = 0 := q9.2 hz
                have f2 : mv = 0 := z2.2 hz
                subst f1
                subst f2
                clear q9 z2 hz
                go_wp2_with (first | (go_at_call 10; refine (HRES.out _ (by (repeat (first | exact Kept.refl _ | assumption | refine Kept.alloc ?_ _ | refine Kept.ext ?_ _ | refine Kept.drew ?_ | refine Kept.drewN ?_ _)))).mono ?_; rintro e w1 ⟨rfl, x4, rfl⟩) | (go_at_call 11; (with_reducible refine (HLR.out _ (by (repeat (first | exact Kept.refl _ | assumption | refine Kept.alloc ?_ _ | refine Kept.ext ?_ _ | refine Kept.drew ?_ | refine Kept.drewN ?_ _)))).mono ?_); rintro e w1 ⟨A5, c5, rfl, ⟨x5, rfl⟩, h5⟩; have H5 := Lib.hid h5; clear h5) | (go_at_call 11; (with_reducible refine (HLC.out _ (by (repeat (first | exact Kept.refl _ | assumption | refine Kept.alloc ?_ _ | refine Kept.ext ?_ _ | refine Kept.drew ?_ | refine Kept.drewN ?_ _)))).mono ?_); rintro e w1 ⟨A6, c6, rfl, ⟨x6, rfl⟩, h6⟩; have H6 := Lib.hid h6; clear h6) | (go_at_call 4; refine (HM2.out _ _ _ _ _ (by (repeat (first | exact Kept.refl _ | assumption | refine Kept.alloc ?_ _ | refine Kept.ext ?_ _ | refine Kept.drew ?_ | refine Kept.drewN ?_ _))) (H5.out.of (by (repeat (first | exact Kept.refl _ | assumption | refine Kept.alloc ?_ _ | refine Kept.ext ?_ _ | refine Kept.drew ?_ | refine Kept.drewN ?_ _)))) H6.out).mono ?_; rintro e w1 ⟨rfl, x7, rfl⟩))
                go_roundw
                case rel => exact ⟨t + 1, by omega, by go_num, rfl, by (repeat (first | exact Kept.refl _ | assumption | refine Kept.alloc ?_ _ | refine Kept.ext ?_ _ | refine Kept.drew ?_ | refine Kept.drewN ?_ _))⟩
                case measure => simp [intOf]; omega
              · have f1 : (N != 0) = true := by simpa using (fun h => hz (q9.1 h))
                have f2 : (mv != 0) = true := by simpa using (fun h => hz (z2.1 h))
                have f3 : (N == 0) = false := by simpa using (fun h => hz (q9.1 h))
                have f4 : (mv == 0) = false := by simpa using (fun h => hz (z2.1 h))
                have f5 : decide (N = 0) = false := decide_eq_false (fun h => hz (q9.1 h))
                have f6 : decide (mv = 0) = false := decide_eq_false (fun h => hz (z2.1 h))
                clear q9 z2 hz
                go_wp2_with (first | (go_at_call 10; refine (HRES.out _ (by (repeat (first | exact Kept.refl _ | assumption | refine Kept.alloc ?_ _ | refine Kept.ext ?_ _ | refine Kept.drew ?_ | refine Kept.drewN ?_ _)))).mono ?_; rintro e w1 ⟨rfl, x4, rfl⟩) | (go_at_call 11; (with_reducible refine (HLR.out _ (by (repeat (first | exact Kept.refl _ | assumption | refine Kept.alloc ?_ _ | refine Kept.ext ?_ _ | refine Kept.drew ?_ | refine Kept.drewN ?_ _)))).mono ?_); rintro e w1 ⟨A5, c5, rfl, ⟨x5, rfl⟩, h5⟩; have H5 := Lib.hid h5; clear h5) | (go_at_call 11; (with_reducible refine (HLC.out _ (by (repeat (first | exact Kept.refl _ | assumption | refine Kept.alloc ?_ _ | refine Kept.ext ?_ _ | refine Kept.drew ?_ | refine Kept.drewN ?_ _)))).mono ?_); rintro e w1 ⟨A6, c6, rfl, ⟨x6, rfl⟩, h6⟩; have H6 := Lib.hid h6; clear h6) | (go_at_call 4; refine (HM2.out _ _ _ _ _ (by (repeat (first | exact Kept.refl _ | assumption | refine Kept.alloc ?_ _ | refine Kept.ext ?_ _ | refine Kept.drew ?_ | refine Kept.drewN ?_ _))) (H5.out.of (by (repeat (first | exact Kept.refl _ | assumption | refine Kept.alloc ?_ _ | refine Kept.ext ?_ _ | refine Kept.drew ?_ | refine Kept.drewN ?_ _)))) H6.out).mono ?_; rintro e w1 ⟨rfl, x7, rfl⟩))
                go_roundw
                case rel => exact ⟨t + 1, by omega, by go_num, rfl, by (repeat (first | exact Kept.refl _ | assumption | refine Kept.alloc ?_ _ | refine Kept.ext ?_ _ | refine Kept.drew ?_ | refine Kept.drewN ?_ _))⟩
                case measure => simp [intOf]; omega
        · obtain rfl : t = m 0 := by omega
          clear hwo
          go_wp2_with fail
          ((first | (with_reducible refine wp_region_kept2 (by kernel_rfl) (by kernel_rfl) ?_) | refine wp_region_kept (by kernel_rfl) (by kernel_rfl) ?_); (repeat (go_big_quiet_step (fail))); refine wpQuiet_nil ?_; intro x5)
          go_wp2_with fail
          go_roundw
          case rel => exact ⟨k + 1, by omega, by go_num, by (repeat (first | exact Kept.refl _ | assumption | refine Kept.alloc ?_ _ | refine Kept.ext ?_ _ | refine Kept.drew ?_ | refine Kept.drewN ?_ _))⟩
          case measure => simp [intOf]; omega
theorem tskel_law (A : Option Addr) (n cap : Nat) (B : Nat → Option Addr) (m cp : Nat → Nat) (f : Nat → Nat → Int) (RA : Option Addr) (rl rc : Nat) (R : Nat → Nat → Int) (CA : Option Addr) (cl cc : Nat) (C : Nat → Nat → Int) (XA : Option Addr) (xl xc : Nat) (X : Nat → Nat → Int) (p q : Int) (w : World)
    (h : n ≤ cap ∧ cap ≤ maxLen ∧ MatAt w A n B m cp f) (h2 : (rl ≤ rc ∧ rc ≤ maxLen ∧ RowsAt w RA rl 1 R) ∧ (cl ≤ cc ∧ cc ≤ maxLen ∧ RowsAt w CA cl 1 C) ∧ (xl ≤ xc ∧ xc ≤ maxLen ∧ RowsAt w XA xl 1 X)) :
    Calls Try.prog 3 #[.slice A n cap, .agg #[.slice RA rl rc, .slice CA cl cc, .slice XA xl xc], .agg #[.int .i64 p, .int .i64 q]] w fun r w' => r = .returned (.bool true) ∧ Kept w w' := by
  cases hl : longB n m
  case true => exact tskel_1 _ _ _ _ _ _ _ _ _ _ _ _ _ _ _ _ _ _ _ _ _ _ h h2 hl
  by_cases hg : ¬ (40 : Int) < rl ∧ ¬ (40 : Int) < cl ∧ ¬ (40 : Int) < xl
  case neg => exact tskel_2 _ _ _ _ _ _ _ _ _ _ _ _ _ _ _ _ _ _ _ _ _ _ h h2 hl hg
  by_cases ho : opnE n m f rl R cl C = 0 ∧ ¬ (6 : Int) ≤ rl
  case neg => exact tskel_3 _ _ _ _ _ _ _ _ _ _ _ _ _ _ _ _ _ _ _ _ _ _ h h2 hl hg ho
  by_cases hf : mulE n m f rl R cl C xl X = 0
  · exact tskel_4 _ _ _ _ _ _ _ _ _ _ _ _ _ _ _ _ _ _ _ _ _ _ h h2 hl hg ho hf
  · exact tskel_5 _ _ _ _ _ _ _ _ _ _ _ _ _ _ _ _ _ _ _ _ _ _ h h2 hl hg ho hf
theorem ownTopSkeletons : ownKnob Try.prog.godebug = none := by kernel_rfl
theorem laidOutTopSkeletons : laidOutB Try.prog = true := by kernel_rfl
set_option linter.unusedVariables false in
set_option maxRecDepth 100000 in
theorem liftedTopSkeletons (os : Os) (started : os.Started) (H : Type) (enc : TypeId × Value → H) :
    ReturnsInHanded {} Try.checked os 3 .any (Rows.topSkeletonsSpec.pre6 enc Try.prog Try.f3 Rows.topSkeletonsRow.domain false) (Rows.topSkeletonsSpec.post enc Try.prog Try.f3 false true false false) := by
  refine returnsInHanded_of_change (C := Try.checked) ownTopSkeletons started (by kernel_rfl) Try.func3
    (ChangeSpec.witness6 (enc := enc) (C := Try.checked) false ⟨#[], #[.slice none 0 0, .agg #[.slice none 0 0, .slice none 0 0, .slice none 0 0], .agg #[.int .i64 0, .int .i64 0]], []⟩ 8 (by kernel_rfl) (by kernel_rfl) (by kernel_rfl) (by kernel_rfl)) ?_
  intro W base args ds gs before hval0 hW hcnd _
  have hval : ∀ (j : Nat) t v, Try.f3.params[j]? = some t → args[j]? = some v → Value.okWide Try.prog W .any base t v := hval0
  have hW' := hW
  obtain ⟨p, q, hA0, hV, rfl, hfz, hnd⟩ := hW
  have hA : DataW.TrodAll enc Try.prog W 0 (fun _ => true) true Try.f3.params.toList args.toList ds p := hA0
  rw [Try.params3] at hA hval
  obtain ⟨v0, vs0, d0, ds0, p0, q0, hargs, rfl, rfl, h0, r0⟩ := trodAll_cons hA
  obtain ⟨v1, vs1, d1, ds1, p1, q1, rfl, rfl, rfl, h1, r1⟩ := trodAll_cons r0
  obtain ⟨v2, vs2, d2, ds2, p2, q2, rfl, rfl, rfl, h2, r2⟩ := trodAll_cons r1
  obtain ⟨rfl, rfl, rfl⟩ := trodAll_nil r2
  obtain rfl : args = #[v0, v1, v2] := by cases args; simp_all
  obtain ⟨rfl, rfl⟩ := trodVars_none hV
  have lt0 : ∀ x ∈ p0, x.block < W.heap.size := by obtain ⟨m, hm⟩ := h0; exact DataW.trod_lt m _ _ _ hm
  obtain ⟨A0, n0, cap0, B0, m0, cp0, f0, rfl, hl0, hm0, hr0⟩ := open_mat Try.underlying22 (by kernel_rfl) Try.underlying23 (by kernel_rfl) (by kernel_rfl) (hval 0 22 v0 rfl rfl) h0 lt0
  have lt1 : ∀ x ∈ p1, x.block < W.heap.size := by obtain ⟨m, hm⟩ := h1; exact DataW.trod_lt m _ _ _ hm
  obtain ⟨A1, n1, cap1, f1, B1, m1, capb1, g1, C1, l1, capc1, u1, rfl, hpa1, hpb1, hpc1⟩ := open_work _ _ _ 25 3 Try.underlying25 ⟨rfl, rfl, rfl, by kernel_rfl, by kernel_rfl, by kernel_rfl, by kernel_rfl⟩ Try.underlying23 Try.underlying23 Try.underlying23 (by kernel_rfl) (by kernel_rfl) (hval 1 25 v1 rfl rfl) h1 lt1
  have lt2 : ∀ x ∈ p2, x.block < W.heap.size := by obtain ⟨m, hm⟩ := h2; exact DataW.trod_lt m _ _ _ hm
  obtain ⟨l2, rfl, e2, b2⟩ := open_agg_ints 2 (by kernel_rfl) (by kernel_rfl) (ts := [3, 3]) (by kernel_rfl) (by intro u hu; simp at hu; subst hu; exact Try.underlying3) (hval 2 27 v2 rfl rfl)
  obtain ⟨z2_0, z2_1, rfl⟩ := len2 e2
  simp only [List.map_cons, List.map_nil] at *
  simp only [List.mem_cons, List.not_mem_nil, or_false, forall_eq_or_imp, forall_eq] at b2
  clear hA0 hval0
  refine (tskel_law A0 n0 cap0 B0 m0 cp0 f0 A1 n1 cap1 f1 B1 m1 capb1 g1 C1 l1 capc1 u1 z2_0 z2_1 W ⟨hl0, hm0, hr0⟩ ⟨hpa1, hpb1, hpc1⟩).mono fun e W' ⟨he, hk⟩ => ?_
  subst he
  have bel := hk.below
  exact ⟨_, rfl, _, _, _, [], _, [], hW', trodAll_mk1 (shut_bool Try.underlying4 _), (trodAll_cons_mk (Below.trod laidOutTopSkeletons (by kernel_rfl) (of_decide_eq_true (by kernel_rfl)) h0 bel lt0) (trodAll_cons_mk (Below.trod laidOutTopSkeletons (by kernel_rfl) (of_decide_eq_true (by kernel_rfl)) h1 bel lt1) (trodAll_cons_mk (Below.trod laidOutTopSkeletons (by kernel_rfl) (of_decide_eq_true (by kernel_rfl)) h2 bel lt2) trodAll_mk0))), rfl, bel.frame _, fun h => by cases h⟩
/-- For every input the statement TopSkeletons returns true, and each argument reads afterwards as it read before. -/
theorem topSkeletons_holds : Rows.TopSkeletonsSaid :=
  OpenClaim.holds_of_wide 3 Try.f3 rfl rfl rfl rfl rfl rfl rfl ⟨rfl, rfl, rfl, rfl, rfl⟩ rfl rfl rfl rfl rfl (by kernel_rfl) Try.func3 (by kernel_rfl)
    (of_decide_eq_true (by kernel_rfl)) (by unfold Func.isWrapper; first | (rw [if_pos (by decide +kernel)]; kernel_rfl) | (rw [if_neg (by decide +kernel)]; exact ⟨rfl, rfl⟩))
    (fun os started H enc _ => liftedTopSkeletons os started H enc)
#print axioms topSkeletons_holds

end Go.Proofs.Ytjadpehpempjoaa
