/- For every input the statement CrossOff returns true and leaves its arguments as they were. No conditions. -/
import Derived.Test.YtoejdfpmmgldpaaOfp
namespace Go.Proofs.Ytoejdfpmmgldpaa
set_option linter.unusedVariables false
set_option linter.unusedSimpArgs false
open Go.ChangeShapes Go.WideShapes Go.ChangeAt Go.RowKit
set_option maxRecDepth 100000 in
set_option maxHeartbeats 16000000 in
theorem coff_law (A : Option Addr) (n cap : Nat) (B : Nat → Option Addr) (m cp : Nat → Nat) (f : Nat → Nat → Int) (RA : Option Addr) (rl rc : Nat) (R : Nat → Nat → Int) (CA : Option Addr) (cl cc : Nat) (C : Nat → Nat → Int) (XA : Option Addr) (xl xc : Nat) (X : Nat → Nat → Int) (w : World)
    (h : n ≤ cap ∧ cap ≤ maxLen ∧ MatAt w A n B m cp f) (h2 : (rl ≤ rc ∧ rc ≤ maxLen ∧ RowsAt w RA rl 1 R) ∧ (cl ≤ cc ∧ cc ≤ maxLen ∧ RowsAt w CA cl 1 C) ∧ (xl ≤ xc ∧ xc ≤ maxLen ∧ RowsAt w XA xl 1 X)) :
    Calls Try.prog 12 #[.slice A n cap, .agg #[.slice RA rl rc, .slice CA cl cc, .slice XA xl xc]] w fun r w' => r = .returned (.bool true) ∧ Kept w w' := by
  obtain ⟨a1, a2, hM⟩ := h
  obtain ⟨⟨b1, b2, hR⟩, ⟨c1, c2, hC⟩, d1, d2, hX⟩ := h2
  have HM := Lib.hid hM
  have HR := Lib.hid hR
  have HC := Lib.hid hC
  have HX := Lib.hid hX
  have B2 := Lib.hid (And.intro b1 b2)
  have C2 := Lib.hid (And.intro c1 c2)
  clear hM hR hC hX
  unfold maxLen at a2 b2 c2 d2
  have hn : n ≤ 9223372036854775807 := by omega
  have hrl : rl ≤ 9223372036854775807 := by omega
  have hcl : cl ≤ 9223372036854775807 := by omega
  have hxl : xl ≤ 9223372036854775807 := by omega
  clear a1 a2 b1 b2 c1 c2 d1 d2
  cases hl : longB n m
  case true =>
    have HL := Lib.hid hl
    clear hl
    go_enter Try.func12, Try.ntmps12
    go_wp2_with (first | (go_at_call 15; refine (long6_any _ _ _ _ _ _ _ _ hn (HM.out.of (by (repeat (first | exact Kept.refl _ | assumption | refine Kept.alloc ?_ _ | refine Kept.ext ?_ _ | refine Kept.drew ?_ | refine Kept.drewN ?_ _))))).mono ?_; rintro e w1 ⟨rfl, rfl⟩; rw [HL.out]) | (go_at_call 17; refine (known6_any _).mono ?_; rintro e w1 ⟨rfl, x9, rfl⟩))
    go_ret
    exact ⟨rfl, by (repeat (first | exact Kept.refl _ | assumption | refine Kept.alloc ?_ _ | refine Kept.ext ?_ _ | refine Kept.drew ?_ | refine Kept.drewN ?_ _))⟩
  have HL := Lib.hid hl
  clear hl
  by_cases g1 : (40 : Int) < rl
  · have e1 : decide ((40 : Int) < rl) = true := decide_eq_true g1
    go_enter Try.func12, Try.ntmps12
    go_wp2_with (first | (go_at_call 15; refine (long6_any _ _ _ _ _ _ _ _ hn (HM.out.of (by (repeat (first | exact Kept.refl _ | assumption | refine Kept.alloc ?_ _ | refine Kept.ext ?_ _ | refine Kept.drew ?_ | refine Kept.drewN ?_ _))))).mono ?_; rintro e w1 ⟨rfl, rfl⟩; rw [HL.out]) | (go_at_call 17; refine (known6_any _).mono ?_; rintro e w1 ⟨rfl, x9, rfl⟩))
    go_ret
    exact ⟨rfl, by (repeat (first | exact Kept.refl _ | assumption | refine Kept.alloc ?_ _ | refine Kept.ext ?_ _ | refine Kept.drew ?_ | refine Kept.drewN ?_ _))⟩
  have e1 : decide ((40 : Int) < rl) = false := decide_eq_false g1
  by_cases g2 : (40 : Int) < cl
  · have e2 : decide ((40 : Int) < cl) = true := decide_eq_true g2
    go_enter Try.func12, Try.ntmps12
    go_wp2_with (first | (go_at_call 15; refine (long6_any _ _ _ _ _ _ _ _ hn (HM.out.of (by (repeat (first | exact Kept.refl _ | assumption | refine Kept.alloc ?_ _ | refine Kept.ext ?_ _ | refine Kept.drew ?_ | refine Kept.drewN ?_ _))))).mono ?_; rintro e w1 ⟨rfl, rfl⟩; rw [HL.out]) | (go_at_call 17; refine (known6_any _).mono ?_; rintro e w1 ⟨rfl, x9, rfl⟩))
    go_ret
    exact ⟨rfl, by (repeat (first | exact Kept.refl _ | assumption | refine Kept.alloc ?_ _ | refine Kept.ext ?_ _ | refine Kept.drew ?_ | refine Kept.drewN ?_ _))⟩
  have e2 : decide ((40 : Int) < cl) = false := decide_eq_false g2
  by_cases g3 : (40 : Int) < xl
  · have e3 : decide ((40 : Int) < xl) = true := decide_eq_true g3
    go_enter Try.func12, Try.ntmps12
    go_wp2_with (first | (go_at_call 15; refine (long6_any _ _ _ _ _ _ _ _ hn (HM.out.of (by (repeat (first | exact Kept.refl _ | assumption | refine Kept.alloc ?_ _ | refine Kept.ext ?_ _ | refine Kept.drew ?_ | refine Kept.drewN ?_ _))))).mono ?_; rintro e w1 ⟨rfl, rfl⟩; rw [HL.out]) | (go_at_call 17; refine (known6_any _).mono ?_; rintro e w1 ⟨rfl, x9, rfl⟩))
    go_ret
    exact ⟨rfl, by (repeat (first | exact Kept.refl _ | assumption | refine Kept.alloc ?_ _ | refine Kept.ext ?_ _ | refine Kept.drew ?_ | refine Kept.drewN ?_ _))⟩
  have e3 : decide ((40 : Int) < xl) = false := decide_eq_false g3
  by_cases hE : mulE n m f rl R cl C xl X = 0
  case neg =>
    have HE := Lib.hid hE
    obtain ⟨me, hme⟩ : ∃ e, mulE n m f rl R cl C xl X = e := ⟨_, rfl⟩
    rw [hme] at hE
    have HME := Lib.hid hme
    have k1 : (me == 0) = false := by simpa using hE
    have k2 : decide (me = 0) = false := by simpa using hE
    obtain ⟨pe, hpe⟩ : ∃ e, prodE n m f xl X = e := ⟨_, rfl⟩
    have HPE := Lib.hid hpe
    have hp : ∀ w', Kept w w' → Calls Try.prog 40 #[.slice A n cap, .slice XA xl xc] w' fun e w'' => ∃ OA oc, e = .returned (.tuple #[.slice OA (prL n m f xl X) oc, .int .i64 pe]) ∧ Kept w' w'' := fun w' hk => by
      have := cProd_any A n cap B m cp f XA xl xc X w' hn hxl (HM.out.of hk) (HX.out.of hk)
      rw [HPE.out] at this
      exact this.mono fun e w'' ⟨OA, oc, h1, h2, _⟩ => ⟨OA, oc, h1, h2⟩
    have hf : ∀ w', Kept w w' → Calls Try.prog 42 #[.slice A n cap, .slice RA rl rc, .slice CA cl cc, .slice XA xl xc] w' fun e w'' => ∃ OA oc, e = .returned (.tuple #[.slice OA (fsL n m f rl R cl C xl X) oc, .int .i64 me]) ∧ Kept w' w'' := fun w' hk => by
      have := cFast_any A n cap B m cp f RA rl rc R CA cl cc C XA xl xc X w' hn hrl hcl hxl (HM.out.of hk) (HR.out.of hk) (HC.out.of hk) (HX.out.of hk)
      rw [HME.out] at this
      exact this.mono fun e w'' ⟨OA, oc, h1, h2, _⟩ => ⟨OA, oc, h1, h2⟩
    have ho : ∀ w', Kept w w' → Calls Try.prog 44 #[.slice A n cap, .slice RA rl rc, .slice CA cl cc, .slice XA xl xc] w' fun e w'' => e = .returned (.tuple #[.agg #[.int .i64 (offN n m f rl R cl C xl X), .int .i64 (offD n m f rl R cl C xl X)], .int .i64 me]) ∧ Kept w' w'' := fun w' hk => by
      have := cOff_any A n cap B m cp f RA rl rc R CA cl cc C XA xl xc X w' hn hrl hcl hxl (HM.out.of hk) (HR.out.of hk) (HC.out.of hk) (HX.out.of hk)
      rwa [HME.out] at this
    have HP := Lib.hid hp
    have HF := Lib.hid hf
    have HO := Lib.hid ho
    clear hme hpe hp hf ho
    by_cases hpz : pe = 0
    · subst hpz
      go_enter Try.func12, Try.ntmps12
      go_wp2_with (first | (go_at_call 15; refine (long6_any _ _ _ _ _ _ _ _ hn (HM.out.of (by (repeat (first | exact Kept.refl _ | assumption | refine Kept.alloc ?_ _ | refine Kept.ext ?_ _ | refine Kept.drew ?_ | refine Kept.drewN ?_ _))))).mono ?_; rintro e w1 ⟨rfl, rfl⟩; rw [HL.out]) | (go_at_call 17; refine (known6_any _).mono ?_; rintro e w1 ⟨rfl, x9, rfl⟩) | (go_at_call 40; refine (HP.out _ (by (repeat (first | exact Kept.refl _ | assumption | refine Kept.alloc ?_ _ | refine Kept.ext ?_ _ | refine Kept.drew ?_ | refine Kept.drewN ?_ _)))).mono ?_; rintro e w1 ⟨O1, o1, rfl, y1, rfl⟩) | (go_at_call 42; refine (HF.out _ (by (repeat (first | exact Kept.refl _ | assumption | refine Kept.alloc ?_ _ | refine Kept.ext ?_ _ | refine Kept.drew ?_ | refine Kept.drewN ?_ _)))).mono ?_; rintro e w1 ⟨O2, o2, rfl, y2, rfl⟩) | (go_at_call 44; refine (HO.out _ (by (repeat (first | exact Kept.refl _ | assumption | refine Kept.alloc ?_ _ | refine Kept.ext ?_ _ | refine Kept.drew ?_ | refine Kept.drewN ?_ _)))).mono ?_; rintro e w1 ⟨rfl, y3, rfl⟩))
      go_ret
      exact ⟨rfl, by (repeat (first | exact Kept.refl _ | assumption | refine Kept.alloc ?_ _ | refine Kept.ext ?_ _ | refine Kept.drew ?_ | refine Kept.drewN ?_ _))⟩
    · have k3 : (pe == 0) = false := by simpa using hpz
      have k4 : decide (pe = 0) = false := by simpa using hpz
      go_enter Try.func12, Try.ntmps12
      go_wp2_with (first | (go_at_call 15; refine (long6_any _ _ _ _ _ _ _ _ hn (HM.out.of (by (repeat (first | exact Kept.refl _ | assumption | refine Kept.alloc ?_ _ | refine Kept.ext ?_ _ | refine Kept.drew ?_ | refine Kept.drewN ?_ _))))).mono ?_; rintro e w1 ⟨rfl, rfl⟩; rw [HL.out]) | (go_at_call 17; refine (known6_any _).mono ?_; rintro e w1 ⟨rfl, x9, rfl⟩) | (go_at_call 40; refine (HP.out _ (by (repeat (first | exact Kept.refl _ | assumption | refine Kept.alloc ?_ _ | refine Kept.ext ?_ _ | refine Kept.drew ?_ | refine Kept.drewN ?_ _)))).mono ?_; rintro e w1 ⟨O1, o1, rfl, y1, rfl⟩) | (go_at_call 42; refine (HF.out _ (by (repeat (first | exact Kept.refl _ | assumption | refine Kept.alloc ?_ _ | refine Kept.ext ?_ _ | refine Kept.drew ?_ | refine Kept.drewN ?_ _)))).mono ?_; rintro e w1 ⟨O2, o2, rfl, y2, rfl⟩) | (go_at_call 44; refine (HO.out _ (by (repeat (first | exact Kept.refl _ | assumption | refine Kept.alloc ?_ _ | refine Kept.ext ?_ _ | refine Kept.drew ?_ | refine Kept.drewN ?_ _)))).mono ?_; rintro e w1 ⟨rfl, y3, rfl⟩))
      go_ret
      exact ⟨rfl, by (repeat (first | exact Kept.refl _ | assumption | refine Kept.alloc ?_ _ | refine Kept.ext ?_ _ | refine Kept.drew ?_ | refine Kept.drewN ?_ _))⟩
  have HE := Lib.hid hE
  obtain ⟨hc, hfac, -⟩ := mulE_0 hE
  obtain ⟨hv, hs, -, -⟩ := choE_0 hc
  have hpe : prodE n m f xl X = 0 := by
    unfold prodE
    rw [if_pos hv, if_pos hfac]
  have hp : ∀ w', Kept w w' → Calls Try.prog 40 #[.slice A n cap, .slice XA xl xc] w' fun e w'' => ∃ OA oc, e = .returned (.tuple #[.slice OA n oc, .int .i64 0]) ∧ Kept w' w'' ∧ RowsAt w'' OA n 1 (prF m f X) := fun w' hk => by
    have := cProd_any A n cap B m cp f XA xl xc X w' hn hxl (HM.out.of hk) (HX.out.of hk)
    rwa [hpe, show prL n m f xl X = n from if_pos hpe] at this
  have hf : ∀ w', Kept w w' → Calls Try.prog 42 #[.slice A n cap, .slice RA rl rc, .slice CA cl cc, .slice XA xl xc] w' fun e w'' => ∃ OA oc, e = .returned (.tuple #[.slice OA n oc, .int .i64 0]) ∧ Kept w' w'' ∧ RowsAt w'' OA n 2 (fstF m f rl R C X) := fun w' hk => by
    have := cFast_any A n cap B m cp f RA rl rc R CA cl cc C XA xl xc X w' hn hrl hcl hxl (HM.out.of hk) (HR.out.of hk) (HC.out.of hk) (HX.out.of hk)
    rwa [hE, show fsL n m f rl R cl C xl X = n from if_pos hE] at this
  have hat := fun k (hk : k < n) => off_at hE hk
  have hbd := off_bd hE
  have ho : ∀ w', Kept w w' → Calls Try.prog 44 #[.slice A n cap, .slice RA rl rc, .slice CA cl cc, .slice XA xl xc] w' fun e w'' => e = .returned (.tuple #[.agg #[.int .i64 (offN n m f rl R cl C xl X), .int .i64 (offD n m f rl R cl C xl X)], .int .i64 0]) ∧ Kept w' w'' := fun w' hk => by
    have := cOff_any A n cap B m cp f RA rl rc R CA cl cc C XA xl xc X w' hn hrl hcl hxl (HM.out.of hk) (HR.out.of hk) (HC.out.of hk) (HX.out.of hk)
    rwa [hE] at this
  have hset := fun k (hk : k < rl) => setB_at hs hk
  obtain ⟨oN, hoN⟩ : ∃ x, offN n m f rl R cl C xl X = x := ⟨_, rfl⟩
  obtain ⟨oD, hoD⟩ : ∃ x, offD n m f rl R cl C xl X = x := ⟨_, rfl⟩
  rw [hoN, hoD] at hbd ho
  have HP := Lib.hid hp
  have HF := Lib.hid hf
  have HO := Lib.hid ho
  have HAT := Lib.hid hat
  have HON := Lib.hid hoN
  have HOD := Lib.hid hoD
  have HSET := Lib.hid hset
  clear hE hc hfac hv hs hpe hp hf ho hat hset hoN hoD
  go_enter Try.func12, Try.ntmps12
  go_wp2_with (first | (go_at_call 15; refine (long6_any _ _ _ _ _ _ _ _ hn (HM.out.of (by (repeat (first | exact Kept.refl _ | assumption | refine Kept.alloc ?_ _ | refine Kept.ext ?_ _ | refine Kept.drew ?_ | refine Kept.drewN ?_ _))))).mono ?_; rintro e w1 ⟨rfl, rfl⟩; rw [HL.out]) | (go_at_call 17; refine (known6_any _).mono ?_; rintro e w1 ⟨rfl, x9, rfl⟩) | (go_at_call 40; refine (HP.out _ (by (repeat (first | exact Kept.refl _ | assumption | refine Kept.alloc ?_ _ | refine Kept.ext ?_ _ | refine Kept.drew ?_ | refine Kept.drewN ?_ _)))).mono ?_; rintro e w1 ⟨O1, o1, rfl, ⟨y1, rfl⟩, hq1⟩; have HQ1 := Lib.hid hq1; clear hq1) | (go_at_call 42; refine (HF.out _ (by (repeat (first | exact Kept.refl _ | assumption | refine Kept.alloc ?_ _ | refine Kept.ext ?_ _ | refine Kept.drew ?_ | refine Kept.drewN ?_ _)))).mono ?_; rintro e w1 ⟨O2, o2, rfl, ⟨y2, rfl⟩, hq2⟩; have HQ2 := Lib.hid hq2; clear hq2) | (go_at_call 44; refine (HO.out _ (by (repeat (first | exact Kept.refl _ | assumption | refine Kept.alloc ?_ _ | refine Kept.ext ?_ _ | refine Kept.drew ?_ | refine Kept.drewN ?_ _)))).mono ?_; rintro e w1 ⟨rfl, y3, rfl⟩))
  refine wp_gen (fun W0 hW0 => ?_)
  have hk0 : Kept w W0 := by rw [hW0]; (repeat (first | exact Kept.refl _ | assumption | refine Kept.alloc ?_ _ | refine Kept.ext ?_ _ | refine Kept.drew ?_ | refine Kept.drewN ?_ _))
  have hr1 : RowsAt W0 O1 n 1 (prF m f X) := by rw [hW0]; exact HQ1.out.of (by (repeat (first | exact Kept.refl _ | assumption | refine Kept.alloc ?_ _ | refine Kept.ext ?_ _ | refine Kept.drew ?_ | refine Kept.drewN ?_ _)))
  have hr2 : RowsAt W0 O2 n 2 (fstF m f rl R C X) := by rw [hW0]; exact HQ2.out.of (by (repeat (first | exact Kept.refl _ | assumption | refine Kept.alloc ?_ _ | refine Kept.ext ?_ _ | refine Kept.drew ?_ | refine Kept.drewN ?_ _)))
  have bx0 : W0.cell? ⟨w.heap.size, 0, none⟩ = some (.slice RA rl rc) := by rw [hW0]; go_simp
  obtain ⟨ob, hob⟩ : ∃ ob, adv (adv (adv (w.heap.size + 1) y1.obs.size) y2.obs.size) y3.obs.size = ob := ⟨_, rfl⟩
  have bo0 : W0.cell? ⟨ob, 0, none⟩ = some (.int .i64 oN) := by rw [hW0, ← hob]; go_simp
  have bo1 : W0.cell? ⟨ob, 1, none⟩ = some (.int .i64 oD) := by rw [hW0, ← hob]; go_simp
  have Lb : Lower w.heap.size W0.heap.size := ⟨by rw [hW0]; exact low⟩
  have Lo : Lower ob W0.heap.size := ⟨by rw [hW0, ← hob]; exact low⟩
  rw [hob]
  have HR0 := Lib.hid (HR.out.of hk0)
  have HK0 := Lib.hid hk0
  have HQ3 := Lib.hid hr1
  have HQ4 := Lib.hid hr2
  clear hW0 hob hk0 hr1 hr2
  go_loopw [11, 12] (fun i nv wr => ∃ k : Nat, k ≤ n ∧ i = .int .i64 k ∧ Kept W0 wr) (fun i _ _ => n - (intOf i).toNat)
  case atStart => exact ⟨0, by omega, rfl, Kept.refl _⟩
  case round =>
    obtain ⟨k, hk, rfl, y, rfl⟩ := hrel
    by_cases hlt : k < n
    · obtain ⟨N, D0, q1, q2, q3, q4, q5, q6, q7, -⟩ := HAT.out k hlt
      rw [HON.out, HOD.out] at q3
      obtain ⟨pb, po, hpa, hpb, c1, -⟩ := rows1 HQ3.out hlt
      obtain ⟨xb, xo, hxa, hxb, c2, c3⟩ := rows2 HQ4.out hlt
      subst hpa
      subst hxa
      have LP : Lower pb W0.heap.size := ⟨hpb⟩
      have LX : Lower xb W0.heap.size := ⟨hxb⟩
      rw [q1] at c3
      rw [q2] at c2
      obtain ⟨P, hP⟩ : ∃ x, prF m f X k 0 = x := ⟨_, rfl⟩
      obtain ⟨PD, hPD⟩ : ∃ x, P * D0 = x := ⟨_, rfl⟩
      rw [hP] at c1 c2 q4 q7
      rw [hPD] at c2 q7
      have hle : ∀ w', Calls Try.prog 48 #[.agg #[.int .i64 (N.natAbs : Int), .int .i64 D0], .agg #[.int .i64 oN, .int .i64 oD]] w' fun e w'' => e = .returned (.bool true) ∧ Kept w' w'' := fun w' => by
        have := atmost_any (N.natAbs : Int) D0 oN oD w' ⟨by omega, by omega, by omega, by omega⟩
        rwa [show decide ((N.natAbs : Int) * oD ≤ oN * D0) = true from decide_eq_true q3] at this
      obtain ⟨Qn, hQn⟩ : ∃ z, PD - N = z := ⟨_, rfl⟩
      rw [hQn] at c2
      have hQ : PD - Qn = N := by omega
      clear hQn
      have HLE := Lib.hid hle
      have d1 : decide (D0 < 1) = false := decide_eq_false (by omega)
      clear q1 q2 q3 hP hle
      by_cases hneg : N < 0
      · have d2 : decide (N < 0) = true := decide_eq_true hneg
        have e2 : -N = (N.natAbs : Int) := by omega
        rw [← e2] at HLE
        clear e2
        go_wp2_with fail
        ((first | (with_reducible refine wp_region_kept2 (by kernel_rfl) (by kernel_rfl) ?_) | refine wp_region_kept (by kernel_rfl) (by kernel_rfl) ?_); (repeat (go_big_quiet_step (fail))); refine wpQuiet_nil ?_; intro x4)
        go_wp2_with fail
        ((first | (with_reducible refine wp_region_kept2 (by kernel_rfl) (by kernel_rfl) ?_) | refine wp_region_kept (by kernel_rfl) (by kernel_rfl) ?_); (repeat (go_big_quiet_step (first | (go_at_call 48; exact Calls.kept_of (HLE.out _))))); refine wpQuiet_nil ?_; intro x5)
        go_wp2_with fail
        go_roundw
        case rel => exact ⟨k + 1, by omega, by go_num, by (repeat (first | exact Kept.refl _ | assumption | refine Kept.alloc ?_ _ | refine Kept.ext ?_ _ | refine Kept.drew ?_ | refine Kept.drewN ?_ _))⟩
        case measure => simp [intOf]; omega
      · have d2 : decide (N < 0) = false := decide_eq_false hneg
        have e2 : (N.natAbs : Int) = N := by omega
        rw [e2] at HLE
        clear e2
        go_wp2_with fail
        ((first | (with_reducible refine wp_region_kept2 (by kernel_rfl) (by kernel_rfl) ?_) | refine wp_region_kept (by kernel_rfl) (by kernel_rfl) ?_); (repeat (go_big_quiet_step (fail))); refine wpQuiet_nil ?_; intro x4)
        go_wp2_with fail
        ((first | (with_reducible refine wp_region_kept2 (by kernel_rfl) (by kernel_rfl) ?_) | refine wp_region_kept (by kernel_rfl) (by kernel_rfl) ?_); (repeat (go_big_quiet_step (first | (go_at_call 48; exact Calls.kept_of (HLE.out _))))); refine wpQuiet_nil ?_; intro x5)
        go_wp2_with fail
        go_roundw
        case rel => exact ⟨k + 1, by omega, by go_num, by (repeat (first | exact Kept.refl _ | assumption | refine Kept.alloc ?_ _ | refine Kept.ext ?_ _ | refine Kept.drew ?_ | refine Kept.drewN ?_ _))⟩
        case measure => simp [intOf]; omega
    · obtain rfl : k = n := by omega
      go_wp2_with fail
      go_loopw [13, 14] (fun i nv wr => ∃ t : Nat, t ≤ rl ∧ i = .int .i64 t ∧ Kept W0 wr) (fun i _ _ => rl - (intOf i).toNat)
      case atStart => exact ⟨0, by omega, rfl, by (repeat (first | exact Kept.refl _ | assumption | refine Kept.alloc ?_ _ | refine Kept.ext ?_ _ | refine Kept.drew ?_ | refine Kept.drewN ?_ _))⟩
      case round =>
        obtain ⟨t, ht, rfl, y2, rfl⟩ := hrel
        by_cases hlt2 : t < rl
        · obtain ⟨s1, s2, -⟩ := HSET.out t hlt2
          obtain ⟨ri, hri⟩ : ∃ ri : Nat, R t 0 = ri := ⟨(R t 0).toNat, by omega⟩
          rw [hri] at s1 s2
          have hrn : ri < k := by omega
          obtain ⟨N, D0, q1, q2, q3, q4, q5, q6, q7, q8⟩ := HAT.out ri hrn
          obtain ⟨q9, q10⟩ := q8 t hlt2 hri
          obtain ⟨rb, ro, hra, hrb, c1, -⟩ := rows1 HR0.out hlt2
          obtain ⟨pb, po, hpa, hpb, c2, -⟩ := rows1 HQ3.out hrn
          obtain ⟨xb, xo, hxa, hxb, c3, c4⟩ := rows2 HQ4.out hrn
          subst hra
          subst hpa
          subst hxa
          rw [hri] at c1
          rw [q1, q9] at c4
          rw [q10] at c3
          have LR : Lower rb W0.heap.size := ⟨hrb⟩
          have LP : Lower pb W0.heap.size := ⟨hpb⟩
          have LX : Lower xb W0.heap.size := ⟨hxb⟩
          obtain ⟨P, hP⟩ : ∃ x, prF m f X ri 0 = x := ⟨_, rfl⟩
          rw [hP] at c2 c3
          have d1 : decide ((ri : Int) < 0) = false := decide_eq_false (by omega)
          have d2 : decide ((k : Int) ≤ ri) = false := decide_eq_false (by omega)
          have d3 : decide (k ≤ ri) = false := decide_eq_false (by omega)
          clear hri q1 q2 q3 q4 q5 q6 q7 q8 q9 q10 hP s1 s2
          go_wp2_with fail
          ((first | (with_reducible refine wp_region_kept2 (by kernel_rfl) (by kernel_rfl) ?_) | refine wp_region_kept (by kernel_rfl) (by kernel_rfl) ?_); (repeat (go_big_quiet_step (fail))); refine wpQuiet_nil ?_; intro x4)
          go_wp2_with fail
          go_roundw
          case rel => exact ⟨t + 1, by omega, by go_num, by (repeat (first | exact Kept.refl _ | assumption | refine Kept.alloc ?_ _ | refine Kept.ext ?_ _ | refine Kept.drew ?_ | refine Kept.drewN ?_ _))⟩
          case measure => simp [intOf]; omega
        · obtain rfl : t = rl := by omega
          go_wp2_with (go_at_call 17; refine (known6_any _).mono ?_; rintro e w1 ⟨rfl, x9, rfl⟩)
          go_ret
          exact ⟨rfl, HK0.out.trans (by (repeat (first | exact Kept.refl _ | assumption | refine Kept.alloc ?_ _ | refine Kept.ext ?_ _ | refine Kept.drew ?_ | refine Kept.drewN ?_ _)))⟩
theorem ownCrossOff : ownKnob Try.prog.godebug = none := by kernel_rfl
theorem laidOutCrossOff : laidOutB Try.prog = true := by kernel_rfl
set_option linter.unusedVariables false in
set_option maxRecDepth 100000 in
theorem liftedCrossOff (os : Os) (started : os.Started) (H : Type) (enc : TypeId × Value → H) :
    ReturnsInHanded {} Try.checked os 12 .any (Rows.crossOffSpec.pre6 enc Try.prog Try.f12 Rows.crossOffRow.domain false) (Rows.crossOffSpec.post enc Try.prog Try.f12 false true false false) := by
  refine returnsInHanded_of_change (C := Try.checked) ownCrossOff started (by kernel_rfl) Try.func12
    (ChangeSpec.witness6 (enc := enc) (C := Try.checked) false ⟨#[], #[.slice none 0 0, .agg #[.slice none 0 0, .slice none 0 0, .slice none 0 0]], []⟩ 8 (by kernel_rfl) (by kernel_rfl) (by kernel_rfl) (by kernel_rfl)) ?_
  intro W base args ds gs before hval0 hW hcnd _
  have hval : ∀ (j : Nat) t v, Try.f12.params[j]? = some t → args[j]? = some v → Value.okWide Try.prog W .any base t v := hval0
  have hW' := hW
  obtain ⟨p, q, hA0, hV, rfl, hfz, hnd⟩ := hW
  have hA : DataW.TrodAll enc Try.prog W 0 (fun _ => true) true Try.f12.params.toList args.toList ds p := hA0
  rw [Try.params12] at hA hval
  obtain ⟨v0, vs0, d0, ds0, p0, q0, hargs, rfl, rfl, h0, r0⟩ := trodAll_cons hA
  obtain ⟨v1, vs1, d1, ds1, p1, q1, rfl, rfl, rfl, h1, r1⟩ := trodAll_cons r0
  obtain ⟨rfl, rfl, rfl⟩ := trodAll_nil r1
  obtain rfl : args = #[v0, v1] := by cases args; simp_all
  obtain ⟨rfl, rfl⟩ := trodVars_none hV
  have lt0 : ∀ x ∈ p0, x.block < W.heap.size := by obtain ⟨m, hm⟩ := h0; exact DataW.trod_lt m _ _ _ hm
  obtain ⟨A0, n0, cap0, B0, m0, cp0, f0, rfl, hl0, hm0, hr0⟩ := open_mat Try.underlying22 (by kernel_rfl) Try.underlying23 (by kernel_rfl) (by kernel_rfl) (hval 0 22 v0 rfl rfl) h0 lt0
  have lt1 : ∀ x ∈ p1, x.block < W.heap.size := by obtain ⟨m, hm⟩ := h1; exact DataW.trod_lt m _ _ _ hm
  obtain ⟨A1, n1, cap1, f1, B1, m1, capb1, g1, C1, l1, capc1, u1, rfl, hpa1, hpb1, hpc1⟩ := open_work _ _ _ 58 3 Try.underlying58 ⟨rfl, rfl, rfl, by kernel_rfl, by kernel_rfl, by kernel_rfl, by kernel_rfl⟩ Try.underlying23 Try.underlying23 Try.underlying23 (by kernel_rfl) (by kernel_rfl) (hval 1 58 v1 rfl rfl) h1 lt1
  clear hA0 hval0
  refine (coff_law A0 n0 cap0 B0 m0 cp0 f0 A1 n1 cap1 f1 B1 m1 capb1 g1 C1 l1 capc1 u1 W ⟨hl0, hm0, hr0⟩ ⟨hpa1, hpb1, hpc1⟩).mono fun e W' ⟨he, hk⟩ => ?_
  subst he
  have bel := hk.below
  exact ⟨_, rfl, _, _, _, [], _, [], hW', trodAll_mk1 (shut_bool Try.underlying4 _), (trodAll_cons_mk (Below.trod laidOutCrossOff (by kernel_rfl) (of_decide_eq_true (by kernel_rfl)) h0 bel lt0) (trodAll_cons_mk (Below.trod laidOutCrossOff (by kernel_rfl) (of_decide_eq_true (by kernel_rfl)) h1 bel lt1) trodAll_mk0)), rfl, bel.frame _, fun h => by cases h⟩
/-- For every input the statement CrossOff returns true, and each argument reads afterwards as it read before. -/
theorem crossOff_holds : Rows.CrossOffSaid :=
  OpenClaim.holds_of_wide 12 Try.f12 rfl rfl rfl rfl rfl rfl rfl ⟨rfl, rfl, rfl, rfl, rfl⟩ rfl rfl rfl rfl rfl (by kernel_rfl) Try.func12 (by kernel_rfl)
    (of_decide_eq_true (by kernel_rfl)) (by unfold Func.isWrapper; first | (rw [if_pos (by decide +kernel)]; kernel_rfl) | (rw [if_neg (by decide +kernel)]; exact ⟨rfl, rfl⟩))
    (fun os started H enc _ => liftedCrossOff os started H enc)
#print axioms crossOff_holds

end Go.Proofs.Ytoejdfpmmgldpaa
