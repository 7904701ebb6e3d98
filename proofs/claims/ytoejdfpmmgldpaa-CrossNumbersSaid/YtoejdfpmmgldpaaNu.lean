/- Contracts: how many numbers a skeleton keeps, of the program and of the reference. Conditions: the lists' lengths are ints. -/
import Derived.Test.YtoejdfpmmgldpaaLg
namespace Go.Proofs.Ytoejdfpmmgldpaa
set_option linter.unusedVariables false
set_option linter.unusedSimpArgs false
open Go.RowKit Go.Deep
section
variable (n : Nat) (m : Nat → Nat) (f : Nat → Nat → Int) (rl : Nat) (R : Nat → Nat → Int)
def numE : Int := if valE n m f = 0 then (if (setB n rl R && decide (rl ≤ m 0)) = true then 0 else 1) else valE n m f
def numV : Int := if numE n m f rl R = 0 then (rl : Int) * ((n : Int) + m 0) - (rl : Int) * rl else 0
end
set_option maxRecDepth 100000 in
set_option maxHeartbeats 4000000 in
theorem cNum_any (A : Option Addr) (n cap : Nat) (B : Nat → Option Addr) (m cp : Nat → Nat) (f : Nat → Nat → Int) (RA : Option Addr) (rl rc : Nat) (R : Nat → Nat → Int) (w : World)
    (hn : n ≤ 9223372036854775807) (hrl : rl ≤ 9223372036854775807) (h : MatAt w A n B m cp f) (hR : RowsAt w RA rl 1 R) :
    Calls Try.prog 24 #[.slice A n cap, .slice RA rl rc] w fun e w' => e = .returned (.tuple #[.int .i64 (numV n m f rl R), .int .i64 (numE n m f rl R)]) ∧ Kept w w' := by
  have HM := Lib.hid h
  have HR := Lib.hid hR
  clear h hR
  by_cases hv : valE n m f = 0
  · obtain ⟨⟨n1, n6⟩, ⟨m1, m6⟩, -, -⟩ := valE_0 hv
    have hE : numE n m f rl R = (if (setB n rl R && decide (rl ≤ m 0)) = true then 0 else 1) := if_pos hv
    have HV := Lib.hid hv
    clear hv
    obtain ⟨b, off, rfl, hb, c00⟩ := HM.out.at (k := 0) (by omega)
    have LB : Lower b w.heap.size := ⟨hb⟩
    rw [Nat.add_zero] at c00
    cases hs : setB n rl R
    · rw [hs] at hE
      have hE : numE n m f rl R = 1 := hE
      have hV : numV n m f rl R = 0 := by unfold numV; rw [if_neg (by rw [hE]; decide)]
      rw [hV, hE]
      have HS := Lib.hid hs
      clear hs hE hV
      go_enter Try.func24, Try.ntmps24
      go_wp2_with (first | (go_at_call 22; refine (cval_any _ _ _ _ _ _ _ _ hn (HM.out.of (by (repeat (first | exact Kept.refl _ | assumption | refine Kept.alloc ?_ _ | refine Kept.ext ?_ _ | refine Kept.drew ?_ | refine Kept.drewN ?_ _))))).mono ?_; (first | rintro e w1 ⟨rfl, rfl⟩ | rintro e w1 ⟨rfl, x0, rfl⟩); rw [HV.out]) | (go_at_call 65; refine (cset_any _ _ _ _ _ _ hrl (by omega) (HR.out.of (by (repeat (first | exact Kept.refl _ | assumption | refine Kept.alloc ?_ _ | refine Kept.ext ?_ _ | refine Kept.drew ?_ | refine Kept.drewN ?_ _))))).mono ?_; (first | rintro e w1 ⟨rfl, rfl⟩ | rintro e w1 ⟨rfl, x1, rfl⟩); rw [HS.out]))
      refine bodyPost_ret (by simp only [results, Try.results24]; go_simp; rfl) rfl ?_
      exact ⟨rfl, by (repeat (first | exact Kept.refl _ | assumption | refine Kept.alloc ?_ _ | refine Kept.ext ?_ _ | refine Kept.drew ?_ | refine Kept.drewN ?_ _))⟩
    · have hlen := set_len hs
      by_cases hle : rl ≤ m 0
      · rw [hs, decide_eq_true hle] at hE
        have hE : numE n m f rl R = 0 := hE
        have hV : numV n m f rl R = (rl : Int) * ((n : Int) + m 0) - (rl : Int) * rl := if_pos hE
        rw [hV, hE]
        have HS := Lib.hid hs
        have g1 : decide (m 0 < rl) = false := decide_eq_false (by omega)
        have g2 : decide ((m 0 : Int) < rl) = false := decide_eq_false (by omega)
        have p1 : -72 ≤ (rl : Int) * ((n : Int) + m 0) ∧ (rl : Int) * ((n : Int) + m 0) ≤ 72 := mul_abs (c := 6) (d := 12) (by omega) (by omega) (by decide) (by decide)
        have p2 : -36 ≤ (rl : Int) * (rl : Int) ∧ (rl : Int) * (rl : Int) ≤ 36 := mul_abs (c := 6) (d := 6) (by omega) (by omega) (by decide) (by decide)
        clear hs hE hV
        go_enter Try.func24, Try.ntmps24
        go_wp2_with (first | (go_at_call 22; refine (cval_any _ _ _ _ _ _ _ _ hn (HM.out.of (by (repeat (first | exact Kept.refl _ | assumption | refine Kept.alloc ?_ _ | refine Kept.ext ?_ _ | refine Kept.drew ?_ | refine Kept.drewN ?_ _))))).mono ?_; (first | rintro e w1 ⟨rfl, rfl⟩ | rintro e w1 ⟨rfl, x0, rfl⟩); rw [HV.out]) | (go_at_call 65; refine (cset_any _ _ _ _ _ _ hrl (by omega) (HR.out.of (by (repeat (first | exact Kept.refl _ | assumption | refine Kept.alloc ?_ _ | refine Kept.ext ?_ _ | refine Kept.drew ?_ | refine Kept.drewN ?_ _))))).mono ?_; (first | rintro e w1 ⟨rfl, rfl⟩ | rintro e w1 ⟨rfl, x1, rfl⟩); rw [HS.out]))
        refine bodyPost_ret (by simp only [results, Try.results24]; go_simp; rfl) rfl ?_
        exact ⟨rfl, by (repeat (first | exact Kept.refl _ | assumption | refine Kept.alloc ?_ _ | refine Kept.ext ?_ _ | refine Kept.drew ?_ | refine Kept.drewN ?_ _))⟩
      · rw [hs, decide_eq_false hle] at hE
        have hE : numE n m f rl R = 1 := hE
        have hV : numV n m f rl R = 0 := by unfold numV; rw [if_neg (by rw [hE]; decide)]
        rw [hV, hE]
        have HS := Lib.hid hs
        have g1 : decide (m 0 < rl) = true := decide_eq_true (by omega)
        have g2 : decide ((m 0 : Int) < rl) = true := decide_eq_true (by omega)
        clear hs hE hV
        go_enter Try.func24, Try.ntmps24
        go_wp2_with (first | (go_at_call 22; refine (cval_any _ _ _ _ _ _ _ _ hn (HM.out.of (by (repeat (first | exact Kept.refl _ | assumption | refine Kept.alloc ?_ _ | refine Kept.ext ?_ _ | refine Kept.drew ?_ | refine Kept.drewN ?_ _))))).mono ?_; (first | rintro e w1 ⟨rfl, rfl⟩ | rintro e w1 ⟨rfl, x0, rfl⟩); rw [HV.out]) | (go_at_call 65; refine (cset_any _ _ _ _ _ _ hrl (by omega) (HR.out.of (by (repeat (first | exact Kept.refl _ | assumption | refine Kept.alloc ?_ _ | refine Kept.ext ?_ _ | refine Kept.drew ?_ | refine Kept.drewN ?_ _))))).mono ?_; (first | rintro e w1 ⟨rfl, rfl⟩ | rintro e w1 ⟨rfl, x1, rfl⟩); rw [HS.out]))
        refine bodyPost_ret (by simp only [results, Try.results24]; go_simp; rfl) rfl ?_
        exact ⟨rfl, by (repeat (first | exact Kept.refl _ | assumption | refine Kept.alloc ?_ _ | refine Kept.ext ?_ _ | refine Kept.drew ?_ | refine Kept.drewN ?_ _))⟩
  · obtain ⟨e, he⟩ : ∃ e, valE n m f = e := ⟨_, rfl⟩
    have hE : numE n m f rl R = e := by unfold numE; rw [if_neg hv, he]
    rw [he] at hv
    have hV : numV n m f rl R = 0 := by unfold numV; rw [if_neg (by rw [hE]; exact hv)]
    rw [hV, hE]
    have HV := Lib.hid he
    clear he hE hV
    have hv2 : (e == 0) = false := by simpa using hv
    have hv3 : decide (e = 0) = false := by simpa using hv
    go_enter Try.func24, Try.ntmps24
    go_wp2_with (go_at_call 22; refine (cval_any _ _ _ _ _ _ _ _ hn (HM.out.of (by (repeat (first | exact Kept.refl _ | assumption | refine Kept.alloc ?_ _ | refine Kept.ext ?_ _ | refine Kept.drew ?_ | refine Kept.drewN ?_ _))))).mono ?_; (first | rintro e w1 ⟨rfl, rfl⟩ | rintro e w1 ⟨rfl, x0, rfl⟩); rw [HV.out])
    refine bodyPost_ret (by simp only [results, Try.results24]; go_simp; rfl) rfl ?_
    exact ⟨rfl, by (repeat (first | exact Kept.refl _ | assumption | refine Kept.alloc ?_ _ | refine Kept.ext ?_ _ | refine Kept.drew ?_ | refine Kept.drewN ?_ _))⟩
set_option maxRecDepth 100000 in
set_option maxHeartbeats 4000000 in
theorem r6Num_any (A : Option Addr) (n cap : Nat) (B : Nat → Option Addr) (m cp : Nat → Nat) (f : Nat → Nat → Int) (RA : Option Addr) (rl rc : Nat) (R : Nat → Nat → Int) (w : World)
    (hn : n ≤ 9223372036854775807) (hrl : rl ≤ 9223372036854775807) (h : MatAt w A n B m cp f) (hR : RowsAt w RA rl 1 R) :
    Calls Try.prog 25 #[.slice A n cap, .slice RA rl rc] w fun e w' => e = .returned (.tuple #[.int .i64 (numV n m f rl R), .int .i64 (numE n m f rl R)]) ∧ Kept w w' := by
  have HM := Lib.hid h
  have HR := Lib.hid hR
  clear h hR
  by_cases hv : valE n m f = 0
  · obtain ⟨⟨n1, n6⟩, ⟨m1, m6⟩, -, -⟩ := valE_0 hv
    have hE : numE n m f rl R = (if (setB n rl R && decide (rl ≤ m 0)) = true then 0 else 1) := if_pos hv
    have HV := Lib.hid hv
    clear hv
    obtain ⟨b, off, rfl, hb, c00⟩ := HM.out.at (k := 0) (by omega)
    have LB : Lower b w.heap.size := ⟨hb⟩
    rw [Nat.add_zero] at c00
    cases hs : setB n rl R
    · rw [hs] at hE
      have hE : numE n m f rl R = 1 := hE
      have hV : numV n m f rl R = 0 := by unfold numV; rw [if_neg (by rw [hE]; decide)]
      rw [hV, hE]
      have HS := Lib.hid hs
      clear hs hE hV
      go_enter Try.func25, Try.ntmps25
      go_wp2_with (first | (go_at_call 23; refine (r6val_any _ _ _ _ _ _ _ _ hn (HM.out.of (by (repeat (first | exact Kept.refl _ | assumption | refine Kept.alloc ?_ _ | refine Kept.ext ?_ _ | refine Kept.drew ?_ | refine Kept.drewN ?_ _))))).mono ?_; (first | rintro e w1 ⟨rfl, rfl⟩ | rintro e w1 ⟨rfl, x0, rfl⟩); rw [HV.out]) | (go_at_call 66; refine (r6set_any _ _ _ _ _ _ hrl (by omega) (HR.out.of (by (repeat (first | exact Kept.refl _ | assumption | refine Kept.alloc ?_ _ | refine Kept.ext ?_ _ | refine Kept.drew ?_ | refine Kept.drewN ?_ _))))).mono ?_; (first | rintro e w1 ⟨rfl, rfl⟩ | rintro e w1 ⟨rfl, x1, rfl⟩); rw [HS.out]))
      refine bodyPost_ret (by simp only [results, Try.results25]; go_simp; rfl) rfl ?_
      exact ⟨rfl, by (repeat (first | exact Kept.refl _ | assumption | refine Kept.alloc ?_ _ | refine Kept.ext ?_ _ | refine Kept.drew ?_ | refine Kept.drewN ?_ _))⟩
    · have hlen := set_len hs
      by_cases hle : rl ≤ m 0
      · rw [hs, decide_eq_true hle] at hE
        have hE : numE n m f rl R = 0 := hE
        have hV : numV n m f rl R = (rl : Int) * ((n : Int) + m 0) - (rl : Int) * rl := if_pos hE
        rw [hV, hE]
        have HS := Lib.hid hs
        have g1 : decide (m 0 < rl) = false := decide_eq_false (by omega)
        have g2 : decide ((m 0 : Int) < rl) = false := decide_eq_false (by omega)
        have p1 : -72 ≤ (rl : Int) * ((n : Int) + m 0) ∧ (rl : Int) * ((n : Int) + m 0) ≤ 72 := mul_abs (c := 6) (d := 12) (by omega) (by omega) (by decide) (by decide)
        have p2 : -36 ≤ (rl : Int) * (rl : Int) ∧ (rl : Int) * (rl : Int) ≤ 36 := mul_abs (c := 6) (d := 6) (by omega) (by omega) (by decide) (by decide)
        clear hs hE hV
        go_enter Try.func25, Try.ntmps25
        go_wp2_with (first | (go_at_call 23; refine (r6val_any _ _ _ _ _ _ _ _ hn (HM.out.of (by (repeat (first | exact Kept.refl _ | assumption | refine Kept.alloc ?_ _ | refine Kept.ext ?_ _ | refine Kept.drew ?_ | refine Kept.drewN ?_ _))))).mono ?_; (first | rintro e w1 ⟨rfl, rfl⟩ | rintro e w1 ⟨rfl, x0, rfl⟩); rw [HV.out]) | (go_at_call 66; refine (r6set_any _ _ _ _ _ _ hrl (by omega) (HR.out.of (by (repeat (first | exact Kept.refl _ | assumption | refine Kept.alloc ?_ _ | refine Kept.ext ?_ _ | refine Kept.drew ?_ | refine Kept.drewN ?_ _))))).mono ?_; (first | rintro e w1 ⟨rfl, rfl⟩ | rintro e w1 ⟨rfl, x1, rfl⟩); rw [HS.out]))
        refine bodyPost_ret (by simp only [results, Try.results25]; go_simp; rfl) rfl ?_
        exact ⟨rfl, by (repeat (first | exact Kept.refl _ | assumption | refine Kept.alloc ?_ _ | refine Kept.ext ?_ _ | refine Kept.drew ?_ | refine Kept.drewN ?_ _))⟩
      · rw [hs, decide_eq_false hle] at hE
        have hE : numE n m f rl R = 1 := hE
        have hV : numV n m f rl R = 0 := by unfold numV; rw [if_neg (by rw [hE]; decide)]
        rw [hV, hE]
        have HS := Lib.hid hs
        have g1 : decide (m 0 < rl) = true := decide_eq_true (by omega)
        have g2 : decide ((m 0 : Int) < rl) = true := decide_eq_true (by omega)
        clear hs hE hV
        go_enter Try.func25, Try.ntmps25
        go_wp2_with (first | (go_at_call 23; refine (r6val_any _ _ _ _ _ _ _ _ hn (HM.out.of (by (repeat (first | exact Kept.refl _ | assumption | refine Kept.alloc ?_ _ | refine Kept.ext ?_ _ | refine Kept.drew ?_ | refine Kept.drewN ?_ _))))).mono ?_; (first | rintro e w1 ⟨rfl, rfl⟩ | rintro e w1 ⟨rfl, x0, rfl⟩); rw [HV.out]) | (go_at_call 66; refine (r6set_any _ _ _ _ _ _ hrl (by omega) (HR.out.of (by (repeat (first | exact Kept.refl _ | assumption | refine Kept.alloc ?_ _ | refine Kept.ext ?_ _ | refine Kept.drew ?_ | refine Kept.drewN ?_ _))))).mono ?_; (first | rintro e w1 ⟨rfl, rfl⟩ | rintro e w1 ⟨rfl, x1, rfl⟩); rw [HS.out]))
        refine bodyPost_ret (by simp only [results, Try.results25]; go_simp; rfl) rfl ?_
        exact ⟨rfl, by (repeat (first | exact Kept.refl _ | assumption | refine Kept.alloc ?_ _ | refine Kept.ext ?_ _ | refine Kept.drew ?_ | refine Kept.drewN ?_ _))⟩
  · obtain ⟨e, he⟩ : ∃ e, valE n m f = e := ⟨_, rfl⟩
    have hE : numE n m f rl R = e := by unfold numE; rw [if_neg hv, he]
    rw [he] at hv
    have hV : numV n m f rl R = 0 := by unfold numV; rw [if_neg (by rw [hE]; exact hv)]
    rw [hV, hE]
    have HV := Lib.hid he
    clear he hE hV
    have hv2 : (e == 0) = false := by simpa using hv
    have hv3 : decide (e = 0) = false := by simpa using hv
    go_enter Try.func25, Try.ntmps25
    go_wp2_with (go_at_call 23; refine (r6val_any _ _ _ _ _ _ _ _ hn (HM.out.of (by (repeat (first | exact Kept.refl _ | assumption | refine Kept.alloc ?_ _ | refine Kept.ext ?_ _ | refine Kept.drew ?_ | refine Kept.drewN ?_ _))))).mono ?_; (first | rintro e w1 ⟨rfl, rfl⟩ | rintro e w1 ⟨rfl, x0, rfl⟩); rw [HV.out])
    refine bodyPost_ret (by simp only [results, Try.results25]; go_simp; rfl) rfl ?_
    exact ⟨rfl, by (repeat (first | exact Kept.refl _ | assumption | refine Kept.alloc ?_ _ | refine Kept.ext ?_ _ | refine Kept.drew ?_ | refine Kept.drewN ?_ _))⟩
end Go.Proofs.Ytoejdfpmmgldpaa
