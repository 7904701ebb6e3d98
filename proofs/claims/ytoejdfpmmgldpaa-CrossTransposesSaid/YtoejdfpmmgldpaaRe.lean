/- Contracts: elements of residuals, of the program and of the reference. Conditions: the lists' lengths are ints. -/
import Derived.Test.YtoejdfpmmgldpaaLe
namespace Go.Proofs.Ytoejdfpmmgldpaa
set_option linter.unusedVariables false
set_option linter.unusedSimpArgs false
open Go.RowKit Go.Deep
section
variable (n : Nat) (m : Nat → Nat) (f : Nat → Nat → Int) (rl : Nat) (R : Nat → Nat → Int) (cl : Nat) (C : Nat → Nat → Int) (i j : Int)
/-- The error of a skeleton. -/
def opnE : Int := if choE n m f rl R cl C = 0 then (if D rl (subF f R C) = 0 then 11 else 0) else choE n m f rl R cl C
def resE : Int := if opnE n m f rl R cl C = 0 then (if (0 ≤ i ∧ i ≤ (n : Int) - 1) ∧ (0 ≤ j ∧ j ≤ (m 0 : Int) - 1) then 0 else 5) else opnE n m f rl R cl C
def resN : Int := if resE n m f rl R cl C i j = 0 then frN (leftV f rl R C i j) (D rl (subF f R C)) else 0
def resD : Int := if resE n m f rl R cl C i j = 0 then frD (leftV f rl R C i j) (D rl (subF f R C)) else 0
end
theorem opnE_0 {n : Nat} {m : Nat → Nat} {f : Nat → Nat → Int} {rl : Nat} {R : Nat → Nat → Int} {cl : Nat} {C : Nat → Nat → Int} (h : opnE n m f rl R cl C = 0) : choE n m f rl R cl C = 0 ∧ D rl (subF f R C) ≠ 0 := by
  unfold opnE at h
  split at h
  · rename_i hc
    split at h
    · cases h
    · exact ⟨hc, by assumption⟩
  · exact absurd h (by assumption)
theorem leftV_bd {n : Nat} {m : Nat → Nat} {f : Nat → Nat → Int} {l : Nat} {R C : Nat → Nat → Int} {i j : Int} (h : Mok n m f l R C) (hs : setB n l R = true) (hi : 0 ≤ i ∧ i < n) (hj : 0 ≤ j ∧ j < m 0) : -720000000000000 ≤ leftV f l R C i j ∧ leftV f l R C i j ≤ 720000000000000 := by
  unfold leftV
  cases h1 : hasB l R i
  · split
    · omega
    · exact (h.add hs hi hj h1).bd
  · simp
set_option maxRecDepth 100000 in
set_option maxHeartbeats 4000000 in
theorem copenok_any (A : Option Addr) (n cap : Nat) (B : Nat → Option Addr) (m cp : Nat → Nat) (f : Nat → Nat → Int) (RA : Option Addr) (rl rc : Nat) (R : Nat → Nat → Int) (CA : Option Addr) (cl cc : Nat) (C : Nat → Nat → Int) (w : World)
    (hn : n ≤ 9223372036854775807) (hrl : rl ≤ 9223372036854775807) (hcl : cl ≤ 9223372036854775807) (h : MatAt w A n B m cp f) (hR : RowsAt w RA rl 1 R) (hC : RowsAt w CA cl 1 C) (hE : opnE n m f rl R cl C = 0) :
    Calls Try.prog 53 #[.slice A n cap, .slice RA rl rc, .slice CA cl cc] w fun e w' => e = .returned (.tuple #[.agg #[.slice A n cap, .slice RA rl rc, .slice CA cl cc, .int .i64 (D rl (subF f R C))], .int .i64 0]) ∧ Kept w w' := by
  have HM := Lib.hid h
  have HR := Lib.hid hR
  have HC := Lib.hid hC
  clear h hR hC
  obtain ⟨hv, hd⟩ := opnE_0 hE
  obtain ⟨rfl, hk⟩ := Mok.of hv
  obtain ⟨dd, hdd⟩ : ∃ x, D rl (subF f R C) = x := ⟨_, rfl⟩
  rw [hdd] at hd ⊢
  have g1 : (dd == 0) = false := beq_eq_false_iff_ne.2 hd
  have g2 : decide (dd = 0) = false := decide_eq_false hd
  have HV := Lib.hid hv
  have HK := Lib.hid hk
  have HD := Lib.hid hdd
  clear hk hv hE hdd
  go_enter Try.func53, Try.ntmps53
  go_wp2_with (first | (go_at_call 61; refine (cchoice_any _ _ _ _ _ _ _ _ _ _ _ _ _ _ _ _ hn hrl hcl (HM.out.of (by (repeat (first | exact Kept.refl _ | assumption | refine Kept.alloc ?_ _ | refine Kept.ext ?_ _ | refine Kept.drew ?_ | refine Kept.drewN ?_ _)))) (HR.out.of (by (repeat (first | exact Kept.refl _ | assumption | refine Kept.alloc ?_ _ | refine Kept.ext ?_ _ | refine Kept.drew ?_ | refine Kept.drewN ?_ _)))) (HC.out.of (by (repeat (first | exact Kept.refl _ | assumption | refine Kept.alloc ?_ _ | refine Kept.ext ?_ _ | refine Kept.drew ?_ | refine Kept.drewN ?_ _))))).mono ?_; rintro e w1 ⟨rfl, x, rfl⟩; rw [HV.out]) | (go_at_call 62; refine (cminor_any _ _ _ _ _ _ _ _ _ _ _ _ _ _ _ HK.out (HM.out.of (by (repeat (first | exact Kept.refl _ | assumption | refine Kept.alloc ?_ _ | refine Kept.ext ?_ _ | refine Kept.drew ?_ | refine Kept.drewN ?_ _)))) (HR.out.of (by (repeat (first | exact Kept.refl _ | assumption | refine Kept.alloc ?_ _ | refine Kept.ext ?_ _ | refine Kept.drew ?_ | refine Kept.drewN ?_ _)))) (HC.out.of (by (repeat (first | exact Kept.refl _ | assumption | refine Kept.alloc ?_ _ | refine Kept.ext ?_ _ | refine Kept.drew ?_ | refine Kept.drewN ?_ _))))).mono ?_; rintro e w1 ⟨rfl, x2, rfl⟩; rw [HD.out]))
  refine bodyPost_ret (by simp only [results, Try.results53]; go_simp; rfl) rfl ?_
  exact ⟨rfl, by (repeat (first | exact Kept.refl _ | assumption | refine Kept.alloc ?_ _ | refine Kept.ext ?_ _ | refine Kept.drew ?_ | refine Kept.drewN ?_ _))⟩
set_option maxRecDepth 100000 in
set_option maxHeartbeats 4000000 in
theorem copenno_any (A : Option Addr) (n cap : Nat) (B : Nat → Option Addr) (m cp : Nat → Nat) (f : Nat → Nat → Int) (RA : Option Addr) (rl rc : Nat) (R : Nat → Nat → Int) (CA : Option Addr) (cl cc : Nat) (C : Nat → Nat → Int) (w : World)
    (hn : n ≤ 9223372036854775807) (hrl : rl ≤ 9223372036854775807) (hcl : cl ≤ 9223372036854775807) (h : MatAt w A n B m cp f) (hR : RowsAt w RA rl 1 R) (hC : RowsAt w CA cl 1 C) (hE : opnE n m f rl R cl C ≠ 0) :
    Calls Try.prog 53 #[.slice A n cap, .slice RA rl rc, .slice CA cl cc] w fun e w' => e = .returned (.tuple #[.agg #[.slice none 0 0, .slice none 0 0, .slice none 0 0, .int .i64 0], .int .i64 (opnE n m f rl R cl C)]) ∧ Kept w w' := by
  have HM := Lib.hid h
  have HR := Lib.hid hR
  have HC := Lib.hid hC
  clear h hR hC
  by_cases hv : choE n m f rl R cl C = 0
  · have hd : D rl (subF f R C) = 0 := by
      apply Classical.byContradiction
      intro hd
      exact hE (by unfold opnE; rw [if_pos hv, if_neg hd])
    rw [show opnE n m f rl R cl C = 11 by unfold opnE; rw [if_pos hv, if_pos hd]]
    obtain ⟨rfl, hk⟩ := Mok.of hv
    have HV := Lib.hid hv
    have HK := Lib.hid hk
    have HD := Lib.hid hd
    clear hk hv hE hd
    go_enter Try.func53, Try.ntmps53
    go_wp2_with (first | (go_at_call 61; refine (cchoice_any _ _ _ _ _ _ _ _ _ _ _ _ _ _ _ _ hn hrl hcl (HM.out.of (by (repeat (first | exact Kept.refl _ | assumption | refine Kept.alloc ?_ _ | refine Kept.ext ?_ _ | refine Kept.drew ?_ | refine Kept.drewN ?_ _)))) (HR.out.of (by (repeat (first | exact Kept.refl _ | assumption | refine Kept.alloc ?_ _ | refine Kept.ext ?_ _ | refine Kept.drew ?_ | refine Kept.drewN ?_ _)))) (HC.out.of (by (repeat (first | exact Kept.refl _ | assumption | refine Kept.alloc ?_ _ | refine Kept.ext ?_ _ | refine Kept.drew ?_ | refine Kept.drewN ?_ _))))).mono ?_; rintro e w1 ⟨rfl, x, rfl⟩; rw [HV.out]) | (go_at_call 62; refine (cminor_any _ _ _ _ _ _ _ _ _ _ _ _ _ _ _ HK.out (HM.out.of (by (repeat (first | exact Kept.refl _ | assumption | refine Kept.alloc ?_ _ | refine Kept.ext ?_ _ | refine Kept.drew ?_ | refine Kept.drewN ?_ _)))) (HR.out.of (by (repeat (first | exact Kept.refl _ | assumption | refine Kept.alloc ?_ _ | refine Kept.ext ?_ _ | refine Kept.drew ?_ | refine Kept.drewN ?_ _)))) (HC.out.of (by (repeat (first | exact Kept.refl _ | assumption | refine Kept.alloc ?_ _ | refine Kept.ext ?_ _ | refine Kept.drew ?_ | refine Kept.drewN ?_ _))))).mono ?_; rintro e w1 ⟨rfl, x2, rfl⟩; rw [HD.out]))
    refine bodyPost_ret (by simp only [results, Try.results53]; go_simp; rfl) rfl ?_
    exact ⟨rfl, by (repeat (first | exact Kept.refl _ | assumption | refine Kept.alloc ?_ _ | refine Kept.ext ?_ _ | refine Kept.drew ?_ | refine Kept.drewN ?_ _))⟩
  · rw [show opnE n m f rl R cl C = choE n m f rl R cl C from if_neg hv]
    obtain ⟨e, he⟩ : ∃ e, choE n m f rl R cl C = e := ⟨_, rfl⟩
    rw [he] at hv ⊢
    have HV := Lib.hid he
    clear he hE
    have hv2 : (e == 0) = false := by simpa using hv
    have hv3 : decide (e = 0) = false := by simpa using hv
    go_enter Try.func53, Try.ntmps53
    go_wp2_with (go_at_call 61; refine (cchoice_any _ _ _ _ _ _ _ _ _ _ _ _ _ _ _ _ hn hrl hcl (HM.out.of (by (repeat (first | exact Kept.refl _ | assumption | refine Kept.alloc ?_ _ | refine Kept.ext ?_ _ | refine Kept.drew ?_ | refine Kept.drewN ?_ _)))) (HR.out.of (by (repeat (first | exact Kept.refl _ | assumption | refine Kept.alloc ?_ _ | refine Kept.ext ?_ _ | refine Kept.drew ?_ | refine Kept.drewN ?_ _)))) (HC.out.of (by (repeat (first | exact Kept.refl _ | assumption | refine Kept.alloc ?_ _ | refine Kept.ext ?_ _ | refine Kept.drew ?_ | refine Kept.drewN ?_ _))))).mono ?_; rintro e w1 ⟨rfl, x, rfl⟩; rw [HV.out])
    refine bodyPost_ret (by simp only [results, Try.results53]; go_simp; rfl) rfl ?_
    exact ⟨rfl, by (repeat (first | exact Kept.refl _ | assumption | refine Kept.alloc ?_ _ | refine Kept.ext ?_ _ | refine Kept.drew ?_ | refine Kept.drewN ?_ _))⟩
set_option maxRecDepth 100000 in
set_option maxHeartbeats 4000000 in
theorem r6div_any (A : Option Addr) (n cap : Nat) (B : Nat → Option Addr) (m cp : Nat → Nat) (f : Nat → Nat → Int) (RA : Option Addr) (rl rc : Nat) (R : Nat → Nat → Int) (CA : Option Addr) (cl cc : Nat) (C : Nat → Nat → Int) (w : World)
    (hn : n ≤ 9223372036854775807) (hrl : rl ≤ rc ∧ rc ≤ maxLen) (hcl : cl ≤ cc ∧ cc ≤ maxLen) (h : MatAt w A n B m cp f) (hR : RowsAt w RA rl 1 R) (hC : RowsAt w CA cl 1 C) :
    Calls Try.prog 57 #[.slice A n cap, .slice RA rl rc, .slice CA cl cc] w fun e w' => e = .returned (.tuple #[.int .i64 (if opnE n m f rl R cl C = 0 then D rl (subF f R C) else 0), .int .i64 (opnE n m f rl R cl C)]) ∧ Kept w w' := by
  have HM := Lib.hid h
  have HR := Lib.hid hR
  have HC := Lib.hid hC
  have hrl2 : rl ≤ 9223372036854775807 := by have := hrl.2; unfold maxLen at this; omega
  have hcl2 : cl ≤ 9223372036854775807 := by have := hcl.2; unfold maxLen at this; omega
  clear h hR hC
  by_cases hv : choE n m f rl R cl C = 0
  · obtain ⟨rfl, hk⟩ := Mok.of hv
    have n6 := hk.n1.2
    have l6 := hk.hl
    by_cases hd : D rl (subF f R C) = 0
    · rw [show opnE n m f rl R rl C = 11 by unfold opnE; rw [if_pos hv, if_pos hd], if_neg (by decide)]
      have HV := Lib.hid hv
      have HK := Lib.hid hk
      have HD := Lib.hid hd
      clear hk hv hd
      go_enter Try.func57, Try.ntmps57
      go_wp2_with (first | (go_at_call 63; refine (r6chosen_any _ _ _ _ _ _ _ _ _ _ _ _ _ _ _ _ hn hrl2 hcl2 HM.out HR.out HC.out).mono ?_; rintro e w1 ⟨rfl, x, rfl⟩; rw [HV.out]) | (go_at_call 64; refine (r6det_any _ _ _ _ _ _ _ _ _ _ _ _ _ _ _ n6 l6 (HM.out.of (by (repeat (first | exact Kept.refl _ | assumption | refine Kept.alloc ?_ _ | refine Kept.ext ?_ _ | refine Kept.drew ?_ | refine Kept.drewN ?_ _)))) (HR.out.of (by (repeat (first | exact Kept.refl _ | assumption | refine Kept.alloc ?_ _ | refine Kept.ext ?_ _ | refine Kept.drew ?_ | refine Kept.drewN ?_ _)))) (HC.out.of (by (repeat (first | exact Kept.refl _ | assumption | refine Kept.alloc ?_ _ | refine Kept.ext ?_ _ | refine Kept.drew ?_ | refine Kept.drewN ?_ _)))) hrl hcl HK.out.hr HK.out.hm HK.out.hc HK.out.m1.2 HK.out.sml).mono ?_; rintro e w1 ⟨rfl, x2, rfl⟩; rw [HD.out]))
      refine bodyPost_ret (by simp only [results, Try.results57]; go_simp; rfl) rfl ?_
      exact ⟨rfl, by (repeat (first | exact Kept.refl _ | assumption | refine Kept.alloc ?_ _ | refine Kept.ext ?_ _ | refine Kept.drew ?_ | refine Kept.drewN ?_ _))⟩
    · rw [show opnE n m f rl R rl C = 0 by unfold opnE; rw [if_pos hv, if_neg hd], if_pos rfl]
      obtain ⟨dd, hdd⟩ : ∃ x, D rl (subF f R C) = x := ⟨_, rfl⟩
      rw [hdd] at hd ⊢
      have g1 : (dd == 0) = false := beq_eq_false_iff_ne.2 hd
      have g2 : decide (dd = 0) = false := decide_eq_false hd
      have HV := Lib.hid hv
      have HK := Lib.hid hk
      have HD := Lib.hid hdd
      clear hk hv hdd
      go_enter Try.func57, Try.ntmps57
      go_wp2_with (first | (go_at_call 63; refine (r6chosen_any _ _ _ _ _ _ _ _ _ _ _ _ _ _ _ _ hn hrl2 hcl2 HM.out HR.out HC.out).mono ?_; rintro e w1 ⟨rfl, x, rfl⟩; rw [HV.out]) | (go_at_call 64; refine (r6det_any _ _ _ _ _ _ _ _ _ _ _ _ _ _ _ n6 l6 (HM.out.of (by (repeat (first | exact Kept.refl _ | assumption | refine Kept.alloc ?_ _ | refine Kept.ext ?_ _ | refine Kept.drew ?_ | refine Kept.drewN ?_ _)))) (HR.out.of (by (repeat (first | exact Kept.refl _ | assumption | refine Kept.alloc ?_ _ | refine Kept.ext ?_ _ | refine Kept.drew ?_ | refine Kept.drewN ?_ _)))) (HC.out.of (by (repeat (first | exact Kept.refl _ | assumption | refine Kept.alloc ?_ _ | refine Kept.ext ?_ _ | refine Kept.drew ?_ | refine Kept.drewN ?_ _)))) hrl hcl HK.out.hr HK.out.hm HK.out.hc HK.out.m1.2 HK.out.sml).mono ?_; rintro e w1 ⟨rfl, x2, rfl⟩; rw [HD.out]))
      refine bodyPost_ret (by simp only [results, Try.results57]; go_simp; rfl) rfl ?_
      exact ⟨rfl, by (repeat (first | exact Kept.refl _ | assumption | refine Kept.alloc ?_ _ | refine Kept.ext ?_ _ | refine Kept.drew ?_ | refine Kept.drewN ?_ _))⟩
  · rw [show opnE n m f rl R cl C = choE n m f rl R cl C from if_neg hv, if_neg hv]
    obtain ⟨e, he⟩ : ∃ e, choE n m f rl R cl C = e := ⟨_, rfl⟩
    rw [he] at hv ⊢
    have HV := Lib.hid he
    clear he
    have hv2 : (e == 0) = false := by simpa using hv
    have hv3 : decide (e = 0) = false := by simpa using hv
    go_enter Try.func57, Try.ntmps57
    go_wp2_with (go_at_call 63; refine (r6chosen_any _ _ _ _ _ _ _ _ _ _ _ _ _ _ _ _ hn hrl2 hcl2 HM.out HR.out HC.out).mono ?_; rintro e w1 ⟨rfl, x, rfl⟩; rw [HV.out])
    refine bodyPost_ret (by simp only [results, Try.results57]; go_simp; rfl) rfl ?_
    exact ⟨rfl, by (repeat (first | exact Kept.refl _ | assumption | refine Kept.alloc ?_ _ | refine Kept.ext ?_ _ | refine Kept.drew ?_ | refine Kept.drewN ?_ _))⟩
end Go.Proofs.Ytoejdfpmmgldpaa
