/- Contracts: minors of choices, of the program and of the reference. Conditions: the lists' lengths are ints. -/
import Derived.Test.YtoejdfpmmgldpaaPd
import Derived.Test.YtoejdfpmmgldpaaRd
namespace Go.Proofs.Ytoejdfpmmgldpaa
set_option linter.unusedVariables false
set_option linter.unusedSimpArgs false
open Go.RowKit Go.Deep
theorem set_ge {N l : Nat} {x : Nat → Nat → Int} (h : setB N l x = true) : ∀ k, k < l → (k : Int) ≤ x k 0
  | 0, hk => (setB_at h hk).1
  | k + 1, hk => by
    have h1 := set_ge h k (by omega)
    have h2 := (setB_at h hk).2.2 k rfl
    omega
theorem set_len {N l : Nat} {x : Nat → Nat → Int} (h : setB N l x = true) : l ≤ N := by
  rcases Nat.eq_zero_or_pos l with h0 | h0
  · omega
  · have h1 := set_ge h (l - 1) (by omega)
    have h2 := (setB_at h (show l - 1 < l by omega)).2.1
    omega
/-- What holds of a matrix and lists of rows and columns whose minor can be taken. -/
structure Mok (n : Nat) (m : Nat → Nat) (f : Nat → Nat → Int) (l : Nat) (R C : Nat → Nat → Int) : Prop where
  n1 : 1 ≤ n ∧ n ≤ 6
  m1 : 1 ≤ m 0 ∧ m 0 ≤ 6
  hm : ∀ k, k < n → m k = m 0
  hf : ∀ k, k < n → ∀ j, j < m 0 → -100 ≤ f k j ∧ f k j ≤ 100
  hr : ∀ i, i < l → 0 ≤ R i 0 ∧ R i 0 < n
  hc : ∀ i, i < l → 0 ≤ C i 0 ∧ C i 0 < m 0
  hl : l ≤ 6
theorem Mok.of {n : Nat} {m : Nat → Nat} {f : Nat → Nat → Int} {rl cl : Nat} {R C : Nat → Nat → Int} (h : choE n m f rl R cl C = 0) : rl = cl ∧ Mok n m f rl R C := by
  obtain ⟨h1, h2, h3, h4⟩ := choE_0 h
  obtain ⟨v1, v2, v3, v4⟩ := valE_0 h1
  subst h4
  exact ⟨rfl, v1, v2, v3, v4, fun i hi => ⟨(setB_at h2 hi).1, (setB_at h2 hi).2.1⟩, fun i hi => ⟨(setB_at h3 hi).1, (setB_at h3 hi).2.1⟩, by have := set_len h2; omega⟩
theorem Mok.sml {n : Nat} {m : Nat → Nat} {f : Nat → Nat → Int} {l : Nat} {R C : Nat → Nat → Int} (h : Mok n m f l R C) : Sml l (subF f R C) := by
  intro i hi j hj
  have h1 := h.hr i hi
  have h2 := h.hc j hj
  exact h.hf _ (by omega) _ (by omega)
theorem Mok.bd {n : Nat} {m : Nat → Nat} {f : Nat → Nat → Int} {l : Nat} {R C : Nat → Nat → Int} (h : Mok n m f l R C) : -720000000000000 ≤ D l (subF f R C) ∧ D l (subF f R C) ≤ 720000000000000 := D_small h.sml (Nat.le_refl _) h.hl
set_option maxRecDepth 100000 in
set_option maxHeartbeats 4000000 in
theorem cminor_any (A : Option Addr) (n cap : Nat) (B : Nat → Option Addr) (m cp : Nat → Nat) (f : Nat → Nat → Int) (RA : Option Addr) (l rc : Nat) (R : Nat → Nat → Int) (CA : Option Addr) (cc : Nat) (C : Nat → Nat → Int) (w : World)
    (hk : Mok n m f l R C) (h : MatAt w A n B m cp f) (hR : RowsAt w RA l 1 R) (hC : RowsAt w CA l 1 C) :
    Calls Try.prog 62 #[.slice A n cap, .slice RA l rc, .slice CA l cc] w fun e w' => e = .returned (.int .i64 (D l (subF f R C))) ∧ Kept w w' := by
  have HM := Lib.hid h
  have HR := Lib.hid hR
  have HC := Lib.hid hC
  have HK := Lib.hid hk
  obtain ⟨⟨n1, n6⟩, ⟨m1, m6⟩, -, -, -, -, l6⟩ := hk
  clear h hR hC
  go_enter Try.func62, Try.ntmps62
  go_wp2_with (first | (go_at_call 92; refine (csub_any _ _ _ _ _ _ _ _ _ _ _ _ _ _ _ _ n6 l6 l6 HM.out HR.out HC.out HK.out.hr HK.out.hm HK.out.hc).mono ?_; rintro e w1 ⟨g, B', rfl, hS, x, rfl⟩; have HS := Lib.hid hS; clear hS) | (go_at_call 91; refine (cdet_any _ _ _ _ _ (subF f R C) _ l6 HS.out HK.out.sml).mono ?_; rintro e w1 ⟨rfl, x2, rfl⟩))
  go_ret
  exact ⟨rfl, by (repeat (first | exact Kept.refl _ | assumption | refine Kept.alloc ?_ _ | refine Kept.ext ?_ _ | refine Kept.drew ?_ | refine Kept.drewN ?_ _))⟩
/-- The minor of a choice, or 0. -/
def minV (n : Nat) (m : Nat → Nat) (f : Nat → Nat → Int) (rl : Nat) (R : Nat → Nat → Int) (cl : Nat) (C : Nat → Nat → Int) : Int := if choE n m f rl R cl C = 0 then D rl (subF f R C) else 0
set_option maxRecDepth 100000 in
set_option maxHeartbeats 4000000 in
theorem cMinor_any (A : Option Addr) (n cap : Nat) (B : Nat → Option Addr) (m cp : Nat → Nat) (f : Nat → Nat → Int) (RA : Option Addr) (rl rc : Nat) (R : Nat → Nat → Int) (CA : Option Addr) (cl cc : Nat) (C : Nat → Nat → Int) (w : World)
    (hn : n ≤ 9223372036854775807) (hrl : rl ≤ 9223372036854775807) (hcl : cl ≤ 9223372036854775807) (h : MatAt w A n B m cp f) (hR : RowsAt w RA rl 1 R) (hC : RowsAt w CA cl 1 C) :
    Calls Try.prog 20 #[.slice A n cap, .slice RA rl rc, .slice CA cl cc] w fun e w' => e = .returned (.tuple #[.int .i64 (minV n m f rl R cl C), .int .i64 (choE n m f rl R cl C)]) ∧ Kept w w' := by
  have HM := Lib.hid h
  have HR := Lib.hid hR
  have HC := Lib.hid hC
  clear h hR hC
  by_cases hv : choE n m f rl R cl C = 0
  · rw [show minV n m f rl R cl C = D rl (subF f R C) from if_pos hv]
    obtain ⟨rfl, hk⟩ := Mok.of hv
    have HV := Lib.hid hv
    have HK := Lib.hid hk
    rw [hv]
    clear hk hv
    go_enter Try.func20, Try.ntmps20
    go_wp2_with (first | (go_at_call 61; refine (cchoice_any _ _ _ _ _ _ _ _ _ _ _ _ _ _ _ _ hn hrl hcl HM.out HR.out HC.out).mono ?_; rintro e w1 ⟨rfl, x, rfl⟩; rw [HV.out]) | (go_at_call 62; refine (cminor_any _ _ _ _ _ _ _ _ _ _ _ _ _ _ _ HK.out (HM.out.of (by (repeat (first | exact Kept.refl _ | assumption | refine Kept.alloc ?_ _ | refine Kept.ext ?_ _ | refine Kept.drew ?_ | refine Kept.drewN ?_ _)))) (HR.out.of (by (repeat (first | exact Kept.refl _ | assumption | refine Kept.alloc ?_ _ | refine Kept.ext ?_ _ | refine Kept.drew ?_ | refine Kept.drewN ?_ _)))) (HC.out.of (by (repeat (first | exact Kept.refl _ | assumption | refine Kept.alloc ?_ _ | refine Kept.ext ?_ _ | refine Kept.drew ?_ | refine Kept.drewN ?_ _))))).mono ?_; rintro e w1 ⟨rfl, x2, rfl⟩))
    refine bodyPost_ret (by simp only [results, Try.results20]; go_simp; rfl) rfl ?_
    exact ⟨rfl, by (repeat (first | exact Kept.refl _ | assumption | refine Kept.alloc ?_ _ | refine Kept.ext ?_ _ | refine Kept.drew ?_ | refine Kept.drewN ?_ _))⟩
  · rw [show minV n m f rl R cl C = 0 from if_neg hv]
    obtain ⟨e, he⟩ : ∃ e, choE n m f rl R cl C = e := ⟨_, rfl⟩
    rw [he] at hv ⊢
    have HV := Lib.hid he
    clear he
    have hv2 : (e == 0) = false := by simpa using hv
    have hv3 : decide (e = 0) = false := by simpa using hv
    go_enter Try.func20, Try.ntmps20
    go_wp2_with (go_at_call 61; refine (cchoice_any _ _ _ _ _ _ _ _ _ _ _ _ _ _ _ _ hn hrl hcl HM.out HR.out HC.out).mono ?_; rintro e w1 ⟨rfl, x, rfl⟩; rw [HV.out])
    refine bodyPost_ret (by simp only [results, Try.results20]; go_simp; rfl) rfl ?_
    exact ⟨rfl, by (repeat (first | exact Kept.refl _ | assumption | refine Kept.alloc ?_ _ | refine Kept.ext ?_ _ | refine Kept.drew ?_ | refine Kept.drewN ?_ _))⟩
set_option maxRecDepth 100000 in
set_option maxHeartbeats 4000000 in
theorem r6Minor_any (A : Option Addr) (n cap : Nat) (B : Nat → Option Addr) (m cp : Nat → Nat) (f : Nat → Nat → Int) (RA : Option Addr) (rl rc : Nat) (R : Nat → Nat → Int) (CA : Option Addr) (cl cc : Nat) (C : Nat → Nat → Int) (w : World)
    (hn : n ≤ 9223372036854775807) (hrl : rl ≤ rc ∧ rc ≤ maxLen) (hcl : cl ≤ cc ∧ cc ≤ maxLen) (h : MatAt w A n B m cp f) (hR : RowsAt w RA rl 1 R) (hC : RowsAt w CA cl 1 C) :
    Calls Try.prog 21 #[.slice A n cap, .slice RA rl rc, .slice CA cl cc] w fun e w' => e = .returned (.tuple #[.int .i64 (minV n m f rl R cl C), .int .i64 (choE n m f rl R cl C)]) ∧ Kept w w' := by
  have HM := Lib.hid h
  have HR := Lib.hid hR
  have HC := Lib.hid hC
  have hrl2 : rl ≤ 9223372036854775807 := by have := hrl.2; unfold maxLen at this; omega
  have hcl2 : cl ≤ 9223372036854775807 := by have := hcl.2; unfold maxLen at this; omega
  clear h hR hC
  by_cases hv : choE n m f rl R cl C = 0
  · rw [show minV n m f rl R cl C = D rl (subF f R C) from if_pos hv]
    obtain ⟨rfl, hk⟩ := Mok.of hv
    have HV := Lib.hid hv
    have HK := Lib.hid hk
    rw [hv]
    have n6 := hk.n1.2
    have l6 := hk.hl
    clear hk hv
    go_enter Try.func21, Try.ntmps21
    go_wp2_with (first | (go_at_call 63; refine (r6chosen_any _ _ _ _ _ _ _ _ _ _ _ _ _ _ _ _ hn hrl2 hcl2 HM.out HR.out HC.out).mono ?_; rintro e w1 ⟨rfl, x, rfl⟩; rw [HV.out]) | (go_at_call 64; refine (r6det_any _ _ _ _ _ _ _ _ _ _ _ _ _ _ _ n6 l6 (HM.out.of (by (repeat (first | exact Kept.refl _ | assumption | refine Kept.alloc ?_ _ | refine Kept.ext ?_ _ | refine Kept.drew ?_ | refine Kept.drewN ?_ _)))) (HR.out.of (by (repeat (first | exact Kept.refl _ | assumption | refine Kept.alloc ?_ _ | refine Kept.ext ?_ _ | refine Kept.drew ?_ | refine Kept.drewN ?_ _)))) (HC.out.of (by (repeat (first | exact Kept.refl _ | assumption | refine Kept.alloc ?_ _ | refine Kept.ext ?_ _ | refine Kept.drew ?_ | refine Kept.drewN ?_ _)))) hrl hcl HK.out.hr HK.out.hm HK.out.hc HK.out.m1.2 HK.out.sml).mono ?_; rintro e w1 ⟨rfl, x2, rfl⟩))
    refine bodyPost_ret (by simp only [results, Try.results21]; go_simp; rfl) rfl ?_
    exact ⟨rfl, by (repeat (first | exact Kept.refl _ | assumption | refine Kept.alloc ?_ _ | refine Kept.ext ?_ _ | refine Kept.drew ?_ | refine Kept.drewN ?_ _))⟩
  · rw [show minV n m f rl R cl C = 0 from if_neg hv]
    obtain ⟨e, he⟩ : ∃ e, choE n m f rl R cl C = e := ⟨_, rfl⟩
    rw [he] at hv ⊢
    have HV := Lib.hid he
    clear he
    have hv2 : (e == 0) = false := by simpa using hv
    have hv3 : decide (e = 0) = false := by simpa using hv
    go_enter Try.func21, Try.ntmps21
    go_wp2_with (go_at_call 63; refine (r6chosen_any _ _ _ _ _ _ _ _ _ _ _ _ _ _ _ _ hn hrl2 hcl2 HM.out HR.out HC.out).mono ?_; rintro e w1 ⟨rfl, x, rfl⟩; rw [HV.out])
    refine bodyPost_ret (by simp only [results, Try.results21]; go_simp; rfl) rfl ?_
    exact ⟨rfl, by (repeat (first | exact Kept.refl _ | assumption | refine Kept.alloc ?_ _ | refine Kept.ext ?_ _ | refine Kept.drew ?_ | refine Kept.drewN ?_ _))⟩
end Go.Proofs.Ytoejdfpmmgldpaa
