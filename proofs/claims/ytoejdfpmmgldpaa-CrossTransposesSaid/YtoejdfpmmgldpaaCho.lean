/- Contracts: the error of a matrix and a choice, of the program and of the reference. Conditions: the lists' lengths are ints. -/
import Derived.Test.YtoejdfpmmgldpaaSe
namespace Go.Proofs.Ytoejdfpmmgldpaa
set_option linter.unusedVariables false
set_option linter.unusedSimpArgs false
open Go.RowKit
def choE (n : Nat) (m : Nat → Nat) (f : Nat → Nat → Int) (rl : Nat) (R : Nat → Nat → Int) (cl : Nat) (C : Nat → Nat → Int) : Int :=
  if valE n m f = 0 then (if (setB n rl R && (setB (m 0) cl C && rl == cl)) = true then 0 else 1) else valE n m f
theorem choE_0 {n : Nat} {m : Nat → Nat} {f : Nat → Nat → Int} {rl : Nat} {R : Nat → Nat → Int} {cl : Nat} {C : Nat → Nat → Int} (h : choE n m f rl R cl C = 0) :
    valE n m f = 0 ∧ setB n rl R = true ∧ setB (m 0) cl C = true ∧ rl = cl := by
  unfold choE at h
  split at h
  · rename_i hv
    split at h
    · rename_i hb
      simp only [Bool.and_eq_true, beq_iff_eq] at hb
      exact ⟨hv, hb.1, hb.2.1, hb.2.2⟩
    · cases h
  · rename_i hv; exact absurd h hv
set_option maxRecDepth 100000 in
set_option maxHeartbeats 4000000 in
theorem cchoice_any (A : Option Addr) (n cap : Nat) (B : Nat → Option Addr) (m cp : Nat → Nat) (f : Nat → Nat → Int) (RA : Option Addr) (rl rc : Nat) (R : Nat → Nat → Int) (CA : Option Addr) (cl cc : Nat) (C : Nat → Nat → Int) (w : World)
    (hn : n ≤ 9223372036854775807) (hrl : rl ≤ 9223372036854775807) (hcl : cl ≤ 9223372036854775807) (h : MatAt w A n B m cp f) (hR : RowsAt w RA rl 1 R) (hC : RowsAt w CA cl 1 C) :
    Calls Try.prog 61 #[.slice A n cap, .slice RA rl rc, .slice CA cl cc] w fun e w' => e = .returned (.int .i64 (choE n m f rl R cl C)) ∧ Kept w w' := by
  have HM := Lib.hid h
  have HR := Lib.hid hR
  have HC := Lib.hid hC
  clear h hR hC
  by_cases hv : valE n m f = 0
  · obtain ⟨⟨n1, n6⟩, ⟨m1, m6⟩, -, -⟩ := valE_0 hv
    rw [show choE n m f rl R cl C = (if (setB n rl R && (setB (m 0) cl C && rl == cl)) = true then 0 else 1) from if_pos hv]
    have HV := Lib.hid hv
    clear hv
    obtain ⟨b, off, rfl, hb, c00⟩ := HM.out.at (k := 0) (by omega)
    have LB : Lower b w.heap.size := ⟨hb⟩
    rw [Nat.add_zero] at c00
    have k1 : ∀ w', Kept w w' → Calls Try.prog 65 #[.slice RA rl rc, .int .i64 (n : Int)] w' fun e w'' => e = .returned (.bool (setB n rl R)) ∧ Kept w' w'' := fun w' hk =>
      (cset_any _ _ _ _ _ _ hrl (by omega) (HR.out.of hk)).mono (by first | (rintro e w1 ⟨rfl, rfl⟩; exact ⟨rfl, by (repeat (first | exact Kept.refl _ | assumption | refine Kept.alloc ?_ _ | refine Kept.ext ?_ _ | refine Kept.drew ?_ | refine Kept.drewN ?_ _))⟩) | (rintro e w1 ⟨rfl, x0, rfl⟩; exact ⟨rfl, by (repeat (first | exact Kept.refl _ | assumption | refine Kept.alloc ?_ _ | refine Kept.ext ?_ _ | refine Kept.drew ?_ | refine Kept.drewN ?_ _))⟩))
    have k2 : ∀ w', Kept w w' → Calls Try.prog 65 #[.slice CA cl cc, .int .i64 (m 0 : Int)] w' fun e w'' => e = .returned (.bool (setB (m 0) cl C)) ∧ Kept w' w'' := fun w' hk =>
      (cset_any _ _ _ _ _ _ hcl (by omega) (HC.out.of hk)).mono (by first | (rintro e w1 ⟨rfl, rfl⟩; exact ⟨rfl, by (repeat (first | exact Kept.refl _ | assumption | refine Kept.alloc ?_ _ | refine Kept.ext ?_ _ | refine Kept.drew ?_ | refine Kept.drewN ?_ _))⟩) | (rintro e w1 ⟨rfl, x0, rfl⟩; exact ⟨rfl, by (repeat (first | exact Kept.refl _ | assumption | refine Kept.alloc ?_ _ | refine Kept.ext ?_ _ | refine Kept.drew ?_ | refine Kept.drewN ?_ _))⟩))
    cases s1 : setB n rl R
    · rw [s1] at k1
      have K1 := Lib.hid k1
      have K2 := Lib.hid k2
      clear k1 k2 s1
      go_enter Try.func61, Try.ntmps61
      go_wp2_with (first | (go_at_call 22; refine (cval_any _ _ _ _ _ _ _ _ hn (HM.out.of (by (repeat (first | exact Kept.refl _ | assumption | refine Kept.alloc ?_ _ | refine Kept.ext ?_ _ | refine Kept.drew ?_ | refine Kept.drewN ?_ _))))).mono ?_; (first | rintro e w1 ⟨rfl, rfl⟩ | rintro e w1 ⟨rfl, x0, rfl⟩); rw [HV.out]) | (go_at_call 65; (with_reducible refine (K1.out _ (by (repeat (first | exact Kept.refl _ | assumption | refine Kept.alloc ?_ _ | refine Kept.ext ?_ _ | refine Kept.drew ?_ | refine Kept.drewN ?_ _)))).mono ?_); rintro e w1 ⟨rfl, x1, rfl⟩) | (go_at_call 65; (with_reducible refine (K2.out _ (by (repeat (first | exact Kept.refl _ | assumption | refine Kept.alloc ?_ _ | refine Kept.ext ?_ _ | refine Kept.drew ?_ | refine Kept.drewN ?_ _)))).mono ?_); rintro e w1 ⟨rfl, x2, rfl⟩))
      refine bodyPost_ret (by simp only [results, Try.results61]; go_simp; rfl) rfl ?_
      exact ⟨rfl, by (repeat (first | exact Kept.refl _ | assumption | refine Kept.alloc ?_ _ | refine Kept.ext ?_ _ | refine Kept.drew ?_ | refine Kept.drewN ?_ _))⟩
    · rw [s1] at k1
      cases s2 : setB (m 0) cl C
      · rw [s2] at k2
        have K1 := Lib.hid k1
        have K2 := Lib.hid k2
        clear k1 k2 s1 s2
        go_enter Try.func61, Try.ntmps61
        go_wp2_with (first | (go_at_call 22; refine (cval_any _ _ _ _ _ _ _ _ hn (HM.out.of (by (repeat (first | exact Kept.refl _ | assumption | refine Kept.alloc ?_ _ | refine Kept.ext ?_ _ | refine Kept.drew ?_ | refine Kept.drewN ?_ _))))).mono ?_; (first | rintro e w1 ⟨rfl, rfl⟩ | rintro e w1 ⟨rfl, x0, rfl⟩); rw [HV.out]) | (go_at_call 65; (with_reducible refine (K1.out _ (by (repeat (first | exact Kept.refl _ | assumption | refine Kept.alloc ?_ _ | refine Kept.ext ?_ _ | refine Kept.drew ?_ | refine Kept.drewN ?_ _)))).mono ?_); rintro e w1 ⟨rfl, x1, rfl⟩) | (go_at_call 65; (with_reducible refine (K2.out _ (by (repeat (first | exact Kept.refl _ | assumption | refine Kept.alloc ?_ _ | refine Kept.ext ?_ _ | refine Kept.drew ?_ | refine Kept.drewN ?_ _)))).mono ?_); rintro e w1 ⟨rfl, x2, rfl⟩))
        refine bodyPost_ret (by simp only [results, Try.results61]; go_simp; rfl) rfl ?_
        exact ⟨rfl, by (repeat (first | exact Kept.refl _ | assumption | refine Kept.alloc ?_ _ | refine Kept.ext ?_ _ | refine Kept.drew ?_ | refine Kept.drewN ?_ _))⟩
      · rw [s2] at k2
        have K1 := Lib.hid k1
        have K2 := Lib.hid k2
        clear k1 k2 s1 s2
        by_cases he : rl = cl
        · have g2 : (rl == cl) = true := by simpa using he
          rw [g2]
          clear g2
          subst he
          go_enter Try.func61, Try.ntmps61
          go_wp2_with (first | (go_at_call 22; refine (cval_any _ _ _ _ _ _ _ _ hn (HM.out.of (by (repeat (first | exact Kept.refl _ | assumption | refine Kept.alloc ?_ _ | refine Kept.ext ?_ _ | refine Kept.drew ?_ | refine Kept.drewN ?_ _))))).mono ?_; (first | rintro e w1 ⟨rfl, rfl⟩ | rintro e w1 ⟨rfl, x0, rfl⟩); rw [HV.out]) | (go_at_call 65; (with_reducible refine (K1.out _ (by (repeat (first | exact Kept.refl _ | assumption | refine Kept.alloc ?_ _ | refine Kept.ext ?_ _ | refine Kept.drew ?_ | refine Kept.drewN ?_ _)))).mono ?_); rintro e w1 ⟨rfl, x1, rfl⟩) | (go_at_call 65; (with_reducible refine (K2.out _ (by (repeat (first | exact Kept.refl _ | assumption | refine Kept.alloc ?_ _ | refine Kept.ext ?_ _ | refine Kept.drew ?_ | refine Kept.drewN ?_ _)))).mono ?_); rintro e w1 ⟨rfl, x2, rfl⟩))
          refine bodyPost_ret (by simp only [results, Try.results61]; go_simp; rfl) rfl ?_
          exact ⟨rfl, by (repeat (first | exact Kept.refl _ | assumption | refine Kept.alloc ?_ _ | refine Kept.ext ?_ _ | refine Kept.drew ?_ | refine Kept.drewN ?_ _))⟩
        · have g1 : ((rl : Int) == (cl : Int)) = false := beq_eq_false_iff_ne.2 (by omega)
          have g2 : (rl == cl) = false := beq_eq_false_iff_ne.2 he
          have g7 : ((rl : Int) != (cl : Int)) = true := by simp only [bne, g1, Bool.not_false]
          rw [g2]
          go_enter Try.func61, Try.ntmps61
          go_wp2_with (first | (go_at_call 22; refine (cval_any _ _ _ _ _ _ _ _ hn (HM.out.of (by (repeat (first | exact Kept.refl _ | assumption | refine Kept.alloc ?_ _ | refine Kept.ext ?_ _ | refine Kept.drew ?_ | refine Kept.drewN ?_ _))))).mono ?_; (first | rintro e w1 ⟨rfl, rfl⟩ | rintro e w1 ⟨rfl, x0, rfl⟩); rw [HV.out]) | (go_at_call 65; (with_reducible refine (K1.out _ (by (repeat (first | exact Kept.refl _ | assumption | refine Kept.alloc ?_ _ | refine Kept.ext ?_ _ | refine Kept.drew ?_ | refine Kept.drewN ?_ _)))).mono ?_); rintro e w1 ⟨rfl, x1, rfl⟩) | (go_at_call 65; (with_reducible refine (K2.out _ (by (repeat (first | exact Kept.refl _ | assumption | refine Kept.alloc ?_ _ | refine Kept.ext ?_ _ | refine Kept.drew ?_ | refine Kept.drewN ?_ _)))).mono ?_); rintro e w1 ⟨rfl, x2, rfl⟩))
          refine bodyPost_ret (by simp only [results, Try.results61]; go_simp; rfl) rfl ?_
          exact ⟨rfl, by (repeat (first | exact Kept.refl _ | assumption | refine Kept.alloc ?_ _ | refine Kept.ext ?_ _ | refine Kept.drew ?_ | refine Kept.drewN ?_ _))⟩
  · obtain ⟨e, he⟩ : ∃ e, valE n m f = e := ⟨_, rfl⟩
    rw [show choE n m f rl R cl C = e by unfold choE; rw [if_neg hv, he]]
    rw [he] at hv
    have HV := Lib.hid he
    clear he
    have hv2 : (e == 0) = false := by simpa using hv
    have hv3 : decide (e = 0) = false := by simpa using hv
    go_enter Try.func61, Try.ntmps61
    go_wp2_with (first | (go_at_call 22; refine (cval_any _ _ _ _ _ _ _ _ hn (HM.out.of (by (repeat (first | exact Kept.refl _ | assumption | refine Kept.alloc ?_ _ | refine Kept.ext ?_ _ | refine Kept.drew ?_ | refine Kept.drewN ?_ _))))).mono ?_; (first | rintro e w1 ⟨rfl, rfl⟩ | rintro e w1 ⟨rfl, x0, rfl⟩); rw [HV.out]) | (go_at_call 65; (with_reducible refine (K1.out _ (by (repeat (first | exact Kept.refl _ | assumption | refine Kept.alloc ?_ _ | refine Kept.ext ?_ _ | refine Kept.drew ?_ | refine Kept.drewN ?_ _)))).mono ?_); rintro e w1 ⟨rfl, x1, rfl⟩) | (go_at_call 65; (with_reducible refine (K2.out _ (by (repeat (first | exact Kept.refl _ | assumption | refine Kept.alloc ?_ _ | refine Kept.ext ?_ _ | refine Kept.drew ?_ | refine Kept.drewN ?_ _)))).mono ?_); rintro e w1 ⟨rfl, x2, rfl⟩))
    refine bodyPost_ret (by simp only [results, Try.results61]; go_simp; rfl) rfl ?_
    exact ⟨rfl, by (repeat (first | exact Kept.refl _ | assumption | refine Kept.alloc ?_ _ | refine Kept.ext ?_ _ | refine Kept.drew ?_ | refine Kept.drewN ?_ _))⟩
set_option maxRecDepth 100000 in
set_option maxHeartbeats 4000000 in
theorem r6chosen_any (A : Option Addr) (n cap : Nat) (B : Nat → Option Addr) (m cp : Nat → Nat) (f : Nat → Nat → Int) (RA : Option Addr) (rl rc : Nat) (R : Nat → Nat → Int) (CA : Option Addr) (cl cc : Nat) (C : Nat → Nat → Int) (w : World)
    (hn : n ≤ 9223372036854775807) (hrl : rl ≤ 9223372036854775807) (hcl : cl ≤ 9223372036854775807) (h : MatAt w A n B m cp f) (hR : RowsAt w RA rl 1 R) (hC : RowsAt w CA cl 1 C) :
    Calls Try.prog 63 #[.slice A n cap, .slice RA rl rc, .slice CA cl cc] w fun e w' => e = .returned (.int .i64 (choE n m f rl R cl C)) ∧ Kept w w' := by
  have HM := Lib.hid h
  have HR := Lib.hid hR
  have HC := Lib.hid hC
  clear h hR hC
  by_cases hv : valE n m f = 0
  · obtain ⟨⟨n1, n6⟩, ⟨m1, m6⟩, -, -⟩ := valE_0 hv
    rw [show choE n m f rl R cl C = (if (setB n rl R && (setB (m 0) cl C && rl == cl)) = true then 0 else 1) from if_pos hv]
    have HV := Lib.hid hv
    clear hv
    obtain ⟨b, off, rfl, hb, c00⟩ := HM.out.at (k := 0) (by omega)
    have LB : Lower b w.heap.size := ⟨hb⟩
    rw [Nat.add_zero] at c00
    have k1 : ∀ w', Kept w w' → Calls Try.prog 66 #[.slice RA rl rc, .int .i64 (n : Int)] w' fun e w'' => e = .returned (.bool (setB n rl R)) ∧ Kept w' w'' := fun w' hk =>
      (r6set_any _ _ _ _ _ _ hrl (by omega) (HR.out.of hk)).mono (by first | (rintro e w1 ⟨rfl, rfl⟩; exact ⟨rfl, by (repeat (first | exact Kept.refl _ | assumption | refine Kept.alloc ?_ _ | refine Kept.ext ?_ _ | refine Kept.drew ?_ | refine Kept.drewN ?_ _))⟩) | (rintro e w1 ⟨rfl, x0, rfl⟩; exact ⟨rfl, by (repeat (first | exact Kept.refl _ | assumption | refine Kept.alloc ?_ _ | refine Kept.ext ?_ _ | refine Kept.drew ?_ | refine Kept.drewN ?_ _))⟩))
    have k2 : ∀ w', Kept w w' → Calls Try.prog 66 #[.slice CA cl cc, .int .i64 (m 0 : Int)] w' fun e w'' => e = .returned (.bool (setB (m 0) cl C)) ∧ Kept w' w'' := fun w' hk =>
      (r6set_any _ _ _ _ _ _ hcl (by omega) (HC.out.of hk)).mono (by first | (rintro e w1 ⟨rfl, rfl⟩; exact ⟨rfl, by (repeat (first | exact Kept.refl _ | assumption | refine Kept.alloc ?_ _ | refine Kept.ext ?_ _ | refine Kept.drew ?_ | refine Kept.drewN ?_ _))⟩) | (rintro e w1 ⟨rfl, x0, rfl⟩; exact ⟨rfl, by (repeat (first | exact Kept.refl _ | assumption | refine Kept.alloc ?_ _ | refine Kept.ext ?_ _ | refine Kept.drew ?_ | refine Kept.drewN ?_ _))⟩))
    cases s1 : setB n rl R
    · rw [s1] at k1
      have K1 := Lib.hid k1
      have K2 := Lib.hid k2
      clear k1 k2 s1
      go_enter Try.func63, Try.ntmps63
      go_wp2_with (first | (go_at_call 23; refine (r6val_any _ _ _ _ _ _ _ _ hn (HM.out.of (by (repeat (first | exact Kept.refl _ | assumption | refine Kept.alloc ?_ _ | refine Kept.ext ?_ _ | refine Kept.drew ?_ | refine Kept.drewN ?_ _))))).mono ?_; (first | rintro e w1 ⟨rfl, rfl⟩ | rintro e w1 ⟨rfl, x0, rfl⟩); rw [HV.out]) | (go_at_call 66; (with_reducible refine (K1.out _ (by (repeat (first | exact Kept.refl _ | assumption | refine Kept.alloc ?_ _ | refine Kept.ext ?_ _ | refine Kept.drew ?_ | refine Kept.drewN ?_ _)))).mono ?_); rintro e w1 ⟨rfl, x1, rfl⟩) | (go_at_call 66; (with_reducible refine (K2.out _ (by (repeat (first | exact Kept.refl _ | assumption | refine Kept.alloc ?_ _ | refine Kept.ext ?_ _ | refine Kept.drew ?_ | refine Kept.drewN ?_ _)))).mono ?_); rintro e w1 ⟨rfl, x2, rfl⟩))
      refine bodyPost_ret (by simp only [results, Try.results63]; go_simp; rfl) rfl ?_
      exact ⟨rfl, by (repeat (first | exact Kept.refl _ | assumption | refine Kept.alloc ?_ _ | refine Kept.ext ?_ _ | refine Kept.drew ?_ | refine Kept.drewN ?_ _))⟩
    · rw [s1] at k1
      cases s2 : setB (m 0) cl C
      · rw [s2] at k2
        have K1 := Lib.hid k1
        have K2 := Lib.hid k2
        clear k1 k2 s1 s2
        go_enter Try.func63, Try.ntmps63
        go_wp2_with (first | (go_at_call 23; refine (r6val_any _ _ _ _ _ _ _ _ hn (HM.out.of (by (repeat (first | exact Kept.refl _ | assumption | refine Kept.alloc ?_ _ | refine Kept.ext ?_ _ | refine Kept.drew ?_ | refine Kept.drewN ?_ _))))).mono ?_; (first | rintro e w1 ⟨rfl, rfl⟩ | rintro e w1 ⟨rfl, x0, rfl⟩); rw [HV.out]) | (go_at_call 66; (with_reducible refine (K1.out _ (by (repeat (first | exact Kept.refl _ | assumption | refine Kept.alloc ?_ _ | refine Kept.ext ?_ _ | refine Kept.drew ?_ | refine Kept.drewN ?_ _)))).mono ?_); rintro e w1 ⟨rfl, x1, rfl⟩) | (go_at_call 66; (with_reducible refine (K2.out _ (by (repeat (first | exact Kept.refl _ | assumption | refine Kept.alloc ?_ _ | refine Kept.ext ?_ _ | refine Kept.drew ?_ | refine Kept.drewN ?_ _)))).mono ?_); rintro e w1 ⟨rfl, x2, rfl⟩))
        refine bodyPost_ret (by simp only [results, Try.results63]; go_simp; rfl) rfl ?_
        exact ⟨rfl, by (repeat (first | exact Kept.refl _ | assumption | refine Kept.alloc ?_ _ | refine Kept.ext ?_ _ | refine Kept.drew ?_ | refine Kept.drewN ?_ _))⟩
      · rw [s2] at k2
        have K1 := Lib.hid k1
        have K2 := Lib.hid k2
        clear k1 k2 s1 s2
        by_cases he : rl = cl
        · have g2 : (rl == cl) = true := by simpa using he
          rw [g2]
          clear g2
          subst he
          go_enter Try.func63, Try.ntmps63
          go_wp2_with (first | (go_at_call 23; refine (r6val_any _ _ _ _ _ _ _ _ hn (HM.out.of (by (repeat (first | exact Kept.refl _ | assumption | refine Kept.alloc ?_ _ | refine Kept.ext ?_ _ | refine Kept.drew ?_ | refine Kept.drewN ?_ _))))).mono ?_; (first | rintro e w1 ⟨rfl, rfl⟩ | rintro e w1 ⟨rfl, x0, rfl⟩); rw [HV.out]) | (go_at_call 66; (with_reducible refine (K1.out _ (by (repeat (first | exact Kept.refl _ | assumption | refine Kept.alloc ?_ _ | refine Kept.ext ?_ _ | refine Kept.drew ?_ | refine Kept.drewN ?_ _)))).mono ?_); rintro e w1 ⟨rfl, x1, rfl⟩) | (go_at_call 66; (with_reducible refine (K2.out _ (by (repeat (first | exact Kept.refl _ | assumption | refine Kept.alloc ?_ _ | refine Kept.ext ?_ _ | refine Kept.drew ?_ | refine Kept.drewN ?_ _)))).mono ?_); rintro e w1 ⟨rfl, x2, rfl⟩))
          refine bodyPost_ret (by simp only [results, Try.results63]; go_simp; rfl) rfl ?_
          exact ⟨rfl, by (repeat (first | exact Kept.refl _ | assumption | refine Kept.alloc ?_ _ | refine Kept.ext ?_ _ | refine Kept.drew ?_ | refine Kept.drewN ?_ _))⟩
        · have g1 : ((rl : Int) == (cl : Int)) = false := beq_eq_false_iff_ne.2 (by omega)
          have g2 : (rl == cl) = false := beq_eq_false_iff_ne.2 he
          have g7 : ((rl : Int) != (cl : Int)) = true := by simp only [bne, g1, Bool.not_false]
          rw [g2]
          go_enter Try.func63, Try.ntmps63
          go_wp2_with (first | (go_at_call 23; refine (r6val_any _ _ _ _ _ _ _ _ hn (HM.out.of (by (repeat (first | exact Kept.refl _ | assumption | refine Kept.alloc ?_ _ | refine Kept.ext ?_ _ | refine Kept.drew ?_ | refine Kept.drewN ?_ _))))).mono ?_; (first | rintro e w1 ⟨rfl, rfl⟩ | rintro e w1 ⟨rfl, x0, rfl⟩); rw [HV.out]) | (go_at_call 66; (with_reducible refine (K1.out _ (by (repeat (first | exact Kept.refl _ | assumption | refine Kept.alloc ?_ _ | refine Kept.ext ?_ _ | refine Kept.drew ?_ | refine Kept.drewN ?_ _)))).mono ?_); rintro e w1 ⟨rfl, x1, rfl⟩) | (go_at_call 66; (with_reducible refine (K2.out _ (by (repeat (first | exact Kept.refl _ | assumption | refine Kept.alloc ?_ _ | refine Kept.ext ?_ _ | refine Kept.drew ?_ | refine Kept.drewN ?_ _)))).mono ?_); rintro e w1 ⟨rfl, x2, rfl⟩))
          refine bodyPost_ret (by simp only [results, Try.results63]; go_simp; rfl) rfl ?_
          exact ⟨rfl, by (repeat (first | exact Kept.refl _ | assumption | refine Kept.alloc ?_ _ | refine Kept.ext ?_ _ | refine Kept.drew ?_ | refine Kept.drewN ?_ _))⟩
  · obtain ⟨e, he⟩ : ∃ e, valE n m f = e := ⟨_, rfl⟩
    rw [show choE n m f rl R cl C = e by unfold choE; rw [if_neg hv, he]]
    rw [he] at hv
    have HV := Lib.hid he
    clear he
    have hv2 : (e == 0) = false := by simpa using hv
    have hv3 : decide (e = 0) = false := by simpa using hv
    go_enter Try.func63, Try.ntmps63
    go_wp2_with (first | (go_at_call 23; refine (r6val_any _ _ _ _ _ _ _ _ hn (HM.out.of (by (repeat (first | exact Kept.refl _ | assumption | refine Kept.alloc ?_ _ | refine Kept.ext ?_ _ | refine Kept.drew ?_ | refine Kept.drewN ?_ _))))).mono ?_; (first | rintro e w1 ⟨rfl, rfl⟩ | rintro e w1 ⟨rfl, x0, rfl⟩); rw [HV.out]) | (go_at_call 66; (with_reducible refine (K1.out _ (by (repeat (first | exact Kept.refl _ | assumption | refine Kept.alloc ?_ _ | refine Kept.ext ?_ _ | refine Kept.drew ?_ | refine Kept.drewN ?_ _)))).mono ?_); rintro e w1 ⟨rfl, x1, rfl⟩) | (go_at_call 66; (with_reducible refine (K2.out _ (by (repeat (first | exact Kept.refl _ | assumption | refine Kept.alloc ?_ _ | refine Kept.ext ?_ _ | refine Kept.drew ?_ | refine Kept.drewN ?_ _)))).mono ?_); rintro e w1 ⟨rfl, x2, rfl⟩))
    refine bodyPost_ret (by simp only [results, Try.results63]; go_simp; rfl) rfl ?_
    exact ⟨rfl, by (repeat (first | exact Kept.refl _ | assumption | refine Kept.alloc ?_ _ | refine Kept.ext ?_ _ | refine Kept.drew ?_ | refine Kept.drewN ?_ _))⟩
end Go.Proofs.Ytoejdfpmmgldpaa
