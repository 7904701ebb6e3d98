/- Contracts: elements of residuals, of the program and of the reference. Conditions: the lists' lengths are ints. -/
import Derived.Test.YtoejdfpmmgldpaaRe
namespace Go.Proofs.Ytoejdfpmmgldpaa
set_option linter.unusedVariables false
set_option linter.unusedSimpArgs false
open Go.RowKit Go.Deep
theorem res_in {n : Nat} {m : Nat → Nat} {f : Nat → Nat → Int} {rl : Nat} {R : Nat → Nat → Int} {cl : Nat} {C : Nat → Nat → Int} {i j : Int} (h : opnE n m f rl R cl C = 0) (hi : 0 ≤ i ∧ i ≤ (n : Int) - 1) (hj : 0 ≤ j ∧ j ≤ (m 0 : Int) - 1) :
    resE n m f rl R cl C i j = 0 ∧ resN n m f rl R cl C i j = frN (leftV f rl R C i j) (D rl (subF f R C)) ∧ resD n m f rl R cl C i j = frD (leftV f rl R C i j) (D rl (subF f R C)) := by
  have e : resE n m f rl R cl C i j = 0 := by unfold resE; rw [if_pos h, if_pos ⟨hi, hj⟩]
  exact ⟨e, if_pos e, if_pos e⟩
theorem res_no {n : Nat} {m : Nat → Nat} {f : Nat → Nat → Int} {rl : Nat} {R : Nat → Nat → Int} {cl : Nat} {C : Nat → Nat → Int} {i j e : Int} (h : resE n m f rl R cl C i j = e) (he : e ≠ 0) :
    resN n m f rl R cl C i j = 0 ∧ resD n m f rl R cl C i j = 0 := by
  subst h
  exact ⟨if_neg he, if_neg he⟩
set_option maxRecDepth 100000 in
set_option maxHeartbeats 8000000 in
theorem cRes_any (A : Option Addr) (n cap : Nat) (B : Nat → Option Addr) (m cp : Nat → Nat) (f : Nat → Nat → Int) (RA : Option Addr) (rl rc : Nat) (R : Nat → Nat → Int) (CA : Option Addr) (cl cc : Nat) (C : Nat → Nat → Int) (i j : Int) (w : World)
    (hn : n ≤ 9223372036854775807) (hrl : rl ≤ 9223372036854775807) (hcl : cl ≤ 9223372036854775807) (h : MatAt w A n B m cp f) (hR : RowsAt w RA rl 1 R) (hC : RowsAt w CA cl 1 C) :
    Calls Try.prog 18 #[.slice A n cap, .slice RA rl rc, .slice CA cl cc, .int .i64 i, .int .i64 j] w fun e w' => e = .returned (.tuple #[.agg #[.int .i64 (resN n m f rl R cl C i j), .int .i64 (resD n m f rl R cl C i j)], .int .i64 (resE n m f rl R cl C i j)]) ∧ Kept w w' := by
  have HM := Lib.hid h
  have HR := Lib.hid hR
  have HC := Lib.hid hC
  clear h hR hC
  by_cases hv : opnE n m f rl R cl C = 0
  · obtain ⟨hc, hd⟩ := opnE_0 hv
    obtain ⟨-, hs, -, -⟩ := choE_0 hc
    obtain ⟨rfl, hk⟩ := Mok.of hc
    have hdb := hk.bd
    obtain ⟨dd, hdd⟩ : ∃ x, D rl (subF f R C) = x := ⟨_, rfl⟩
    obtain ⟨lv, hlv⟩ : ∃ x, leftV f rl R C i j = x := ⟨_, rfl⟩
    obtain ⟨b, off, rfl, hb, c00⟩ := HM.out.at (k := 0) (by have := hk.n1; omega)
    have LB : Lower b w.heap.size := ⟨hb⟩
    rw [Nat.add_zero] at c00
    have hn6 := hk.n1
    have hm6 := hk.m1
    have HO := Lib.hid hv
    have HK := Lib.hid hk
    have HS := Lib.hid hs
    have HD := Lib.hid hdd
    have HL := Lib.hid hlv
    by_cases hi : 0 ≤ i ∧ i ≤ (n : Int) - 1
    · have f1 : decide (0 ≤ i ∧ i ≤ (n : Int) - 1) = true := decide_eq_true hi
      by_cases hj : 0 ≤ j ∧ j ≤ (m 0 : Int) - 1
      · have f2 : decide (0 ≤ j ∧ j ≤ (m 0 : Int) - 1) = true := decide_eq_true hj
        obtain ⟨e1, e2, e3⟩ := res_in hv hi hj
        rw [e1, e2, e3, hdd, hlv]
        have hlb := leftV_bd hk hs (show 0 ≤ i ∧ i < n by omega) (show 0 ≤ j ∧ j < m 0 by omega)
        rw [hlv] at hlb
        rw [hdd] at hd hdb
        have hleft : ∀ w', Kept w w' → Calls Try.prog 56 #[.agg #[.slice (some ⟨b, off, none⟩) n cap, .slice RA rl rc, .slice CA rl cc, .int .i64 dd], .int .i64 i, .int .i64 j] w' fun e w'' => e = .returned (.int .i64 lv) ∧ Kept w' w'' := fun w' hk => by
          have := cleft_any (some ⟨b, off, none⟩) n cap B m cp f RA rl rc R CA cc C dd i j w' HK.out HS.out (by omega) (by omega) (HM.out.of hk) (HR.out.of hk) (HC.out.of hk)
          rwa [HL.out] at this
        have HLEFT := Lib.hid hleft
        have HI := Lib.hid hi
        have HJ := Lib.hid hj
        clear hleft hk hs hv hc hdd hlv e1 e2 e3 hi hj
        go_enter Try.func18, Try.ntmps18
        go_wp2_with (first | (go_at_call 53; refine (copenok_any _ _ _ _ _ _ _ _ _ _ _ _ _ _ _ _ hn hrl hcl (HM.out.of (by (repeat (first | exact Kept.refl _ | assumption | refine Kept.alloc ?_ _ | refine Kept.ext ?_ _ | refine Kept.drew ?_ | refine Kept.drewN ?_ _)))) (HR.out.of (by (repeat (first | exact Kept.refl _ | assumption | refine Kept.alloc ?_ _ | refine Kept.ext ?_ _ | refine Kept.drew ?_ | refine Kept.drewN ?_ _)))) (HC.out.of (by (repeat (first | exact Kept.refl _ | assumption | refine Kept.alloc ?_ _ | refine Kept.ext ?_ _ | refine Kept.drew ?_ | refine Kept.drewN ?_ _)))) HO.out).mono ?_; rintro e w1 ⟨rfl, x, rfl⟩; rw [HD.out]) | (go_at_call 54; refine (from_any _ _ _ _).mono ?_; rintro e w1 ⟨rfl, rfl⟩))
        ((first | (with_reducible refine wp_region_tail2 7 (by kernel_rfl) (by kernel_rfl) ?_) | refine wp_region_tail 7 (by kernel_rfl) (by kernel_rfl) ?_); simp only [List.take_succ_cons, List.take_zero, List.drop_succ_cons, List.drop_zero]; (repeat (go_big_quiet_step (first | (go_at_call 56; exact Calls.kept_of (HLEFT.out _ (by (repeat (first | exact Kept.refl _ | assumption | refine Kept.alloc ?_ _ | refine Kept.ext ?_ _ | refine Kept.drew ?_ | refine Kept.drewN ?_ _))))) | (go_at_call 55; exact Calls.kept_of (fraction_any _ _ _ (by omega) (by omega)))))); refine wpQuiet_nil ?_; intro x)
        go_wp2
        refine bodyPost_ret (by simp only [results, Try.results18]; go_simp; rfl) rfl ?_
        exact ⟨rfl, by (repeat (first | exact Kept.refl _ | assumption | refine Kept.alloc ?_ _ | refine Kept.ext ?_ _ | refine Kept.drew ?_ | refine Kept.drewN ?_ _))⟩
      · have f2 : decide (0 ≤ j ∧ j ≤ (m 0 : Int) - 1) = false := decide_eq_false hj
        have e1 : resE n m f rl R rl C i j = 5 := by unfold resE; rw [if_pos hv, if_neg (fun q => hj q.2)]
        obtain ⟨e2, e3⟩ := res_no e1 (by decide)
        rw [e1, e2, e3]
        have HJ := Lib.hid hj
        clear hk hs hv hc hdd hlv e1 e2 e3 hj
        go_enter Try.func18, Try.ntmps18
        go_wp2_with (first | (go_at_call 53; refine (copenok_any _ _ _ _ _ _ _ _ _ _ _ _ _ _ _ _ hn hrl hcl (HM.out.of (by (repeat (first | exact Kept.refl _ | assumption | refine Kept.alloc ?_ _ | refine Kept.ext ?_ _ | refine Kept.drew ?_ | refine Kept.drewN ?_ _)))) (HR.out.of (by (repeat (first | exact Kept.refl _ | assumption | refine Kept.alloc ?_ _ | refine Kept.ext ?_ _ | refine Kept.drew ?_ | refine Kept.drewN ?_ _)))) (HC.out.of (by (repeat (first | exact Kept.refl _ | assumption | refine Kept.alloc ?_ _ | refine Kept.ext ?_ _ | refine Kept.drew ?_ | refine Kept.drewN ?_ _)))) HO.out).mono ?_; rintro e w1 ⟨rfl, x, rfl⟩; rw [HD.out]) | (go_at_call 54; refine (from_any _ _ _ _).mono ?_; rintro e w1 ⟨rfl, rfl⟩))
        refine bodyPost_ret (by simp only [results, Try.results18]; go_simp; rfl) rfl ?_
        exact ⟨rfl, by (repeat (first | exact Kept.refl _ | assumption | refine Kept.alloc ?_ _ | refine Kept.ext ?_ _ | refine Kept.drew ?_ | refine Kept.drewN ?_ _))⟩
    · have f1 : decide (0 ≤ i ∧ i ≤ (n : Int) - 1) = false := decide_eq_false hi
      have e1 : resE n m f rl R rl C i j = 5 := by unfold resE; rw [if_pos hv, if_neg (fun q => hi q.1)]
      obtain ⟨e2, e3⟩ := res_no e1 (by decide)
      rw [e1, e2, e3]
      have HI := Lib.hid hi
      clear hk hs hv hc hdd hlv e1 e2 e3 hi
      go_enter Try.func18, Try.ntmps18
      go_wp2_with (first | (go_at_call 53; refine (copenok_any _ _ _ _ _ _ _ _ _ _ _ _ _ _ _ _ hn hrl hcl (HM.out.of (by (repeat (first | exact Kept.refl _ | assumption | refine Kept.alloc ?_ _ | refine Kept.ext ?_ _ | refine Kept.drew ?_ | refine Kept.drewN ?_ _)))) (HR.out.of (by (repeat (first | exact Kept.refl _ | assumption | refine Kept.alloc ?_ _ | refine Kept.ext ?_ _ | refine Kept.drew ?_ | refine Kept.drewN ?_ _)))) (HC.out.of (by (repeat (first | exact Kept.refl _ | assumption | refine Kept.alloc ?_ _ | refine Kept.ext ?_ _ | refine Kept.drew ?_ | refine Kept.drewN ?_ _)))) HO.out).mono ?_; rintro e w1 ⟨rfl, x, rfl⟩; rw [HD.out]) | (go_at_call 54; refine (from_any _ _ _ _).mono ?_; rintro e w1 ⟨rfl, rfl⟩))
      refine bodyPost_ret (by simp only [results, Try.results18]; go_simp; rfl) rfl ?_
      exact ⟨rfl, by (repeat (first | exact Kept.refl _ | assumption | refine Kept.alloc ?_ _ | refine Kept.ext ?_ _ | refine Kept.drew ?_ | refine Kept.drewN ?_ _))⟩
  · have e1 : resE n m f rl R cl C i j = opnE n m f rl R cl C := if_neg hv
    obtain ⟨e, he⟩ : ∃ e, opnE n m f rl R cl C = e := ⟨_, rfl⟩
    rw [he] at e1
    have hv' := hv
    rw [he] at hv
    obtain ⟨e2, e3⟩ := res_no e1 hv
    rw [e1, e2, e3]
    have HO := Lib.hid he
    have HV := Lib.hid hv'
    clear he hv' e1 e2 e3
    have hv2 : (e == 0) = false := by simpa using hv
    have hv3 : decide (e = 0) = false := by simpa using hv
    go_enter Try.func18, Try.ntmps18
    go_wp2_with (go_at_call 53; refine (copenno_any _ _ _ _ _ _ _ _ _ _ _ _ _ _ _ _ hn hrl hcl (HM.out.of (by (repeat (first | exact Kept.refl _ | assumption | refine Kept.alloc ?_ _ | refine Kept.ext ?_ _ | refine Kept.drew ?_ | refine Kept.drewN ?_ _)))) (HR.out.of (by (repeat (first | exact Kept.refl _ | assumption | refine Kept.alloc ?_ _ | refine Kept.ext ?_ _ | refine Kept.drew ?_ | refine Kept.drewN ?_ _)))) (HC.out.of (by (repeat (first | exact Kept.refl _ | assumption | refine Kept.alloc ?_ _ | refine Kept.ext ?_ _ | refine Kept.drew ?_ | refine Kept.drewN ?_ _)))) HV.out).mono ?_; rintro e w1 ⟨rfl, x, rfl⟩; rw [HO.out])
    refine bodyPost_ret (by simp only [results, Try.results18]; go_simp; rfl) rfl ?_
    exact ⟨rfl, by (repeat (first | exact Kept.refl _ | assumption | refine Kept.alloc ?_ _ | refine Kept.ext ?_ _ | refine Kept.drew ?_ | refine Kept.drewN ?_ _))⟩
set_option maxRecDepth 100000 in
set_option maxHeartbeats 8000000 in
theorem r6Res_any (A : Option Addr) (n cap : Nat) (B : Nat → Option Addr) (m cp : Nat → Nat) (f : Nat → Nat → Int) (RA : Option Addr) (rl rc : Nat) (R : Nat → Nat → Int) (CA : Option Addr) (cl cc : Nat) (C : Nat → Nat → Int) (i j : Int) (w : World)
    (hn : n ≤ 9223372036854775807) (hrl : rl ≤ rc ∧ rc ≤ maxLen) (hcl : cl ≤ cc ∧ cc ≤ maxLen) (h : MatAt w A n B m cp f) (hR : RowsAt w RA rl 1 R) (hC : RowsAt w CA cl 1 C) :
    Calls Try.prog 19 #[.slice A n cap, .slice RA rl rc, .slice CA cl cc, .int .i64 i, .int .i64 j] w fun e w' => e = .returned (.tuple #[.agg #[.int .i64 (resN n m f rl R cl C i j), .int .i64 (resD n m f rl R cl C i j)], .int .i64 (resE n m f rl R cl C i j)]) ∧ Kept w w' := by
  have HM := Lib.hid h
  have HR := Lib.hid hR
  have HC := Lib.hid hC
  clear h hR hC
  by_cases hv : opnE n m f rl R cl C = 0
  · obtain ⟨hc, hd⟩ := opnE_0 hv
    obtain ⟨-, hs, -, -⟩ := choE_0 hc
    obtain ⟨rfl, hk⟩ := Mok.of hc
    have hdb := hk.bd
    obtain ⟨dd, hdd⟩ : ∃ x, D rl (subF f R C) = x := ⟨_, rfl⟩
    obtain ⟨lv, hlv⟩ : ∃ x, leftV f rl R C i j = x := ⟨_, rfl⟩
    obtain ⟨b, off, rfl, hb, c00⟩ := HM.out.at (k := 0) (by have := hk.n1; omega)
    have LB : Lower b w.heap.size := ⟨hb⟩
    rw [Nat.add_zero] at c00
    have hn6 := hk.n1
    have hm6 := hk.m1
    have HO := Lib.hid hv
    have HK := Lib.hid hk
    have HS := Lib.hid hs
    have HD := Lib.hid hdd
    have HL := Lib.hid hlv
    by_cases hi : 0 ≤ i ∧ i ≤ (n : Int) - 1
    · have f1 : decide (0 ≤ i ∧ i ≤ (n : Int) - 1) = true := decide_eq_true hi
      by_cases hj : 0 ≤ j ∧ j ≤ (m 0 : Int) - 1
      · have f2 : decide (0 ≤ j ∧ j ≤ (m 0 : Int) - 1) = true := decide_eq_true hj
        obtain ⟨e1, e2, e3⟩ := res_in hv hi hj
        rw [e1, e2, e3, hdd, hlv]
        have hlb := leftV_bd hk hs (show 0 ≤ i ∧ i < n by omega) (show 0 ≤ j ∧ j < m 0 by omega)
        rw [hlv] at hlb
        rw [hdd] at hd hdb
        have hleft : ∀ w', Kept w w' → Calls Try.prog 60 #[.slice (some ⟨b, off, none⟩) n cap, .slice RA rl rc, .slice CA rl cc, .int .i64 i, .int .i64 j] w' fun e w'' => e = .returned (.int .i64 lv) ∧ Kept w' w'' := fun w' hk => by
          have := r6bord_any (some ⟨b, off, none⟩) n cap B m cp f RA rl rc R CA cc C i j w' HK.out HS.out (by omega) (by omega) (HM.out.of hk) (HR.out.of hk) (HC.out.of hk)
          rwa [HL.out] at this
        have HLEFT := Lib.hid hleft
        have HI := Lib.hid hi
        have HJ := Lib.hid hj
        clear hleft hk hs hv hc hdd hlv e1 e2 e3 hi hj
        go_enter Try.func19, Try.ntmps19
        go_wp2_with (first | (go_at_call 57; refine (r6div_any _ _ _ _ _ _ _ _ _ _ _ _ _ _ _ _ hn hrl hcl (HM.out.of (by (repeat (first | exact Kept.refl _ | assumption | refine Kept.alloc ?_ _ | refine Kept.ext ?_ _ | refine Kept.drew ?_ | refine Kept.drewN ?_ _)))) (HR.out.of (by (repeat (first | exact Kept.refl _ | assumption | refine Kept.alloc ?_ _ | refine Kept.ext ?_ _ | refine Kept.drew ?_ | refine Kept.drewN ?_ _)))) (HC.out.of (by (repeat (first | exact Kept.refl _ | assumption | refine Kept.alloc ?_ _ | refine Kept.ext ?_ _ | refine Kept.drew ?_ | refine Kept.drewN ?_ _))))).mono ?_; rintro e w1 ⟨rfl, x, rfl⟩; rw [HO.out, if_pos rfl, HD.out]) | (go_at_call 58; refine (r6within_any _ _ _ _).mono ?_; rintro e w1 ⟨rfl, rfl⟩) | (go_at_call 60; (with_reducible refine (HLEFT.out _ (by (repeat (first | exact Kept.refl _ | assumption | refine Kept.alloc ?_ _ | refine Kept.ext ?_ _ | refine Kept.drew ?_ | refine Kept.drewN ?_ _)))).mono ?_); rintro e w1 ⟨rfl, x2, rfl⟩) | (go_at_call 59; refine (ratio_any _ _ _ (by omega) (by omega)).mono ?_; rintro e w1 ⟨rfl, x3, rfl⟩))
        refine bodyPost_ret (by simp only [results, Try.results19]; go_simp; rfl) rfl ?_
        exact ⟨rfl, by (repeat (first | exact Kept.refl _ | assumption | refine Kept.alloc ?_ _ | refine Kept.ext ?_ _ | refine Kept.drew ?_ | refine Kept.drewN ?_ _))⟩
      · have f2 : decide (0 ≤ j ∧ j ≤ (m 0 : Int) - 1) = false := decide_eq_false hj
        have e1 : resE n m f rl R rl C i j = 5 := by unfold resE; rw [if_pos hv, if_neg (fun q => hj q.2)]
        obtain ⟨e2, e3⟩ := res_no e1 (by decide)
        rw [e1, e2, e3]
        have HJ := Lib.hid hj
        clear hk hs hv hc hdd hlv e1 e2 e3 hj
        go_enter Try.func19, Try.ntmps19
        go_wp2_with (first | (go_at_call 57; refine (r6div_any _ _ _ _ _ _ _ _ _ _ _ _ _ _ _ _ hn hrl hcl (HM.out.of (by (repeat (first | exact Kept.refl _ | assumption | refine Kept.alloc ?_ _ | refine Kept.ext ?_ _ | refine Kept.drew ?_ | refine Kept.drewN ?_ _)))) (HR.out.of (by (repeat (first | exact Kept.refl _ | assumption | refine Kept.alloc ?_ _ | refine Kept.ext ?_ _ | refine Kept.drew ?_ | refine Kept.drewN ?_ _)))) (HC.out.of (by (repeat (first | exact Kept.refl _ | assumption | refine Kept.alloc ?_ _ | refine Kept.ext ?_ _ | refine Kept.drew ?_ | refine Kept.drewN ?_ _))))).mono ?_; rintro e w1 ⟨rfl, x, rfl⟩; rw [HO.out, if_pos rfl, HD.out]) | (go_at_call 58; refine (r6within_any _ _ _ _).mono ?_; rintro e w1 ⟨rfl, rfl⟩))
        refine bodyPost_ret (by simp only [results, Try.results19]; go_simp; rfl) rfl ?_
        exact ⟨rfl, by (repeat (first | exact Kept.refl _ | assumption | refine Kept.alloc ?_ _ | refine Kept.ext ?_ _ | refine Kept.drew ?_ | refine Kept.drewN ?_ _))⟩
    · have f1 : decide (0 ≤ i ∧ i ≤ (n : Int) - 1) = false := decide_eq_false hi
      have e1 : resE n m f rl R rl C i j = 5 := by unfold resE; rw [if_pos hv, if_neg (fun q => hi q.1)]
      obtain ⟨e2, e3⟩ := res_no e1 (by decide)
      rw [e1, e2, e3]
      have HI := Lib.hid hi
      clear hk hs hv hc hdd hlv e1 e2 e3 hi
      go_enter Try.func19, Try.ntmps19
      go_wp2_with (first | (go_at_call 57; refine (r6div_any _ _ _ _ _ _ _ _ _ _ _ _ _ _ _ _ hn hrl hcl (HM.out.of (by (repeat (first | exact Kept.refl _ | assumption | refine Kept.alloc ?_ _ | refine Kept.ext ?_ _ | refine Kept.drew ?_ | refine Kept.drewN ?_ _)))) (HR.out.of (by (repeat (first | exact Kept.refl _ | assumption | refine Kept.alloc ?_ _ | refine Kept.ext ?_ _ | refine Kept.drew ?_ | refine Kept.drewN ?_ _)))) (HC.out.of (by (repeat (first | exact Kept.refl _ | assumption | refine Kept.alloc ?_ _ | refine Kept.ext ?_ _ | refine Kept.drew ?_ | refine Kept.drewN ?_ _))))).mono ?_; rintro e w1 ⟨rfl, x, rfl⟩; rw [HO.out, if_pos rfl, HD.out]) | (go_at_call 58; refine (r6within_any _ _ _ _).mono ?_; rintro e w1 ⟨rfl, rfl⟩))
      refine bodyPost_ret (by simp only [results, Try.results19]; go_simp; rfl) rfl ?_
      exact ⟨rfl, by (repeat (first | exact Kept.refl _ | assumption | refine Kept.alloc ?_ _ | refine Kept.ext ?_ _ | refine Kept.drew ?_ | refine Kept.drewN ?_ _))⟩
  · have e1 : resE n m f rl R cl C i j = opnE n m f rl R cl C := if_neg hv
    obtain ⟨e, he⟩ : ∃ e, opnE n m f rl R cl C = e := ⟨_, rfl⟩
    rw [he] at e1
    have hv' := hv
    rw [he] at hv
    obtain ⟨e2, e3⟩ := res_no e1 hv
    rw [e1, e2, e3]
    have HO := Lib.hid he
    have HV := Lib.hid hv'
    clear he hv' e1 e2 e3
    have hv2 : (e == 0) = false := by simpa using hv
    have hv3 : decide (e = 0) = false := by simpa using hv
    go_enter Try.func19, Try.ntmps19
    go_wp2_with (go_at_call 57; refine (r6div_any _ _ _ _ _ _ _ _ _ _ _ _ _ _ _ _ hn hrl hcl (HM.out.of (by (repeat (first | exact Kept.refl _ | assumption | refine Kept.alloc ?_ _ | refine Kept.ext ?_ _ | refine Kept.drew ?_ | refine Kept.drewN ?_ _)))) (HR.out.of (by (repeat (first | exact Kept.refl _ | assumption | refine Kept.alloc ?_ _ | refine Kept.ext ?_ _ | refine Kept.drew ?_ | refine Kept.drewN ?_ _)))) (HC.out.of (by (repeat (first | exact Kept.refl _ | assumption | refine Kept.alloc ?_ _ | refine Kept.ext ?_ _ | refine Kept.drew ?_ | refine Kept.drewN ?_ _))))).mono ?_; rintro e w1 ⟨rfl, x, rfl⟩; rw [HO.out, if_neg hv])
    refine bodyPost_ret (by simp only [results, Try.results19]; go_simp; rfl) rfl ?_
    exact ⟨rfl, by (repeat (first | exact Kept.refl _ | assumption | refine Kept.alloc ?_ _ | refine Kept.ext ?_ _ | refine Kept.drew ?_ | refine Kept.drewN ?_ _))⟩
end Go.Proofs.Ytoejdfpmmgldpaa
