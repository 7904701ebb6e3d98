/- Contracts: how far products with a skeleton can be off, of the program and of the reference. Conditions: the lists' lengths are ints. -/
import Derived.Test.YtoejdfpmmgldpaaFb
namespace Go.Proofs.Ytoejdfpmmgldpaa
set_option linter.unusedVariables false
set_option linter.unusedSimpArgs false
open Go.RowKit Go.Deep
/-- The sum of the sizes. -/
def aTerm (X : Nat → Nat → Int) (j : Nat) : Int := ((X j 0).natAbs : Int)
section
variable (n : Nat) (m : Nat → Nat) (f : Nat → Nat → Int) (rl : Nat) (R : Nat → Nat → Int) (cl : Nat) (C : Nat → Nat → Int) (xl : Nat) (X : Nat → Nat → Int)
def offN : Int := if mulE n m f rl R cl C xl X = 0 then frN (wmat f rl R C (m 0) n * sumZ (aTerm X) xl) ((D rl (subF f R C)).natAbs : Int) else 0
def offD : Int := if mulE n m f rl R cl C xl X = 0 then frD (wmat f rl R C (m 0) n * sumZ (aTerm X) xl) ((D rl (subF f R C)).natAbs : Int) else 0
end
theorem fr_scale {g x y : Int} (hg : 0 < g) (hy : y ≠ 0) : frN (g * x) (g * y) = frN x y ∧ frD (g * x) (g * y) = frD x y := by
  obtain ⟨k, rfl⟩ := Int.eq_ofNat_of_zero_le (Int.le_of_lt hg)
  have e : (Nat.gcd ((k : Int) * x).natAbs ((k : Int) * y).natAbs : Int) = k * (Nat.gcd x.natAbs y.natAbs : Int) := by
    rw [Int.natAbs_mul, Int.natAbs_mul, Int.natAbs_natCast, Nat.gcd_mul_left, Int.natCast_mul]
  unfold frN frD
  rw [e]
  constructor
  · have hs : (k : Int) * y < 0 ↔ y < 0 := by
      constructor
      · intro h
        by_cases h2 : y < 0
        · exact h2
        · have := Int.mul_nonneg (show (0 : Int) ≤ k by omega) (show 0 ≤ y by omega)
          omega
      · intro h
        exact Int.mul_neg_of_pos_of_neg hg h
    by_cases h : y < 0
    · rw [if_pos (hs.2 h), if_pos h, ← Int.mul_neg, Int.mul_ediv_mul_of_pos _ _ hg]
    · rw [if_neg (fun q => h (hs.1 q)), if_neg h, Int.mul_ediv_mul_of_pos _ _ hg]
  · rw [Int.natAbs_mul, Int.natAbs_natCast, Int.natCast_mul, Int.mul_ediv_mul_of_pos _ _ hg]
/-- A reduced fraction times a number. -/
theorem fr_times {a d s : Int} (hd : 0 < d) : frN (frN a d * s) (frD a d) = frN (a * s) d ∧ frD (frN a d * s) (frD a d) = frD (a * s) d := by
  obtain ⟨g0, ⟨p, hp⟩, ⟨q, hq⟩⟩ := g_pos (n := a) (show d ≠ 0 by omega)
  have e1 : frN a d = p := by
    unfold frN
    rw [if_neg (by omega)]
    obtain ⟨g, hg⟩ : ∃ g : Int, (Nat.gcd a.natAbs d.natAbs : Int) = g := ⟨_, rfl⟩
    rw [hg] at hp g0 ⊢
    rw [hp, Int.mul_ediv_cancel_left _ (by omega)]
  have e2 : frD a d = q := by
    unfold frD
    rw [show (d.natAbs : Int) = d by omega]
    obtain ⟨g, hg⟩ : ∃ g : Int, (Nat.gcd a.natAbs d.natAbs : Int) = g := ⟨_, rfl⟩
    rw [hg] at hq g0 ⊢
    rw [hq, Int.mul_ediv_cancel_left _ (by omega)]
  rw [e1, e2]
  obtain ⟨g, hg⟩ : ∃ g : Int, (Nat.gcd a.natAbs d.natAbs : Int) = g := ⟨_, rfl⟩
  rw [hg] at hp hq g0
  have hq0 : q ≠ 0 := by
    rintro rfl
    rw [Int.mul_zero] at hq
    omega
  have := fr_scale (g := g) (x := p * s) (y := q) g0 hq0
  rw [← Int.mul_assoc, ← hp, ← hq] at this
  exact ⟨this.1.symm, this.2.symm⟩
theorem aSum_bd {X : Nat → Nat → Int} {M xl : Nat} (hM : M ≤ 6) (hf : facB M xl X = true) {q : Nat} (hq : q ≤ xl) : 0 ≤ sumZ (aTerm X) q ∧ sumZ (aTerm X) q ≤ 6000 := by
  obtain ⟨he, hx⟩ := facB_at hf
  have h0 : ∀ q, 0 ≤ sumZ (aTerm X) q := by
    intro q
    induction q with
    | zero => exact Int.le_refl _
    | succ q ih =>
      show 0 ≤ sumZ (aTerm X) q + aTerm X q
      unfold aTerm at *
      omega
  have := sumZ_bd (f := aTerm X) (b := 1000) (n := q) (fun k hk => by have := hx k (by omega); unfold aTerm; omega)
  have := h0 q
  omega
set_option maxRecDepth 100000 in
set_option maxHeartbeats 16000000 in
theorem cOff_any (A : Option Addr) (n cap : Nat) (B : Nat → Option Addr) (m cp : Nat → Nat) (f : Nat → Nat → Int) (RA : Option Addr) (rl rc : Nat) (R : Nat → Nat → Int) (CA : Option Addr) (cl cc : Nat) (C : Nat → Nat → Int) (XA : Option Addr) (xl xc : Nat) (X : Nat → Nat → Int) (w : World)
    (hn : n ≤ 9223372036854775807) (hrl : rl ≤ 9223372036854775807) (hcl : cl ≤ 9223372036854775807) (hxl : xl ≤ 9223372036854775807) (h : MatAt w A n B m cp f) (hR : RowsAt w RA rl 1 R) (hC : RowsAt w CA cl 1 C) (hX : RowsAt w XA xl 1 X) :
    Calls Try.prog 44 #[.slice A n cap, .slice RA rl rc, .slice CA cl cc, .slice XA xl xc] w fun e w' => e = .returned (.tuple #[.agg #[.int .i64 (offN n m f rl R cl C xl X), .int .i64 (offD n m f rl R cl C xl X)], .int .i64 (mulE n m f rl R cl C xl X)]) ∧ Kept w w' := by
  have HM := Lib.hid h
  have HR := Lib.hid hR
  have HC := Lib.hid hC
  have HX := Lib.hid hX
  clear h hR hC hX
  by_cases hE : mulE n m f rl R cl C xl X = 0
  · rw [show offN n m f rl R cl C xl X = frN (wmat f rl R C (m 0) n * sumZ (aTerm X) xl) ((D rl (subF f R C)).natAbs : Int) from if_pos hE, show offD n m f rl R cl C xl X = frD (wmat f rl R C (m 0) n * sumZ (aTerm X) xl) ((D rl (subF f R C)).natAbs : Int) from if_pos hE, hE]
    have HE := Lib.hid hE
    obtain ⟨hc, hf, ho⟩ := mulE_0 hE
    obtain ⟨-, hd⟩ := opnE_0 ho
    obtain ⟨hv, hs, -, rfl⟩ := choE_0 hc
    obtain ⟨-, hk⟩ := Mok.of hc
    obtain ⟨hn1, hm1, hmm, hff⟩ := valE_0 hv
    obtain ⟨hxe, hxb⟩ := facB_at hf
    have hdb := hk.bd
    have hwb := wmat_bd hk hs n (Nat.le_refl _)
    obtain ⟨dd, hdd⟩ : ∃ x, D rl (subF f R C) = x := ⟨_, rfl⟩
    obtain ⟨ww, hww⟩ : ∃ x, wmat f rl R C (m 0) n = x := ⟨_, rfl⟩
    rw [hdd] at hd hdb ⊢
    rw [hww] at hwb ⊢
    rw [← (fr_times (a := ww) (s := sumZ (aTerm X) xl) (show 0 < (dd.natAbs : Int) by omega)).1, ← (fr_times (a := ww) (s := sumZ (aTerm X) xl) (show 0 < (dd.natAbs : Int) by omega)).2]
    have hwst := fun w' h1 h2 h3 => cworst_any A n cap B m cp f RA rl rc R CA cc C dd w' hk hs ⟨hd, hdb⟩ h1 h2 h3
    rw [hww] at hwst
    have b6 := frN_bd (n := ww) (b := 720000000000000) (by omega) (show (dd.natAbs : Int) ≠ 0 by omega)
    have b7 := frD_pos (n := ww) (show (dd.natAbs : Int) ≠ 0 by omega)
    have b8 : frD ww (dd.natAbs : Int) ≤ 720000000000000 := by
      have : frD ww (dd.natAbs : Int) ≤ (dd.natAbs : Int) := by
        unfold frD
        rw [Int.natAbs_natCast]
        exact Int.ediv_le_self _ (by omega)
      omega
    obtain ⟨fn, hfn⟩ : ∃ x, frN ww (dd.natAbs : Int) = x := ⟨_, rfl⟩
    obtain ⟨fd, hfd⟩ : ∃ x, frD ww (dd.natAbs : Int) = x := ⟨_, rfl⟩
    rw [hfn] at hwst b6 ⊢
    rw [hfd] at hwst b7 b8 ⊢
    have HWST := Lib.hid hwst
    have HF := Lib.hid hf
    have HDD := Lib.hid hdd
    have HXB := Lib.hid hxb
    have hm6 := hm1.2
    clear hE hc hf ho hv hs hk hmm hff hxe hxb hdd hww hwst hfn hfd hn1 hm1
    go_enter Try.func44, Try.ntmps44
    go_wp2_with (go_at_call 82; refine (cmulok_any _ _ _ _ _ _ _ _ _ _ _ _ _ _ _ _ _ _ _ _ hn hrl hcl hxl (HM.out.of (by (repeat (first | exact Kept.refl _ | assumption | refine Kept.alloc ?_ _ | refine Kept.ext ?_ _ | refine Kept.drew ?_ | refine Kept.drewN ?_ _)))) (HR.out.of (by (repeat (first | exact Kept.refl _ | assumption | refine Kept.alloc ?_ _ | refine Kept.ext ?_ _ | refine Kept.drew ?_ | refine Kept.drewN ?_ _)))) (HC.out.of (by (repeat (first | exact Kept.refl _ | assumption | refine Kept.alloc ?_ _ | refine Kept.ext ?_ _ | refine Kept.drew ?_ | refine Kept.drewN ?_ _)))) (HX.out.of (by (repeat (first | exact Kept.refl _ | assumption | refine Kept.alloc ?_ _ | refine Kept.ext ?_ _ | refine Kept.drew ?_ | refine Kept.drewN ?_ _)))) HE.out).mono ?_; rintro e w1 ⟨rfl, x, rfl⟩; rw [HDD.out])
    go_loopw [12, 30] (fun s i wr => ∃ q : Nat, q ≤ xl ∧ i = .int .i64 q ∧ s = .int .i64 (sumZ (aTerm X) q) ∧ ∃ y, wr = ext (World.alloc (ext (w.alloc (.cells #[.int .i64 0, .int .i64 0] 32)) x) (.cells #[.slice A n cap, .slice RA rl rc, .slice CA rl cc, .int .i64 dd] 74)) y) (fun _ i _ => xl - (intOf i).toNat)
    case atStart => exact ⟨0, by omega, rfl, rfl, show Kept _ _ by (repeat (first | exact Kept.refl _ | assumption | refine Kept.alloc ?_ _ | refine Kept.ext ?_ _ | refine Kept.drew ?_ | refine Kept.drewN ?_ _))⟩
    case round =>
      obtain ⟨q, hq, rfl, rfl, y, rfl⟩ := hrel
      have b2 := aSum_bd hm6 HF.out hq
      by_cases hlq : q < xl
      · obtain ⟨xb, xo, rfl, hxb, c3, -⟩ := rows1 (k := q) HX.out hlq
        have LX : Lower xb w.heap.size := ⟨hxb⟩
        have b1 := HXB.out q hlq
        obtain ⟨S, hS⟩ : ∃ x, sumZ (aTerm X) q = x := ⟨_, rfl⟩
        obtain ⟨z, hz⟩ : ∃ x, X q 0 = x := ⟨_, rfl⟩
        have hS2 : sumZ (aTerm X) (q + 1) = S + (z.natAbs : Int) := by rw [← hS, ← hz]; rfl
        rw [hS] at b2 ⊢
        rw [hz] at b1 c3
        have hmx : max z (-z) = (z.natAbs : Int) := by omega
        have HS2 := Lib.hid hS2
        clear hS hS2 hz
        go_wp2
        go_roundw
        case rel => exact ⟨q + 1, by omega, by go_num, by rw [HS2.out], show Kept _ _ by (repeat (first | exact Kept.refl _ | assumption | refine Kept.alloc ?_ _ | refine Kept.ext ?_ _ | refine Kept.drew ?_ | refine Kept.drewN ?_ _))⟩
        case measure => simp [intOf]; omega
      · obtain rfl : q = xl := by omega
        obtain ⟨S, hS⟩ : ∃ x, sumZ (aTerm X) q = x := ⟨_, rfl⟩
        rw [hS] at b2 ⊢
        have b9 := mul_abs (c := 720000000000000) (d := 6000) (a := fn) (b := S) (by omega) (by omega) (by decide) (by decide)
        obtain ⟨tt, htt⟩ : ∃ x, fn * S = x := ⟨_, rfl⟩
        rw [htt] at b9
        have HSS := Lib.hid hS
        have HTT := Lib.hid htt
        clear hS
        go_wp2_with (first | (go_at_call 69; refine (HWST.out _ (HM.out.of (by (repeat (first | exact Kept.refl _ | assumption | refine Kept.alloc ?_ _ | refine Kept.ext ?_ _ | refine Kept.drew ?_ | refine Kept.drewN ?_ _)))) (HR.out.of (by (repeat (first | exact Kept.refl _ | assumption | refine Kept.alloc ?_ _ | refine Kept.ext ?_ _ | refine Kept.drew ?_ | refine Kept.drewN ?_ _)))) (HC.out.of (by (repeat (first | exact Kept.refl _ | assumption | refine Kept.alloc ?_ _ | refine Kept.ext ?_ _ | refine Kept.drew ?_ | refine Kept.drewN ?_ _))))).mono ?_; rintro e w1 ⟨rfl, x2, rfl⟩) | (go_at_call 55; refine (fraction_any _ _ _ (by omega) (by omega)).mono ?_; rintro e w1 ⟨rfl, x3, rfl⟩))
        refine bodyPost_ret (by simp only [results, Try.results44]; go_simp; rfl) rfl ?_
        exact ⟨by rw [HSS.out, HTT.out], by (repeat (first | exact Kept.refl _ | assumption | refine Kept.alloc ?_ _ | refine Kept.ext ?_ _ | refine Kept.drew ?_ | refine Kept.drewN ?_ _))⟩
  · obtain ⟨e, he⟩ : ∃ e, mulE n m f rl R cl C xl X = e := ⟨_, rfl⟩
    rw [show offN n m f rl R cl C xl X = 0 from if_neg hE, show offD n m f rl R cl C xl X = 0 from if_neg hE, he]
    have HE := Lib.hid he
    have HV := Lib.hid hE
    rw [he] at hE
    clear he
    have hv2 : (e == 0) = false := by simpa using hE
    have hv3 : decide (e = 0) = false := by simpa using hE
    go_enter Try.func44, Try.ntmps44
    go_wp2_with (go_at_call 82; refine (cmulno_any _ _ _ _ _ _ _ _ _ _ _ _ _ _ _ _ _ _ _ _ hn hrl hcl hxl (HM.out.of (by (repeat (first | exact Kept.refl _ | assumption | refine Kept.alloc ?_ _ | refine Kept.ext ?_ _ | refine Kept.drew ?_ | refine Kept.drewN ?_ _)))) (HR.out.of (by (repeat (first | exact Kept.refl _ | assumption | refine Kept.alloc ?_ _ | refine Kept.ext ?_ _ | refine Kept.drew ?_ | refine Kept.drewN ?_ _)))) (HC.out.of (by (repeat (first | exact Kept.refl _ | assumption | refine Kept.alloc ?_ _ | refine Kept.ext ?_ _ | refine Kept.drew ?_ | refine Kept.drewN ?_ _)))) (HX.out.of (by (repeat (first | exact Kept.refl _ | assumption | refine Kept.alloc ?_ _ | refine Kept.ext ?_ _ | refine Kept.drew ?_ | refine Kept.drewN ?_ _)))) HV.out).mono ?_; rintro e w1 ⟨rfl, x, rfl⟩; rw [HE.out])
    refine bodyPost_ret (by simp only [results, Try.results44]; go_simp; rfl) rfl ?_
    exact ⟨rfl, by (repeat (first | exact Kept.refl _ | assumption | refine Kept.alloc ?_ _ | refine Kept.ext ?_ _ | refine Kept.drew ?_ | refine Kept.drewN ?_ _))⟩
set_option maxRecDepth 100000 in
set_option maxHeartbeats 16000000 in
theorem r6Off_any (A : Option Addr) (n cap : Nat) (B : Nat → Option Addr) (m cp : Nat → Nat) (f : Nat → Nat → Int) (RA : Option Addr) (rl rc : Nat) (R : Nat → Nat → Int) (CA : Option Addr) (cl cc : Nat) (C : Nat → Nat → Int) (XA : Option Addr) (xl xc : Nat) (X : Nat → Nat → Int) (w : World)
    (hn : n ≤ 9223372036854775807) (hrl : rl ≤ rc ∧ rc ≤ maxLen) (hcl : cl ≤ cc ∧ cc ≤ maxLen) (hxl : xl ≤ 9223372036854775807) (h : MatAt w A n B m cp f) (hR : RowsAt w RA rl 1 R) (hC : RowsAt w CA cl 1 C) (hX : RowsAt w XA xl 1 X) :
    Calls Try.prog 45 #[.slice A n cap, .slice RA rl rc, .slice CA cl cc, .slice XA xl xc] w fun e w' => e = .returned (.tuple #[.agg #[.int .i64 (offN n m f rl R cl C xl X), .int .i64 (offD n m f rl R cl C xl X)], .int .i64 (mulE n m f rl R cl C xl X)]) ∧ Kept w w' := by
  have HM := Lib.hid h
  have HR := Lib.hid hR
  have HC := Lib.hid hC
  have HX := Lib.hid hX
  clear h hR hC hX
  by_cases hE : mulE n m f rl R cl C xl X = 0
  · rw [show offN n m f rl R cl C xl X = frN (wmat f rl R C (m 0) n * sumZ (aTerm X) xl) ((D rl (subF f R C)).natAbs : Int) from if_pos hE, show offD n m f rl R cl C xl X = frD (wmat f rl R C (m 0) n * sumZ (aTerm X) xl) ((D rl (subF f R C)).natAbs : Int) from if_pos hE, hE]
    have HE := Lib.hid hE
    obtain ⟨hc, hf, ho⟩ := mulE_0 hE
    obtain ⟨-, hd⟩ := opnE_0 ho
    obtain ⟨hv, hs, -, rfl⟩ := choE_0 hc
    obtain ⟨-, hk⟩ := Mok.of hc
    obtain ⟨hn1, hm1, hmm, hff⟩ := valE_0 hv
    obtain ⟨hxe, hxb⟩ := facB_at hf
    have hdb := hk.bd
    have hwb := wmat_bd hk hs n (Nat.le_refl _)
    have hwst := fun w' h1 h2 h3 => r6worst_any A n cap B m cp f RA rl rc R CA cc C w' hk hs h1 h2 h3
    obtain ⟨dd, hdd⟩ : ∃ x, D rl (subF f R C) = x := ⟨_, rfl⟩
    obtain ⟨ww, hww⟩ : ∃ x, wmat f rl R C (m 0) n = x := ⟨_, rfl⟩
    rw [hdd] at hd hdb ⊢
    rw [hww] at hwb hwst ⊢
    have HWST := Lib.hid hwst
    have HF := Lib.hid hf
    have HDD := Lib.hid hdd
    have HXB := Lib.hid hxb
    have hm6 := hm1.2
    clear hE hc hf ho hv hs hk hmm hff hxe hxb hdd hww hwst hn1 hm1
    go_enter Try.func45, Try.ntmps45
    go_wp2_with (go_at_call 83; refine (r6app_any _ _ _ _ _ _ _ _ _ _ _ _ _ _ _ _ _ _ _ _ hn hrl hcl hxl (HM.out.of (by (repeat (first | exact Kept.refl _ | assumption | refine Kept.alloc ?_ _ | refine Kept.ext ?_ _ | refine Kept.drew ?_ | refine Kept.drewN ?_ _)))) (HR.out.of (by (repeat (first | exact Kept.refl _ | assumption | refine Kept.alloc ?_ _ | refine Kept.ext ?_ _ | refine Kept.drew ?_ | refine Kept.drewN ?_ _)))) (HC.out.of (by (repeat (first | exact Kept.refl _ | assumption | refine Kept.alloc ?_ _ | refine Kept.ext ?_ _ | refine Kept.drew ?_ | refine Kept.drewN ?_ _)))) (HX.out.of (by (repeat (first | exact Kept.refl _ | assumption | refine Kept.alloc ?_ _ | refine Kept.ext ?_ _ | refine Kept.drew ?_ | refine Kept.drewN ?_ _))))).mono ?_; rintro e w1 ⟨rfl, x, rfl⟩; rw [HE.out, if_pos rfl, HDD.out])
    go_loopw [12, 13] (fun s i wr => ∃ q : Nat, q ≤ xl ∧ i = .int .i64 q ∧ s = .int .i64 (sumZ (aTerm X) q) ∧ ∃ y, wr = ext (w.alloc (.cells #[.int .i64 0, .int .i64 0] 32)) y) (fun _ i _ => xl - (intOf i).toNat)
    case atStart => exact ⟨0, by omega, rfl, rfl, show Kept _ _ by (repeat (first | exact Kept.refl _ | assumption | refine Kept.alloc ?_ _ | refine Kept.ext ?_ _ | refine Kept.drew ?_ | refine Kept.drewN ?_ _))⟩
    case round =>
      obtain ⟨q, hq, rfl, rfl, y, rfl⟩ := hrel
      have b2 := aSum_bd hm6 HF.out hq
      by_cases hlq : q < xl
      · obtain ⟨xb, xo, rfl, hxb, c3, -⟩ := rows1 (k := q) HX.out hlq
        have LX : Lower xb w.heap.size := ⟨hxb⟩
        have b1 := HXB.out q hlq
        obtain ⟨S, hS⟩ : ∃ x, sumZ (aTerm X) q = x := ⟨_, rfl⟩
        obtain ⟨z, hz⟩ : ∃ x, X q 0 = x := ⟨_, rfl⟩
        have hS2 : sumZ (aTerm X) (q + 1) = S + (z.natAbs : Int) := by rw [← hS, ← hz]; rfl
        rw [hS] at b2 ⊢
        rw [hz] at b1 c3
        have HS2 := Lib.hid hS2
        clear hS hS2 hz
        go_wp2_with (go_at_call 84; refine (r6size_any _ _ (by omega)).mono ?_; rintro e w1 ⟨rfl, rfl⟩)
        go_roundw
        case rel => exact ⟨q + 1, by omega, by go_num, by rw [HS2.out], show Kept _ _ by (repeat (first | exact Kept.refl _ | assumption | refine Kept.alloc ?_ _ | refine Kept.ext ?_ _ | refine Kept.drew ?_ | refine Kept.drewN ?_ _))⟩
        case measure => simp [intOf]; omega
      · obtain rfl : q = xl := by omega
        obtain ⟨S, hS⟩ : ∃ x, sumZ (aTerm X) q = x := ⟨_, rfl⟩
        rw [hS] at b2 ⊢
        have b9 := mul_abs (c := 720000000000000) (d := 6000) (a := ww) (b := S) (by omega) (by omega) (by decide) (by decide)
        obtain ⟨tt, htt⟩ : ∃ x, ww * S = x := ⟨_, rfl⟩
        rw [htt] at b9
        have HSS := Lib.hid hS
        have HTT := Lib.hid htt
        clear hS
        go_wp2_with (first | (go_at_call 85; refine (HWST.out _ (HM.out.of (by (repeat (first | exact Kept.refl _ | assumption | refine Kept.alloc ?_ _ | refine Kept.ext ?_ _ | refine Kept.drew ?_ | refine Kept.drewN ?_ _)))) (HR.out.of (by (repeat (first | exact Kept.refl _ | assumption | refine Kept.alloc ?_ _ | refine Kept.ext ?_ _ | refine Kept.drew ?_ | refine Kept.drewN ?_ _)))) (HC.out.of (by (repeat (first | exact Kept.refl _ | assumption | refine Kept.alloc ?_ _ | refine Kept.ext ?_ _ | refine Kept.drew ?_ | refine Kept.drewN ?_ _))))).mono ?_; rintro e w1 ⟨rfl, x2, rfl⟩) | (go_at_call 84; refine (r6size_any _ _ (by omega)).mono ?_; rintro e w1 ⟨rfl, rfl⟩) | (go_at_call 59; refine (ratio_any _ _ _ (by omega) (by omega)).mono ?_; rintro e w1 ⟨rfl, x3, rfl⟩))
        refine bodyPost_ret (by simp only [results, Try.results45]; go_simp; rfl) rfl ?_
        exact ⟨by rw [HSS.out, HTT.out], by (repeat (first | exact Kept.refl _ | assumption | refine Kept.alloc ?_ _ | refine Kept.ext ?_ _ | refine Kept.drew ?_ | refine Kept.drewN ?_ _))⟩
  · obtain ⟨e, he⟩ : ∃ e, mulE n m f rl R cl C xl X = e := ⟨_, rfl⟩
    rw [show offN n m f rl R cl C xl X = 0 from if_neg hE, show offD n m f rl R cl C xl X = 0 from if_neg hE, he]
    have HE := Lib.hid he
    rw [he] at hE
    clear he
    have hv2 : (e == 0) = false := by simpa using hE
    have hv3 : decide (e = 0) = false := by simpa using hE
    go_enter Try.func45, Try.ntmps45
    go_wp2_with (go_at_call 83; refine (r6app_any _ _ _ _ _ _ _ _ _ _ _ _ _ _ _ _ _ _ _ _ hn hrl hcl hxl (HM.out.of (by (repeat (first | exact Kept.refl _ | assumption | refine Kept.alloc ?_ _ | refine Kept.ext ?_ _ | refine Kept.drew ?_ | refine Kept.drewN ?_ _)))) (HR.out.of (by (repeat (first | exact Kept.refl _ | assumption | refine Kept.alloc ?_ _ | refine Kept.ext ?_ _ | refine Kept.drew ?_ | refine Kept.drewN ?_ _)))) (HC.out.of (by (repeat (first | exact Kept.refl _ | assumption | refine Kept.alloc ?_ _ | refine Kept.ext ?_ _ | refine Kept.drew ?_ | refine Kept.drewN ?_ _)))) (HX.out.of (by (repeat (first | exact Kept.refl _ | assumption | refine Kept.alloc ?_ _ | refine Kept.ext ?_ _ | refine Kept.drew ?_ | refine Kept.drewN ?_ _))))).mono ?_; rintro e w1 ⟨rfl, x, rfl⟩; rw [HE.out, if_neg hE])
    refine bodyPost_ret (by simp only [results, Try.results45]; go_simp; rfl) rfl ?_
    exact ⟨rfl, by (repeat (first | exact Kept.refl _ | assumption | refine Kept.alloc ?_ _ | refine Kept.ext ?_ _ | refine Kept.drew ?_ | refine Kept.drewN ?_ _))⟩
end Go.Proofs.Ytoejdfpmmgldpaa
