/- Contracts: whether a skeleton can be multiplied, of the program and of the reference; sums of left elements. Conditions: the lists' lengths are ints. Lists of fractions that a call appends to its own: what is known after each append. Conditions: those of each theorem. -/
import Derived.Test.YtjadpehpempjoaaTi
import Derived.Test.YtjadpehpempjoaaWt
namespace Go.Proofs.Ytjadpehpempjoaa
set_option linter.unusedVariables false
set_option linter.unusedSimpArgs false
open Go.RowKit Go.Deep
section
variable (n : Nat) (m : Nat → Nat) (f : Nat → Nat → Int) (rl : Nat) (R : Nat → Nat → Int) (cl : Nat) (C : Nat → Nat → Int) (xl : Nat) (X : Nat → Nat → Int)
/-- The error of a product with a skeleton. -/
def mulE : Int := if choE n m f rl R cl C = 0 then (if facB (m 0) xl X = true then opnE n m f rl R cl C else 1) else choE n m f rl R cl C
/-- What a row's skeleton lacks of the product, times the minor. -/
def oTerm (i j : Nat) : Int := leftV f rl R C i j * X j 0
def oV (M i : Nat) : Int := sumZ (oTerm f rl R C X i) M
/-- The products of the rows with the skeleton. -/
def fstN (i : Nat) : Int := pV f X (m 0) i * frD (oV f rl R C X (m 0) i) (D rl (subF f R C)) - frN (oV f rl R C X (m 0) i) (D rl (subF f R C))
def fstD (i : Nat) : Int := frD (oV f rl R C X (m 0) i) (D rl (subF f R C))
end
theorem mulE_0 {n : Nat} {m : Nat → Nat} {f : Nat → Nat → Int} {rl : Nat} {R : Nat → Nat → Int} {cl : Nat} {C : Nat → Nat → Int} {xl : Nat} {X : Nat → Nat → Int} (h : mulE n m f rl R cl C xl X = 0) : choE n m f rl R cl C = 0 ∧ facB (m 0) xl X = true ∧ opnE n m f rl R cl C = 0 := by
  unfold mulE at h
  split at h
  · split at h
    · exact ⟨by assumption, by assumption, h⟩
    · cases h
  · exact absurd h (by assumption)
theorem oTerm_bd {n : Nat} {m : Nat → Nat} {f : Nat → Nat → Int} {l : Nat} {R C X : Nat → Nat → Int} {xl i : Nat} (hk : Mok n m f l R C) (hs : setB n l R = true) (hf : facB (m 0) xl X = true) (hi : i < n) {q : Nat} (hq : q < m 0) : -720000000000000000 ≤ oTerm f l R C X i q ∧ oTerm f l R C X i q ≤ 720000000000000000 := by
  obtain ⟨he, hx⟩ := facB_at hf
  exact mul_abs (c := 720000000000000) (d := 1000) (leftV_bd hk hs (by omega) (by omega)) (hx q (by omega)) (by decide) (by decide)
theorem oSum_bd {n : Nat} {m : Nat → Nat} {f : Nat → Nat → Int} {l : Nat} {R C X : Nat → Nat → Int} {xl i : Nat} (hk : Mok n m f l R C) (hs : setB n l R = true) (hf : facB (m 0) xl X = true) (hi : i < n) {q : Nat} (hq : q ≤ m 0) : -4320000000000000000 ≤ sumZ (oTerm f l R C X i) q ∧ sumZ (oTerm f l R C X i) q ≤ 4320000000000000000 := by
  have := hk.m1
  have := sumZ_bd (f := oTerm f l R C X i) (b := 720000000000000000) (n := q) (fun k hq2 => oTerm_bd hk hs hf hi (by omega))
  omega
theorem sumZ_all0 {f : Nat → Int} : ∀ {n : Nat}, (∀ k, k < n → f k = 0) → sumZ f n = 0
  | 0, _ => rfl
  | n + 1, h => by
    show sumZ f n + f n = 0
    rw [sumZ_all0 fun k hk => h k (by omega), h n (by omega)]; rfl
/-- The denominator is small: with all six rows chosen nothing is left. -/
theorem den_bd {n : Nat} {m : Nat → Nat} {f : Nat → Nat → Int} {l : Nat} {R C X : Nat → Nat → Int} {i : Nat} (hk : Mok n m f l R C) (hs : setB n l R = true) (hi : i < n) (hd : D l (subF f R C) ≠ 0) :
    1 ≤ frD (oV f l R C X (m 0) i) (D l (subF f R C)) ∧ frD (oV f l R C X (m 0) i) (D l (subF f R C)) ≤ 1200000000000 := by
  obtain ⟨g0, -, g2⟩ := g_pos (n := oV f l R C X (m 0) i) hd
  have hn6 := hk.n1
  have hl6 := hk.hl
  have hlen := set_len hs
  unfold frD
  by_cases h6 : l = 6
  · have hz : oV f l R C X (m 0) i = 0 := by
      refine sumZ_all0 fun j hj => ?_
      unfold oTerm leftV
      have : hasB l R i = true := by
        cases hb : hasB l R i
        · have := set_lt hs ⟨by omega, by omega⟩ hb
          omega
        · rfl
      rw [this]; simp
    rw [hz]
    have : (D l (subF f R C)).natAbs ≠ 0 := by omega
    rw [show Int.natAbs 0 = 0 from rfl, Nat.gcd_zero_left, Int.ediv_self (by omega)]
    omega
  · have h5 : l ≤ 5 := by omega
    have hb := D_bd (c := 100) (by decide) (n := l) (X := subF f R C) hk.sml
    have h12 : fb 100 l ≤ 1200000000000 := by
      have : ∀ l, l ≤ 5 → fb 100 l ≤ 1200000000000 := by decide
      exact this l h5
    have hle : ((D l (subF f R C)).natAbs : Int) ≤ 1200000000000 := by omega
    have k1 : ((D l (subF f R C)).natAbs : Int) / (Nat.gcd (oV f l R C X (m 0) i).natAbs (D l (subF f R C)).natAbs : Int) ≤ ((D l (subF f R C)).natAbs : Int) := Int.ediv_le_self _ (by omega)
    have g3 : (Nat.gcd (oV f l R C X (m 0) i).natAbs (D l (subF f R C)).natAbs : Int) ∣ ((D l (subF f R C)).natAbs : Int) := Int.natCast_dvd_natCast.2 (Nat.gcd_dvd_right _ _)
    have k2 : (1 : Int) ≤ ((D l (subF f R C)).natAbs : Int) / (Nat.gcd (oV f l R C X (m 0) i).natAbs (D l (subF f R C)).natAbs : Int) := by
      rw [Int.le_ediv_iff_mul_le g0, Int.one_mul]
      exact Int.le_of_dvd (by omega) g3
    omega
theorem frN_bd {n d b : Int} (hb : -b ≤ n ∧ n ≤ b) (hd : d ≠ 0) : -b ≤ frN n d ∧ frN n d ≤ b := by
  obtain ⟨g0, -, -⟩ := g_pos (n := n) hd
  unfold frN
  have h1 : ∀ z : Int, -b ≤ z ∧ z ≤ b → -b ≤ z / (Nat.gcd n.natAbs d.natAbs : Int) ∧ z / (Nat.gcd n.natAbs d.natAbs : Int) ≤ b := by
    intro z hz
    have hb0 : 0 ≤ b := by omega
    constructor
    · rw [Int.le_ediv_iff_mul_le g0]
      have : b * 1 ≤ b * (Nat.gcd n.natAbs d.natAbs : Int) := Int.mul_le_mul_of_nonneg_left (by omega) hb0
      rw [Int.neg_mul]
      omega
    · have := Int.ediv_le_ediv g0 hz.2
      have h2 : b / (Nat.gcd n.natAbs d.natAbs : Int) ≤ b := Int.ediv_le_self _ hb0
      omega
  split
  · exact h1 _ (by omega)
  · exact h1 _ hb
/-- Reduced fractions are reduced. -/
theorem fr_co {n d : Int} (hd : d ≠ 0) : Nat.gcd (frN n d).natAbs (frD n d).natAbs = 1 := by
  obtain ⟨g0, ⟨a, ha⟩, ⟨b, hb⟩⟩ := g_pos (n := n) hd
  have hgp : 0 < Nat.gcd n.natAbs d.natAbs := by omega
  have e1 : (frN n d).natAbs = n.natAbs / Nat.gcd n.natAbs d.natAbs := by
    unfold frN
    obtain ⟨g, hg⟩ : ∃ g, Nat.gcd n.natAbs d.natAbs = g := ⟨_, rfl⟩
    rw [hg] at ha g0 ⊢
    have : ∀ z k : Int, z = g * k → (z / (g : Int)).natAbs = z.natAbs / g := by
      intro z k hz
      rw [hz, Int.mul_ediv_cancel_left _ (by omega), Int.natAbs_mul, Int.natAbs_natCast, Nat.mul_div_cancel_left _ (by omega)]
    split
    · rw [this (-n) (-a) (by rw [Int.mul_neg, ← ha]), Int.natAbs_neg]
    · exact this n a ha
  have e2 : (frD n d).natAbs = d.natAbs / Nat.gcd n.natAbs d.natAbs := by
    unfold frD
    rw [← Int.natCast_ediv, Int.natAbs_natCast]
  rw [e1, e2, Nat.gcd_div (Nat.gcd_dvd_left _ _) (Nat.gcd_dvd_right _ _), Nat.div_self hgp]
theorem gcd_shift {p N q : Int} (h : Nat.gcd N.natAbs q.natAbs = 1) : Nat.gcd (p * q - N).natAbs q.natAbs = 1 := by
  have h1 : (Nat.gcd (p * q - N).natAbs q.natAbs : Int) ∣ p * q - N := Int.ofNat_dvd_left.2 (Nat.gcd_dvd_left _ _)
  have h2 : (Nat.gcd (p * q - N).natAbs q.natAbs : Int) ∣ q := Int.ofNat_dvd_left.2 (Nat.gcd_dvd_right _ _)
  have h3 : (Nat.gcd (p * q - N).natAbs q.natAbs : Int) ∣ N := by
    have := Int.dvd_sub (show _ ∣ p * q from Int.dvd_mul_of_dvd_right h2) h1
    rwa [show p * q - (p * q - N) = N by omega] at this
  have h4 := Nat.dvd_gcd (Int.ofNat_dvd_left.1 h3) (Int.ofNat_dvd_left.1 h2)
  rw [h] at h4
  exact Nat.dvd_one.1 h4
theorem fr_self {n d : Int} (hd : 0 < d) (h : Nat.gcd n.natAbs d.natAbs = 1) : frN n d = n ∧ frD n d = d := by
  unfold frN frD
  rw [h, if_neg (by omega)]
  constructor
  · simp
  · rw [show (d.natAbs : Int) = d by omega]; simp
theorem frD_pos {n d : Int} (hd : d ≠ 0) : 0 < frD n d := by
  obtain ⟨g0, -, -⟩ := g_pos (n := n) hd
  unfold frD
  have g3 : (Nat.gcd n.natAbs d.natAbs : Int) ∣ (d.natAbs : Int) := Int.natCast_dvd_natCast.2 (Nat.gcd_dvd_right _ _)
  have : (1 : Int) ≤ (d.natAbs : Int) / (Nat.gcd n.natAbs d.natAbs : Int) := by
    rw [Int.le_ediv_iff_mul_le g0, Int.one_mul]
    exact Int.le_of_dvd (by omega) g3
  omega
/-- A reduced fraction off an integer is reduced. -/
theorem fr_off {p n d : Int} (hd : d ≠ 0) : frN (p * frD n d - frN n d) (frD n d) = p * frD n d - frN n d ∧ frD (p * frD n d - frN n d) (frD n d) = frD n d :=
  fr_self (frD_pos hd) (gcd_shift (fr_co hd))
set_option maxRecDepth 100000 in
theorem ratio2_any (n d : Int) (w : World) (hn : -9223372036854775807 ≤ n ∧ n ≤ 9223372036854775807) (hd : 1 ≤ d ∧ d ≤ 4611686018427387904) :
    Calls Try.prog 12 #[.int .i64 n, .int .i64 d] w fun e w' => e = .returned (.agg #[.int .i64 (frN n d), .int .i64 (frD n d)]) ∧ Kept w w' := by
  obtain ⟨g0, g1, g2⟩ := g_pos (n := n) (show d ≠ 0 by omega)
  have hF1 : frN n d = (if d < 0 then -n else n) / (Nat.gcd n.natAbs d.natAbs : Int) := rfl
  have hF2 : frD n d = (d.natAbs : Int) / (Nat.gcd n.natAbs d.natAbs : Int) := rfl
  have k1 : (n.natAbs : Int) ≤ 9223372036854775807 := by omega
  have k2 : (d.natAbs : Int) ≤ 4611686018427387904 := by omega
  have gb : (Nat.gcd n.natAbs d.natAbs : Int) ≤ 4611686018427387904 := by
    have := Nat.le_of_dvd (show 0 < d.natAbs by omega) (Nat.gcd_dvd_right n.natAbs d.natAbs)
    omega
  obtain ⟨ng, hng⟩ : ∃ k, n.natAbs = k := ⟨_, rfl⟩
  obtain ⟨dg, hdg⟩ : ∃ k, d.natAbs = k := ⟨_, rfl⟩
  have hd2 : d = dg := by omega
  rw [hng, hdg] at hF1 hF2 g0 g1 g2 gb
  have HF1 := Lib.hid hF1
  have HF2 := Lib.hid hF2
  have HNG := Lib.hid hng
  have HDG := Lib.hid hdg
  have HD2 := Lib.hid hd2
  have G1 := Lib.hid g1
  have G2 := Lib.hid g2
  rw [hng] at k1
  rw [hdg] at k2
  clear hF1 hF2 g1 g2 hng hdg hd2
  go_enter Try.func12, Try.ntmps12
  go_wp2_with (go_at_call 28; refine (r6size_any _ _ (by omega)).mono ?_; rintro e w1 ⟨rfl, rfl⟩; first | rw [HNG.out] | rw [HDG.out])
  go_loopw [5, 6] (fun a b wr => ∃ p q : Nat, a = .int .i64 p ∧ b = .int .i64 q ∧ Nat.gcd p q = Nat.gcd ng dg ∧ p ≤ 9223372036854775807 ∧ q ≤ 9223372036854775807 ∧ (∃ y, wr = ext (w.alloc (.cells #[.int .i64 0, .int .i64 0] 27)) y)) (fun _ b _ => (intOf b).toNat)
  case atStart => exact ⟨ng, dg, rfl, rfl, rfl, by omega, by omega, show Kept _ _ by (repeat (first | exact Kept.refl _ | assumption | refine Kept.alloc ?_ _ | refine Kept.ext ?_ _ | refine Kept.drew ?_ | refine Kept.drewN ?_ _))⟩
  case round =>
    obtain ⟨p, q, rfl, rfl, hg, hp, hq, x1, rfl⟩ := hrel
    by_cases h0 : q = 0
    · have hz : (q : Int) = 0 := by omega
      rw [h0, Nat.gcd_zero_right] at hg
      have HG := Lib.hid hg
      rw [← hg] at g0 gb
      clear hg
      have f1 : ((p : Int) == 0) = false := beq_eq_false_iff_ne.2 (by omega)
      have f0 : ¬ p = 0 := by omega
      go_wp2
      ((first | (with_reducible refine wp_region_tail2 6 (by kernel_rfl) (by kernel_rfl) ?_) | refine wp_region_tail 6 (by kernel_rfl) (by kernel_rfl) ?_); simp only [List.take_succ_cons, List.take_zero, List.drop_succ_cons, List.drop_zero]; (repeat (go_big_quiet_step (first | fail))); refine wpQuiet_nil ?_; intro x)
      go_wp2
      refine bodyPost_ret (by simp only [results, Try.results12]; go_simp; rfl) rfl ?_
      refine ⟨?_, by (repeat (first | exact Kept.refl _ | assumption | refine Kept.alloc ?_ _ | refine Kept.ext ?_ _ | refine Kept.drew ?_ | refine Kept.drewN ?_ _))⟩
      have g1 := G1.out
      have hd2 := HD2.out
      rw [← HG.out] at g1
      have hs' : ¬ d < 0 := by omega
      rw [HF1.out, HF2.out, if_neg hs', ← HG.out, (fr_div g0 g1).1, show (dg : Int) = d by omega]
    · have f1 : ((q : Int) == 0) = false := beq_eq_false_iff_ne.2 (by omega)
      have HG := Lib.hid hg
      clear hg
      go_wp2
      ((first | (with_reducible refine wp_region_kept2 (by kernel_rfl) (by kernel_rfl) ?_) | refine wp_region_kept (by kernel_rfl) (by kernel_rfl) ?_); (repeat (go_big_quiet_step (first | fail))); refine wpQuiet_nil ?_; intro x)
      go_wp2
      refine ⟨⟨q, p % q, rfl, ?_, ?_, by omega, ?_, show Kept _ _ by (repeat (first | exact Kept.refl _ | assumption | refine Kept.alloc ?_ _ | refine Kept.ext ?_ _ | refine Kept.drew ?_ | refine Kept.drewN ?_ _))⟩, ?_⟩
      · rw [Int.natCast_emod]
      · rw [← HG.out, Nat.gcd_comm q, ← Nat.gcd_rec, Nat.gcd_comm]
      · have := Nat.mod_lt p (show 0 < q by omega)
        omega
      · have := Nat.mod_lt p (show 0 < q by omega)
        rw [← Int.natCast_emod]
        simp only [intOf]
        omega
set_option maxRecDepth 100000 in
set_option maxHeartbeats 4000000 in
theorem cmulok_any (A : Option Addr) (n cap : Nat) (B : Nat → Option Addr) (m cp : Nat → Nat) (f : Nat → Nat → Int) (RA : Option Addr) (rl rc : Nat) (R : Nat → Nat → Int) (CA : Option Addr) (cl cc : Nat) (C : Nat → Nat → Int) (XA : Option Addr) (xl xc : Nat) (X : Nat → Nat → Int) (w : World)
    (hn : n ≤ 9223372036854775807) (hrl : rl ≤ 9223372036854775807) (hcl : cl ≤ 9223372036854775807) (hxl : xl ≤ 9223372036854775807) (h : MatAt w A n B m cp f) (hR : RowsAt w RA rl 1 R) (hC : RowsAt w CA cl 1 C) (hX : RowsAt w XA xl 1 X) (hE : mulE n m f rl R cl C xl X = 0) :
    Calls Try.prog 24 #[.slice A n cap, .slice RA rl rc, .slice CA cl cc, .slice XA xl xc] w fun e w' => e = .returned (.tuple #[.agg #[.slice A n cap, .slice RA rl rc, .slice CA cl cc, .int .i64 (D rl (subF f R C))], .int .i64 0]) ∧ Kept w w' := by
  have HM := Lib.hid h
  have HR := Lib.hid hR
  have HC := Lib.hid hC
  have HX := Lib.hid hX
  clear h hR hC hX
  obtain ⟨hc, hf, ho⟩ := mulE_0 hE
  obtain ⟨rfl, hk⟩ := Mok.of hc
  have HN := Lib.hid hk.n1
  have HMM := Lib.hid hk.m1.2
  have HV := Lib.hid hc
  have HF := Lib.hid hf
  have HO := Lib.hid ho
  clear hk hc hf ho hE
  go_enter Try.func24, Try.ntmps24
  go_wp2_with (first | (go_at_call 13; refine (cchoice_any _ _ _ _ _ _ _ _ _ _ _ _ _ _ _ _ hn hrl hcl (HM.out.of (by (repeat (first | exact Kept.refl _ | assumption | refine Kept.alloc ?_ _ | refine Kept.ext ?_ _ | refine Kept.drew ?_ | refine Kept.drewN ?_ _)))) (HR.out.of (by (repeat (first | exact Kept.refl _ | assumption | refine Kept.alloc ?_ _ | refine Kept.ext ?_ _ | refine Kept.drew ?_ | refine Kept.drewN ?_ _)))) (HC.out.of (by (repeat (first | exact Kept.refl _ | assumption | refine Kept.alloc ?_ _ | refine Kept.ext ?_ _ | refine Kept.drew ?_ | refine Kept.drewN ?_ _))))).mono ?_; rintro e w1 ⟨rfl, x, rfl⟩; rw [HV.out]) | (go_at_call 23; refine (cfac_any _ _ _ _ _ _ _ _ _ _ _ _ HN.out HMM.out hxl (HM.out.of (by (repeat (first | exact Kept.refl _ | assumption | refine Kept.alloc ?_ _ | refine Kept.ext ?_ _ | refine Kept.drew ?_ | refine Kept.drewN ?_ _)))) (HX.out.of (by (repeat (first | exact Kept.refl _ | assumption | refine Kept.alloc ?_ _ | refine Kept.ext ?_ _ | refine Kept.drew ?_ | refine Kept.drewN ?_ _))))).mono ?_; rintro e w1 ⟨rfl, rfl⟩; rw [HF.out]) | (go_at_call 20; refine (copenok_any _ _ _ _ _ _ _ _ _ _ _ _ _ _ _ _ hn hrl hcl (HM.out.of (by (repeat (first | exact Kept.refl _ | assumption | refine Kept.alloc ?_ _ | refine Kept.ext ?_ _ | refine Kept.drew ?_ | refine Kept.drewN ?_ _)))) (HR.out.of (by (repeat (first | exact Kept.refl _ | assumption | refine Kept.alloc ?_ _ | refine Kept.ext ?_ _ | refine Kept.drew ?_ | refine Kept.drewN ?_ _)))) (HC.out.of (by (repeat (first | exact Kept.refl _ | assumption | refine Kept.alloc ?_ _ | refine Kept.ext ?_ _ | refine Kept.drew ?_ | refine Kept.drewN ?_ _)))) HO.out).mono ?_; rintro e w1 ⟨rfl, x3, rfl⟩))
  refine bodyPost_ret (by simp only [results, Try.results24]; go_simp; rfl) rfl ?_
  exact ⟨rfl, by (repeat (first | exact Kept.refl _ | assumption | refine Kept.alloc ?_ _ | refine Kept.ext ?_ _ | refine Kept.drew ?_ | refine Kept.drewN ?_ _))⟩
set_option maxRecDepth 100000 in
set_option maxHeartbeats 4000000 in
theorem cmulno_any (A : Option Addr) (n cap : Nat) (B : Nat → Option Addr) (m cp : Nat → Nat) (f : Nat → Nat → Int) (RA : Option Addr) (rl rc : Nat) (R : Nat → Nat → Int) (CA : Option Addr) (cl cc : Nat) (C : Nat → Nat → Int) (XA : Option Addr) (xl xc : Nat) (X : Nat → Nat → Int) (w : World)
    (hn : n ≤ 9223372036854775807) (hrl : rl ≤ 9223372036854775807) (hcl : cl ≤ 9223372036854775807) (hxl : xl ≤ 9223372036854775807) (h : MatAt w A n B m cp f) (hR : RowsAt w RA rl 1 R) (hC : RowsAt w CA cl 1 C) (hX : RowsAt w XA xl 1 X) (hE : mulE n m f rl R cl C xl X ≠ 0) :
    Calls Try.prog 24 #[.slice A n cap, .slice RA rl rc, .slice CA cl cc, .slice XA xl xc] w fun e w' => e = .returned (.tuple #[.agg #[.slice none 0 0, .slice none 0 0, .slice none 0 0, .int .i64 0], .int .i64 (mulE n m f rl R cl C xl X)]) ∧ Kept w w' := by
  have HM := Lib.hid h
  have HR := Lib.hid hR
  have HC := Lib.hid hC
  have HX := Lib.hid hX
  clear h hR hC hX
  by_cases hv : choE n m f rl R cl C = 0
  · obtain ⟨rfl, hk⟩ := Mok.of hv
    have HN := Lib.hid hk.n1
    have HMM := Lib.hid hk.m1.2
    clear hk
    cases hf : facB (m 0) xl X
    · rw [show mulE n m f rl R rl C xl X = 1 by unfold mulE; rw [if_pos hv, hf, if_neg (by decide)]]
      have HV := Lib.hid hv
      have HF := Lib.hid hf
      clear hv hf hE
      go_enter Try.func24, Try.ntmps24
      go_wp2_with (first | (go_at_call 13; refine (cchoice_any _ _ _ _ _ _ _ _ _ _ _ _ _ _ _ _ hn hrl hcl (HM.out.of (by (repeat (first | exact Kept.refl _ | assumption | refine Kept.alloc ?_ _ | refine Kept.ext ?_ _ | refine Kept.drew ?_ | refine Kept.drewN ?_ _)))) (HR.out.of (by (repeat (first | exact Kept.refl _ | assumption | refine Kept.alloc ?_ _ | refine Kept.ext ?_ _ | refine Kept.drew ?_ | refine Kept.drewN ?_ _)))) (HC.out.of (by (repeat (first | exact Kept.refl _ | assumption | refine Kept.alloc ?_ _ | refine Kept.ext ?_ _ | refine Kept.drew ?_ | refine Kept.drewN ?_ _))))).mono ?_; rintro e w1 ⟨rfl, x, rfl⟩; rw [HV.out]) | (go_at_call 23; refine (cfac_any _ _ _ _ _ _ _ _ _ _ _ _ HN.out HMM.out hxl (HM.out.of (by (repeat (first | exact Kept.refl _ | assumption | refine Kept.alloc ?_ _ | refine Kept.ext ?_ _ | refine Kept.drew ?_ | refine Kept.drewN ?_ _)))) (HX.out.of (by (repeat (first | exact Kept.refl _ | assumption | refine Kept.alloc ?_ _ | refine Kept.ext ?_ _ | refine Kept.drew ?_ | refine Kept.drewN ?_ _))))).mono ?_; rintro e w1 ⟨rfl, rfl⟩; rw [HF.out]))
      refine bodyPost_ret (by simp only [results, Try.results24]; go_simp; rfl) rfl ?_
      exact ⟨rfl, by (repeat (first | exact Kept.refl _ | assumption | refine Kept.alloc ?_ _ | refine Kept.ext ?_ _ | refine Kept.drew ?_ | refine Kept.drewN ?_ _))⟩
    · have e1 : mulE n m f rl R rl C xl X = opnE n m f rl R rl C := by unfold mulE; rw [if_pos hv, hf, if_pos rfl]
      rw [e1] at hE ⊢
      have HV := Lib.hid hv
      have HF := Lib.hid hf
      have HO := Lib.hid hE
      clear hv hf hE e1
      go_enter Try.func24, Try.ntmps24
      go_wp2_with (first | (go_at_call 13; refine (cchoice_any _ _ _ _ _ _ _ _ _ _ _ _ _ _ _ _ hn hrl hcl (HM.out.of (by (repeat (first | exact Kept.refl _ | assumption | refine Kept.alloc ?_ _ | refine Kept.ext ?_ _ | refine Kept.drew ?_ | refine Kept.drewN ?_ _)))) (HR.out.of (by (repeat (first | exact Kept.refl _ | assumption | refine Kept.alloc ?_ _ | refine Kept.ext ?_ _ | refine Kept.drew ?_ | refine Kept.drewN ?_ _)))) (HC.out.of (by (repeat (first | exact Kept.refl _ | assumption | refine Kept.alloc ?_ _ | refine Kept.ext ?_ _ | refine Kept.drew ?_ | refine Kept.drewN ?_ _))))).mono ?_; rintro e w1 ⟨rfl, x, rfl⟩; rw [HV.out]) | (go_at_call 23; refine (cfac_any _ _ _ _ _ _ _ _ _ _ _ _ HN.out HMM.out hxl (HM.out.of (by (repeat (first | exact Kept.refl _ | assumption | refine Kept.alloc ?_ _ | refine Kept.ext ?_ _ | refine Kept.drew ?_ | refine Kept.drewN ?_ _)))) (HX.out.of (by (repeat (first | exact Kept.refl _ | assumption | refine Kept.alloc ?_ _ | refine Kept.ext ?_ _ | refine Kept.drew ?_ | refine Kept.drewN ?_ _))))).mono ?_; rintro e w1 ⟨rfl, rfl⟩; rw [HF.out]) | (go_at_call 20; refine (copenno_any _ _ _ _ _ _ _ _ _ _ _ _ _ _ _ _ hn hrl hcl (HM.out.of (by (repeat (first | exact Kept.refl _ | assumption | refine Kept.alloc ?_ _ | refine Kept.ext ?_ _ | refine Kept.drew ?_ | refine Kept.drewN ?_ _)))) (HR.out.of (by (repeat (first | exact Kept.refl _ | assumption | refine Kept.alloc ?_ _ | refine Kept.ext ?_ _ | refine Kept.drew ?_ | refine Kept.drewN ?_ _)))) (HC.out.of (by (repeat (first | exact Kept.refl _ | assumption | refine Kept.alloc ?_ _ | refine Kept.ext ?_ _ | refine Kept.drew ?_ | refine Kept.drewN ?_ _)))) HO.out).mono ?_; rintro e w1 ⟨rfl, x3, rfl⟩))
      refine bodyPost_ret (by simp only [results, Try.results24]; go_simp; rfl) rfl ?_
      exact ⟨rfl, by (repeat (first | exact Kept.refl _ | assumption | refine Kept.alloc ?_ _ | refine Kept.ext ?_ _ | refine Kept.drew ?_ | refine Kept.drewN ?_ _))⟩
  · rw [show mulE n m f rl R cl C xl X = choE n m f rl R cl C from if_neg hv]
    obtain ⟨e, he⟩ : ∃ e, choE n m f rl R cl C = e := ⟨_, rfl⟩
    rw [he] at hv ⊢
    have HV := Lib.hid he
    clear he hE
    have hv2 : (e == 0) = false := by simpa using hv
    have hv3 : decide (e = 0) = false := by simpa using hv
    go_enter Try.func24, Try.ntmps24
    go_wp2_with (go_at_call 13; refine (cchoice_any _ _ _ _ _ _ _ _ _ _ _ _ _ _ _ _ hn hrl hcl (HM.out.of (by (repeat (first | exact Kept.refl _ | assumption | refine Kept.alloc ?_ _ | refine Kept.ext ?_ _ | refine Kept.drew ?_ | refine Kept.drewN ?_ _)))) (HR.out.of (by (repeat (first | exact Kept.refl _ | assumption | refine Kept.alloc ?_ _ | refine Kept.ext ?_ _ | refine Kept.drew ?_ | refine Kept.drewN ?_ _)))) (HC.out.of (by (repeat (first | exact Kept.refl _ | assumption | refine Kept.alloc ?_ _ | refine Kept.ext ?_ _ | refine Kept.drew ?_ | refine Kept.drewN ?_ _))))).mono ?_; rintro e w1 ⟨rfl, x, rfl⟩; rw [HV.out])
    refine bodyPost_ret (by simp only [results, Try.results24]; go_simp; rfl) rfl ?_
    exact ⟨rfl, by (repeat (first | exact Kept.refl _ | assumption | refine Kept.alloc ?_ _ | refine Kept.ext ?_ _ | refine Kept.drew ?_ | refine Kept.drewN ?_ _))⟩
end Go.Proofs.Ytjadpehpempjoaa
namespace Go.Proofs.Ytjadpehpempjoaa
set_option linter.unusedVariables false
set_option linter.unusedSimpArgs false
open Go.RowKit Go.Deep
theorem info_R : ((Try.prog.info? 27).map fun i => (i.zero, i.size, i.bytes)) = some (some (.agg #[.int .i64 0, .int .i64 0]), 2, 16) := by kernel_rfl
/-- An append of a list of fractions that can be read to a list of the call's own, in a region whose order is fixed. -/
theorem wpList_appR {P : Program} {w : World} {ops : Array Oper} {rest : List Oper} {op : Oper} {a : Act} {Q : Exit → Act → World → Prop} (hgd : op.guard = none) (s x : Operand) (t : TypeId)
    (ho : op.op = .call { callee := .builtin .append, args := #[s, x], argTypes := #[t, t] })
    (base : Nat) (i : TypeInfo) (z : Value) (ht : P.underlying t = some (.slice 27)) (hi : P.info? 27 = some i) (hz : i.zero = some z)
    (hsize : i.size = 2) (hby : i.bytes = 16) (hzs : z.cells.size = 2) (hbase : base ≤ w.heap.size)
    (v : Value) (n : Nat) (xs : List Value) (hs : a.eval s = v) (hown : w.ownsRow base 27 2 v n xs)
    (A : Option Addr) (m cp : Nat) (f : Nat → Nat → Int) (hx : a.eval x = .slice A m cp) (hr : RowsAt w A m 2 f) (N : Nat) (hN : n + m = N) (ys : List Value) (hys : xs ++ rowC 2 f m = ys) (h9 : N ≤ 1000)
    (h : ∀ A' cp' w', w'.ownsRow base 27 2 (.slice A' N cp') N ys → w.grownBy w' v.ownBlock → ((Value.slice A' N cp').ownBlock = v.ownBlock ∨ (Value.slice A' N cp').ownBlock = some w.heap.size) → wpList P ops Q rest (a.put op.dst (.slice A' N cp')) w') : wpList P ops Q (op :: rest) a w := by
  subst hN
  subst hys
  refine wpList_plain hgd fun K hK => ?_
  obtain ⟨v', w', hrun, h2, h3, h9⟩ := run_append_rows (P := P) base t op.type 27 i z 2 16 ht hi hz hsize hby hzs (by omega) v n xs hown A m cp f hr (by unfold maxLen; omega) (by omega) hbase
  obtain ⟨A', cp', rfl⟩ := own_slice2 h2
  unfold Oper.wp execOp
  simp only [ho, resolve, invoke, builtin, Sem.run_bind, Sem.run_pure, Result.andThen_ok, List.map_toArray, List.map_cons, List.map_nil, hs, hx, hrun]
  exact hK _ _ (h A' cp' w' h2 h3 h9)
/-- A pair as a row. -/
def pr2 (p q : Int) (_ j : Nat) : Int := if j = 0 then p else q
theorem rowsR_lit {X : World} (p q : Int) (hp : I64 p) (hq : I64 q) {s : Nat} (hs : X.heap.size = s) : RowsAt (X.alloc (.cells #[.int .i64 p, .int .i64 q] 27)) (some ⟨s, 0, none⟩) 1 2 (pr2 p q) := by
  subst hs
  refine rows_of_owns (base := 0) (cap := 1) (World.ownsRow_lit X #[.int .i64 p, .int .i64 q] 1 (Nat.zero_le _) (by unfold maxLen; omega) rfl) (fun k _ j _ => ?_)
  unfold pr2
  split
  · exact hp
  · exact hq
theorem rowC_pr2 {F : Nat → Nat → Int} {k : Nat} {p q : Int} (h0 : F k 0 = p) (h1 : F k 1 = q) : rowC 2 F k ++ rowC 2 (pr2 p q) 1 = rowC 2 F (k + 1) := by
  subst h0
  subst h1
  rfl
theorem own_down {w : World} {b b' size n : Nat} {e : TypeId} {v : Value} {xs : List Value} (h : w.ownsRow b e size v n xs) (hb : b' ≤ b) : w.ownsRow b' e size v n xs := by
  refine ⟨h.1, ?_⟩
  rcases h.2 with h0 | ⟨g, cap, cur, hv, hb2, hr⟩
  · exact .inl h0
  · exact .inr ⟨g, cap, cur, hv, Nat.le_trans hb hb2, hr⟩
end Go.Proofs.Ytjadpehpempjoaa
