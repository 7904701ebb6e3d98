/- Contracts: how far products with a skeleton can be off, of the program and of the reference. Conditions: the lists' lengths are ints. -/
import Derived.Test.YtjadpehpempjoaaFb
namespace Go.Proofs.Ytjadpehpempjoaa
set_option linter.unusedVariables false
set_option linter.unusedSimpArgs false
open Go.RowKit Go.Deep
/-- The sum of the sizes. -/
def aTerm (X : Nat → Nat → Int) (j : Nat) : Int := ((X j 0).natAbs : Int)
section
variable (n : Nat) (m : Nat → Nat) (f : Nat → Nat → Int) (rl : Nat) (R : Nat → Nat → Int) (cl : Nat) (C : Nat → Nat → Int) (xl : Nat) (X : Nat → Nat → Int)
def offN : Int := if mulE n m f rl R cl C xl X = 0 then frN (wmat f rl R C (m 0) n * sumZ (aTerm X) xl) ((D rl (subF f R C)).natAbs : Int) else 0
def offD : Int := if mulE n m f rl R cl C xl X = 0 then frD (wmat f rl R C (m 0) n * sumZ (aTerm X) xl) ((D rl (subF f R C)).natAbs : Int) else 0
end
theorem fr_scale {g x y : Int} (hg : 0 < g) (hy : y ≠ 0) : frN (g * x) (g * y) = frN x y ∧ frD (g * x) (g * y) = frD x y := by
  obtain ⟨k, rfl⟩ := Int.eq_ofNat_of_zero_le (Int.le_of_lt hg)
  have e : (Nat.gcd ((k : Int) * x).natAbs ((k : Int) * y).natAbs : Int) = k * (Nat.gcd x.natAbs y.natAbs : Int) := by
    rw [Int.natAbs_mul, Int.natAbs_mul, Int.natAbs_natCast, Nat.gcd_mul_left, Int.natCast_mul]
  unfold frN frD
  rw [e]
  constructor
  · have hs : (k : Int) * y < 0 ↔ y < 0 := by
      constructor
      · intro h
        by_cases h2 : y < 0
        · exact h2
        · have := Int.mul_nonneg (show (0 : Int) ≤ k by omega) (show 0 ≤ y by omega)
          omega
      · intro h
        exact Int.mul_neg_of_pos_of_neg hg h
    by_cases h : y < 0
    · rw [if_pos (hs.2 h), if_pos h, ← Int.mul_neg, Int.mul_ediv_mul_of_pos _ _ hg]
    · rw [if_neg (fun q => h (hs.1 q)), if_neg h, Int.mul_ediv_mul_of_pos _ _ hg]
  · rw [Int.natAbs_mul, Int.natAbs_natCast, Int.natCast_mul, Int.mul_ediv_mul_of_pos _ _ hg]
/-- A reduced fraction times a number. -/
theorem fr_times {a d s : Int} (hd : 0 < d) : frN (frN a d * s) (frD a d) = frN (a * s) d ∧ frD (frN a d * s) (frD a d) = frD (a * s) d := by
  obtain ⟨g0, ⟨p, hp⟩, ⟨q, hq⟩⟩ := g_pos (n := a) (show d ≠ 0 by omega)
  have e1 : frN a d = p := by
    unfold frN
    rw [if_neg (by omega)]
    obtain ⟨g, hg⟩ : ∃ g : Int, (Nat.gcd a.natAbs d.natAbs : Int) = g := ⟨_, rfl⟩
    rw [hg] at hp g0 ⊢
    rw [hp, Int.mul_ediv_cancel_left _ (by omega)]
  have e2 : frD a d = q := by
    unfold frD
    rw [show (d.natAbs : Int) = d by omega]
    obtain ⟨g, hg⟩ : ∃ g : Int, (Nat.gcd a.natAbs d.natAbs : Int) = g := ⟨_, rfl⟩
    rw [hg] at hq g0 ⊢
    rw [hq, Int.mul_ediv_cancel_left _ (by omega)]
  rw [e1, e2]
  obtain ⟨g, hg⟩ : ∃ g : Int, (Nat.gcd a.natAbs d.natAbs : Int) = g := ⟨_, rfl⟩
  rw [hg] at hp hq g0
  have hq0 : q ≠ 0 := by
    rintro rfl
    rw [Int.mul_zero] at hq
    omega
  have := fr_scale (g := g) (x := p * s) (y := q) g0 hq0
  rw [← Int.mul_assoc, ← hp, ← hq] at this
  exact ⟨this.1.symm, this.2.symm⟩
theorem aSum_bd {X : Nat → Nat → Int} {M xl : Nat} (hM : M ≤ 6) (hf : facB M xl X = true) {q : Nat} (hq : q ≤ xl) : 0 ≤ sumZ (aTerm X) q ∧ sumZ (aTerm X) q ≤ 6000 := by
  obtain ⟨he, hx⟩ := facB_at hf
  have h0 : ∀ q, 0 ≤ sumZ (aTerm X) q := by
    intro q
    induction q with
    | zero => exact Int.le_refl _
    | succ q ih =>
      show 0 ≤ sumZ (aTerm X) q + aTerm X q
      unfold aTerm at *
      omega
  have := sumZ_bd (f := aTerm X) (b := 1000) (n := q) (fun k hk => by have := hx k (by omega); unfold aTerm; omega)
  have := h0 q
  omega
end Go.Proofs.Ytjadpehpempjoaa
