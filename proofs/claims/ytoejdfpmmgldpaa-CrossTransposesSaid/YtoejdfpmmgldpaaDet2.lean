/- Determinants: the step of an elimination without fractions, exchanged rows, columns that vanish, bounds, the transposed matrix. No conditions but those of each theorem. -/
import Derived.Test.YtoejdfpmmgldpaaDet
namespace Go.Proofs.Ytoejdfpmmgldpaa
set_option linter.unusedVariables false
set_option linter.unusedSimpArgs false
theorem bar_ent {k : Nat} {X : Nat → Nat → Int} (h : ∀ j, j ≤ k → D j X ≠ 0) (i j : Nat) : Bk k X 0 0 * Bk k X (i + 1) (j + 1) - Bk k X (i + 1) 0 * Bk k X 0 (j + 1) = D k X * Bk (k + 1) X i j := by
  have h2 := sylvester k 1 (bord (k + 1) X i j) fun q hq => by
    rw [D_congr (Y := X) fun a ha b hb => by unfold bord; rw [if_pos (by omega), if_pos (by omega)]]
    exact h q (by omega)
  rw [D_2x2, Int.pow_succ, Int.pow_zero, Int.one_mul] at h2
  have e0 : D k (bord (k + 1) X i j) = D k X := D_congr fun a ha b hb => by unfold bord; rw [if_pos (by omega), if_pos (by omega)]
  have e : ∀ u v, u < 2 → v < 2 → Bk k (bord (k + 1) X i j) u v = Bk k X (if u = 0 then 0 else i + 1) (if v = 0 then 0 else j + 1) := by
    intro u v hu hv
    unfold Bk
    refine D_congr fun a ha b hb => ?_
    unfold bord
    congr 1
    · by_cases q : a < k
      · rw [if_pos q, if_pos (by omega), if_pos q]
      · rw [if_neg q, if_neg q]
        rcases (show u = 0 ∨ u = 1 by omega) with rfl | rfl
        · rw [if_pos (by omega)]; simp
        · rw [if_neg (by omega)]; simp; omega
    · by_cases q : b < k
      · rw [if_pos q, if_pos (by omega), if_pos q]
      · rw [if_neg q, if_neg q]
        rcases (show v = 0 ∨ v = 1 by omega) with rfl | rfl
        · rw [if_pos (by omega)]; simp
        · rw [if_neg (by omega)]; simp; omega
  rw [e 0 0 (by omega) (by omega), e 0 1 (by omega) (by omega), e 1 0 (by omega) (by omega), e 1 1 (by omega) (by omega), e0] at h2
  simp only [if_true, Nat.one_ne_zero, if_false] at h2
  rw [show Bk (k + 1) X i j = D (k + 1 + 1) (bord (k + 1) X i j) from rfl, ← h2]
  grind
/-- If no element of a column is left the determinant vanishes. -/
theorem D_none {k n : Nat} {X : Nat → Nat → Int} (h : ∀ j, j ≤ k → D j X ≠ 0) (hk : k < n) (hz : ∀ i, i < n - k → Bk k X i 0 = 0) : D n X = 0 := by
  have hs := sylvester k (n - k - 1) X h
  rw [D_col0 _ _ fun i hi => hz i (by omega), show k + (n - k - 1) + 1 = n by omega] at hs
  have hp : D k X ^ (n - k - 1) ≠ 0 := Int.pow_ne_zero (h k (Nat.le_refl _))
  rcases Int.mul_eq_zero.1 hs.symm with h | h
  · exact absurd h hp
  · exact h
/-- Rows k and k + p exchanged. -/
theorem Bk_sw {k p : Nat} {X : Nat → Nat → Int} (i j : Nat) : Bk k (swR X k (k + p)) i j = Bk k X (if i = 0 then p else if i = p then 0 else i) j := by
  unfold Bk
  refine D_congr fun a ha b hb => ?_
  unfold bord
  by_cases q : a < k
  · rw [if_pos q, if_pos q]
    unfold swR
    rw [setR_ne _ _ _ (by omega), setR_ne _ _ _ (by omega)]
  · rw [if_neg q, if_neg q]
    unfold swR
    by_cases e0 : i = 0
    · subst e0
      rw [if_pos rfl]
      by_cases e1 : p = 0
      · subst e1
        rw [setR_same]
        rfl
      · rw [setR_ne _ _ _ (by omega), show k + 0 = k from rfl, setR_same]
    · rw [if_neg e0]
      by_cases e1 : i = p
      · rw [if_pos e1, e1, setR_same]; rfl
      · rw [if_neg e1, setR_ne _ _ _ (by omega), setR_ne _ _ _ (by omega)]
theorem D_swlead {k p q : Nat} {X : Nat → Nat → Int} (hq : q ≤ k) : D q (swR X k (k + p)) = D q X := D_congr fun a ha b _ => by
  unfold swR
  rw [setR_ne _ _ _ (by omega), setR_ne _ _ _ (by omega)]
/-- How great a determinant of n rows with elements to c is at most. -/
def fb (c : Int) : Nat → Int
  | 0 => 1
  | n + 1 => ((n : Int) + 1) * (c * fb c n)
theorem fb_pos {c : Int} (hc : 0 ≤ c) : ∀ n, 0 ≤ fb c n
  | 0 => by unfold fb; omega
  | n + 1 => by
    unfold fb
    exact Int.mul_nonneg (by omega) (Int.mul_nonneg hc (fb_pos hc n))
theorem mul_abs {a b c d : Int} (ha : -c ≤ a ∧ a ≤ c) (hb : -d ≤ b ∧ b ≤ d) (hc : 0 ≤ c) (hd : 0 ≤ d) : -(c * d) ≤ a * b ∧ a * b ≤ c * d := by
  have h1 := Int.mul_nonneg (show 0 ≤ c - a by omega) (show 0 ≤ d - b by omega)
  have h2 := Int.mul_nonneg (show 0 ≤ c + a by omega) (show 0 ≤ d + b by omega)
  have h3 := Int.mul_nonneg (show 0 ≤ c - a by omega) (show 0 ≤ d + b by omega)
  have h4 := Int.mul_nonneg (show 0 ≤ c + a by omega) (show 0 ≤ d - b by omega)
  constructor <;> grind
theorem sg_bd (k : Nat) : sg k = 1 ∨ sg k = -1 := by unfold sg; split <;> simp
theorem sumZ_bd {f : Nat → Int} {b : Int} {n : Nat} (h : ∀ k, k < n → -b ≤ f k ∧ f k ≤ b) : -((n : Int) * b) ≤ sumZ f n ∧ sumZ f n ≤ (n : Int) * b := by
  induction n with
  | zero => simp [sumZ]
  | succ n ih =>
    have h1 := ih fun k hk => h k (by omega)
    have h2 := h n (by omega)
    unfold sumZ
    rw [show (((n + 1 : Nat) : Int)) * b = (n : Int) * b + b by rw [Int.natCast_add, Int.add_mul]; simp]
    omega
theorem D_term {c : Int} {n k : Nat} {X : Nat → Nat → Int} (hc : 0 ≤ c) (h0 : -c ≤ X 0 k ∧ X 0 k ≤ c) (hd : -fb c n ≤ D n (fun i j => X (i + 1) (skip k j)) ∧ D n (fun i j => X (i + 1) (skip k j)) ≤ fb c n) :
    -(c * fb c n) ≤ sg k * X 0 k * D n (fun i j => X (i + 1) (skip k j)) ∧ sg k * X 0 k * D n (fun i j => X (i + 1) (skip k j)) ≤ c * fb c n := by
  refine mul_abs ?_ hd hc (fb_pos hc n)
  rcases sg_bd k with h | h <;> rw [h] <;> omega
theorem D_bd {c : Int} (hc : 0 ≤ c) : ∀ {n : Nat} {X : Nat → Nat → Int}, (∀ i, i < n → ∀ j, j < n → -c ≤ X i j ∧ X i j ≤ c) → -fb c n ≤ D n X ∧ D n X ≤ fb c n
  | 0, X, _ => by unfold D fb; omega
  | n + 1, X, h => by
    unfold D
    have := sumZ_bd (f := fun k => sg k * X 0 k * D n (fun i j => X (i + 1) (skip k j))) (b := c * fb c n) (n := n + 1) fun k hk => D_term hc (h 0 (by omega) k hk) (D_bd hc fun i hi j hj => h (i + 1) (by omega) _ (skip_lt hj))
    unfold fb
    rw [show ((n : Int) + 1) = ((n + 1 : Nat) : Int) by omega]
    exact this
theorem skip_succ (k j : Nat) : skip (k + 1) (j + 1) = skip k j + 1 := by
  unfold skip
  repeat' split
  all_goals omega
/-- Along the first column. -/
theorem D_col : ∀ (n : Nat) (X : Nat → Nat → Int), D (n + 1) X = sumZ (fun k => sg k * X k 0 * D n (fun i j => X (skip k i) (j + 1))) (n + 1)
  | 0, X => by simp [D, sumZ]
  | n + 1, X => by
    rw [show D (n + 1 + 1) X = sumZ (fun k => sg k * X 0 k * D (n + 1) (fun i j => X (i + 1) (skip k j))) (n + 1 + 1) from rfl, sumZ_first, sumZ_first (fun k => sg k * X k 0 * D (n + 1) (fun i j => X (skip k i) (j + 1)))]
    have e0 : D (n + 1) (fun i j => X (i + 1) (skip 0 j)) = D (n + 1) (fun i j => X (skip 0 i) (j + 1)) := rfl
    rw [e0]
    congr 1
    have l : sumZ (fun k => sg (k + 1) * X 0 (k + 1) * D (n + 1) (fun i j => X (i + 1) (skip (k + 1) j))) (n + 1) = sumZ (fun k => sumZ (fun q => sg (k + 1) * X 0 (k + 1) * (sg q * X (q + 1) 0 * D n (fun i j => X (skip q i + 1) (skip k j + 1)))) (n + 1)) (n + 1) := by
      refine sumZ_congr fun k hk => ?_
      rw [sumZ_mul, D_col n]
      congr 1
      refine sumZ_congr fun q hq => ?_
      rw [show skip (k + 1) 0 = 0 from if_pos (by omega)]
      congr 1
      refine D_congr fun i _ j _ => ?_
      rw [skip_succ]
    have r : sumZ (fun k => sg (k + 1) * X (k + 1) 0 * D (n + 1) (fun i j => X (skip (k + 1) i) (j + 1))) (n + 1) = sumZ (fun q => sumZ (fun k => sg (k + 1) * X 0 (k + 1) * (sg q * X (q + 1) 0 * D n (fun i j => X (skip q i + 1) (skip k j + 1)))) (n + 1)) (n + 1) := by
      refine sumZ_congr fun q hq => ?_
      rw [show D (n + 1) (fun i j => X (skip (q + 1) i) (j + 1)) = sumZ (fun k => sg k * X (skip (q + 1) 0) (k + 1) * D n (fun i j => X (skip (q + 1) (i + 1)) (skip k j + 1))) (n + 1) from rfl, ← sumZ_mul]
      refine sumZ_congr fun k hk => ?_
      rw [show skip (q + 1) 0 = 0 from if_pos (by omega)]
      have e : D n (fun i j => X (skip (q + 1) (i + 1)) (skip k j + 1)) = D n (fun i j => X (skip q i + 1) (skip k j + 1)) := D_congr fun i _ j _ => by
        rw [skip_succ]
      rw [e, sg_succ, sg_succ]
      grind
    rw [l, r, sumZ_swap]
/-- The transposed matrix. -/
theorem D_flip : ∀ (n : Nat) (X : Nat → Nat → Int), D n (fun i j => X j i) = D n X
  | 0, _ => rfl
  | n + 1, X => by
    rw [D_col n X]
    refine sumZ_congr fun k _ => ?_
    rw [← D_flip n]
end Go.Proofs.Ytoejdfpmmgldpaa
