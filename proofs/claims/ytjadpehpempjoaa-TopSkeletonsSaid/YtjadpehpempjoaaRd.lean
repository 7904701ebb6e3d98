/- Contract: the determinant of some rows and columns along the first row, of the reference. Conditions: at most six of each, elements to 100. -/
import Derived.Test.YtjadpehpempjoaaWo
import Derived.Test.YtjadpehpempjoaaSwp
namespace Go.Proofs.Ytjadpehpempjoaa
set_option linter.unusedVariables false
set_option linter.unusedSimpArgs false
open Go.RowKit Go.Deep
/-- The matrix of some rows and columns. -/
def subF (f R C : Nat → Nat → Int) : Nat → Nat → Int := fun i j => f (R i 0).toNat (C j 0).toNat
/-- The summands of a determinant along its first row. -/
def dTerm (n : Nat) (X : Nat → Nat → Int) (k : Nat) : Int := sg k * X 0 k * D n (fun i j => X (i + 1) (skip k j))
theorem D_sum (n : Nat) (X : Nat → Nat → Int) : D (n + 1) X = sumZ (dTerm n X) (n + 1) := rfl
theorem dTerm_bd {n k : Nat} {X : Nat → Nat → Int} (h : Sml (n + 1) X) (hn : n + 1 ≤ 6) (hk : k < n + 1) : -(100 * fb 100 n) ≤ dTerm n X k ∧ dTerm n X k ≤ 100 * fb 100 n :=
  D_term (c := 100) (by decide) (h 0 (by omega) k hk) (D_bd (by decide) fun i hi j hj => h (i + 1) (by omega) _ (skip_lt hj))
theorem dSum_bd {n k : Nat} {X : Nat → Nat → Int} (h : Sml (n + 1) X) (hn : n + 1 ≤ 6) (hk : k ≤ n + 1) : -720000000000000 ≤ sumZ (dTerm n X) k ∧ sumZ (dTerm n X) k ≤ 720000000000000 := by
  have h1 := sumZ_bd (f := dTerm n X) (b := 100 * fb 100 n) (n := k) fun q hq => dTerm_bd h hn (by omega)
  have h2 : (k : Int) * (100 * fb 100 n) ≤ ((n + 1 : Nat) : Int) * (100 * fb 100 n) := Int.mul_le_mul_of_nonneg_right (by omega) (Int.mul_nonneg (by decide) (fb_pos (by decide) n))
  have h3 := fb_le (n + 1) hn
  have h4 : fb 100 (n + 1) = ((n + 1 : Nat) : Int) * (100 * fb 100 n) := by
    show ((n : Int) + 1) * (100 * fb 100 n) = _
    rw [show ((n + 1 : Nat) : Int) = (n : Int) + 1 by omega]
  omega
/-- A list of ints of the call's own can be read. -/
theorem own_read {w : World} {base n : Nat} {v : Value} {g : Nat → Nat → Int} (h : w.ownsRow base 3 1 v n (rowC 1 g n)) (hI : ∀ k, k < n → I64 (g k 0)) : ∃ A cp, v = .slice A n cp ∧ (n ≤ cp ∧ cp ≤ maxLen) ∧ RowsAt w A n 1 g := by
  rcases h.2 with ⟨rfl, rfl⟩ | ⟨g', cap, cur, rfl, hb, hg, h1, h2, h3, h4⟩
  · exact ⟨none, 0, rfl, ⟨Nat.le_refl _, Nat.zero_le _⟩, fun h0 => absurd h0 (by omega)⟩
  · exact ⟨_, cap, rfl, ⟨h1, h2⟩, rows_of_owns h (fun k hk j hj => by obtain rfl : j = 0 := by omega
                                                                      exact hI k hk)⟩
theorem own_low {w : World} {base base' size n : Nat} {e : TypeId} {v : Value} {xs : List Value} (h : w.ownsRow base e size v n xs) (hb : base' ≤ base) : w.ownsRow base' e size v n xs := by
  refine ⟨h.1, ?_⟩
  rcases h.2 with h0 | ⟨g, cap, cur, e1, h1, h2⟩
  · exact .inl h0
  · exact .inr ⟨g, cap, cur, e1, Nat.le_trans hb h1, h2⟩
end Go.Proofs.Ytjadpehpempjoaa
