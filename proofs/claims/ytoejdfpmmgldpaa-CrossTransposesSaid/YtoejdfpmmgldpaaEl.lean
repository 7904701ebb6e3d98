/- Eliminations without fractions, element by element: plain facts. No conditions but those of each theorem. -/
import Derived.Test.YtoejdfpmmgldpaaDet2
import Derived.Test.YtoejdfpmmgldpaaCop
namespace Go.Proofs.Ytoejdfpmmgldpaa
set_option linter.unusedVariables false
set_option linter.unusedSimpArgs false
theorem fb_le : ∀ q, q ≤ 6 → fb 100 q ≤ 720000000000000
  | 0, _ => by decide
  | 1, _ => by decide
  | 2, _ => by decide
  | 3, _ => by decide
  | 4, _ => by decide
  | 5, _ => by decide
  | 6, _ => by decide
  | n + 7, h => by omega
/-- All elements are small. -/
def Sml (n : Nat) (X : Nat → Nat → Int) : Prop := ∀ i, i < n → ∀ j, j < n → -100 ≤ X i j ∧ X i j ≤ 100
theorem D_small {n k : Nat} {X : Nat → Nat → Int} (h : Sml n X) (hk : k ≤ n) (hn : n ≤ 6) : -720000000000000 ≤ D k X ∧ D k X ≤ 720000000000000 := by
  have := D_bd (c := 100) (by decide) (n := k) (X := X) (fun i hi j hj => h i (by omega) j (by omega))
  have := fb_le k (by omega)
  omega
theorem Bk_small {n k i j : Nat} {X : Nat → Nat → Int} (h : Sml n X) (hi : k + i < n) (hj : k + j < n) (hn : n ≤ 6) : -720000000000000 ≤ Bk k X i j ∧ Bk k X i j ≤ 720000000000000 := by
  have := D_bd (c := 100) (by decide) (n := k + 1) (X := bord k X i j) (fun a ha b hb => by
    unfold bord
    refine h _ ?_ _ ?_
    · split <;> omega
    · split <;> omega)
  have := fb_le (k + 1) (by omega)
  unfold Bk
  omega
theorem Bk_0 (X : Nat → Nat → Int) (i j : Nat) : Bk 0 X i j = X i j := by
  unfold Bk
  rw [D_one]
  unfold bord
  simp
/-- The matrix while its rows behind row k are eliminated: those ahead of row i are, and row i ahead of column j. -/
def elimF (k : Nat) (X : Nat → Nat → Int) (i j : Nat) (Y : Nat → Nat → Int) : Nat → Nat → Int := fun a b => if k < b ∧ ((k < a ∧ a < i) ∨ (a = i ∧ b < j)) then Bk (k + 1) X (a - k - 1) (b - k - 1) else Y a b
theorem elim_start {k : Nat} {X Y : Nat → Nat → Int} (a b : Nat) : elimF k X (k + 1) (k + 1) Y a b = Y a b := if_neg (by omega)
theorem elim_set {k i j : Nat} {X Y : Nat → Nat → Int} (hi : k < i) (hj : k < j) (a b : Nat) : setF (elimF k X i j Y) i j (Bk (k + 1) X (i - k - 1) (j - k - 1)) a b = elimF k X i (j + 1) Y a b := by
  unfold setF elimF
  by_cases e : a = i ∧ b = j
  · rw [if_pos e, if_pos (by omega), e.1, e.2]
  · rw [if_neg e]
    by_cases q : k < b ∧ ((k < a ∧ a < i) ∨ (a = i ∧ b < j))
    · rw [if_pos q, if_pos (by omega)]
    · rw [if_neg q, if_neg (by omega)]
theorem elim_row {k i n : Nat} {X Y : Nat → Nat → Int} (hi : k < i) {a b : Nat} (hb : b < n) : elimF k X i n Y a b = elimF k X (i + 1) (k + 1) Y a b := by
  unfold elimF
  by_cases q : k < b ∧ ((k < a ∧ a < i) ∨ (a = i ∧ b < n))
  · rw [if_pos q, if_pos (by omega)]
  · rw [if_neg q, if_neg (by omega)]
theorem elim_end {k n : Nat} {X Y : Nat → Nat → Int} {a b : Nat} (ha : k < a) (han : a < n) (hb : k < b) : elimF k X n (k + 1) Y a b = Bk (k + 1) X (a - (k + 1)) (b - (k + 1)) := by
  unfold elimF
  rw [if_pos (by omega), show a - k - 1 = a - (k + 1) by omega, show b - k - 1 = b - (k + 1) by omega]
theorem elim_old {k i j : Nat} {X Y : Nat → Nat → Int} {a b : Nat} (h : ¬ (k < b ∧ ((k < a ∧ a < i) ∨ (a = i ∧ b < j)))) : elimF k X i j Y a b = Y a b := if_neg h
/-- One quotient of the elimination. -/
theorem elim_quo {k i j : Nat} {X Y : Nat → Nat → Int} (hX : ∀ q, q ≤ k → D q X ≠ 0) (hi : k < i) (hj : k < j) (h1 : Y i j = Bk k X (i - k) (j - k)) (h2 : Y k k = Bk k X 0 0) (h3 : Y i k = Bk k X (i - k) 0) (h4 : Y k j = Bk k X 0 (j - k)) :
    Y i j * Y k k - Y i k * Y k j = Bk (k + 1) X (i - k - 1) (j - k - 1) * D k X := by
  have := bar_ent hX (i - k - 1) (j - k - 1)
  rw [show i - k - 1 + 1 = i - k by omega, show j - k - 1 + 1 = j - k by omega] at this
  rw [h1, h2, h3, h4, Int.mul_comm (Bk k X (i - k) (j - k)), this, Int.mul_comm]
end Go.Proofs.Ytoejdfpmmgldpaa
