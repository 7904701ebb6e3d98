/- What a mesh is worth: the error of its lists, panels and volume, as plain functions of points and faces. No conditions. -/
import Derived.Test.YtoadlneneijfaaaPanr
import Derived.Test.YtoadlneneijfaaaMap
namespace Go.Proofs.Ytoadlneneijfaaa
set_option linter.unusedVariables false
set_option linter.unusedSimpArgs false
open Go.RowKit
/-- Two points of a list are equal. -/
def eqPt (P : Nat → Nat → Int) (i k : Nat) : Bool := decide (P i 0 = P k 0) && (decide (P i 1 = P k 1) && decide (P i 2 = P k 2))
def ptBad (P : Nat → Nat → Int) (i : Nat) : Bool := !(inB (P i 0) (P i 1) (P i 2) 64) || (List.range i).any fun k => eqPt P i k
def ptsBad (P : Nat → Nat → Int) (n : Nat) : Bool := (List.range n).any fun i => ptBad P i
/-- Coordinate c of corner k of face i. -/
def co (P F : Nat → Nat → Int) (i k c : Nat) : Int := P (F i k).toNat c
def flatB (P F : Nat → Nat → Int) (i : Nat) : Bool :=
  decide (nX (co P F i 0 0) (co P F i 0 1) (co P F i 0 2) (co P F i 1 0) (co P F i 1 1) (co P F i 1 2) (co P F i 2 0) (co P F i 2 1) (co P F i 2 2) = 0 ∧
    nY (co P F i 0 0) (co P F i 0 1) (co P F i 0 2) (co P F i 1 0) (co P F i 1 1) (co P F i 1 2) (co P F i 2 0) (co P F i 2 1) (co P F i 2 2) = 0 ∧
    nZ (co P F i 0 0) (co P F i 0 1) (co P F i 0 2) (co P F i 1 0) (co P F i 1 1) (co P F i 1 2) (co P F i 2 0) (co P F i 2 1) (co P F i 2 2) = 0)
/-- The corners of a face are numbers of points. -/
def cornB (n : Nat) (F : Nat → Nat → Int) (i : Nat) : Bool := decide (0 ≤ F i 0 ∧ F i 0 < n) && (decide (0 ≤ F i 1 ∧ F i 1 < n) && decide (0 ≤ F i 2 ∧ F i 2 < n))
def faceE (n : Nat) (P F : Nat → Nat → Int) (i : Nat) : Int := if cornB n F i = true then (if flatB P F i = true then 6 else 0) else 5
def facesE (n : Nat) (P F : Nat → Nat → Int) : Nat → Int
  | 0 => 0
  | m + 1 => if facesE n P F m ≠ 0 then facesE n P F m else faceE n P F m
def ind (a b p q : Int) : Int := if a = p ∧ b = q then 1 else 0
/-- How often the sides of the first m faces are p q. -/
def cnt (F : Nat → Nat → Int) : Nat → Int → Int → Int
  | 0, _, _ => 0
  | m + 1, p, q => cnt F m p q + ind (F m 0) (F m 1) p q + ind (F m 1) (F m 2) p q + ind (F m 2) (F m 0) p q
def sideBad (F : Nat → Nat → Int) (m : Nat) (p q : Int) : Bool := !(decide (cnt F m p q = 1)) || !(decide (cnt F m q p = 1))
def fOpen (F : Nat → Nat → Int) (m i : Nat) : Bool := sideBad F m (F i 0) (F i 1) || (sideBad F m (F i 1) (F i 2) || sideBad F m (F i 2) (F i 0))
def openB (F : Nat → Nat → Int) (m : Nat) : Bool := (List.range m).any fun i => fOpen F m i
def usedB (F : Nat → Nat → Int) (m : Nat) (p : Nat) : Bool := (List.range m).any fun i => decide (F i 0 = p) || (decide (F i 1 = p) || decide (F i 2 = p))
def looseB (F : Nat → Nat → Int) (m n : Nat) : Bool := (List.range n).any fun p => !usedB F m p
/-- The product of three corners. -/
def pr9 (p0 p1 p2 p3 p4 p5 p6 p7 p8 : Int) : Int := p0 * (p4 * p8 - p5 * p7) + p1 * (p5 * p6 - p3 * p8) + p2 * (p3 * p7 - p4 * p6)
def prF (P F : Nat → Nat → Int) (i : Nat) : Int := pr9 (co P F i 0 0) (co P F i 0 1) (co P F i 0 2) (co P F i 1 0) (co P F i 1 1) (co P F i 1 2) (co P F i 2 0) (co P F i 2 1) (co P F i 2 2)
def vol (P F : Nat → Nat → Int) : Nat → Int
  | 0 => 0
  | m + 1 => vol P F m + prF P F m
def largeB (n m : Nat) : Bool := decide (64 < n) || !(decide (1 ≤ m ∧ m ≤ 96))
/-- The error of a mesh. -/
def validE (n : Nat) (P : Nat → Nat → Int) (m : Nat) (F : Nat → Nat → Int) : Int :=
  if largeB n m = true then 4 else if ptsBad P n = true then 1 else if facesE n P F m ≠ 0 then facesE n P F m else
  if openB F m = true then 7 else if looseB F m n = true then 5 else if vol P F m ≤ 0 then 8 else 0
theorem any_true {n k : Nat} {f : Nat → Bool} (hk : k < n) (h : f k = true) : (List.range n).any f = true := List.any_eq_true.2 ⟨k, List.mem_range.2 hk, h⟩
theorem any_false {n : Nat} {f : Nat → Bool} (h : ∀ k, k < n → f k = false) : (List.range n).any f = false := by
  rw [List.any_eq_false]
  intro k hk
  rw [h k (List.mem_range.1 hk)]
  simp
theorem of_any_false {n : Nat} {f : Nat → Bool} (h : (List.range n).any f = false) : ∀ k, k < n → f k = false := by
  rw [List.any_eq_false] at h
  intro k hk
  simpa using h k (List.mem_range.2 hk)
theorem facesE_zero {n : Nat} {P F : Nat → Nat → Int} : ∀ {m : Nat}, (∀ i, i < m → faceE n P F i = 0) → facesE n P F m = 0
  | 0, _ => rfl
  | m + 1, h => by
    unfold facesE
    rw [if_neg (by simpa using facesE_zero fun i hi => h i (by omega))]
    exact h m (by omega)
theorem facesE_hit {n : Nat} {P F : Nat → Nat → Int} {k : Nat} (h0 : ∀ i, i < k → faceE n P F i = 0) (hk : faceE n P F k ≠ 0) : ∀ {m : Nat}, k < m → facesE n P F m = faceE n P F k
  | 0, h => by omega
  | m + 1, h => by
    unfold facesE
    by_cases e : k = m
    · subst e
      rw [if_neg (by simpa using facesE_zero h0)]
    · have := facesE_hit h0 hk (m := m) (by omega)
      rw [if_pos (by rw [this]; exact hk), this]
theorem facesE_at {n : Nat} {P F : Nat → Nat → Int} : ∀ {m : Nat}, facesE n P F m = 0 → ∀ i, i < m → faceE n P F i = 0
  | 0, _, i, h => by omega
  | m + 1, h, i, hi => by
    unfold facesE at h
    by_cases e : facesE n P F m = 0
    · rw [if_neg (by simpa using e)] at h
      by_cases q : i = m
      · subst q; exact h
      · exact facesE_at e i (by omega)
    · rw [if_pos e] at h; exact absurd h e
theorem faceE_0 {n : Nat} {P F : Nat → Nat → Int} {i : Nat} (h : faceE n P F i = 0) : cornB n F i = true ∧ flatB P F i = false := by
  unfold faceE at h
  split at h
  · split at h
    · cases h
    · exact ⟨by assumption, by simpa using ‹¬flatB P F i = true›⟩
  · cases h
theorem cornB_true {n : Nat} {F : Nat → Nat → Int} {i : Nat} (h : cornB n F i = true) : (0 ≤ F i 0 ∧ F i 0 < n) ∧ (0 ≤ F i 1 ∧ F i 1 < n) ∧ (0 ≤ F i 2 ∧ F i 2 < n) := by
  unfold cornB at h
  simpa using h
theorem ptsBad_at {P : Nat → Nat → Int} {n : Nat} (h : ptsBad P n = false) : ∀ i, i < n → -64 ≤ P i 0 ∧ P i 0 ≤ 64 ∧ -64 ≤ P i 1 ∧ P i 1 ≤ 64 ∧ -64 ≤ P i 2 ∧ P i 2 ≤ 64 := by
  intro i hi
  have := of_any_false h i hi
  unfold ptBad at this
  rw [Bool.or_eq_false_iff] at this
  have := inB_true (by simpa using this.1)
  omega
theorem co_bd {P F : Nat → Nat → Int} {n i k : Nat} (h : ptsBad P n = false) (hF : 0 ≤ F i k ∧ F i k < n) : -64 ≤ co P F i k 0 ∧ co P F i k 0 ≤ 64 ∧ -64 ≤ co P F i k 1 ∧ co P F i k 1 ≤ 64 ∧ -64 ≤ co P F i k 2 ∧ co P F i k 2 ≤ 64 :=
  ptsBad_at h _ (by omega)
theorem pr9_bd {p0 p1 p2 p3 p4 p5 p6 p7 p8 : Int} (h : (-64 ≤ p0 ∧ p0 ≤ 64) ∧ (-64 ≤ p1 ∧ p1 ≤ 64) ∧ (-64 ≤ p2 ∧ p2 ≤ 64) ∧ (-64 ≤ p3 ∧ p3 ≤ 64) ∧ (-64 ≤ p4 ∧ p4 ≤ 64) ∧ (-64 ≤ p5 ∧ p5 ≤ 64) ∧ (-64 ≤ p6 ∧ p6 ≤ 64) ∧ (-64 ≤ p7 ∧ p7 ≤ 64) ∧ (-64 ≤ p8 ∧ p8 ≤ 64)) :
    -1572864 ≤ pr9 p0 p1 p2 p3 p4 p5 p6 p7 p8 ∧ pr9 p0 p1 p2 p3 p4 p5 p6 p7 p8 ≤ 1572864 := by
  obtain ⟨h0, h1, h2, h3, h4, h5, h6, h7, h8⟩ := h
  have m1 := mul_sq 64 4096 h4 h8 rfl
  have m2 := mul_sq 64 4096 h5 h7 rfl
  have m3 := mul_sq 64 4096 h5 h6 rfl
  have m4 := mul_sq 64 4096 h3 h8 rfl
  have m5 := mul_sq 64 4096 h3 h7 rfl
  have m6 := mul_sq 64 4096 h4 h6 rfl
  have key : ∀ a b : Int, -64 ≤ a ∧ a ≤ 64 → -8192 ≤ b ∧ b ≤ 8192 → -524288 ≤ a * b ∧ a * b ≤ 524288 := fun a b ha hb => by
    have := mul_bd 524288 (show -64 ≤ a ∧ a ≤ 64 from ha) hb rfl
    exact this
  have t0 := key p0 (p4 * p8 - p5 * p7) h0 (by omega)
  have t1 := key p1 (p5 * p6 - p3 * p8) h1 (by omega)
  have t2 := key p2 (p3 * p7 - p4 * p6) h2 (by omega)
  unfold pr9
  omega
theorem prF_bd {P F : Nat → Nat → Int} {n i : Nat} (h : ptsBad P n = false) (hF : cornB n F i = true) : -1572864 ≤ prF P F i ∧ prF P F i ≤ 1572864 := by
  obtain ⟨c0, c1, c2⟩ := cornB_true hF
  have b0 := co_bd h c0
  have b1 := co_bd h c1
  have b2 := co_bd h c2
  exact pr9_bd (by omega)
theorem vol_bd {P F : Nat → Nat → Int} {n m : Nat} (h : ptsBad P n = false) (hF : ∀ i, i < m → cornB n F i = true) : ∀ k, k ≤ m → -1572864 * (k : Int) ≤ vol P F k ∧ vol P F k ≤ 1572864 * (k : Int)
  | 0, _ => by simp [vol]
  | k + 1, hk => by
    have h1 := vol_bd h hF k (by omega)
    have h2 := prF_bd h (hF k (by omega))
    unfold vol
    omega
theorem cnt_bd (F : Nat → Nat → Int) (p q : Int) : ∀ m : Nat, 0 ≤ cnt F m p q ∧ cnt F m p q ≤ 3 * (m : Int)
  | 0 => by simp [cnt]
  | m + 1 => by
    have := cnt_bd F p q m
    have key : ∀ a b : Int, 0 ≤ ind a b p q ∧ ind a b p q ≤ 1 := fun a b => by unfold ind; split <;> omega
    have k0 := key (F m 0) (F m 1)
    have k1 := key (F m 1) (F m 2)
    have k2 := key (F m 2) (F m 0)
    unfold cnt
    omega
end Go.Proofs.Ytoadlneneijfaaa
