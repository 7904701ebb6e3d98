/- What a mesh is worth: the error of its lists, panels and volume, as plain functions of points and faces. No conditions. Contracts: the panel of a face, products of corners, of the program and of the reference. Conditions: corners are numbers of points. Contracts: the error of a face. Conditions: the points are small. -/
import Derived.Test.YtnbjealpcjfllaaGreatDoorPnl
import Derived.Test.YtnbjealpcjfllaaGreatDoorOpr
import Derived.LoopN
import Derived.Deep.DrawnRows
namespace Go.Proofs.YtnbjealpcjfllaaGreatDoor
set_option linter.unusedVariables false
set_option linter.unusedSimpArgs false
open Go.RowKit
/-- Two points of a list are equal. -/
def eqPt (P : Nat → Nat → Int) (i k : Nat) : Bool := decide (P i 0 = P k 0) && (decide (P i 1 = P k 1) && decide (P i 2 = P k 2))
def ptBad (P : Nat → Nat → Int) (i : Nat) : Bool := !(inB (P i 0) (P i 1) (P i 2) 64) || (List.range i).any fun k => eqPt P i k
def ptsBad (P : Nat → Nat → Int) (n : Nat) : Bool := (List.range n).any fun i => ptBad P i
/-- Coordinate c of corner k of face i. -/
def co (P F : Nat → Nat → Int) (i k c : Nat) : Int := P (F i k).toNat c
def flatB (P F : Nat → Nat → Int) (i : Nat) : Bool :=
  decide (nX (co P F i 0 0) (co P F i 0 1) (co P F i 0 2) (co P F i 1 0) (co P F i 1 1) (co P F i 1 2) (co P F i 2 0) (co P F i 2 1) (co P F i 2 2) = 0 ∧
    nY (co P F i 0 0) (co P F i 0 1) (co P F i 0 2) (co P F i 1 0) (co P F i 1 1) (co P F i 1 2) (co P F i 2 0) (co P F i 2 1) (co P F i 2 2) = 0 ∧
    nZ (co P F i 0 0) (co P F i 0 1) (co P F i 0 2) (co P F i 1 0) (co P F i 1 1) (co P F i 1 2) (co P F i 2 0) (co P F i 2 1) (co P F i 2 2) = 0)
/-- The corners of a face are numbers of points. -/
def cornB (n : Nat) (F : Nat → Nat → Int) (i : Nat) : Bool := decide (0 ≤ F i 0 ∧ F i 0 < n) && (decide (0 ≤ F i 1 ∧ F i 1 < n) && decide (0 ≤ F i 2 ∧ F i 2 < n))
def faceE (n : Nat) (P F : Nat → Nat → Int) (i : Nat) : Int := if cornB n F i = true then (if flatB P F i = true then 6 else 0) else 5
def facesE (n : Nat) (P F : Nat → Nat → Int) : Nat → Int
  | 0 => 0
  | m + 1 => if facesE n P F m ≠ 0 then facesE n P F m else faceE n P F m
def ind (a b p q : Int) : Int := if a = p ∧ b = q then 1 else 0
/-- How often the sides of the first m faces are p q. -/
def cnt (F : Nat → Nat → Int) : Nat → Int → Int → Int
  | 0, _, _ => 0
  | m + 1, p, q => cnt F m p q + ind (F m 0) (F m 1) p q + ind (F m 1) (F m 2) p q + ind (F m 2) (F m 0) p q
def sideBad (F : Nat → Nat → Int) (m : Nat) (p q : Int) : Bool := !(decide (cnt F m p q = 1)) || !(decide (cnt F m q p = 1))
def fOpen (F : Nat → Nat → Int) (m i : Nat) : Bool := sideBad F m (F i 0) (F i 1) || (sideBad F m (F i 1) (F i 2) || sideBad F m (F i 2) (F i 0))
def openB (F : Nat → Nat → Int) (m : Nat) : Bool := (List.range m).any fun i => fOpen F m i
def usedB (F : Nat → Nat → Int) (m : Nat) (p : Nat) : Bool := (List.range m).any fun i => decide (F i 0 = p) || (decide (F i 1 = p) || decide (F i 2 = p))
def looseB (F : Nat → Nat → Int) (m n : Nat) : Bool := (List.range n).any fun p => !usedB F m p
/-- The product of three corners. -/
def pr9 (p0 p1 p2 p3 p4 p5 p6 p7 p8 : Int) : Int := p0 * (p4 * p8 - p5 * p7) + p1 * (p5 * p6 - p3 * p8) + p2 * (p3 * p7 - p4 * p6)
def prF (P F : Nat → Nat → Int) (i : Nat) : Int := pr9 (co P F i 0 0) (co P F i 0 1) (co P F i 0 2) (co P F i 1 0) (co P F i 1 1) (co P F i 1 2) (co P F i 2 0) (co P F i 2 1) (co P F i 2 2)
def vol (P F : Nat → Nat → Int) : Nat → Int
  | 0 => 0
  | m + 1 => vol P F m + prF P F m
def largeB (n m : Nat) : Bool := decide (64 < n) || !(decide (1 ≤ m ∧ m ≤ 96))
/-- The error of a mesh. -/
def validE (n : Nat) (P : Nat → Nat → Int) (m : Nat) (F : Nat → Nat → Int) : Int :=
  if largeB n m = true then 4 else if ptsBad P n = true then 1 else if facesE n P F m ≠ 0 then facesE n P F m else
  if openB F m = true then 7 else if looseB F m n = true then 5 else if vol P F m ≤ 0 then 8 else 0
theorem any_true {n k : Nat} {f : Nat → Bool} (hk : k < n) (h : f k = true) : (List.range n).any f = true := List.any_eq_true.2 ⟨k, List.mem_range.2 hk, h⟩
theorem any_false {n : Nat} {f : Nat → Bool} (h : ∀ k, k < n → f k = false) : (List.range n).any f = false := by
  rw [List.any_eq_false]
  intro k hk
  rw [h k (List.mem_range.1 hk)]
  simp
theorem of_any_false {n : Nat} {f : Nat → Bool} (h : (List.range n).any f = false) : ∀ k, k < n → f k = false := by
  rw [List.any_eq_false] at h
  intro k hk
  simpa using h k (List.mem_range.2 hk)
theorem facesE_zero {n : Nat} {P F : Nat → Nat → Int} : ∀ {m : Nat}, (∀ i, i < m → faceE n P F i = 0) → facesE n P F m = 0
  | 0, _ => rfl
  | m + 1, h => by
    unfold facesE
    rw [if_neg (by simpa using facesE_zero fun i hi => h i (by omega))]
    exact h m (by omega)
theorem facesE_hit {n : Nat} {P F : Nat → Nat → Int} {k : Nat} (h0 : ∀ i, i < k → faceE n P F i = 0) (hk : faceE n P F k ≠ 0) : ∀ {m : Nat}, k < m → facesE n P F m = faceE n P F k
  | 0, h => by omega
  | m + 1, h => by
    unfold facesE
    by_cases e : k = m
    · subst e
      rw [if_neg (by simpa using facesE_zero h0)]
    · have := facesE_hit h0 hk (m := m) (by omega)
      rw [if_pos (by rw [this]; exact hk), this]
theorem facesE_at {n : Nat} {P F : Nat → Nat → Int} : ∀ {m : Nat}, facesE n P F m = 0 → ∀ i, i < m → faceE n P F i = 0
  | 0, _, i, h => by omega
  | m + 1, h, i, hi => by
    unfold facesE at h
    by_cases e : facesE n P F m = 0
    · rw [if_neg (by simpa using e)] at h
      by_cases q : i = m
      · subst q; exact h
      · exact facesE_at e i (by omega)
    · rw [if_pos e] at h; exact absurd h e
theorem faceE_0 {n : Nat} {P F : Nat → Nat → Int} {i : Nat} (h : faceE n P F i = 0) : cornB n F i = true ∧ flatB P F i = false := by
  unfold faceE at h
  split at h
  · split at h
    · cases h
    · exact ⟨by assumption, by simpa using ‹¬flatB P F i = true›⟩
  · cases h
theorem cornB_true {n : Nat} {F : Nat → Nat → Int} {i : Nat} (h : cornB n F i = true) : (0 ≤ F i 0 ∧ F i 0 < n) ∧ (0 ≤ F i 1 ∧ F i 1 < n) ∧ (0 ≤ F i 2 ∧ F i 2 < n) := by
  unfold cornB at h
  simpa using h
theorem ptsBad_at {P : Nat → Nat → Int} {n : Nat} (h : ptsBad P n = false) : ∀ i, i < n → -64 ≤ P i 0 ∧ P i 0 ≤ 64 ∧ -64 ≤ P i 1 ∧ P i 1 ≤ 64 ∧ -64 ≤ P i 2 ∧ P i 2 ≤ 64 := by
  intro i hi
  have := of_any_false h i hi
  unfold ptBad at this
  rw [Bool.or_eq_false_iff] at this
  have := inB_true (by simpa using this.1)
  omega
theorem co_bd {P F : Nat → Nat → Int} {n i k : Nat} (h : ptsBad P n = false) (hF : 0 ≤ F i k ∧ F i k < n) : -64 ≤ co P F i k 0 ∧ co P F i k 0 ≤ 64 ∧ -64 ≤ co P F i k 1 ∧ co P F i k 1 ≤ 64 ∧ -64 ≤ co P F i k 2 ∧ co P F i k 2 ≤ 64 :=
  ptsBad_at h _ (by omega)
theorem pr9_bd {p0 p1 p2 p3 p4 p5 p6 p7 p8 : Int} (h : (-64 ≤ p0 ∧ p0 ≤ 64) ∧ (-64 ≤ p1 ∧ p1 ≤ 64) ∧ (-64 ≤ p2 ∧ p2 ≤ 64) ∧ (-64 ≤ p3 ∧ p3 ≤ 64) ∧ (-64 ≤ p4 ∧ p4 ≤ 64) ∧ (-64 ≤ p5 ∧ p5 ≤ 64) ∧ (-64 ≤ p6 ∧ p6 ≤ 64) ∧ (-64 ≤ p7 ∧ p7 ≤ 64) ∧ (-64 ≤ p8 ∧ p8 ≤ 64)) :
    -1572864 ≤ pr9 p0 p1 p2 p3 p4 p5 p6 p7 p8 ∧ pr9 p0 p1 p2 p3 p4 p5 p6 p7 p8 ≤ 1572864 := by
  obtain ⟨h0, h1, h2, h3, h4, h5, h6, h7, h8⟩ := h
  have m1 := mul_sq 64 4096 h4 h8 rfl
  have m2 := mul_sq 64 4096 h5 h7 rfl
  have m3 := mul_sq 64 4096 h5 h6 rfl
  have m4 := mul_sq 64 4096 h3 h8 rfl
  have m5 := mul_sq 64 4096 h3 h7 rfl
  have m6 := mul_sq 64 4096 h4 h6 rfl
  have key : ∀ a b : Int, -64 ≤ a ∧ a ≤ 64 → -8192 ≤ b ∧ b ≤ 8192 → -524288 ≤ a * b ∧ a * b ≤ 524288 := fun a b ha hb => by
    have := mul_bd 524288 (show -64 ≤ a ∧ a ≤ 64 from ha) hb rfl
    exact this
  have t0 := key p0 (p4 * p8 - p5 * p7) h0 (by omega)
  have t1 := key p1 (p5 * p6 - p3 * p8) h1 (by omega)
  have t2 := key p2 (p3 * p7 - p4 * p6) h2 (by omega)
  unfold pr9
  omega
theorem prF_bd {P F : Nat → Nat → Int} {n i : Nat} (h : ptsBad P n = false) (hF : cornB n F i = true) : -1572864 ≤ prF P F i ∧ prF P F i ≤ 1572864 := by
  obtain ⟨c0, c1, c2⟩ := cornB_true hF
  have b0 := co_bd h c0
  have b1 := co_bd h c1
  have b2 := co_bd h c2
  exact pr9_bd (by omega)
theorem vol_bd {P F : Nat → Nat → Int} {n m : Nat} (h : ptsBad P n = false) (hF : ∀ i, i < m → cornB n F i = true) : ∀ k, k ≤ m → -1572864 * (k : Int) ≤ vol P F k ∧ vol P F k ≤ 1572864 * (k : Int)
  | 0, _ => by simp [vol]
  | k + 1, hk => by
    have h1 := vol_bd h hF k (by omega)
    have h2 := prF_bd h (hF k (by omega))
    unfold vol
    omega
theorem cnt_bd (F : Nat → Nat → Int) (p q : Int) : ∀ m : Nat, 0 ≤ cnt F m p q ∧ cnt F m p q ≤ 3 * (m : Int)
  | 0 => by simp [cnt]
  | m + 1 => by
    have := cnt_bd F p q m
    have key : ∀ a b : Int, 0 ≤ ind a b p q ∧ ind a b p q ≤ 1 := fun a b => by unfold ind; split <;> omega
    have k0 := key (F m 0) (F m 1)
    have k1 := key (F m 1) (F m 2)
    have k2 := key (F m 2) (F m 0)
    unfold cnt
    omega
end Go.Proofs.YtnbjealpcjfllaaGreatDoor
namespace Go.Proofs.YtnbjealpcjfllaaGreatDoor
set_option linter.unusedVariables false
set_option linter.unusedSimpArgs false
open Go.RowKit
@[go_sem] theorem idx3_0 (a b c : Int) (w : World) : (Instr.index 138 (.agg #[.int .i64 a, .int .i64 b, .int .i64 c]) (.int .i64 0)).run Tryz.prog w = .ok (.int .i64 a) w := by kernel_rfl
@[go_sem] theorem idx3_1 (a b c : Int) (w : World) : (Instr.index 138 (.agg #[.int .i64 a, .int .i64 b, .int .i64 c]) (.int .i64 1)).run Tryz.prog w = .ok (.int .i64 b) w := by kernel_rfl
@[go_sem] theorem idx3_2 (a b c : Int) (w : World) : (Instr.index 138 (.agg #[.int .i64 a, .int .i64 b, .int .i64 c]) (.int .i64 2)).run Tryz.prog w = .ok (.int .i64 c) w := by kernel_rfl
@[go_sem] theorem idxs_0 (a b c d e f : Int) (w : World) : (Instr.index 191 (.agg #[.int .i64 a, .int .i64 b, .int .i64 c, .int .i64 d, .int .i64 e, .int .i64 f]) (.int .i64 0)).run Tryz.prog w = .ok (.agg #[.int .i64 a, .int .i64 b]) w := by kernel_rfl
@[go_sem] theorem idxs_1 (a b c d e f : Int) (w : World) : (Instr.index 191 (.agg #[.int .i64 a, .int .i64 b, .int .i64 c, .int .i64 d, .int .i64 e, .int .i64 f]) (.int .i64 1)).run Tryz.prog w = .ok (.agg #[.int .i64 c, .int .i64 d]) w := by kernel_rfl
@[go_sem] theorem idxs_2 (a b c d e f : Int) (w : World) : (Instr.index 191 (.agg #[.int .i64 a, .int .i64 b, .int .i64 c, .int .i64 d, .int .i64 e, .int .i64 f]) (.int .i64 2)).run Tryz.prog w = .ok (.agg #[.int .i64 e, .int .i64 f]) w := by kernel_rfl
/-- What is at hand of a list of elements of three cells, at a Nat. -/
theorem rows3 {w : World} {A : Option Addr} {n k : Nat} {f : Nat → Nat → Int} (h : RowsAt w A n 3 f) (hk : k < n) :
    ∃ b off, A = some ⟨b, off, none⟩ ∧ b < w.heap.size ∧ w.cell? ⟨b, off + k * 3, none⟩ = some (.int .i64 (f k 0)) ∧ w.cell? ⟨b, off + k * 3 + 1, none⟩ = some (.int .i64 (f k 1)) ∧ w.cell? ⟨b, off + k * 3 + 2, none⟩ = some (.int .i64 (f k 2)) := by
  obtain ⟨b, off, rfl, hb, hc⟩ := h (by omega)
  have h0 := (hc k hk 0 (by omega)).1
  have h1 := (hc k hk 1 (by omega)).1
  have h2 := (hc k hk 2 (by omega)).1
  rw [Nat.add_zero] at h0
  exact ⟨b, off, rfl, hb, h0, h1, h2⟩
theorem sdot_any (a0 a1 a2 b0 b1 b2 : Int) (w : World) (h : (-1099511627776 ≤ a0 * b0 ∧ a0 * b0 ≤ 1099511627776) ∧ (-1099511627776 ≤ a1 * b1 ∧ a1 * b1 ≤ 1099511627776) ∧ (-1099511627776 ≤ a2 * b2 ∧ a2 * b2 ≤ 1099511627776)) :
    Calls Tryz.prog 219 #[.agg #[.int .i64 a0, .int .i64 a1, .int .i64 a2], .agg #[.int .i64 b0, .int .i64 b1, .int .i64 b2]] w fun e w' => e = .returned (.int .i64 (a0 * b0 + a1 * b1 + a2 * b2)) ∧ Kept w w' := by
  go_enter Tryz.func219, Tryz.ntmps219
  go_wp2
  go_ret
  exact ⟨rfl, by (repeat (first | exact Kept.refl _ | assumption | refine Kept.alloc ?_ _ | refine Kept.ext ?_ _ | refine Kept.drew ?_ | refine Kept.drewN ?_ _))⟩
theorem r2dot_any (a0 a1 a2 b0 b1 b2 : Int) (w : World) (h : (-1099511627776 ≤ a0 * b0 ∧ a0 * b0 ≤ 1099511627776) ∧ (-1099511627776 ≤ a1 * b1 ∧ a1 * b1 ≤ 1099511627776) ∧ (-1099511627776 ≤ a2 * b2 ∧ a2 * b2 ≤ 1099511627776)) :
    Calls Tryz.prog 189 #[.agg #[.int .i64 a0, .int .i64 a1, .int .i64 a2], .agg #[.int .i64 b0, .int .i64 b1, .int .i64 b2]] w fun e w' => e = .returned (.int .i64 (a0 * b0 + a1 * b1 + a2 * b2)) ∧ Kept w w' := by
  go_enter Tryz.func189, Tryz.ntmps189
  go_wp2
  go_ret
  exact ⟨rfl, by (repeat (first | exact Kept.refl _ | assumption | refine Kept.alloc ?_ _ | refine Kept.ext ?_ _ | refine Kept.drew ?_ | refine Kept.drewN ?_ _))⟩
theorem cross_key {a x y z v : Int} (ha : -512 ≤ a ∧ a ≤ 512) (hx : -512 ≤ x ∧ x ≤ 512) (hy : -512 ≤ y ∧ y ≤ 512) (hz : -512 ≤ z ∧ z ≤ 512) (hv : -512 ≤ v ∧ v ≤ 512) :
    -1099511627776 ≤ a * (x * y - z * v) ∧ a * (x * y - z * v) ≤ 1099511627776 := by
  have h1 := mul_sq 512 262144 hx hy rfl
  have h2 := mul_sq 512 262144 hz hv rfl
  have := mul_bd 268435456 ha (show -524288 ≤ x * y - z * v ∧ x * y - z * v ≤ 524288 by omega) rfl
  omega
theorem sproduct_any (p0 p1 p2 p3 p4 p5 p6 p7 p8 : Int) (w : World) (h : (-512 ≤ p0 ∧ p0 ≤ 512) ∧ (-512 ≤ p1 ∧ p1 ≤ 512) ∧ (-512 ≤ p2 ∧ p2 ≤ 512) ∧ (-512 ≤ p3 ∧ p3 ≤ 512) ∧ (-512 ≤ p4 ∧ p4 ≤ 512) ∧ (-512 ≤ p5 ∧ p5 ≤ 512) ∧ (-512 ≤ p6 ∧ p6 ≤ 512) ∧ (-512 ≤ p7 ∧ p7 ≤ 512) ∧ (-512 ≤ p8 ∧ p8 ≤ 512)) :
    Calls Tryz.prog 178 #[.agg #[.int .i64 p0, .int .i64 p1, .int .i64 p2, .int .i64 p3, .int .i64 p4, .int .i64 p5, .int .i64 p6, .int .i64 p7, .int .i64 p8]] w fun e w' => e = .returned (.int .i64 (pr9 p0 p1 p2 p3 p4 p5 p6 p7 p8)) ∧ Kept w w' := by
  obtain ⟨h0, h1, h2, h3, h4, h5, h6, h7, h8⟩ := h
  have k0 := cross_key h0 h4 h8 h5 h7
  have k1 := cross_key h1 h5 h6 h3 h8
  have k2 := cross_key h2 h3 h7 h4 h6
  go_enter Tryz.func178, Tryz.ntmps178
  go_wp2
  ((first | (with_reducible refine wp_region_tail2 8 (by kernel_rfl) (by kernel_rfl) ?_) | refine wp_region_tail 8 (by kernel_rfl) (by kernel_rfl) ?_); simp only [List.take_succ_cons, List.take_zero, List.drop_succ_cons, List.drop_zero]; (repeat (go_big_quiet_step (first | (go_at_call 217; exact Calls.kept_of (scross_any _ _ _ _ _ _ _ (by omega))) | (go_at_call 219; exact Calls.kept_of (sdot_any _ _ _ _ _ _ _ (by omega)))))); refine wpQuiet_nil ?_; intro x)
  go_wp2
  go_ret
  exact ⟨rfl, by (repeat (first | exact Kept.refl _ | assumption | refine Kept.alloc ?_ _ | refine Kept.ext ?_ _ | refine Kept.drew ?_ | refine Kept.drewN ?_ _))⟩
set_option maxHeartbeats 2000000 in
theorem spanel_any (A B : Option Addr) (n cap m cap2 : Nat) (k0 k1 k2 : Nat) (P : Nat → Nat → Int) (w : World) (hk : k0 < n ∧ k1 < n ∧ k2 < n ∧ n ≤ 9223372036854775807) (hP : RowsAt w A n 3 P) :
    Calls Tryz.prog 176 #[.agg #[.slice A n cap, .slice B m cap2], .agg #[.int .i64 k0, .int .i64 k1, .int .i64 k2]] w fun e w' => e = .returned (.agg #[.int .i64 (P k0 0), .int .i64 (P k0 1), .int .i64 (P k0 2), .int .i64 (P k1 0), .int .i64 (P k1 1), .int .i64 (P k1 2), .int .i64 (P k2 0), .int .i64 (P k2 1), .int .i64 (P k2 2)]) ∧ Kept w w' := by
  obtain ⟨h0, h1, h2, h3⟩ := hk
  obtain ⟨b, off, rfl, hb, x0, x1, x2⟩ := rows3 hP h0
  obtain ⟨b', off', e, -, y0, y1, y2⟩ := rows3 hP h1
  cases e
  obtain ⟨b', off', e, -, z0, z1, z2⟩ := rows3 hP h2
  cases e
  clear hP
  have LB : Lower b w.heap.size := ⟨hb⟩
  go_enter Tryz.func176, Tryz.ntmps176
  go_wp2
  ((first | (with_reducible refine wp_region_tail2 19 (by kernel_rfl) (by kernel_rfl) ?_) | refine wp_region_tail 19 (by kernel_rfl) (by kernel_rfl) ?_); simp only [List.take_succ_cons, List.take_zero, List.drop_succ_cons, List.drop_zero]; (repeat (go_big_quiet_step (first | fail))); refine wpQuiet_nil ?_; intro x)
  go_wp2
  refine bodyPost_ret (by simp only [results, Tryz.results176]; go_simp; rfl) rfl ?_
  exact ⟨rfl, by (repeat (first | exact Kept.refl _ | assumption | refine Kept.alloc ?_ _ | refine Kept.ext ?_ _ | refine Kept.drew ?_ | refine Kept.drewN ?_ _))⟩
/-- The corners of a face in order. -/
def faceV (P F : Nat → Nat → Int) (i : Nat) : Value := .agg #[.int .i64 (co P F i 0 0), .int .i64 (co P F i 0 1), .int .i64 (co P F i 0 2), .int .i64 (co P F i 1 0), .int .i64 (co P F i 1 1), .int .i64 (co P F i 1 2), .int .i64 (co P F i 2 0), .int .i64 (co P F i 2 1), .int .i64 (co P F i 2 2)]
theorem co_at {P F : Nat → Nat → Int} {i k q c : Nat} (h : F i k = q) : co P F i k c = P q c := by unfold co; rw [h, Int.toNat_natCast]
theorem spanelF_any (A B : Option Addr) (n cap m cap2 : Nat) (P F : Nat → Nat → Int) (i : Nat) (w : World) (hc : cornB n F i = true) (hn : n ≤ 9223372036854775807) (hP : RowsAt w A n 3 P) :
    Calls Tryz.prog 176 #[.agg #[.slice A n cap, .slice B m cap2], .agg #[.int .i64 (F i 0), .int .i64 (F i 1), .int .i64 (F i 2)]] w fun e w' => e = .returned (faceV P F i) ∧ Kept w w' := by
  obtain ⟨⟨a0, a1⟩, ⟨b0, b1⟩, c0, c1⟩ := cornB_true hc
  obtain ⟨k0, e0⟩ := Int.eq_ofNat_of_zero_le a0
  obtain ⟨k1, e1⟩ := Int.eq_ofNat_of_zero_le b0
  obtain ⟨k2, e2⟩ := Int.eq_ofNat_of_zero_le c0
  have := spanel_any A B n cap m cap2 k0 k1 k2 P w (by omega) hP
  unfold faceV
  rw [co_at e0, co_at e0, co_at e0, co_at e1, co_at e1, co_at e1, co_at e2, co_at e2, co_at e2, e0, e1, e2]
  exact this
set_option maxHeartbeats 2000000 in
theorem r2corners_any (A B : Option Addr) (n cap m cap2 : Nat) (P F : Nat → Nat → Int) (i : Nat) (w : World) (hc : cornB n F i = true) (hn : n ≤ 9223372036854775807 ∧ m ≤ 9223372036854775807 ∧ i < m) (hP : RowsAt w A n 3 P) (hF : RowsAt w B m 3 F) :
    Calls Tryz.prog 132 #[.agg #[.slice A n cap, .slice B m cap2], .int .i64 i] w fun e w' => e = .returned (faceV P F i) ∧ Kept w w' := by
  obtain ⟨⟨a0, a1⟩, ⟨b0, b1⟩, c0, c1⟩ := cornB_true hc
  obtain ⟨k0, e0⟩ := Int.eq_ofNat_of_zero_le a0
  obtain ⟨k1, e1⟩ := Int.eq_ofNat_of_zero_le b0
  obtain ⟨k2, e2⟩ := Int.eq_ofNat_of_zero_le c0
  obtain ⟨h1, h2, h3⟩ := hn
  obtain ⟨b, off, rfl, hb, x0, x1, x2⟩ := rows3 hP (show k0 < n by omega)
  obtain ⟨b', off', e, -, y0, y1, y2⟩ := rows3 hP (show k1 < n by omega)
  cases e
  obtain ⟨b', off', e, -, z0, z1, z2⟩ := rows3 hP (show k2 < n by omega)
  cases e
  obtain ⟨d, off2, rfl, hd, f0, f1, f2⟩ := rows3 hF h3
  unfold faceV
  rw [co_at e0, co_at e0, co_at e0, co_at e1, co_at e1, co_at e1, co_at e2, co_at e2, co_at e2]
  rw [e0] at f0
  rw [e1] at f1
  rw [e2] at f2
  have g0 : k0 < n := by omega
  have g1 : k1 < n := by omega
  have g2 : k2 < n := by omega
  clear hP hF e0 e1 e2 a0 a1 b0 b1 c0 c1 hc
  have LB : Lower b w.heap.size := ⟨hb⟩
  have LD : Lower d w.heap.size := ⟨hd⟩
  go_enter Tryz.func132, Tryz.ntmps132
  go_wp2
  ((first | (with_reducible refine wp_region_tail2 19 (by kernel_rfl) (by kernel_rfl) ?_) | refine wp_region_tail 19 (by kernel_rfl) (by kernel_rfl) ?_); simp only [List.take_succ_cons, List.take_zero, List.drop_succ_cons, List.drop_zero]; (repeat (go_big_quiet_step (first | fail))); refine wpQuiet_nil ?_; intro x)
  go_wp2
  refine bodyPost_ret (by simp only [results, Tryz.results132]; go_simp; rfl) rfl ?_
  exact ⟨rfl, by (repeat (first | exact Kept.refl _ | assumption | refine Kept.alloc ?_ _ | refine Kept.ext ?_ _ | refine Kept.drew ?_ | refine Kept.drewN ?_ _))⟩
end Go.Proofs.YtnbjealpcjfllaaGreatDoor
namespace Go.Proofs.YtnbjealpcjfllaaGreatDoor
set_option linter.unusedVariables false
set_option linter.unusedSimpArgs false
open Go.RowKit
attribute [local go_sem ↓] Go.wp_at_zero Go.wp_at_succ
theorem cornB_frB (n : Nat) (F : Nat → Nat → Int) (i : Nat) : cornB n F i = (frB (F i 0) 0 ((n : Int) - 1) && (frB (F i 1) 0 ((n : Int) - 1) && frB (F i 2) 0 ((n : Int) - 1))) := by
  have key : ∀ x : Int, decide (0 ≤ x ∧ x < (n : Int)) = frB x 0 ((n : Int) - 1) := fun x => by unfold frB; rw [decide_eq_decide]; omega
  unfold cornB
  rw [key, key, key]
set_option maxRecDepth 100000 in
set_option maxHeartbeats 4000000 in
theorem sface_any (A B : Option Addr) (n cap m cap2 : Nat) (P F : Nat → Nat → Int) (i : Nat) (w : World) (hn : n ≤ 9223372036854775807) (hb : ptsBad P n = false) (hP : RowsAt w A n 3 P) :
    Calls Tryz.prog 117 #[.agg #[.slice A n cap, .slice B m cap2], .agg #[.int .i64 (F i 0), .int .i64 (F i 1), .int .i64 (F i 2)]] w fun e w' => e = .returned (.int .i64 (faceE n P F i)) ∧ Kept w w' := by
  have HP := Lib.hid hP
  clear hP
  have hc := cornB_frB n F i
  cases h0 : frB (F i 0) 0 ((n : Int) - 1)
  · have e : faceE n P F i = 5 := by unfold faceE; rw [hc, h0]; rfl
    rw [e]
    clear e hc
    go_enter Tryz.func117, Tryz.ntmps117
    go_wp2_with fail
    refine wp_loop_rounds 4 ?_
    rw [rounds_succ]
    go_wp2_with (first | (go_at_call 115; refine (sfrom_any _ _ _ _).mono ?_; rintro e w1 ⟨rfl, rfl⟩))
    go_ret
    exact ⟨rfl, by (repeat (first | exact Kept.refl _ | assumption | refine Kept.alloc ?_ _ | refine Kept.ext ?_ _ | refine Kept.drew ?_ | refine Kept.drewN ?_ _))⟩
  cases h1 : frB (F i 1) 0 ((n : Int) - 1)
  · have e : faceE n P F i = 5 := by unfold faceE; rw [hc, h0, h1]; rfl
    rw [e]
    clear e hc
    go_enter Tryz.func117, Tryz.ntmps117
    go_wp2_with fail
    refine wp_loop_rounds 4 ?_
    rw [rounds_succ]
    go_wp2_with (first | (go_at_call 115; refine (sfrom_any _ _ _ _).mono ?_; rintro e w1 ⟨rfl, rfl⟩))
    rw [rounds_succ]
    go_wp2_with (first | (go_at_call 115; refine (sfrom_any _ _ _ _).mono ?_; rintro e w1 ⟨rfl, rfl⟩))
    go_ret
    exact ⟨rfl, by (repeat (first | exact Kept.refl _ | assumption | refine Kept.alloc ?_ _ | refine Kept.ext ?_ _ | refine Kept.drew ?_ | refine Kept.drewN ?_ _))⟩
  cases h2 : frB (F i 2) 0 ((n : Int) - 1)
  · have e : faceE n P F i = 5 := by unfold faceE; rw [hc, h0, h1, h2]; rfl
    rw [e]
    clear e hc
    go_enter Tryz.func117, Tryz.ntmps117
    go_wp2_with fail
    refine wp_loop_rounds 4 ?_
    rw [rounds_succ]
    go_wp2_with (first | (go_at_call 115; refine (sfrom_any _ _ _ _).mono ?_; rintro e w1 ⟨rfl, rfl⟩))
    rw [rounds_succ]
    go_wp2_with (first | (go_at_call 115; refine (sfrom_any _ _ _ _).mono ?_; rintro e w1 ⟨rfl, rfl⟩))
    rw [rounds_succ]
    go_wp2_with (first | (go_at_call 115; refine (sfrom_any _ _ _ _).mono ?_; rintro e w1 ⟨rfl, rfl⟩))
    go_ret
    exact ⟨rfl, by (repeat (first | exact Kept.refl _ | assumption | refine Kept.alloc ?_ _ | refine Kept.ext ?_ _ | refine Kept.drew ?_ | refine Kept.drewN ?_ _))⟩
  have hcB : cornB n F i = true := by rw [hc, h0, h1, h2]; rfl
  have e : faceE n P F i = if flatB P F i = true then 6 else 0 := by unfold faceE; rw [if_pos hcB]
  rw [e]
  clear e hc
  obtain ⟨c0, c1, c2⟩ := cornB_true hcB
  have b0 := co_bd hb c0
  have b1 := co_bd hb c1
  have b2 := co_bd hb c2
  clear c0 c1 c2
  unfold flatB
  go_enter Tryz.func117, Tryz.ntmps117
  go_wp2_with fail
  refine wp_loop_rounds 4 ?_
  rw [rounds_succ]
  go_wp2_with (first | (go_at_call 115; refine (sfrom_any _ _ _ _).mono ?_; rintro e w1 ⟨rfl, rfl⟩))
  rw [rounds_succ]
  go_wp2_with (first | (go_at_call 115; refine (sfrom_any _ _ _ _).mono ?_; rintro e w1 ⟨rfl, rfl⟩))
  rw [rounds_succ]
  go_wp2_with (first | (go_at_call 115; refine (sfrom_any _ _ _ _).mono ?_; rintro e w1 ⟨rfl, rfl⟩))
  rw [rounds_succ]
  go_wp2_with (go_at_call 176; refine (spanelF_any _ _ _ _ _ _ P F i _ hcB hn (HP.out.of (by (repeat (first | exact Kept.refl _ | assumption | refine Kept.alloc ?_ _ | refine Kept.ext ?_ _ | refine Kept.drew ?_ | refine Kept.drewN ?_ _))))).mono ?_; rintro e w1 ⟨rfl, x, rfl⟩; unfold faceV)
  go_wp2_with (first | (go_at_call 175; refine (snormal_any _ _ _ _ _ _ _ _ _ _ (by omega)).mono ?_; rintro e w1 ⟨rfl, x, rfl⟩))
  all_goals (go_ret; exact ⟨rfl, by (repeat (first | exact Kept.refl _ | assumption | refine Kept.alloc ?_ _ | refine Kept.ext ?_ _ | refine Kept.drew ?_ | refine Kept.drewN ?_ _))⟩)
end Go.Proofs.YtnbjealpcjfllaaGreatDoor
