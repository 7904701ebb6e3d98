/- What a point and a mesh are worth to each other: whether it lies on the surface, and its winding number, as plain functions. No conditions but those of each theorem. -/
import Derived.Test.YtoadlneneijfaaaGvl
namespace Go.Proofs.Ytoadlneneijfaaa
set_option linter.unusedVariables false
set_option linter.unusedSimpArgs false
open Go.RowKit
def d3 (a0 a1 a2 b0 b1 b2 : Int) : Int := a0 * b0 + a1 * b1 + a2 * b2
/-- The product of n with the vector product of a and b. -/
def dc (n0 n1 n2 a0 a1 a2 b0 b1 b2 : Int) : Int := d3 n0 n1 n2 (a1 * b2 - a2 * b1) (a2 * b0 - a0 * b2) (a0 * b1 - a1 * b0)
/-- A triangle, as seen from a point, has the point. -/
def tchS (v0 v1 v2 v3 v4 v5 v6 v7 v8 : Int) : Bool := decide (pr9 v0 v1 v2 v3 v4 v5 v6 v7 v8 = 0) && (decide (0 ≤ dc (nX v0 v1 v2 v3 v4 v5 v6 v7 v8) (nY v0 v1 v2 v3 v4 v5 v6 v7 v8) (nZ v0 v1 v2 v3 v4 v5 v6 v7 v8) v0 v1 v2 v3 v4 v5) && (decide (0 ≤ dc (nX v0 v1 v2 v3 v4 v5 v6 v7 v8) (nY v0 v1 v2 v3 v4 v5 v6 v7 v8) (nZ v0 v1 v2 v3 v4 v5 v6 v7 v8) v3 v4 v5 v6 v7 v8) && decide (0 ≤ dc (nX v0 v1 v2 v3 v4 v5 v6 v7 v8) (nY v0 v1 v2 v3 v4 v5 v6 v7 v8) (nZ v0 v1 v2 v3 v4 v5 v6 v7 v8) v6 v7 v8 v0 v1 v2)))
def sgn (n : Int) : Int := min 1 (max (-1) n)
def alS (x y z : Int) : Int := if z ≠ 0 then sgn z else if y ≠ 0 then sgn y else sgn x
/-- What a triangle, as seen from a point, gives to the winding number. -/
def wndS (v0 v1 v2 v3 v4 v5 v6 v7 v8 : Int) : Int :=
  if sgn (pr9 v0 v1 v2 v3 v4 v5 v6 v7 v8) ≠ 0 ∧ alS (v1 * v5 - v2 * v4) (v2 * v3 - v0 * v5) (v0 * v4 - v1 * v3) = sgn (pr9 v0 v1 v2 v3 v4 v5 v6 v7 v8) ∧ alS (v4 * v8 - v5 * v7) (v5 * v6 - v3 * v8) (v3 * v7 - v4 * v6) = sgn (pr9 v0 v1 v2 v3 v4 v5 v6 v7 v8) ∧ alS (v7 * v2 - v8 * v1) (v8 * v0 - v6 * v2) (v6 * v1 - v7 * v0) = sgn (pr9 v0 v1 v2 v3 v4 v5 v6 v7 v8)
  then sgn (pr9 v0 v1 v2 v3 v4 v5 v6 v7 v8) else 0
def tchF (P F : Nat → Nat → Int) (q0 q1 q2 : Int) (k : Nat) : Bool := tchS (co P F k 0 0 - q0) (co P F k 0 1 - q1) (co P F k 0 2 - q2) (co P F k 1 0 - q0) (co P F k 1 1 - q1) (co P F k 1 2 - q2) (co P F k 2 0 - q0) (co P F k 2 1 - q1) (co P F k 2 2 - q2)
def wndF (P F : Nat → Nat → Int) (q0 q1 q2 : Int) (k : Nat) : Int := wndS (co P F k 0 0 - q0) (co P F k 0 1 - q1) (co P F k 0 2 - q2) (co P F k 1 0 - q0) (co P F k 1 1 - q1) (co P F k 1 2 - q2) (co P F k 2 0 - q0) (co P F k 2 1 - q1) (co P F k 2 2 - q2)
def onS (P F : Nat → Nat → Int) (q0 q1 q2 : Int) (m : Nat) : Bool := (List.range m).any fun k => tchF P F q0 q1 q2 k
def wsum (P F : Nat → Nat → Int) (q0 q1 q2 : Int) : Nat → Int
  | 0 => 0
  | k + 1 => wsum P F q0 q1 q2 k + wndF P F q0 q1 q2 k
/-- The error of a mesh and a point. -/
def askE (n : Nat) (P : Nat → Nat → Int) (m : Nat) (F : Nat → Nat → Int) (q0 q1 q2 : Int) : Int := if validE n P m F = 0 then (if inB q0 q1 q2 256 = true then 0 else 1) else validE n P m F
def onV (n : Nat) (P : Nat → Nat → Int) (m : Nat) (F : Nat → Nat → Int) (q0 q1 q2 : Int) : Bool := if askE n P m F q0 q1 q2 = 0 then onS P F q0 q1 q2 m else false
def winE (n : Nat) (P : Nat → Nat → Int) (m : Nat) (F : Nat → Nat → Int) (q0 q1 q2 : Int) : Int := if askE n P m F q0 q1 q2 = 0 then (if onS P F q0 q1 q2 m = true then 9 else 0) else askE n P m F q0 q1 q2
def winV (n : Nat) (P : Nat → Nat → Int) (m : Nat) (F : Nat → Nat → Int) (q0 q1 q2 : Int) : Int := if winE n P m F q0 q1 q2 = 0 then wsum P F q0 q1 q2 m else 0
theorem sgn_bd (n : Int) : -1 ≤ sgn n ∧ sgn n ≤ 1 := by unfold sgn; omega
theorem al_bd (x y z : Int) : -1 ≤ alS x y z ∧ alS x y z ≤ 1 := by unfold alS sgn; split; omega; split <;> omega
theorem wnd_bd (v0 v1 v2 v3 v4 v5 v6 v7 v8 : Int) : -1 ≤ wndS v0 v1 v2 v3 v4 v5 v6 v7 v8 ∧ wndS v0 v1 v2 v3 v4 v5 v6 v7 v8 ≤ 1 := by
  unfold wndS
  split
  · exact sgn_bd _
  · omega
theorem wsum_bd (P F : Nat → Nat → Int) (q0 q1 q2 : Int) : ∀ k : Nat, -(k : Int) ≤ wsum P F q0 q1 q2 k ∧ wsum P F q0 q1 q2 k ≤ k
  | 0 => by simp [wsum]
  | k + 1 => by
    have h1 := wsum_bd P F q0 q1 q2 k
    have h2 : -1 ≤ wndF P F q0 q1 q2 k ∧ wndF P F q0 q1 q2 k ≤ 1 := wnd_bd _ _ _ _ _ _ _ _ _
    unfold wsum
    omega
theorem ray_al {x y z : Int} (h : (-524287 ≤ x ∧ x ≤ 524287) ∧ (-524287 ≤ y ∧ y ≤ 524287) ∧ (-524287 ≤ z ∧ z ≤ 524287)) : sgn (d3 1 1048576 1099511627776 x y z) = alS x y z := by
  unfold d3 alS sgn
  split
  · omega
  · split <;> omega
theorem al_sum {x1 y1 z1 x2 y2 z2 x3 y3 z3 t : Int} (h1 : alS x1 y1 z1 = t) (h2 : alS x2 y2 z2 = t) (h3 : alS x3 y3 z3 = t) (ht : t ≠ 0) : alS (x1 + x2 + x3) (y1 + y2 + y3) (z1 + z2 + z3) = t := by
  unfold alS sgn at *
  split at h1 <;> (try split at h1) <;> split at h2 <;> (try split at h2) <;> split at h3 <;> (try split at h3) <;> split <;> (try split) <;> omega
theorem al_zero {x y z : Int} (h : alS x y z = 0) : x = 0 ∧ y = 0 ∧ z = 0 := by
  unfold alS sgn at h
  split at h
  · omega
  · split at h <;> omega
theorem nX_sum (v0 v1 v2 v3 v4 v5 v6 v7 v8 : Int) : nX v0 v1 v2 v3 v4 v5 v6 v7 v8 = (v1 * v5 - v2 * v4) + (v4 * v8 - v5 * v7) + (v7 * v2 - v8 * v1) := by unfold nX; grind
theorem nY_sum (v0 v1 v2 v3 v4 v5 v6 v7 v8 : Int) : nY v0 v1 v2 v3 v4 v5 v6 v7 v8 = (v2 * v3 - v0 * v5) + (v5 * v6 - v3 * v8) + (v8 * v0 - v6 * v2) := by unfold nY; grind
theorem nZ_sum (v0 v1 v2 v3 v4 v5 v6 v7 v8 : Int) : nZ v0 v1 v2 v3 v4 v5 v6 v7 v8 = (v0 * v4 - v1 * v3) + (v3 * v7 - v4 * v6) + (v6 * v1 - v7 * v0) := by unfold nZ; grind
/-- The reference's way to the same number. -/
theorem wnd_ref (v0 v1 v2 v3 v4 v5 v6 v7 v8 : Int) (hn : ¬ (nX v0 v1 v2 v3 v4 v5 v6 v7 v8 = 0 ∧ nY v0 v1 v2 v3 v4 v5 v6 v7 v8 = 0 ∧ nZ v0 v1 v2 v3 v4 v5 v6 v7 v8 = 0)) :
    wndS v0 v1 v2 v3 v4 v5 v6 v7 v8 = if sgn (pr9 v0 v1 v2 v3 v4 v5 v6 v7 v8) = alS (nX v0 v1 v2 v3 v4 v5 v6 v7 v8) (nY v0 v1 v2 v3 v4 v5 v6 v7 v8) (nZ v0 v1 v2 v3 v4 v5 v6 v7 v8) ∧ alS (v1 * v5 - v2 * v4) (v2 * v3 - v0 * v5) (v0 * v4 - v1 * v3) = alS (nX v0 v1 v2 v3 v4 v5 v6 v7 v8) (nY v0 v1 v2 v3 v4 v5 v6 v7 v8) (nZ v0 v1 v2 v3 v4 v5 v6 v7 v8) ∧ alS (v4 * v8 - v5 * v7) (v5 * v6 - v3 * v8) (v3 * v7 - v4 * v6) = alS (nX v0 v1 v2 v3 v4 v5 v6 v7 v8) (nY v0 v1 v2 v3 v4 v5 v6 v7 v8) (nZ v0 v1 v2 v3 v4 v5 v6 v7 v8) ∧ alS (v7 * v2 - v8 * v1) (v8 * v0 - v6 * v2) (v6 * v1 - v7 * v0) = alS (nX v0 v1 v2 v3 v4 v5 v6 v7 v8) (nY v0 v1 v2 v3 v4 v5 v6 v7 v8) (nZ v0 v1 v2 v3 v4 v5 v6 v7 v8)
      then alS (nX v0 v1 v2 v3 v4 v5 v6 v7 v8) (nY v0 v1 v2 v3 v4 v5 v6 v7 v8) (nZ v0 v1 v2 v3 v4 v5 v6 v7 v8) else 0 := by
  have ht : alS (nX v0 v1 v2 v3 v4 v5 v6 v7 v8) (nY v0 v1 v2 v3 v4 v5 v6 v7 v8) (nZ v0 v1 v2 v3 v4 v5 v6 v7 v8) ≠ 0 := fun e => hn (al_zero e)
  have hs := fun t h1 h2 h3 h0 => @al_sum (v1 * v5 - v2 * v4) (v2 * v3 - v0 * v5) (v0 * v4 - v1 * v3) (v4 * v8 - v5 * v7) (v5 * v6 - v3 * v8) (v3 * v7 - v4 * v6) (v7 * v2 - v8 * v1) (v8 * v0 - v6 * v2) (v6 * v1 - v7 * v0) t h1 h2 h3 h0
  rw [← nX_sum, ← nY_sum, ← nZ_sum] at hs
  unfold wndS
  by_cases c : sgn (pr9 v0 v1 v2 v3 v4 v5 v6 v7 v8) ≠ 0 ∧ alS (v1 * v5 - v2 * v4) (v2 * v3 - v0 * v5) (v0 * v4 - v1 * v3) = sgn (pr9 v0 v1 v2 v3 v4 v5 v6 v7 v8) ∧ alS (v4 * v8 - v5 * v7) (v5 * v6 - v3 * v8) (v3 * v7 - v4 * v6) = sgn (pr9 v0 v1 v2 v3 v4 v5 v6 v7 v8) ∧ alS (v7 * v2 - v8 * v1) (v8 * v0 - v6 * v2) (v6 * v1 - v7 * v0) = sgn (pr9 v0 v1 v2 v3 v4 v5 v6 v7 v8)
  · rw [if_pos c]
    obtain ⟨c0, c1, c2, c3⟩ := c
    have e := hs _ c1 c2 c3 c0
    rw [e, if_pos ⟨rfl, c1, c2, c3⟩]
  · rw [if_neg c]
    refine (if_neg fun h => c ?_).symm
    obtain ⟨d0, d1, d2, d3⟩ := h
    exact ⟨by rw [d0]; exact ht, by rw [d1, d0], by rw [d2, d0], by rw [d3, d0]⟩
theorem nX_move (p0 p1 p2 p3 p4 p5 p6 p7 p8 q0 q1 q2 : Int) : nX (p0 - q0) (p1 - q1) (p2 - q2) (p3 - q0) (p4 - q1) (p5 - q2) (p6 - q0) (p7 - q1) (p8 - q2) = nX p0 p1 p2 p3 p4 p5 p6 p7 p8 := by unfold nX; grind
theorem nY_move (p0 p1 p2 p3 p4 p5 p6 p7 p8 q0 q1 q2 : Int) : nY (p0 - q0) (p1 - q1) (p2 - q2) (p3 - q0) (p4 - q1) (p5 - q2) (p6 - q0) (p7 - q1) (p8 - q2) = nY p0 p1 p2 p3 p4 p5 p6 p7 p8 := by unfold nY; grind
theorem nZ_move (p0 p1 p2 p3 p4 p5 p6 p7 p8 q0 q1 q2 : Int) : nZ (p0 - q0) (p1 - q1) (p2 - q2) (p3 - q0) (p4 - q1) (p5 - q2) (p6 - q0) (p7 - q1) (p8 - q2) = nZ p0 p1 p2 p3 p4 p5 p6 p7 p8 := by unfold nZ; grind
/-- The product with the normal is that of the corners. -/
theorem pr9_n (v0 v1 v2 v3 v4 v5 v6 v7 v8 : Int) : pr9 v0 v1 v2 v3 v4 v5 v6 v7 v8 = d3 (nX v0 v1 v2 v3 v4 v5 v6 v7 v8) (nY v0 v1 v2 v3 v4 v5 v6 v7 v8) (nZ v0 v1 v2 v3 v4 v5 v6 v7 v8) v0 v1 v2 := by unfold pr9 d3 nX nY nZ; grind
theorem pr9_ref (p0 p1 p2 p3 p4 p5 p6 p7 p8 q0 q1 q2 : Int) : d3 (nX p0 p1 p2 p3 p4 p5 p6 p7 p8) (nY p0 p1 p2 p3 p4 p5 p6 p7 p8) (nZ p0 p1 p2 p3 p4 p5 p6 p7 p8) (q0 - p0) (q1 - p1) (q2 - p2) = -pr9 (p0 - q0) (p1 - q1) (p2 - q2) (p3 - q0) (p4 - q1) (p5 - q2) (p6 - q0) (p7 - q1) (p8 - q2) := by
  rw [pr9_n, nX_move, nY_move, nZ_move]
  unfold d3
  grind
theorem dc_ref (n0 n1 n2 a0 a1 a2 b0 b1 b2 q0 q1 q2 : Int) : dc n0 n1 n2 (b0 - a0) (b1 - a1) (b2 - a2) (q0 - a0) (q1 - a1) (q2 - a2) = dc n0 n1 n2 (a0 - q0) (a1 - q1) (a2 - q2) (b0 - q0) (b1 - q1) (b2 - q2) := by unfold dc d3; grind
end Go.Proofs.Ytoadlneneijfaaa
