/- Far fields over the rational numbers: how far the terms up to an order are off at one point; square roots as near as wanted. Conditions: those of each theorem. -/
import Derived.Test.YtodmdicegkjicaaProg
namespace Go.Proofs.Ytodmdicegkjicaa
set_option linter.unusedVariables false
set_option linter.unusedSimpArgs false
theorem pos5 {c x y v w : Rat} (hc : 0 ≤ c) (hx : 0 ≤ x) (hy : 0 ≤ y) (hv : 0 ≤ v) (hw : 0 ≤ w) (i j k l : Nat) : 0 ≤ c * (x ^ i * y ^ j) * (v ^ k * w ^ l) :=
  Rat.mul_nonneg (Rat.mul_nonneg hc (Rat.mul_nonneg (Rat.pow_nonneg hx) (Rat.pow_nonneg hy))) (Rat.mul_nonneg (Rat.pow_nonneg hv) (Rat.pow_nonneg hw))
set_option maxHeartbeats 4000000 in
theorem legA1a {x v : Rat} (hx : 0 ≤ x) (hy : 0 ≤ 1 - x) (hv : 0 ≤ v) (hw : 0 ≤ 1 - v) : 0 ≤ 1 - (x * v) * (1 - v) := by
  have h : 1 - (x * v) * (1 - v) = (1) * (x ^ 0 * (1 - x) ^ 1) * (v ^ 0 * (1 - v) ^ 2) + (2) * (x ^ 0 * (1 - x) ^ 1) * (v ^ 1 * (1 - v) ^ 1) + (1) * (x ^ 0 * (1 - x) ^ 1) * (v ^ 2 * (1 - v) ^ 0) + (1) * (x ^ 1 * (1 - x) ^ 0) * (v ^ 0 * (1 - v) ^ 2) + (1) * (x ^ 1 * (1 - x) ^ 0) * (v ^ 1 * (1 - v) ^ 1) + (1) * (x ^ 1 * (1 - x) ^ 0) * (v ^ 2 * (1 - v) ^ 0) := by grind
  rw [h]
  exact (Rat.add_nonneg (Rat.add_nonneg (Rat.add_nonneg (Rat.add_nonneg (Rat.add_nonneg (pos5 (by grind) hx hy hv hw 0 1 0 2) (pos5 (by grind) hx hy hv hw 0 1 1 1)) (pos5 (by grind) hx hy hv hw 0 1 2 0)) (pos5 (by grind) hx hy hv hw 1 0 0 2)) (pos5 (by grind) hx hy hv hw 1 0 1 1)) (pos5 (by grind) hx hy hv hw 1 0 2 0))
set_option maxHeartbeats 4000000 in
theorem legU1a {x v : Rat} (hx : 0 ≤ x) (hy : 0 ≤ 1 - x) (hv : 0 ≤ v) (hw : 0 ≤ 1 - v) : 0 ≤ 2 * (1 - (x * v) * (1 - v)) ^ 2 - 2 * (1 - v) ^ 2 * (1 - v) + (x * v) * (1 - v) ^ 2 * (1 - v) ^ 2 := by
  have h : 2 * (1 - (x * v) * (1 - v)) ^ 2 - 2 * (1 - v) ^ 2 * (1 - v) + (x * v) * (1 - v) ^ 2 * (1 - v) ^ 2 = (6) * (x ^ 0 * (1 - x) ^ 2) * (v ^ 1 * (1 - v) ^ 4) + (18) * (x ^ 0 * (1 - x) ^ 2) * (v ^ 2 * (1 - v) ^ 3) + (20) * (x ^ 0 * (1 - x) ^ 2) * (v ^ 3 * (1 - v) ^ 2) + (10) * (x ^ 0 * (1 - x) ^ 2) * (v ^ 4 * (1 - v) ^ 1) + (2) * (x ^ 0 * (1 - x) ^ 2) * (v ^ 5 * (1 - v) ^ 0) + (9) * (x ^ 1 * (1 - x) ^ 1) * (v ^ 1 * (1 - v) ^ 4) + (24) * (x ^ 1 * (1 - x) ^ 1) * (v ^ 2 * (1 - v) ^ 3) + (28) * (x ^ 1 * (1 - x) ^ 1) * (v ^ 3 * (1 - v) ^ 2) + (16) * (x ^ 1 * (1 - x) ^ 1) * (v ^ 4 * (1 - v) ^ 1) + (4) * (x ^ 1 * (1 - x) ^ 1) * (v ^ 5 * (1 - v) ^ 0) + (3) * (x ^ 2 * (1 - x) ^ 0) * (v ^ 1 * (1 - v) ^ 4) + (8) * (x ^ 2 * (1 - x) ^ 0) * (v ^ 2 * (1 - v) ^ 3) + (10) * (x ^ 2 * (1 - x) ^ 0) * (v ^ 3 * (1 - v) ^ 2) + (6) * (x ^ 2 * (1 - x) ^ 0) * (v ^ 4 * (1 - v) ^ 1) + (2) * (x ^ 2 * (1 - x) ^ 0) * (v ^ 5 * (1 - v) ^ 0) := by grind
  rw [h]
  exact (Rat.add_nonneg (Rat.add_nonneg (Rat.add_nonneg (Rat.add_nonneg (Rat.add_nonneg (Rat.add_nonneg (Rat.add_nonneg (Rat.add_nonneg (Rat.add_nonneg (Rat.add_nonneg (Rat.add_nonneg (Rat.add_nonneg (Rat.add_nonneg (Rat.add_nonneg (pos5 (by grind) hx hy hv hw 0 2 1 4) (pos5 (by grind) hx hy hv hw 0 2 2 3)) (pos5 (by grind) hx hy hv hw 0 2 3 2)) (pos5 (by grind) hx hy hv hw 0 2 4 1)) (pos5 (by grind) hx hy hv hw 0 2 5 0)) (pos5 (by grind) hx hy hv hw 1 1 1 4)) (pos5 (by grind) hx hy hv hw 1 1 2 3)) (pos5 (by grind) hx hy hv hw 1 1 3 2)) (pos5 (by grind) hx hy hv hw 1 1 4 1)) (pos5 (by grind) hx hy hv hw 1 1 5 0)) (pos5 (by grind) hx hy hv hw 2 0 1 4)) (pos5 (by grind) hx hy hv hw 2 0 2 3)) (pos5 (by grind) hx hy hv hw 2 0 3 2)) (pos5 (by grind) hx hy hv hw 2 0 4 1)) (pos5 (by grind) hx hy hv hw 2 0 5 0))
set_option maxHeartbeats 4000000 in
theorem legL1a {x v : Rat} (hx : 0 ≤ x) (hy : 0 ≤ 1 - x) (hv : 0 ≤ v) (hw : 0 ≤ 1 - v) : 0 ≤ 2 * (1 - v + x * v) * (1 - v) - (1 - 2 * v ^ 2 - (x * v) * (1 - v)) * ((1 - v) ^ 2 + 2 * (x * v) + (1 - v + x * v) ^ 2) := by
  have h : 2 * (1 - v + x * v) * (1 - v) - (1 - 2 * v ^ 2 - (x * v) * (1 - v)) * ((1 - v) ^ 2 + 2 * (x * v) + (1 - v + x * v) ^ 2) = (4) * (x ^ 0 * (1 - x) ^ 3) * (v ^ 2 * (1 - v) ^ 2) + (6) * (x ^ 1 * (1 - x) ^ 2) * (v ^ 2 * (1 - v) ^ 2) + (2) * (x ^ 1 * (1 - x) ^ 2) * (v ^ 3 * (1 - v) ^ 1) + (2) * (x ^ 1 * (1 - x) ^ 2) * (v ^ 4 * (1 - v) ^ 0) + (3) * (x ^ 2 * (1 - x) ^ 1) * (v ^ 2 * (1 - v) ^ 2) + (4) * (x ^ 2 * (1 - x) ^ 1) * (v ^ 3 * (1 - v) ^ 1) + (5) * (x ^ 2 * (1 - x) ^ 1) * (v ^ 4 * (1 - v) ^ 0) + (1) * (x ^ 3 * (1 - x) ^ 0) * (v ^ 2 * (1 - v) ^ 2) + (3) * (x ^ 3 * (1 - x) ^ 0) * (v ^ 3 * (1 - v) ^ 1) + (3) * (x ^ 3 * (1 - x) ^ 0) * (v ^ 4 * (1 - v) ^ 0) := by grind
  rw [h]
  exact (Rat.add_nonneg (Rat.add_nonneg (Rat.add_nonneg (Rat.add_nonneg (Rat.add_nonneg (Rat.add_nonneg (Rat.add_nonneg (Rat.add_nonneg (Rat.add_nonneg (pos5 (by grind) hx hy hv hw 0 3 2 2) (pos5 (by grind) hx hy hv hw 1 2 2 2)) (pos5 (by grind) hx hy hv hw 1 2 3 1)) (pos5 (by grind) hx hy hv hw 1 2 4 0)) (pos5 (by grind) hx hy hv hw 2 1 2 2)) (pos5 (by grind) hx hy hv hw 2 1 3 1)) (pos5 (by grind) hx hy hv hw 2 1 4 0)) (pos5 (by grind) hx hy hv hw 3 0 2 2)) (pos5 (by grind) hx hy hv hw 3 0 3 1)) (pos5 (by grind) hx hy hv hw 3 0 4 0))
set_option maxHeartbeats 4000000 in
theorem legA2a {x v : Rat} (hx : 0 ≤ x) (hy : 0 ≤ 1 - x) (hv : 0 ≤ v) (hw : 0 ≤ 1 - v) : 0 ≤ 1 - (x * v) * ((1 - v) * (1 + 3 * v - 3 / 2 * (x * v))) := by
  have h : 1 - (x * v) * ((1 - v) * (1 + 3 * v - 3 / 2 * (x * v))) = (1) * (x ^ 0 * (1 - x) ^ 2) * (v ^ 0 * (1 - v) ^ 3) + (3) * (x ^ 0 * (1 - x) ^ 2) * (v ^ 1 * (1 - v) ^ 2) + (3) * (x ^ 0 * (1 - x) ^ 2) * (v ^ 2 * (1 - v) ^ 1) + (1) * (x ^ 0 * (1 - x) ^ 2) * (v ^ 3 * (1 - v) ^ 0) + (2) * (x ^ 1 * (1 - x) ^ 1) * (v ^ 0 * (1 - v) ^ 3) + (5) * (x ^ 1 * (1 - x) ^ 1) * (v ^ 1 * (1 - v) ^ 2) + (2) * (x ^ 1 * (1 - x) ^ 1) * (v ^ 2 * (1 - v) ^ 1) + (2) * (x ^ 1 * (1 - x) ^ 1) * (v ^ 3 * (1 - v) ^ 0) + (1) * (x ^ 2 * (1 - x) ^ 0) * (v ^ 0 * (1 - v) ^ 3) + (2) * (x ^ 2 * (1 - x) ^ 0) * (v ^ 1 * (1 - v) ^ 2) + (1 / 2) * (x ^ 2 * (1 - x) ^ 0) * (v ^ 2 * (1 - v) ^ 1) + (1) * (x ^ 2 * (1 - x) ^ 0) * (v ^ 3 * (1 - v) ^ 0) := by grind
  rw [h]
  exact (Rat.add_nonneg (Rat.add_nonneg (Rat.add_nonneg (Rat.add_nonneg (Rat.add_nonneg (Rat.add_nonneg (Rat.add_nonneg (Rat.add_nonneg (Rat.add_nonneg (Rat.add_nonneg (Rat.add_nonneg (pos5 (by grind) hx hy hv hw 0 2 0 3) (pos5 (by grind) hx hy hv hw 0 2 1 2)) (pos5 (by grind) hx hy hv hw 0 2 2 1)) (pos5 (by grind) hx hy hv hw 0 2 3 0)) (pos5 (by grind) hx hy hv hw 1 1 0 3)) (pos5 (by grind) hx hy hv hw 1 1 1 2)) (pos5 (by grind) hx hy hv hw 1 1 2 1)) (pos5 (by grind) hx hy hv hw 1 1 3 0)) (pos5 (by grind) hx hy hv hw 2 0 0 3)) (pos5 (by grind) hx hy hv hw 2 0 1 2)) (pos5 (by grind) hx hy hv hw 2 0 2 1)) (pos5 (by grind) hx hy hv hw 2 0 3 0))
set_option maxHeartbeats 4000000 in
theorem legU2a {x v : Rat} (hx : 0 ≤ x) (hy : 0 ≤ 1 - x) (hv : 0 ≤ v) (hw : 0 ≤ 1 - v) : 0 ≤ 2 * (1 - (x * v) * ((1 - v) * (1 + 3 * v - 3 / 2 * (x * v)))) ^ 2 - 2 * (1 - v) ^ 2 * ((1 - v) * (1 + 3 * v - 3 / 2 * (x * v))) + (x * v) * (1 - v) ^ 2 * ((1 - v) * (1 + 3 * v - 3 / 2 * (x * v))) ^ 2 := by
  have h : 2 * (1 - (x * v) * ((1 - v) * (1 + 3 * v - 3 / 2 * (x * v)))) ^ 2 - 2 * (1 - v) ^ 2 * ((1 - v) * (1 + 3 * v - 3 / 2 * (x * v))) + (x * v) * (1 - v) ^ 2 * ((1 - v) * (1 + 3 * v - 3 / 2 * (x * v))) ^ 2 = (12) * (x ^ 0 * (1 - x) ^ 4) * (v ^ 2 * (1 - v) ^ 5) + (44) * (x ^ 0 * (1 - x) ^ 4) * (v ^ 3 * (1 - v) ^ 4) + (62) * (x ^ 0 * (1 - x) ^ 4) * (v ^ 4 * (1 - v) ^ 3) + (42) * (x ^ 0 * (1 - x) ^ 4) * (v ^ 5 * (1 - v) ^ 2) + (14) * (x ^ 0 * (1 - x) ^ 4) * (v ^ 6 * (1 - v) ^ 1) + (2) * (x ^ 0 * (1 - x) ^ 4) * (v ^ 7 * (1 - v) ^ 0) + (33) * (x ^ 1 * (1 - x) ^ 3) * (v ^ 2 * (1 - v) ^ 5) + (113) * (x ^ 1 * (1 - x) ^ 3) * (v ^ 3 * (1 - v) ^ 4) + (139) * (x ^ 1 * (1 - x) ^ 3) * (v ^ 4 * (1 - v) ^ 3) + (100) * (x ^ 1 * (1 - x) ^ 3) * (v ^ 5 * (1 - v) ^ 2) + (40) * (x ^ 1 * (1 - x) ^ 3) * (v ^ 6 * (1 - v) ^ 1) + (8) * (x ^ 1 * (1 - x) ^ 3) * (v ^ 7 * (1 - v) ^ 0) + (32) * (x ^ 2 * (1 - x) ^ 2) * (v ^ 2 * (1 - v) ^ 5) + (105) * (x ^ 2 * (1 - x) ^ 2) * (v ^ 3 * (1 - v) ^ 4) + (129) * (x ^ 2 * (1 - x) ^ 2) * (v ^ 4 * (1 - v) ^ 3) + (104) * (x ^ 2 * (1 - x) ^ 2) * (v ^ 5 * (1 - v) ^ 2) + (42) * (x ^ 2 * (1 - x) ^ 2) * (v ^ 6 * (1 - v) ^ 1) + (12) * (x ^ 2 * (1 - x) ^ 2) * (v ^ 7 * (1 - v) ^ 0) + (13) * (x ^ 3 * (1 - x) ^ 1) * (v ^ 2 * (1 - v) ^ 5) + (173 / 4) * (x ^ 3 * (1 - x) ^ 1) * (v ^ 3 * (1 - v) ^ 4) + (59) * (x ^ 3 * (1 - x) ^ 1) * (v ^ 4 * (1 - v) ^ 3) + (52) * (x ^ 3 * (1 - x) ^ 1) * (v ^ 5 * (1 - v) ^ 2) + (20) * (x ^ 3 * (1 - x) ^ 1) * (v ^ 6 * (1 - v) ^ 1) + (8) * (x ^ 3 * (1 - x) ^ 1) * (v ^ 7 * (1 - v) ^ 0) + (2) * (x ^ 4 * (1 - x) ^ 0) * (v ^ 2 * (1 - v) ^ 5) + (29 / 4) * (x ^ 4 * (1 - x) ^ 0) * (v ^ 3 * (1 - v) ^ 4) + (23 / 2) * (x ^ 4 * (1 - x) ^ 0) * (v ^ 4 * (1 - v) ^ 3) + (21 / 2) * (x ^ 4 * (1 - x) ^ 0) * (v ^ 5 * (1 - v) ^ 2) + (4) * (x ^ 4 * (1 - x) ^ 0) * (v ^ 6 * (1 - v) ^ 1) + (2) * (x ^ 4 * (1 - x) ^ 0) * (v ^ 7 * (1 - v) ^ 0) := by grind
  rw [h]
  exact (Rat.add_nonneg (Rat.add_nonneg (Rat.add_nonneg (Rat.add_nonneg (Rat.add_nonneg (Rat.add_nonneg (Rat.add_nonneg (Rat.add_nonneg (Rat.add_nonneg (Rat.add_nonneg (Rat.add_nonneg (Rat.add_nonneg (Rat.add_nonneg (Rat.add_nonneg (Rat.add_nonneg (Rat.add_nonneg (Rat.add_nonneg (Rat.add_nonneg (Rat.add_nonneg (Rat.add_nonneg (Rat.add_nonneg (Rat.add_nonneg (Rat.add_nonneg (Rat.add_nonneg (Rat.add_nonneg (Rat.add_nonneg (Rat.add_nonneg (Rat.add_nonneg (Rat.add_nonneg (pos5 (by grind) hx hy hv hw 0 4 2 5) (pos5 (by grind) hx hy hv hw 0 4 3 4)) (pos5 (by grind) hx hy hv hw 0 4 4 3)) (pos5 (by grind) hx hy hv hw 0 4 5 2)) (pos5 (by grind) hx hy hv hw 0 4 6 1)) (pos5 (by grind) hx hy hv hw 0 4 7 0)) (pos5 (by grind) hx hy hv hw 1 3 2 5)) (pos5 (by grind) hx hy hv hw 1 3 3 4)) (pos5 (by grind) hx hy hv hw 1 3 4 3)) (pos5 (by grind) hx hy hv hw 1 3 5 2)) (pos5 (by grind) hx hy hv hw 1 3 6 1)) (pos5 (by grind) hx hy hv hw 1 3 7 0)) (pos5 (by grind) hx hy hv hw 2 2 2 5)) (pos5 (by grind) hx hy hv hw 2 2 3 4)) (pos5 (by grind) hx hy hv hw 2 2 4 3)) (pos5 (by grind) hx hy hv hw 2 2 5 2)) (pos5 (by grind) hx hy hv hw 2 2 6 1)) (pos5 (by grind) hx hy hv hw 2 2 7 0)) (pos5 (by grind) hx hy hv hw 3 1 2 5)) (pos5 (by grind) hx hy hv hw 3 1 3 4)) (pos5 (by grind) hx hy hv hw 3 1 4 3)) (pos5 (by grind) hx hy hv hw 3 1 5 2)) (pos5 (by grind) hx hy hv hw 3 1 6 1)) (pos5 (by grind) hx hy hv hw 3 1 7 0)) (pos5 (by grind) hx hy hv hw 4 0 2 5)) (pos5 (by grind) hx hy hv hw 4 0 3 4)) (pos5 (by grind) hx hy hv hw 4 0 4 3)) (pos5 (by grind) hx hy hv hw 4 0 5 2)) (pos5 (by grind) hx hy hv hw 4 0 6 1)) (pos5 (by grind) hx hy hv hw 4 0 7 0))
set_option maxHeartbeats 4000000 in
theorem legL2a {x v : Rat} (hx : 0 ≤ x) (hy : 0 ≤ 1 - x) (hv : 0 ≤ v) (hw : 0 ≤ 1 - v) : 0 ≤ 2 * (1 - v + x * v) * (1 - v) - (1 - 2 * v ^ 3 - (x * v) * ((1 - v) * (1 + 3 * v - 3 / 2 * (x * v)))) * ((1 - v) ^ 2 + 2 * (x * v) + (1 - v + x * v) ^ 2) := by
  have h : 2 * (1 - v + x * v) * (1 - v) - (1 - 2 * v ^ 3 - (x * v) * ((1 - v) * (1 + 3 * v - 3 / 2 * (x * v)))) * ((1 - v) ^ 2 + 2 * (x * v) + (1 - v + x * v) ^ 2) = (4) * (x ^ 0 * (1 - x) ^ 4) * (v ^ 3 * (1 - v) ^ 2) + (4) * (x ^ 1 * (1 - x) ^ 3) * (v ^ 3 * (1 - v) ^ 2) + (2) * (x ^ 1 * (1 - x) ^ 3) * (v ^ 5 * (1 - v) ^ 0) + (3) * (x ^ 2 * (1 - x) ^ 2) * (v ^ 3 * (1 - v) ^ 2) + (5) * (x ^ 2 * (1 - x) ^ 2) * (v ^ 4 * (1 - v) ^ 1) + (7) * (x ^ 2 * (1 - x) ^ 2) * (v ^ 5 * (1 - v) ^ 0) + (5) * (x ^ 3 * (1 - x) ^ 1) * (v ^ 3 * (1 - v) ^ 2) + (11) * (x ^ 3 * (1 - x) ^ 1) * (v ^ 4 * (1 - v) ^ 1) + (8) * (x ^ 3 * (1 - x) ^ 1) * (v ^ 5 * (1 - v) ^ 0) + (2) * (x ^ 4 * (1 - x) ^ 0) * (v ^ 3 * (1 - v) ^ 2) + (9 / 2) * (x ^ 4 * (1 - x) ^ 0) * (v ^ 4 * (1 - v) ^ 1) + (3) * (x ^ 4 * (1 - x) ^ 0) * (v ^ 5 * (1 - v) ^ 0) := by grind
  rw [h]
  exact (Rat.add_nonneg (Rat.add_nonneg (Rat.add_nonneg (Rat.add_nonneg (Rat.add_nonneg (Rat.add_nonneg (Rat.add_nonneg (Rat.add_nonneg (Rat.add_nonneg (Rat.add_nonneg (Rat.add_nonneg (pos5 (by grind) hx hy hv hw 0 4 3 2) (pos5 (by grind) hx hy hv hw 1 3 3 2)) (pos5 (by grind) hx hy hv hw 1 3 5 0)) (pos5 (by grind) hx hy hv hw 2 2 3 2)) (pos5 (by grind) hx hy hv hw 2 2 4 1)) (pos5 (by grind) hx hy hv hw 2 2 5 0)) (pos5 (by grind) hx hy hv hw 3 1 3 2)) (pos5 (by grind) hx hy hv hw 3 1 4 1)) (pos5 (by grind) hx hy hv hw 3 1 5 0)) (pos5 (by grind) hx hy hv hw 4 0 3 2)) (pos5 (by grind) hx hy hv hw 4 0 4 1)) (pos5 (by grind) hx hy hv hw 4 0 5 0))
set_option maxHeartbeats 4000000 in
theorem legL0a {x v : Rat} (hx : 0 ≤ x) (hy : 0 ≤ 1 - x) (hv : 0 ≤ v) (hw : 0 ≤ 1 - v) : 0 ≤ 2 * (1 - v + x * v) * (1 - v) - (1 - 2 * v) * ((1 - v) ^ 2 + 2 * (x * v) + (1 - v + x * v) ^ 2) := by
  have h : 2 * (1 - v + x * v) * (1 - v) - (1 - 2 * v) * ((1 - v) ^ 2 + 2 * (x * v) + (1 - v + x * v) ^ 2) = (4) * (x ^ 0 * (1 - x) ^ 2) * (v ^ 1 * (1 - v) ^ 2) + (6) * (x ^ 1 * (1 - x) ^ 1) * (v ^ 1 * (1 - v) ^ 2) + (4) * (x ^ 1 * (1 - x) ^ 1) * (v ^ 2 * (1 - v) ^ 1) + (2) * (x ^ 1 * (1 - x) ^ 1) * (v ^ 3 * (1 - v) ^ 0) + (2) * (x ^ 2 * (1 - x) ^ 0) * (v ^ 1 * (1 - v) ^ 2) + (3) * (x ^ 2 * (1 - x) ^ 0) * (v ^ 2 * (1 - v) ^ 1) + (3) * (x ^ 2 * (1 - x) ^ 0) * (v ^ 3 * (1 - v) ^ 0) := by grind
  rw [h]
  exact (Rat.add_nonneg (Rat.add_nonneg (Rat.add_nonneg (Rat.add_nonneg (Rat.add_nonneg (Rat.add_nonneg (pos5 (by grind) hx hy hv hw 0 2 1 2) (pos5 (by grind) hx hy hv hw 1 1 1 2)) (pos5 (by grind) hx hy hv hw 1 1 2 1)) (pos5 (by grind) hx hy hv hw 1 1 3 0)) (pos5 (by grind) hx hy hv hw 2 0 1 2)) (pos5 (by grind) hx hy hv hw 2 0 2 1)) (pos5 (by grind) hx hy hv hw 2 0 3 0))
set_option maxHeartbeats 4000000 in
theorem legA1b {x v : Rat} (hx : 0 ≤ x) (hy : 0 ≤ 1 - x) (hv : 0 ≤ v) (hw : 0 ≤ 1 - v) : 0 ≤ 1 - ((1 + x) * v) * (1 - v) := by
  have h : 1 - ((1 + x) * v) * (1 - v) = (1) * (x ^ 0 * (1 - x) ^ 1) * (v ^ 0 * (1 - v) ^ 2) + (1) * (x ^ 0 * (1 - x) ^ 1) * (v ^ 1 * (1 - v) ^ 1) + (1) * (x ^ 0 * (1 - x) ^ 1) * (v ^ 2 * (1 - v) ^ 0) + (1) * (x ^ 1 * (1 - x) ^ 0) * (v ^ 0 * (1 - v) ^ 2) + (1) * (x ^ 1 * (1 - x) ^ 0) * (v ^ 2 * (1 - v) ^ 0) := by grind
  rw [h]
  exact (Rat.add_nonneg (Rat.add_nonneg (Rat.add_nonneg (Rat.add_nonneg (pos5 (by grind) hx hy hv hw 0 1 0 2) (pos5 (by grind) hx hy hv hw 0 1 1 1)) (pos5 (by grind) hx hy hv hw 0 1 2 0)) (pos5 (by grind) hx hy hv hw 1 0 0 2)) (pos5 (by grind) hx hy hv hw 1 0 2 0))
set_option maxHeartbeats 4000000 in
theorem legU1b {x v : Rat} (hx : 0 ≤ x) (hy : 0 ≤ 1 - x) (hv : 0 ≤ v) (hw : 0 ≤ 1 - v) : 0 ≤ 2 * (1 - ((1 + x) * v) * (1 - v)) ^ 2 - 2 * (1 - v) ^ 2 * (1 - v) + ((1 + x) * v) * (1 - v) ^ 2 * (1 - v) ^ 2 := by
  have h : 2 * (1 - ((1 + x) * v) * (1 - v)) ^ 2 - 2 * (1 - v) ^ 2 * (1 - v) + ((1 + x) * v) * (1 - v) ^ 2 * (1 - v) ^ 2 = (3) * (x ^ 0 * (1 - x) ^ 2) * (v ^ 1 * (1 - v) ^ 4) + (8) * (x ^ 0 * (1 - x) ^ 2) * (v ^ 2 * (1 - v) ^ 3) + (10) * (x ^ 0 * (1 - x) ^ 2) * (v ^ 3 * (1 - v) ^ 2) + (6) * (x ^ 0 * (1 - x) ^ 2) * (v ^ 4 * (1 - v) ^ 1) + (2) * (x ^ 0 * (1 - x) ^ 2) * (v ^ 5 * (1 - v) ^ 0) + (3) * (x ^ 1 * (1 - x) ^ 1) * (v ^ 1 * (1 - v) ^ 4) + (8) * (x ^ 1 * (1 - x) ^ 1) * (v ^ 2 * (1 - v) ^ 3) + (12) * (x ^ 1 * (1 - x) ^ 1) * (v ^ 3 * (1 - v) ^ 2) + (8) * (x ^ 1 * (1 - x) ^ 1) * (v ^ 4 * (1 - v) ^ 1) + (4) * (x ^ 1 * (1 - x) ^ 1) * (v ^ 5 * (1 - v) ^ 0) + (2) * (x ^ 2 * (1 - x) ^ 0) * (v ^ 2 * (1 - v) ^ 3) + (4) * (x ^ 2 * (1 - x) ^ 0) * (v ^ 3 * (1 - v) ^ 2) + (2) * (x ^ 2 * (1 - x) ^ 0) * (v ^ 4 * (1 - v) ^ 1) + (2) * (x ^ 2 * (1 - x) ^ 0) * (v ^ 5 * (1 - v) ^ 0) := by grind
  rw [h]
  exact (Rat.add_nonneg (Rat.add_nonneg (Rat.add_nonneg (Rat.add_nonneg (Rat.add_nonneg (Rat.add_nonneg (Rat.add_nonneg (Rat.add_nonneg (Rat.add_nonneg (Rat.add_nonneg (Rat.add_nonneg (Rat.add_nonneg (Rat.add_nonneg (pos5 (by grind) hx hy hv hw 0 2 1 4) (pos5 (by grind) hx hy hv hw 0 2 2 3)) (pos5 (by grind) hx hy hv hw 0 2 3 2)) (pos5 (by grind) hx hy hv hw 0 2 4 1)) (pos5 (by grind) hx hy hv hw 0 2 5 0)) (pos5 (by grind) hx hy hv hw 1 1 1 4)) (pos5 (by grind) hx hy hv hw 1 1 2 3)) (pos5 (by grind) hx hy hv hw 1 1 3 2)) (pos5 (by grind) hx hy hv hw 1 1 4 1)) (pos5 (by grind) hx hy hv hw 1 1 5 0)) (pos5 (by grind) hx hy hv hw 2 0 2 3)) (pos5 (by grind) hx hy hv hw 2 0 3 2)) (pos5 (by grind) hx hy hv hw 2 0 4 1)) (pos5 (by grind) hx hy hv hw 2 0 5 0))
set_option maxHeartbeats 4000000 in
theorem legL1b {x v : Rat} (hx : 0 ≤ x) (hy : 0 ≤ 1 - x) (hv : 0 ≤ v) (hw : 0 ≤ 1 - v) : 0 ≤ 2 * (1 - v + (1 + x) * v) * (1 - v) - (1 - 2 * v ^ 2 - ((1 + x) * v) * (1 - v)) * ((1 - v) ^ 2 + 2 * ((1 + x) * v) + (1 - v + (1 + x) * v) ^ 2) := by
  have h : 2 * (1 - v + (1 + x) * v) * (1 - v) - (1 - 2 * v ^ 2 - ((1 + x) * v) * (1 - v)) * ((1 - v) ^ 2 + 2 * ((1 + x) * v) + (1 - v + (1 + x) * v) ^ 2) = (1) * (x ^ 0 * (1 - x) ^ 3) * (v ^ 2 * (1 - v) ^ 2) + (3) * (x ^ 0 * (1 - x) ^ 3) * (v ^ 3 * (1 - v) ^ 1) + (3) * (x ^ 0 * (1 - x) ^ 3) * (v ^ 4 * (1 - v) ^ 0) + (3) * (x ^ 1 * (1 - x) ^ 2) * (v ^ 2 * (1 - v) ^ 2) + (14) * (x ^ 1 * (1 - x) ^ 2) * (v ^ 3 * (1 - v) ^ 1) + (13) * (x ^ 1 * (1 - x) ^ 2) * (v ^ 4 * (1 - v) ^ 0) + (6) * (x ^ 2 * (1 - x) ^ 1) * (v ^ 2 * (1 - v) ^ 2) + (22) * (x ^ 2 * (1 - x) ^ 1) * (v ^ 3 * (1 - v) ^ 1) + (18) * (x ^ 2 * (1 - x) ^ 1) * (v ^ 4 * (1 - v) ^ 0) + (4) * (x ^ 3 * (1 - x) ^ 0) * (v ^ 2 * (1 - v) ^ 2) + (12) * (x ^ 3 * (1 - x) ^ 0) * (v ^ 3 * (1 - v) ^ 1) + (8) * (x ^ 3 * (1 - x) ^ 0) * (v ^ 4 * (1 - v) ^ 0) := by grind
  rw [h]
  exact (Rat.add_nonneg (Rat.add_nonneg (Rat.add_nonneg (Rat.add_nonneg (Rat.add_nonneg (Rat.add_nonneg (Rat.add_nonneg (Rat.add_nonneg (Rat.add_nonneg (Rat.add_nonneg (Rat.add_nonneg (pos5 (by grind) hx hy hv hw 0 3 2 2) (pos5 (by grind) hx hy hv hw 0 3 3 1)) (pos5 (by grind) hx hy hv hw 0 3 4 0)) (pos5 (by grind) hx hy hv hw 1 2 2 2)) (pos5 (by grind) hx hy hv hw 1 2 3 1)) (pos5 (by grind) hx hy hv hw 1 2 4 0)) (pos5 (by grind) hx hy hv hw 2 1 2 2)) (pos5 (by grind) hx hy hv hw 2 1 3 1)) (pos5 (by grind) hx hy hv hw 2 1 4 0)) (pos5 (by grind) hx hy hv hw 3 0 2 2)) (pos5 (by grind) hx hy hv hw 3 0 3 1)) (pos5 (by grind) hx hy hv hw 3 0 4 0))
set_option maxHeartbeats 4000000 in
theorem legA2b {x v : Rat} (hx : 0 ≤ x) (hy : 0 ≤ 1 - x) (hv : 0 ≤ v) (hw : 0 ≤ 1 - v) : 0 ≤ 1 - ((1 + x) * v) * ((1 - v) * (1 + 3 * v - 3 / 2 * ((1 + x) * v))) := by
  have h : 1 - ((1 + x) * v) * ((1 - v) * (1 + 3 * v - 3 / 2 * ((1 + x) * v))) = (1) * (x ^ 0 * (1 - x) ^ 2) * (v ^ 0 * (1 - v) ^ 3) + (2) * (x ^ 0 * (1 - x) ^ 2) * (v ^ 1 * (1 - v) ^ 2) + (1 / 2) * (x ^ 0 * (1 - x) ^ 2) * (v ^ 2 * (1 - v) ^ 1) + (1) * (x ^ 0 * (1 - x) ^ 2) * (v ^ 3 * (1 - v) ^ 0) + (2) * (x ^ 1 * (1 - x) ^ 1) * (v ^ 0 * (1 - v) ^ 3) + (3) * (x ^ 1 * (1 - x) ^ 1) * (v ^ 1 * (1 - v) ^ 2) + (2) * (x ^ 1 * (1 - x) ^ 1) * (v ^ 3 * (1 - v) ^ 0) + (1) * (x ^ 2 * (1 - x) ^ 0) * (v ^ 0 * (1 - v) ^ 3) + (1) * (x ^ 2 * (1 - x) ^ 0) * (v ^ 1 * (1 - v) ^ 2) + (1) * (x ^ 2 * (1 - x) ^ 0) * (v ^ 2 * (1 - v) ^ 1) + (1) * (x ^ 2 * (1 - x) ^ 0) * (v ^ 3 * (1 - v) ^ 0) := by grind
  rw [h]
  exact (Rat.add_nonneg (Rat.add_nonneg (Rat.add_nonneg (Rat.add_nonneg (Rat.add_nonneg (Rat.add_nonneg (Rat.add_nonneg (Rat.add_nonneg (Rat.add_nonneg (Rat.add_nonneg (pos5 (by grind) hx hy hv hw 0 2 0 3) (pos5 (by grind) hx hy hv hw 0 2 1 2)) (pos5 (by grind) hx hy hv hw 0 2 2 1)) (pos5 (by grind) hx hy hv hw 0 2 3 0)) (pos5 (by grind) hx hy hv hw 1 1 0 3)) (pos5 (by grind) hx hy hv hw 1 1 1 2)) (pos5 (by grind) hx hy hv hw 1 1 3 0)) (pos5 (by grind) hx hy hv hw 2 0 0 3)) (pos5 (by grind) hx hy hv hw 2 0 1 2)) (pos5 (by grind) hx hy hv hw 2 0 2 1)) (pos5 (by grind) hx hy hv hw 2 0 3 0))
set_option maxHeartbeats 4000000 in
theorem legU2b {x v : Rat} (hx : 0 ≤ x) (hy : 0 ≤ 1 - x) (hv : 0 ≤ v) (hw : 0 ≤ 1 - v) : 0 ≤ 2 * (1 - ((1 + x) * v) * ((1 - v) * (1 + 3 * v - 3 / 2 * ((1 + x) * v)))) ^ 2 - 2 * (1 - v) ^ 2 * ((1 - v) * (1 + 3 * v - 3 / 2 * ((1 + x) * v))) + ((1 + x) * v) * (1 - v) ^ 2 * ((1 - v) * (1 + 3 * v - 3 / 2 * ((1 + x) * v))) ^ 2 := by
  have h : 2 * (1 - ((1 + x) * v) * ((1 - v) * (1 + 3 * v - 3 / 2 * ((1 + x) * v)))) ^ 2 - 2 * (1 - v) ^ 2 * ((1 - v) * (1 + 3 * v - 3 / 2 * ((1 + x) * v))) + ((1 + x) * v) * (1 - v) ^ 2 * ((1 - v) * (1 + 3 * v - 3 / 2 * ((1 + x) * v))) ^ 2 = (2) * (x ^ 0 * (1 - x) ^ 4) * (v ^ 2 * (1 - v) ^ 5) + (29 / 4) * (x ^ 0 * (1 - x) ^ 4) * (v ^ 3 * (1 - v) ^ 4) + (23 / 2) * (x ^ 0 * (1 - x) ^ 4) * (v ^ 4 * (1 - v) ^ 3) + (21 / 2) * (x ^ 0 * (1 - x) ^ 4) * (v ^ 5 * (1 - v) ^ 2) + (4) * (x ^ 0 * (1 - x) ^ 4) * (v ^ 6 * (1 - v) ^ 1) + (2) * (x ^ 0 * (1 - x) ^ 4) * (v ^ 7 * (1 - v) ^ 0) + (3) * (x ^ 1 * (1 - x) ^ 3) * (v ^ 2 * (1 - v) ^ 5) + (59 / 4) * (x ^ 1 * (1 - x) ^ 3) * (v ^ 3 * (1 - v) ^ 4) + (33) * (x ^ 1 * (1 - x) ^ 3) * (v ^ 4 * (1 - v) ^ 3) + (32) * (x ^ 1 * (1 - x) ^ 3) * (v ^ 5 * (1 - v) ^ 2) + (12) * (x ^ 1 * (1 - x) ^ 3) * (v ^ 6 * (1 - v) ^ 1) + (8) * (x ^ 1 * (1 - x) ^ 3) * (v ^ 7 * (1 - v) ^ 0) + (2) * (x ^ 2 * (1 - x) ^ 2) * (v ^ 2 * (1 - v) ^ 5) + (39 / 2) * (x ^ 2 * (1 - x) ^ 2) * (v ^ 3 * (1 - v) ^ 4) + (51) * (x ^ 2 * (1 - x) ^ 2) * (v ^ 4 * (1 - v) ^ 3) + (44) * (x ^ 2 * (1 - x) ^ 2) * (v ^ 5 * (1 - v) ^ 2) + (18) * (x ^ 2 * (1 - x) ^ 2) * (v ^ 6 * (1 - v) ^ 1) + (12) * (x ^ 2 * (1 - x) ^ 2) * (v ^ 7 * (1 - v) ^ 0) + (3) * (x ^ 3 * (1 - x) ^ 1) * (v ^ 2 * (1 - v) ^ 5) + (20) * (x ^ 3 * (1 - x) ^ 1) * (v ^ 3 * (1 - v) ^ 4) + (37) * (x ^ 3 * (1 - x) ^ 1) * (v ^ 4 * (1 - v) ^ 3) + (28) * (x ^ 3 * (1 - x) ^ 1) * (v ^ 5 * (1 - v) ^ 2) + (16) * (x ^ 3 * (1 - x) ^ 1) * (v ^ 6 * (1 - v) ^ 1) + (8) * (x ^ 3 * (1 - x) ^ 1) * (v ^ 7 * (1 - v) ^ 0) + (2) * (x ^ 4 * (1 - x) ^ 0) * (v ^ 2 * (1 - v) ^ 5) + (8) * (x ^ 4 * (1 - x) ^ 0) * (v ^ 3 * (1 - v) ^ 4) + (12) * (x ^ 4 * (1 - x) ^ 0) * (v ^ 4 * (1 - v) ^ 3) + (10) * (x ^ 4 * (1 - x) ^ 0) * (v ^ 5 * (1 - v) ^ 2) + (6) * (x ^ 4 * (1 - x) ^ 0) * (v ^ 6 * (1 - v) ^ 1) + (2) * (x ^ 4 * (1 - x) ^ 0) * (v ^ 7 * (1 - v) ^ 0) := by grind
  rw [h]
  exact (Rat.add_nonneg (Rat.add_nonneg (Rat.add_nonneg (Rat.add_nonneg (Rat.add_nonneg (Rat.add_nonneg (Rat.add_nonneg (Rat.add_nonneg (Rat.add_nonneg (Rat.add_nonneg (Rat.add_nonneg (Rat.add_nonneg (Rat.add_nonneg (Rat.add_nonneg (Rat.add_nonneg (Rat.add_nonneg (Rat.add_nonneg (Rat.add_nonneg (Rat.add_nonneg (Rat.add_nonneg (Rat.add_nonneg (Rat.add_nonneg (Rat.add_nonneg (Rat.add_nonneg (Rat.add_nonneg (Rat.add_nonneg (Rat.add_nonneg (Rat.add_nonneg (Rat.add_nonneg (pos5 (by grind) hx hy hv hw 0 4 2 5) (pos5 (by grind) hx hy hv hw 0 4 3 4)) (pos5 (by grind) hx hy hv hw 0 4 4 3)) (pos5 (by grind) hx hy hv hw 0 4 5 2)) (pos5 (by grind) hx hy hv hw 0 4 6 1)) (pos5 (by grind) hx hy hv hw 0 4 7 0)) (pos5 (by grind) hx hy hv hw 1 3 2 5)) (pos5 (by grind) hx hy hv hw 1 3 3 4)) (pos5 (by grind) hx hy hv hw 1 3 4 3)) (pos5 (by grind) hx hy hv hw 1 3 5 2)) (pos5 (by grind) hx hy hv hw 1 3 6 1)) (pos5 (by grind) hx hy hv hw 1 3 7 0)) (pos5 (by grind) hx hy hv hw 2 2 2 5)) (pos5 (by grind) hx hy hv hw 2 2 3 4)) (pos5 (by grind) hx hy hv hw 2 2 4 3)) (pos5 (by grind) hx hy hv hw 2 2 5 2)) (pos5 (by grind) hx hy hv hw 2 2 6 1)) (pos5 (by grind) hx hy hv hw 2 2 7 0)) (pos5 (by grind) hx hy hv hw 3 1 2 5)) (pos5 (by grind) hx hy hv hw 3 1 3 4)) (pos5 (by grind) hx hy hv hw 3 1 4 3)) (pos5 (by grind) hx hy hv hw 3 1 5 2)) (pos5 (by grind) hx hy hv hw 3 1 6 1)) (pos5 (by grind) hx hy hv hw 3 1 7 0)) (pos5 (by grind) hx hy hv hw 4 0 2 5)) (pos5 (by grind) hx hy hv hw 4 0 3 4)) (pos5 (by grind) hx hy hv hw 4 0 4 3)) (pos5 (by grind) hx hy hv hw 4 0 5 2)) (pos5 (by grind) hx hy hv hw 4 0 6 1)) (pos5 (by grind) hx hy hv hw 4 0 7 0))
set_option maxHeartbeats 4000000 in
theorem legL2b {x v : Rat} (hx : 0 ≤ x) (hy : 0 ≤ 1 - x) (hv : 0 ≤ v) (hw : 0 ≤ 1 - v) : 0 ≤ 2 * (1 - v + (1 + x) * v) * (1 - v) - (1 - 2 * v ^ 3 - ((1 + x) * v) * ((1 - v) * (1 + 3 * v - 3 / 2 * ((1 + x) * v)))) * ((1 - v) ^ 2 + 2 * ((1 + x) * v) + (1 - v + (1 + x) * v) ^ 2) := by
  have h : 2 * (1 - v + (1 + x) * v) * (1 - v) - (1 - 2 * v ^ 3 - ((1 + x) * v) * ((1 - v) * (1 + 3 * v - 3 / 2 * ((1 + x) * v)))) * ((1 - v) ^ 2 + 2 * ((1 + x) * v) + (1 - v + (1 + x) * v) ^ 2) = (2) * (x ^ 0 * (1 - x) ^ 4) * (v ^ 3 * (1 - v) ^ 2) + (9 / 2) * (x ^ 0 * (1 - x) ^ 4) * (v ^ 4 * (1 - v) ^ 1) + (3) * (x ^ 0 * (1 - x) ^ 4) * (v ^ 5 * (1 - v) ^ 0) + (11) * (x ^ 1 * (1 - x) ^ 3) * (v ^ 3 * (1 - v) ^ 2) + (25) * (x ^ 1 * (1 - x) ^ 3) * (v ^ 4 * (1 - v) ^ 1) + (16) * (x ^ 1 * (1 - x) ^ 3) * (v ^ 5 * (1 - v) ^ 0) + (21) * (x ^ 2 * (1 - x) ^ 2) * (v ^ 3 * (1 - v) ^ 2) + (47) * (x ^ 2 * (1 - x) ^ 2) * (v ^ 4 * (1 - v) ^ 1) + (31) * (x ^ 2 * (1 - x) ^ 2) * (v ^ 5 * (1 - v) ^ 0) + (12) * (x ^ 3 * (1 - x) ^ 1) * (v ^ 3 * (1 - v) ^ 2) + (32) * (x ^ 3 * (1 - x) ^ 1) * (v ^ 4 * (1 - v) ^ 1) + (26) * (x ^ 3 * (1 - x) ^ 1) * (v ^ 5 * (1 - v) ^ 0) + (4) * (x ^ 4 * (1 - x) ^ 0) * (v ^ 4 * (1 - v) ^ 1) + (8) * (x ^ 4 * (1 - x) ^ 0) * (v ^ 5 * (1 - v) ^ 0) := by grind
  rw [h]
  exact (Rat.add_nonneg (Rat.add_nonneg (Rat.add_nonneg (Rat.add_nonneg (Rat.add_nonneg (Rat.add_nonneg (Rat.add_nonneg (Rat.add_nonneg (Rat.add_nonneg (Rat.add_nonneg (Rat.add_nonneg (Rat.add_nonneg (Rat.add_nonneg (pos5 (by grind) hx hy hv hw 0 4 3 2) (pos5 (by grind) hx hy hv hw 0 4 4 1)) (pos5 (by grind) hx hy hv hw 0 4 5 0)) (pos5 (by grind) hx hy hv hw 1 3 3 2)) (pos5 (by grind) hx hy hv hw 1 3 4 1)) (pos5 (by grind) hx hy hv hw 1 3 5 0)) (pos5 (by grind) hx hy hv hw 2 2 3 2)) (pos5 (by grind) hx hy hv hw 2 2 4 1)) (pos5 (by grind) hx hy hv hw 2 2 5 0)) (pos5 (by grind) hx hy hv hw 3 1 3 2)) (pos5 (by grind) hx hy hv hw 3 1 4 1)) (pos5 (by grind) hx hy hv hw 3 1 5 0)) (pos5 (by grind) hx hy hv hw 4 0 4 1)) (pos5 (by grind) hx hy hv hw 4 0 5 0))
set_option maxHeartbeats 4000000 in
theorem legL0b {x v : Rat} (hx : 0 ≤ x) (hy : 0 ≤ 1 - x) (hv : 0 ≤ v) (hw : 0 ≤ 1 - v) : 0 ≤ 2 * (1 - v + (1 + x) * v) * (1 - v) - (1 - 2 * v) * ((1 - v) ^ 2 + 2 * ((1 + x) * v) + (1 - v + (1 + x) * v) ^ 2) := by
  have h : 2 * (1 - v + (1 + x) * v) * (1 - v) - (1 - 2 * v) * ((1 - v) ^ 2 + 2 * ((1 + x) * v) + (1 - v + (1 + x) * v) ^ 2) = (2) * (x ^ 0 * (1 - x) ^ 2) * (v ^ 1 * (1 - v) ^ 2) + (3) * (x ^ 0 * (1 - x) ^ 2) * (v ^ 2 * (1 - v) ^ 1) + (3) * (x ^ 0 * (1 - x) ^ 2) * (v ^ 3 * (1 - v) ^ 0) + (2) * (x ^ 1 * (1 - x) ^ 1) * (v ^ 1 * (1 - v) ^ 2) + (8) * (x ^ 1 * (1 - x) ^ 1) * (v ^ 2 * (1 - v) ^ 1) + (10) * (x ^ 1 * (1 - x) ^ 1) * (v ^ 3 * (1 - v) ^ 0) + (4) * (x ^ 2 * (1 - x) ^ 0) * (v ^ 2 * (1 - v) ^ 1) + (8) * (x ^ 2 * (1 - x) ^ 0) * (v ^ 3 * (1 - v) ^ 0) := by grind
  rw [h]
  exact (Rat.add_nonneg (Rat.add_nonneg (Rat.add_nonneg (Rat.add_nonneg (Rat.add_nonneg (Rat.add_nonneg (Rat.add_nonneg (pos5 (by grind) hx hy hv hw 0 2 1 2) (pos5 (by grind) hx hy hv hw 0 2 2 1)) (pos5 (by grind) hx hy hv hw 0 2 3 0)) (pos5 (by grind) hx hy hv hw 1 1 1 2)) (pos5 (by grind) hx hy hv hw 1 1 2 1)) (pos5 (by grind) hx hy hv hw 1 1 3 0)) (pos5 (by grind) hx hy hv hw 2 0 2 1)) (pos5 (by grind) hx hy hv hw 2 0 3 0))
theorem sqn (x : Rat) : 0 ≤ x ^ 2 := by
  rcases Rat.le_total (a := 0) (b := x) with h | h
  · exact Rat.pow_nonneg h
  · have e : x ^ 2 = (-x) ^ 2 := by grind
    rw [e]
    exact Rat.pow_nonneg (by grind)
theorem mul_le2 {a b c d : Rat} (h1 : a ≤ b) (h2 : c ≤ d) (h3 : 0 ≤ c) (h4 : 0 ≤ b) : a * c ≤ b * d :=
  Rat.le_trans (Rat.mul_le_mul_of_nonneg_right h1 h3) (Rat.mul_le_mul_of_nonneg_left h2 h4)
/-- The terms of a far field up to an order. -/
def qk : Nat → Rat → Rat → Rat
  | 0, _, _ => 1
  | 1, X, _ => 1 + X
  | _, X, M => 1 + X + (3 * X ^ 2 - M) / 2
theorem leg_par {X v : Rat} (hv : 0 < v) (h1 : X ≤ v) (h2 : -v ≤ X) : (∃ x, 0 ≤ x ∧ 0 ≤ 1 - x ∧ x * v = v - X) ∨ (∃ x, 0 ≤ x ∧ 0 ≤ 1 - x ∧ (1 + x) * v = v - X) := by
  have hm : (v - X) / v * v = v - X := Rat.div_mul_cancel (by grind)
  have h0 : 0 ≤ (v - X) / v := by
    rw [Rat.div_def]
    exact Rat.mul_nonneg (by grind) (Rat.le_of_lt (Rat.inv_pos.2 hv))
  by_cases hb : (v - X) / v ≤ 1
  · left
    exact ⟨(v - X) / v, h0, by grind, hm⟩
  · right
    refine ⟨(v - X) / v - 1, by grind, ?_, by grind⟩
    by_cases h3 : (v - X) / v ≤ 2
    · grind
    · have h4 := Rat.mul_pos (show 0 < (v - X) / v - 2 by grind) hv
      grind
set_option maxHeartbeats 4000000 in
theorem leg_up {k : Nat} (hk : k ≤ 2) {X v : Rat} (hv : 0 ≤ v) (hw : v < 1) (h1 : X ≤ v) (h2 : -v ≤ X) :
    0 ≤ (1 - v) * qk k X (v ^ 2) + v ^ (k + 1) ∧ (1 - v) ^ 2 ≤ ((1 - v) * qk k X (v ^ 2) + v ^ (k + 1)) ^ 2 * (1 - 2 * X + v ^ 2) := by
  have hw' : 0 ≤ 1 - v := by grind
  have hg : 0 ≤ v - X := by grind
  rcases (show k = 0 ∨ k = 1 ∨ k = 2 by omega) with rfl | rfl | rfl
  · simp only [qk]
    constructor <;> grind
  · simp only [qk]
    by_cases h0 : v = 0
    · subst h0
      have : X = 0 := by grind
      subst this
      constructor <;> grind
    have key : 0 ≤ 1 - (v - X) * (1 - v) ∧ 0 ≤ 2 * (1 - (v - X) * (1 - v)) ^ 2 - 2 * (1 - v) ^ 2 * (1 - v) + (v - X) * (1 - v) ^ 2 * (1 - v) ^ 2 := by
      rcases leg_par (by grind) h1 h2 with ⟨x, a, b, e⟩ | ⟨x, a, b, e⟩
      · have i := legA1a a b hv hw'
        have j := legU1a a b hv hw'
        rw [e] at i j
        exact ⟨i, j⟩
      · have i := legA1b a b hv hw'
        have j := legU1b a b hv hw'
        rw [e] at i j
        exact ⟨i, j⟩
    obtain ⟨k1, k2⟩ := key
    have k3 := Rat.mul_nonneg hg k2
    constructor
    · have e : (1 - v) * (1 + X) + v ^ (1 + 1) = 1 - (v - X) * (1 - v) := by grind
      rw [e]
      exact k1
    · have e : ((1 - v) * (1 + X) + v ^ (1 + 1)) ^ 2 * (1 - 2 * X + v ^ 2) - (1 - v) ^ 2 = (v - X) * (2 * (1 - (v - X) * (1 - v)) ^ 2 - 2 * (1 - v) ^ 2 * (1 - v) + (v - X) * (1 - v) ^ 2 * (1 - v) ^ 2) := by grind
      grind
  · simp only [qk]
    by_cases h0 : v = 0
    · subst h0
      have : X = 0 := by grind
      subst this
      constructor <;> grind
    have key : 0 ≤ 1 - (v - X) * ((1 - v) * (1 + 3 * v - 3 / 2 * (v - X))) ∧ 0 ≤ 2 * (1 - (v - X) * ((1 - v) * (1 + 3 * v - 3 / 2 * (v - X)))) ^ 2 - 2 * (1 - v) ^ 2 * ((1 - v) * (1 + 3 * v - 3 / 2 * (v - X))) + (v - X) * (1 - v) ^ 2 * ((1 - v) * (1 + 3 * v - 3 / 2 * (v - X))) ^ 2 := by
      rcases leg_par (by grind) h1 h2 with ⟨x, a, b, e⟩ | ⟨x, a, b, e⟩
      · have i := legA2a a b hv hw'
        have j := legU2a a b hv hw'
        rw [e] at i j
        exact ⟨i, j⟩
      · have i := legA2b a b hv hw'
        have j := legU2b a b hv hw'
        rw [e] at i j
        exact ⟨i, j⟩
    obtain ⟨k1, k2⟩ := key
    have k3 := Rat.mul_nonneg hg k2
    constructor
    · have e : (1 - v) * (1 + X + (3 * X ^ 2 - v ^ 2) / 2) + v ^ (2 + 1) = 1 - (v - X) * ((1 - v) * (1 + 3 * v - 3 / 2 * (v - X))) := by grind
      rw [e]
      exact k1
    · have e : ((1 - v) * (1 + X + (3 * X ^ 2 - v ^ 2) / 2) + v ^ (2 + 1)) ^ 2 * (1 - 2 * X + v ^ 2) - (1 - v) ^ 2 = (v - X) * (2 * (1 - (v - X) * ((1 - v) * (1 + 3 * v - 3 / 2 * (v - X)))) ^ 2 - 2 * (1 - v) ^ 2 * ((1 - v) * (1 + 3 * v - 3 / 2 * (v - X))) + (v - X) * (1 - v) ^ 2 * ((1 - v) * (1 + 3 * v - 3 / 2 * (v - X))) ^ 2) := by grind
      grind
/-- A (s + m)^2 at most 4 m w: then A^2 s is at most w^2. -/
theorem amgm {A s m w : Rat} (hA : 0 ≤ A) (hm : 0 < m) (h : 0 ≤ 2 * m * w - A * (s + m ^ 2)) (hs : 0 ≤ s) : A ^ 2 * s ≤ w ^ 2 := by
  have h1 : 0 ≤ A * (s + m ^ 2) := Rat.mul_nonneg hA (by have := Rat.pow_nonneg (n := 2) (Rat.le_of_lt hm); grind)
  have h2 : (A * (s + m ^ 2)) * (A * (s + m ^ 2)) ≤ (2 * m * w) * (2 * m * w) := mul_le2 (by grind) (by grind) h1 (by grind)
  have h3 : 0 ≤ A ^ 2 * (s - m ^ 2) ^ 2 := by
    have e : A ^ 2 * (s - m ^ 2) ^ 2 = (A * (s - m ^ 2)) ^ 2 := by grind
    rw [e]
    exact sqn _
  have h4 : 0 ≤ 4 * m ^ 2 * (w ^ 2 - A ^ 2 * s) := by grind
  by_cases h5 : A ^ 2 * s ≤ w ^ 2
  · exact h5
  · exfalso
    have h6 : 0 < m ^ 2 * (A ^ 2 * s - w ^ 2) := Rat.mul_pos (Rat.pow_pos hm) (by grind)
    grind
set_option maxHeartbeats 4000000 in
theorem leg_lo {k : Nat} (hk : k ≤ 2) {X v : Rat} (hv : 0 ≤ v) (hw : v < 1) (h1 : X ≤ v) (h2 : -v ≤ X) :
    (1 - v) * qk k X (v ^ 2) - v ^ (k + 1) ≤ 0 ∨ ((1 - v) * qk k X (v ^ 2) - v ^ (k + 1)) ^ 2 * (1 - 2 * X + v ^ 2) ≤ (1 - v) ^ 2 := by
  have hw' : 0 ≤ 1 - v := by grind
  have hg : 0 ≤ v - X := by grind
  have hs : 0 ≤ 1 - 2 * X + v ^ 2 := by
    have := sqn (1 - v)
    grind
  by_cases hA : (1 - v) * qk k X (v ^ 2) - v ^ (k + 1) ≤ 0
  · exact .inl hA
  right
  refine amgm (m := 1 - X) (by grind) (by grind) ?_ hs
  clear hA
  by_cases h0 : v = 0
  · subst h0
    have : X = 0 := by grind
    subst this
    rcases (show k = 0 ∨ k = 1 ∨ k = 2 by omega) with rfl | rfl | rfl <;> simp only [qk] <;> grind
  rcases (show k = 0 ∨ k = 1 ∨ k = 2 by omega) with rfl | rfl | rfl
  · simp only [qk]
    have key : 0 ≤ 2 * (1 - v + (v - X)) * (1 - v) - (1 - 2 * v) * ((1 - v) ^ 2 + 2 * (v - X) + (1 - v + (v - X)) ^ 2) := by
      rcases leg_par (by grind) h1 h2 with ⟨x, a, b, e⟩ | ⟨x, a, b, e⟩
      · have i := legL0a a b hv hw'
        rw [e] at i
        exact i
      · have i := legL0b a b hv hw'
        rw [e] at i
        exact i
    grind
  · simp only [qk]
    have key : 0 ≤ 2 * (1 - v + (v - X)) * (1 - v) - (1 - 2 * v ^ 2 - (v - X) * (1 - v)) * ((1 - v) ^ 2 + 2 * (v - X) + (1 - v + (v - X)) ^ 2) := by
      rcases leg_par (by grind) h1 h2 with ⟨x, a, b, e⟩ | ⟨x, a, b, e⟩
      · have i := legL1a a b hv hw'
        rw [e] at i
        exact i
      · have i := legL1b a b hv hw'
        rw [e] at i
        exact i
    grind
  · simp only [qk]
    have key : 0 ≤ 2 * (1 - v + (v - X)) * (1 - v) - (1 - 2 * v ^ 3 - (v - X) * ((1 - v) * (1 + 3 * v - 3 / 2 * (v - X)))) * ((1 - v) ^ 2 + 2 * (v - X) + (1 - v + (v - X)) ^ 2) := by
      rcases leg_par (by grind) h1 h2 with ⟨x, a, b, e⟩ | ⟨x, a, b, e⟩
      · have i := legL2a a b hv hw'
        rw [e] at i
        exact i
      · have i := legL2b a b hv hw'
        rw [e] at i
        exact i
    grind
theorem sqle {a b : Rat} (hb : 0 ≤ b) (h : a ^ 2 ≤ b ^ 2) : a ≤ b := by
  by_cases h1 : a ≤ b
  · exact h1
  · exfalso
    have h2 : 0 < (a - b) * (a + b) := Rat.mul_pos (by grind) (by grind)
    grind
theorem cancel_pos {a x y : Rat} (ha : 0 < a) (h : a * x ≤ a * y) : x ≤ y := Rat.le_of_mul_le_mul_left h ha
theorem cu {z p S S' B n d κ : Rat} (hn : 0 < n) (hS : 0 < S) (hSS : S' ≤ S * (1 + κ)) (hz : z ^ 2 * (n * S) ≤ 1 + d) (hp : 1 - d ≤ p ^ 2 * n) (hB : 1 ≤ B ^ 2 * S') (hd : 0 ≤ d) (hd2 : d ≤ 1 / 4) (hκ : 0 ≤ κ) :
    z ^ 2 ≤ (p * B) ^ 2 * ((1 + 3 * d) * (1 + κ)) := by
  have hnS := Rat.mul_pos hn hS
  have q0 := Rat.mul_nonneg (sqn z) (Rat.le_of_lt hnS)
  have q1 : (z ^ 2 * (n * S)) * (1 - d) ≤ (1 + d) * (p ^ 2 * n) := mul_le2 hz hp (by grind) (by grind)
  have q2 := Rat.mul_nonneg (sqn p) (Rat.le_of_lt hn)
  have q3 : (1 + d) * (p ^ 2 * n) * 1 ≤ (1 + d) * (p ^ 2 * n) * (B ^ 2 * S') := Rat.mul_le_mul_of_nonneg_left hB (Rat.mul_nonneg (by grind) q2)
  have q4 : B ^ 2 * S' ≤ B ^ 2 * (S * (1 + κ)) := Rat.mul_le_mul_of_nonneg_left hSS (sqn B)
  have q5 : (1 + d) * (p ^ 2 * n) * (B ^ 2 * S') ≤ (1 + d) * (p ^ 2 * n) * (B ^ 2 * (S * (1 + κ))) := Rat.mul_le_mul_of_nonneg_left q4 (Rat.mul_nonneg (by grind) q2)
  have q6 : (1 + d) ≤ (1 + 3 * d) * (1 - d) := by
    have := Rat.mul_nonneg hd (show 0 ≤ 1 - 3 * d by grind)
    grind
  have q7 : 0 ≤ (p * B) ^ 2 * (1 + κ) := Rat.mul_nonneg (sqn _) (by grind)
  have q8 := Rat.mul_le_mul_of_nonneg_right q6 q7
  have q9 : (n * S) * (z ^ 2 * (1 - d)) ≤ (n * S) * ((1 + d) * ((p * B) ^ 2 * (1 + κ))) := by grind
  have q10 := cancel_pos hnS q9
  refine cancel_pos (a := 1 - d) (by grind) ?_
  grind
theorem cl {z p S S' B n d : Rat} (hn : 0 < n) (hS : 0 < S) (hSS : S ≤ S') (hz : 1 - d ≤ z ^ 2 * (n * S)) (hp : p ^ 2 * n ≤ 1 + d) (hB : B ^ 2 * S' ≤ 1) (hd : 0 ≤ d) (hd2 : d ≤ 1 / 4) :
    (p * B) ^ 2 ≤ z ^ 2 * (1 + 3 * d) := by
  have hnS := Rat.mul_pos hn hS
  have q4 : B ^ 2 * S ≤ B ^ 2 * S' := Rat.mul_le_mul_of_nonneg_left hSS (sqn B)
  have q1 : (p ^ 2 * n) * (B ^ 2 * S) ≤ (1 + d) * 1 := mul_le2 hp (by grind) (Rat.mul_nonneg (sqn B) (Rat.le_of_lt hS)) (by grind)
  have q6 : (1 + d) ≤ (1 + 3 * d) * (1 - d) := by
    have := Rat.mul_nonneg hd (show 0 ≤ 1 - 3 * d by grind)
    grind
  have q7 : (1 + 3 * d) * (1 - d) ≤ (1 + 3 * d) * (z ^ 2 * (n * S)) := Rat.mul_le_mul_of_nonneg_left hz (by grind)
  refine cancel_pos (a := n * S) hnS ?_
  grind
theorem pow_mono {a b : Rat} (h0 : 0 ≤ a) (h : a ≤ b) : ∀ k : Nat, a ^ k ≤ b ^ k
  | 0 => by simp
  | k + 1 => by
    rw [Rat.pow_succ, Rat.pow_succ]
    exact mul_le2 (pow_mono h0 h k) h h0 (Rat.pow_nonneg (by grind))
theorem ev_le {v t e f : Rat} (k : Nat) (h0 : 0 ≤ v) (h : v ≤ t) (ht : t < 1) (he : (1 - v) * e = v ^ k) (hf : (1 - t) * f = t ^ k) : e ≤ f := by
  have hp := pow_mono h0 h k
  have h1 : 0 ≤ t ^ k := Rat.pow_nonneg (by grind)
  have hf0 : 0 ≤ f := by
    refine cancel_pos (a := 1 - t) (by grind) ?_
    grind
  refine cancel_pos (a := 1 - v) (by grind) ?_
  have h3 : (1 - t) * f ≤ (1 - v) * f := Rat.mul_le_mul_of_nonneg_right (by grind) hf0
  grind
/-- How far a far field is off, up to what is as small as wanted. -/
def cT (t R : Rat) (k : Nat) : Rat := 2 * ((4 + t ^ k / (1 - t)) * (3 + 8 / (1 - t) ^ 2)) + t ^ k / (1 - t) / R + 2 + 3 * (2 + 4 / (1 - t) ^ 2)
theorem qk_le {k : Nat} (hk : k ≤ 2) {X v : Rat} (hv : 0 ≤ v) (hw : v < 1) (h1 : X ≤ v) (h2 : -v ≤ X) : qk k X (v ^ 2) ≤ 4 := by
  rcases (show k = 0 ∨ k = 1 ∨ k = 2 by omega) with rfl | rfl | rfl
  · simp only [qk]; grind
  · simp only [qk]; grind
  · simp only [qk]
    have := sqn v
    have : 0 ≤ (v - X) * (v + X) := Rat.mul_nonneg (by grind) (by grind)
    have : 0 ≤ (1 - v) * (1 + v) := Rat.mul_nonneg (by grind) (by grind)
    grind
theorem qk_mono {k : Nat} (hk : k ≤ 2) {X M v d : Rat} (h1 : M ≤ v ^ 2) (h2 : v ^ 2 ≤ M + d) (hd : 0 ≤ d) : qk k X (v ^ 2) ≤ qk k X M ∧ qk k X M ≤ qk k X (v ^ 2) + d := by
  rcases (show k = 0 ∨ k = 1 ∨ k = 2 by omega) with rfl | rfl | rfl <;> simp only [qk] <;> grind
set_option maxHeartbeats 4000000 in
theorem far_off {k : Nat} (hk : k ≤ 2) {n R t d X M v p z f g : Rat} (hn : 1 ≤ n) (hR : 0 < R) (hRn : R ^ 2 ≤ n) (ht1 : t < 1) (hv0 : 0 ≤ v) (hvt : v ≤ t) (h1 : X ≤ v) (h2 : -v ≤ X) (hM : M ≤ v ^ 2) (hM2 : v ^ 2 ≤ M + d)
    (hd : 0 ≤ d) (hd2 : d ≤ 1 / 4) (hd3 : 2 * d ≤ (1 - t) ^ 2) (hp : 0 ≤ p) (hp1 : 1 - d ≤ p ^ 2 * n) (hp2 : p ^ 2 * n ≤ 1 + d) (hz : 0 ≤ z) (hz1 : 1 - d ≤ z ^ 2 * (n * (1 - 2 * X + M))) (hz2 : z ^ 2 * (n * (1 - 2 * X + M)) ≤ 1 + d)
    (hf : (1 - t) * f = t ^ (k + 1)) (hg : g * (1 - t) ^ 2 = 1) :
    z ≤ p * qk k X M + f / R + (2 * ((4 + f) * (3 + 8 * g)) + f / R) * d ∧ p * qk k X M ≤ z + f / R + (f / R + 2 + 3 * (2 + 4 * g)) * d := by
  obtain ⟨e, he⟩ : ∃ e, (1 - v) * e = v ^ (k + 1) := ⟨v ^ (k + 1) / (1 - v), by rw [Rat.mul_comm]; exact Rat.div_mul_cancel (by grind)⟩
  have hef := ev_le (k + 1) hv0 hvt ht1 he hf
  have he0 : 0 ≤ e := by
    have : 0 ≤ v ^ (k + 1) := Rat.pow_nonneg hv0
    refine cancel_pos (a := 1 - v) (by grind) ?_
    grind
  have hv1 : v < 1 := by grind
  obtain ⟨u1, u2⟩ := leg_up hk hv0 hv1 h1 h2
  have hql := qk_le hk hv0 hv1 h1 h2
  obtain ⟨m1, m2⟩ := qk_mono (X := X) hk hM hM2 hd
  have lo := leg_lo hk hv0 hv1 h1 h2
  rw [← he] at u1 u2 lo
  generalize qk k X (v ^ 2) = Q at *
  generalize qk k X M = Q' at *
  generalize hfr : f / R = F at *
  have hF : F * R = f := by rw [← hfr]; exact Rat.div_mul_cancel (by grind)
  have hF0 : 0 ≤ F := by
    refine cancel_pos (a := R) hR ?_
    grind
  have hg0 : 0 ≤ g := by
    refine cancel_pos (a := (1 - t) ^ 2) (Rat.pow_pos (by grind)) ?_
    grind
  have hp3 : p ≤ 2 := by
    refine sqle (by grind) ?_
    have := Rat.mul_le_mul_of_nonneg_left hn (sqn p)
    grind
  have hpR : p * R ≤ 1 + d := by
    refine sqle (by grind) ?_
    have := Rat.mul_le_mul_of_nonneg_left hRn (sqn p)
    have := sqn d
    grind
  have hpf : p * f ≤ F + F * d := by
    have h1 : p * R * F ≤ (1 + d) * F := Rat.mul_le_mul_of_nonneg_right hpR hF0
    have h2 : p * f = p * R * F := by rw [← hF, Rat.mul_comm F R, Rat.mul_assoc]
    rw [h2]
    clear lo u2 u1 hz1 hz2 hp1 hp2
    grind
  have hpe : p * e ≤ p * f := Rat.mul_le_mul_of_nonneg_left hef hp
  have hB0 : 0 ≤ Q + e := by
    refine cancel_pos (a := 1 - v) (by grind) ?_
    grind
  have hvs : 0 < (1 - v) ^ 2 := Rat.pow_pos (by grind)
  have hB : 1 ≤ (Q + e) ^ 2 * (1 - 2 * X + v ^ 2) := by
    refine cancel_pos hvs ?_
    grind
  have hsv : (1 - t) ^ 2 ≤ (1 - v) ^ 2 := pow_mono (by grind) (by grind) 2
  have hS : (1 - t) ^ 2 ≤ 2 * (1 - 2 * X + M) := by grind
  have hS0 : 0 < 1 - 2 * X + M := by
    have : 0 < (1 - t) ^ 2 := Rat.pow_pos (by grind)
    grind
  have hg2 : 1 ≤ 2 * g * (1 - 2 * X + M) := by
    have := Rat.mul_le_mul_of_nonneg_left hS hg0
    grind
  have hSS : 1 - 2 * X + v ^ 2 ≤ (1 - 2 * X + M) * (1 + 2 * g * d) := by
    have := Rat.mul_le_mul_of_nonneg_left hg2 hd
    grind
  constructor
  · have c := cu (by grind) hS0 hSS hz2 hp1 hB hd hd2 (Rat.mul_nonneg (Rat.mul_nonneg (by grind) hg0) hd)
    have c2 : z ≤ p * (Q + e) * (1 + (3 + 8 * g) * d) := by
      refine sqle (Rat.mul_nonneg (Rat.mul_nonneg hp hB0) (by have := Rat.mul_nonneg (show 0 ≤ 3 + 8 * g by grind) hd; grind)) ?_
      have w1 : (1 + 3 * d) * (1 + 2 * g * d) ≤ (1 + (3 + 8 * g) * d) ^ 2 := by
        have a1 := Rat.mul_nonneg hg0 hd
        have a2 := Rat.mul_nonneg a1 (show 0 ≤ 1 / 4 - d by grind)
        have a3 := sqn ((3 + 8 * g) * d)
        clear c lo u1 u2 hz1 hz2 hp1 hp2 hB hS hSS hg2
        grind
      have w2 := Rat.mul_le_mul_of_nonneg_left w1 (sqn (p * (Q + e)))
      grind
    have c3 : p * (Q + e) ≤ 2 * (4 + f) := mul_le2 hp3 (by grind) hB0 (by grind)
    have c4 := Rat.mul_le_mul_of_nonneg_right c3 (Rat.mul_nonneg (show 0 ≤ 3 + 8 * g by grind) hd)
    have c5 : p * Q ≤ p * Q' := Rat.mul_le_mul_of_nonneg_left m1 hp
    grind
  · have c5 : p * Q' ≤ p * (Q + d) := Rat.mul_le_mul_of_nonneg_left m2 hp
    have c6 : p * d ≤ 2 * d := Rat.mul_le_mul_of_nonneg_right hp3 hd
    have gd := Rat.mul_nonneg hg0 hd
    rcases lo with lo | lo
    · have hB' : Q ≤ e := by
        refine cancel_pos (a := 1 - v) (by grind) ?_
        grind
      have c7 : p * Q ≤ p * e := Rat.mul_le_mul_of_nonneg_left hB' hp
      grind
    · have hB' : (Q - e) ^ 2 * (1 - 2 * X + v ^ 2) ≤ 1 := by
        refine cancel_pos hvs ?_
        grind
      have c := cl (by grind) hS0 (show 1 - 2 * X + M ≤ 1 - 2 * X + v ^ 2 by grind) hz1 hp2 hB' hd hd2
      have c2 : p * (Q - e) ≤ z * (1 + 3 * d) := by
        refine sqle (Rat.mul_nonneg hz (by grind)) ?_
        have w1 : 1 + 3 * d ≤ (1 + 3 * d) ^ 2 := by
          have := sqn d
          grind
        have w2 := Rat.mul_le_mul_of_nonneg_left w1 (sqn z)
        grind
      have c3 : z ≤ 2 + 4 * g := by
        have z2 : z ^ 2 ≤ (1 + d) * (2 * g) := by
          have y0 : 0 ≤ z ^ 2 * (1 - 2 * X + M) := Rat.mul_nonneg (sqn z) (Rat.le_of_lt hS0)
          have y1 : 1 * (z ^ 2 * (1 - 2 * X + M)) ≤ n * (z ^ 2 * (1 - 2 * X + M)) := Rat.mul_le_mul_of_nonneg_right hn y0
          have y2 := Rat.mul_le_mul_of_nonneg_left hg2 (sqn z)
          have y3 : (z ^ 2 * (1 - 2 * X + M)) * (2 * g) ≤ (1 + d) * (2 * g) := Rat.mul_le_mul_of_nonneg_right (by grind) (by grind)
          grind
        have z3 := sqn (z - 1)
        have z4 : d * (2 * g) ≤ 1 / 4 * (2 * g) := Rat.mul_le_mul_of_nonneg_right hd2 (by grind)
        grind
      have c4 := Rat.mul_le_mul_of_nonneg_right c3 hd
      grind
theorem nat_ge (x : Rat) : ∃ N : Nat, x ≤ (N : Rat) := by
  refine ⟨x.ceil.toNat, Rat.le_trans Rat.le_ceil ?_⟩
  have h : x.ceil ≤ (x.ceil.toNat : Int) := Int.self_le_toNat _
  exact_mod_cast h
theorem two_pow_ge : ∀ N : Nat, (N : Rat) ≤ 2 ^ N
  | 0 => by decide
  | N + 1 => by
    have h := two_pow_ge N
    have h1 : (1 : Rat) ≤ 2 ^ N := by
      have := pow_mono (a := 1) (b := 2) (by decide) (by decide) N
      have e : (1 : Rat) ^ N = 1 := by
        clear h this
        induction N with
        | zero => rfl
        | succ n ih => rw [Rat.pow_succ, ih, Rat.mul_one]
      grind
    have e : ((N + 1 : Nat) : Rat) = (N : Rat) + 1 := by push_cast; rfl
    rw [e, Rat.pow_succ]
    grind
/-- Halving a bracket of a square root. -/
theorem halve {a b M : Rat} (ha : 0 ≤ a) (hab : a ≤ b) (h1 : a ^ 2 ≤ M) (h2 : M ≤ b ^ 2) : ∀ N : Nat, ∃ x y, a ≤ x ∧ x ≤ y ∧ y ≤ b ∧ x ^ 2 ≤ M ∧ M ≤ y ^ 2 ∧ (y - x) * 2 ^ N = b - a
  | 0 => ⟨a, b, Rat.le_refl, hab, Rat.le_refl, h1, h2, by simp⟩
  | N + 1 => by
    obtain ⟨x, y, k1, k2, k3, k4, k5, k6⟩ := halve ha hab h1 h2 N
    by_cases h : ((x + y) / 2) ^ 2 ≤ M
    · exact ⟨(x + y) / 2, y, by grind, by grind, k3, h, k5, by rw [Rat.pow_succ]; grind⟩
    · exact ⟨x, (x + y) / 2, k1, by grind, by grind, k4, by grind, by rw [Rat.pow_succ]; grind⟩
theorem root_near {a b M d : Rat} (ha : 0 ≤ a) (hab : a ≤ b) (h1 : a ^ 2 ≤ M) (h2 : M ≤ b ^ 2) (hd : 0 < d) : ∃ x y, (a ≤ x ∧ x ≤ b ∧ x ^ 2 ≤ M ∧ M ≤ x ^ 2 + d) ∧ (a ≤ y ∧ y ≤ b ∧ M ≤ y ^ 2 ∧ y ^ 2 ≤ M + d) := by
  obtain ⟨N, hN⟩ := nat_ge ((b - a) * (2 * b) / d)
  obtain ⟨x, y, k1, k2, k3, k4, k5, k6⟩ := halve ha hab h1 h2 N
  have hN := Rat.le_trans hN (two_pow_ge N)
  have h3 : (b - a) * (2 * b) ≤ 2 ^ N * d := by
    have h4 := Rat.mul_le_mul_of_nonneg_right hN (Rat.le_of_lt hd)
    rw [Rat.div_mul_cancel (by grind)] at h4
    exact h4
  have hp : (0 : Rat) < 2 ^ N := Rat.pow_pos (by decide)
  have h5 : y ^ 2 - x ^ 2 ≤ d := by
    refine cancel_pos hp ?_
    have h6 : (y - x) * (y + x) ≤ (y - x) * (2 * b) := Rat.mul_le_mul_of_nonneg_left (by grind) (by grind)
    have h7 := Rat.mul_le_mul_of_nonneg_left h6 (Rat.le_of_lt hp)
    have h8 : 2 ^ N * ((y - x) * (2 * b)) = (b - a) * (2 * b) := by rw [← k6]; grind
    have h9 : 2 ^ N * (y ^ 2 - x ^ 2) = 2 ^ N * ((y - x) * (y + x)) := by grind
    rw [h9]
    rw [h8] at h7
    exact Rat.le_trans h7 h3
  exact ⟨x, y, ⟨k1, by grind, k4, by grind⟩, by grind, k3, k5, by grind⟩
/-- A number whose inverse square is nearly q. -/
theorem inv_near {a b q d : Rat} (ha : 0 ≤ a) (hab : a ≤ b) (hq : 0 < q) (h1 : a ^ 2 * q ≤ 1) (h2 : 1 ≤ b ^ 2 * q) (hd : 0 < d) : ∃ z, a ≤ z ∧ z ≤ b ∧ 1 - d ≤ z ^ 2 * q ∧ z ^ 2 * q ≤ 1 + d := by
  have hi : 1 / q * q = 1 := Rat.div_mul_cancel (by grind)
  obtain ⟨x, y, ⟨k1, k2, k3, k4⟩, -⟩ := root_near (M := 1 / q) (d := d / q) ha hab (by refine cancel_pos hq ?_; grind) (by refine cancel_pos hq ?_; grind) (by
    have : d / q * q = d := Rat.div_mul_cancel (by grind)
    by_cases h : 0 < d / q
    · exact h
    · have := Rat.mul_nonneg (show 0 ≤ - (d / q) by grind) (Rat.le_of_lt hq)
      grind)
  have hdq : d / q * q = d := Rat.div_mul_cancel (by grind)
  refine ⟨x, k1, k2, ?_, ?_⟩
  · have := Rat.mul_le_mul_of_nonneg_right k4 (Rat.le_of_lt hq)
    grind
  · have := Rat.mul_le_mul_of_nonneg_right k3 (Rat.le_of_lt hq)
    grind
end Go.Proofs.Ytodmdicegkjicaa
