/- Plain facts on numbers: products and their parts. No program in sight. -/
import Derived.Test.YtoadlneneijfaaaNum
namespace Go.Proofs.Ytoadlneneijfaaa
set_option linter.unusedVariables false
set_option linter.unusedSimpArgs false
open Go.RowKit
theorem mul_bd {a b A B : Int} (C : Int) (ha : -A ≤ a ∧ a ≤ A) (hb : -B ≤ b ∧ b ≤ B) (hC : A * B = C) : -C ≤ a * b ∧ a * b ≤ C := by
  have h : (a * b).natAbs ≤ A.natAbs * B.natAbs := by
    rw [Int.natAbs_mul]; exact Nat.mul_le_mul (by omega) (by omega)
  have h2 : ((A.natAbs * B.natAbs : Nat) : Int) = A * B := by
    rw [Int.natCast_mul, Int.natAbs_of_nonneg (by omega), Int.natAbs_of_nonneg (by omega)]
  omega
theorem floor_parts (x y : Int) : x / 1048576 * y + x % 1048576 * y / 1048576 = x * y / 1048576 := by
  have h : x * y = x % 1048576 * y + (x / 1048576 * y) * 1048576 := by
    have := Int.mul_ediv_add_emod x 1048576
    have e : x * y = (1048576 * (x / 1048576) + x % 1048576) * y := by rw [this]
    rw [e, Int.add_mul, Int.mul_assoc, Int.mul_comm 1048576, Int.add_comm]
  rw [h, Int.add_mul_ediv_right _ _ (by decide), Int.add_comm]
end Go.Proofs.Ytoadlneneijfaaa
