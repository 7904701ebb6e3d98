/- Plain facts on numbers: division rounded down, wraps. No program in sight. Plain facts on numbers: products and their parts. No program in sight. -/
import Derived.IntWalk
namespace Go.Proofs.YtnbjealpcjfllaaGreatDoor
set_option linter.unusedVariables false
set_option linter.unusedSimpArgs false
open Go.RowKit
theorem w64 {n : Int} (h : -9223372036854775808 ≤ n ∧ n ≤ 9223372036854775807) : wrap64 n = n := IntWalk.wrap64_in n h
theorem fdiv_tdiv (n d : Int) (h0 : d ≠ 0) : n.fdiv d = if n.tmod d ≠ 0 ∧ ¬ (n < 0 ↔ d < 0) then n.tdiv d - 1 else n.tdiv d := by
  have e1 : n.tmod d = 0 ↔ d ∣ n := ⟨Int.dvd_of_tmod_eq_zero, Int.tmod_eq_zero_of_dvd⟩
  rw [Int.tdiv_eq_fdiv]
  by_cases hd : d ∣ n
  · have : n.tmod d = 0 := e1.2 hd
    simp [hd, this]
  · have ht : n.tmod d ≠ 0 := fun h => hd (e1.1 h)
    simp only [hd, if_false, ne_eq, ht, not_false_eq_true, true_and]
    by_cases hn : 0 ≤ n <;> by_cases hp : 0 ≤ d
    · simp [hn, hp]; omega
    · simp [hn, hp]; omega
    · have : d.sign = 1 := Int.sign_eq_one_of_pos (by omega)
      simp [hn, hp, this]; omega
    · have : d.sign = -1 := Int.sign_eq_neg_one_of_neg (by omega)
      simp [hn, hp, this]; omega
theorem tdiv_bd (n d : Int) {m : Int} (h : -m ≤ n ∧ n ≤ m) : -m ≤ n.tdiv d ∧ n.tdiv d ≤ m := by
  have := Int.natAbs_tdiv_le_natAbs n d
  omega
theorem fdiv_bd (n d : Int) {m : Int} (h0 : d ≠ 0) (h : -m ≤ n ∧ n ≤ m) : -m - 1 ≤ n.fdiv d ∧ n.fdiv d ≤ m := by
  have := tdiv_bd n d h
  rw [fdiv_tdiv n d h0]; split <;> omega
theorem fdiv_pos (n d : Int) (h : 0 < d) : n.fdiv d = n / d := Int.fdiv_eq_ediv_of_nonneg n (by omega)
theorem fdiv_flip (n d : Int) : (-n).fdiv (-d) = n.fdiv d := Int.neg_fdiv_neg n d
end Go.Proofs.YtnbjealpcjfllaaGreatDoor
namespace Go.Proofs.YtnbjealpcjfllaaGreatDoor
set_option linter.unusedVariables false
set_option linter.unusedSimpArgs false
open Go.RowKit
theorem mul_bd {a b A B : Int} (C : Int) (ha : -A ≤ a ∧ a ≤ A) (hb : -B ≤ b ∧ b ≤ B) (hC : A * B = C) : -C ≤ a * b ∧ a * b ≤ C := by
  have h : (a * b).natAbs ≤ A.natAbs * B.natAbs := by
    rw [Int.natAbs_mul]; exact Nat.mul_le_mul (by omega) (by omega)
  have h2 : ((A.natAbs * B.natAbs : Nat) : Int) = A * B := by
    rw [Int.natCast_mul, Int.natAbs_of_nonneg (by omega), Int.natAbs_of_nonneg (by omega)]
  omega
theorem floor_parts (x y : Int) : x / 1048576 * y + x % 1048576 * y / 1048576 = x * y / 1048576 := by
  have h : x * y = x % 1048576 * y + (x / 1048576 * y) * 1048576 := by
    have := Int.mul_ediv_add_emod x 1048576
    have e : x * y = (1048576 * (x / 1048576) + x % 1048576) * y := by rw [this]
    rw [e, Int.add_mul, Int.mul_assoc, Int.mul_comm 1048576, Int.add_comm]
  rw [h, Int.add_mul_ediv_right _ _ (by decide), Int.add_comm]
end Go.Proofs.YtnbjealpcjfllaaGreatDoor
