/- Contracts of the reference's sums, differences, products and quotients of spans. No conditions. -/
import Derived.Test.YtbhcjdgfcinpcaaApp
import Derived.Test.YtbhcjdgfcinpcaaMu
namespace Go.Proofs.Ytbhcjdgfcinpcaa
set_option linter.unusedVariables false
set_option linter.unusedSimpArgs false
open Go.RowKit
theorem ret_u64 {a b : Int} (h : a = b) : Ending.returned (.int .u64 a) = .returned (.int .u64 b) := by rw [h]
theorem or_join (h l : Nat) (hl : l < 17592186044416) (hh : h ≤ 65536) : bits .or .u64 ((h : Int) * 17592186044416) (l : Int) = ((h * 17592186044416 + l : Nat) : Int) := by
  have e : (h : Int) * 17592186044416 = ((h * 17592186044416 : Nat) : Int) := by omega
  rw [e, u64_or_nat _ _ (by omega) (by omega)]
  congr 1
  have : h * 17592186044416 = 2 ^ 44 * h := by omega
  rw [this, ← Nat.two_pow_add_eq_or_of_lt hl]
theorem abs_prod (a b : Int) (h : ¬ (a < 0 ↔ b < 0)) : a * b = -((a.natAbs * b.natAbs : Nat) : Int) ∨ (a * b = ((a.natAbs * b.natAbs : Nat) : Int) ∧ (a.natAbs * b.natAbs : Nat) = 0) := by
  by_cases ha : a < 0
  · have hb : ¬ b < 0 := by omega
    left
    rw [Int.natCast_mul]
    have e1 : (a.natAbs : Int) = -a := by omega
    have e2 : (b.natAbs : Int) = b := by omega
    rw [e1, e2, Int.neg_mul, Int.neg_neg]
  · have hb : b < 0 := by omega
    left
    rw [Int.natCast_mul]
    have e1 : (a.natAbs : Int) = a := by omega
    have e2 : (b.natAbs : Int) = -b := by omega
    rw [e1, e2, Int.mul_neg, Int.neg_neg]
theorem abs_prod' (a b : Int) (h : a < 0 ↔ b < 0) : a * b = ((a.natAbs * b.natAbs : Nat) : Int) := by
  rw [Int.natCast_mul]
  by_cases ha : a < 0
  · have e1 : (a.natAbs : Int) = -a := by omega
    have e2 : (b.natAbs : Int) = -b := by omega
    rw [e1, e2, Int.neg_mul_neg]
  · have e1 : (a.natAbs : Int) = a := by omega
    have e2 : (b.natAbs : Int) = b := by omega
    rw [e1, e2]
end Go.Proofs.Ytbhcjdgfcinpcaa
