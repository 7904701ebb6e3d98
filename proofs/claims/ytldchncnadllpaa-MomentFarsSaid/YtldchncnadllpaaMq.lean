/- Quotients in fixed point: plain facts. Contracts: quotients of the program and of the reference. Conditions: those of each theorem. -/
import Derived.Test.YtldchncnadllpaaDv
import Derived.Test.YtldchncnadllpaaRefb
import Derived.Test.YtldchncnadllpaaQuob
namespace Go.Proofs.Ytldchncnadllpaa
set_option linter.unusedVariables false
set_option linter.unusedSimpArgs false
open Go.ChangeShapes Go.WideShapes Go.ChangeAt Go.RowKit
/-- The least span of a quotient. -/
def qmS (num den : Int) : R := resultS ((num * 1048576).fdiv den) (-((-(num * 1048576)).fdiv den))
def upN (P d : Nat) : Nat := P / d + (if P % d = 0 then 0 else 1)
theorem fdiv_nat (P d : Nat) (hd : 0 < d) : (P : Int).fdiv d = (P / d : Nat) ∧ (-(P : Int)).fdiv d = -(upN P d : Nat) := by
  rw [Int.fdiv_eq_ediv_of_nonneg _ (by omega), Int.fdiv_eq_ediv_of_nonneg _ (by omega)]
  refine ⟨by rw [Int.natCast_ediv], ?_⟩
  have h1 := Nat.div_add_mod P d
  have h2 := Nat.mod_lt P hd
  unfold upN
  generalize P / d = q at *
  generalize P % d = r at *
  have h3 : ((d * q : Nat) : Int) = (d : Int) * q := Int.natCast_mul d q
  by_cases hr : r = 0
  · rw [if_pos hr]
    have e : -(P : Int) = (d : Int) * (-(q : Int)) := by rw [Int.mul_neg]; omega
    rw [e, Int.mul_ediv_cancel_left _ (by omega)]
    omega
  · rw [if_neg hr]
    have e : -(P : Int) = ((d - r : Nat) : Int) + (d : Int) * (-((q + 1 : Nat) : Int)) := by
      rw [Int.mul_neg, show ((q + 1 : Nat) : Int) = (q : Int) + 1 by omega, Int.mul_add, Int.mul_one]
      omega
    rw [e, Int.add_mul_ediv_left _ _ (by omega), Int.ediv_eq_zero_of_lt (by omega) (by omega)]
    omega
theorem qmS_nat {num : Int} {a d : Nat} (ha : num.natAbs = a) (hd : 0 < d) : qmS num d = if 0 ≤ num then resultS (a * 1048576 / d : Nat) (upN (a * 1048576) d : Nat) else resultS (-(upN (a * 1048576) d : Nat)) (-(a * 1048576 / d : Nat)) := by
  obtain ⟨h1, h2⟩ := fdiv_nat (a * 1048576) d hd
  unfold qmS
  by_cases h : 0 ≤ num
  · rw [if_pos h, show num * 1048576 = ((a * 1048576 : Nat) : Int) by omega, h1, h2, Int.neg_neg]
  · rw [if_neg h, show num * 1048576 = -((a * 1048576 : Nat) : Int) by omega, Int.neg_neg, h1, h2]
theorem upN_le (P d : Nat) : P / d ≤ upN P d ∧ upN P d ≤ P / d + 1 := by
  unfold upN
  split <;> omega
theorem res_up {q u : Nat} (h : q ≤ u) : (resultS (q : Int) u = (if u ≤ 1099511627776 then ⟨q, u, 0⟩ else ⟨0, 0, 4⟩)) ∧ (resultS (-(u : Int)) (-(q : Int)) = (if u ≤ 1099511627776 then ⟨-u, -q, 0⟩ else ⟨0, 0, 4⟩)) := by
  unfold resultS validB
  by_cases hu : u ≤ 1099511627776
  · rw [decide_eq_true (by omega), decide_eq_true (by omega), if_pos hu, if_pos hu]
    exact ⟨rfl, rfl⟩
  · rw [decide_eq_false (by omega), decide_eq_false (by omega), if_neg hu, if_neg hu]
    exact ⟨rfl, rfl⟩
theorem qm_cases {num : Int} {a d : Nat} (ha : num.natAbs = a) (hd : 0 < d) :
    (upN (a * 1048576) d ≤ 1099511627776 ∧ qmS num d = (if 0 ≤ num then ⟨(a * 1048576 / d : Nat), upN (a * 1048576) d, 0⟩ else ⟨-(upN (a * 1048576) d : Nat), -(a * 1048576 / d : Nat), 0⟩)) ∨ (1099511627776 < upN (a * 1048576) d ∧ qmS num d = ⟨0, 0, 4⟩) := by
  obtain ⟨h1, h2⟩ := res_up (upN_le (a * 1048576) d).1
  rw [qmS_nat ha hd, h1, h2]
  by_cases h : upN (a * 1048576) d ≤ 1099511627776
  · left
    refine ⟨h, ?_⟩
    rw [if_pos h, if_pos h]
  · right
    refine ⟨by omega, ?_⟩
    rw [if_neg h, if_neg h]
    split <;> rfl
theorem hi_big {P d : Nat} (hd : 0 < d) (h : d ≤ P / 18446744073709551616) : 1099511627776 < upN P d := by
  have h1 := (upN_le P d).1
  have h2 : 18446744073709551616 ≤ P / d := by
    rw [Nat.le_div_iff_mul_le hd]
    have := Nat.mul_le_mul_left 18446744073709551616 h
    have h3 := Nat.mul_div_le P 18446744073709551616
    omega
  omega
theorem hi_small {P d : Nat} (h : P / 18446744073709551616 < d) : P / d < 18446744073709551616 := by
  rw [Nat.div_lt_iff_lt_mul (by omega)]
  have h3 := Nat.div_add_mod P 18446744073709551616
  have h4 := Nat.mod_lt P (show 0 < 18446744073709551616 by omega)
  have h5 := Nat.mul_le_mul_left 18446744073709551616 (show P / 18446744073709551616 + 1 ≤ d by omega)
  omega
/-- Truncated and floored division. -/
theorem tq_cases (num : Int) {den : Int} (hd : 0 < den) : (num.tmod den < 0 ∧ num.tdiv den = num / den + 1 ∧ num.tmod den = num % den - den) ∨ (0 ≤ num.tmod den ∧ num.tdiv den = num / den ∧ num.tmod den = num % den) := by
  have h1 := Int.mul_tdiv_add_tmod num den
  have h2 := Int.mul_ediv_add_emod num den
  have h3 := Int.emod_nonneg num (show den ≠ 0 by omega)
  have h4 := Int.emod_lt_of_pos num hd
  have h5 := Int.tmod_lt_of_pos num hd
  have h6 : -den < num.tmod den := by
    have := Int.tmod_lt_of_pos (-num) hd
    rw [Int.neg_tmod] at this
    omega
  by_cases h : num.tmod den < 0
  · left
    have hq : num.tdiv den = num / den + 1 := by
      have e : num = (num.tmod den + den) + den * (num.tdiv den - 1) := by rw [Int.mul_sub, Int.mul_one]; omega
      have : num / den = num.tdiv den - 1 := by
        conv => lhs; rw [e]
        rw [Int.add_mul_ediv_left _ _ (by omega), Int.ediv_eq_zero_of_lt (by omega) (by omega)]
        omega
      omega
    refine ⟨h, hq, ?_⟩
    rw [hq, Int.mul_add, Int.mul_one] at h1
    omega
  · right
    have hq : num.tdiv den = num / den := by
      have e : num = num.tmod den + den * num.tdiv den := by omega
      have : num / den = num.tdiv den := by
        conv => lhs; rw [e]
        rw [Int.add_mul_ediv_left _ _ (by omega), Int.ediv_eq_zero_of_lt (by omega) (by omega)]
        omega
      omega
    refine ⟨by omega, hq, ?_⟩
    rw [hq] at h1
    omega
theorem qm_int (num : Int) {den : Int} (hd : 0 < den) : qmS num den = resultS (num / den * 1048576 + num % den * 1048576 / den) (num / den * 1048576 + num % den * 1048576 / den + (if num % den * 1048576 % den = 0 then 0 else 1)) := by
  have h2 := Int.mul_ediv_add_emod num den
  have e1 : num * 1048576 = num % den * 1048576 + den * (num / den * 1048576) := by
    rw [← Int.mul_assoc]
    omega
  have e2 : num * 1048576 / den = num / den * 1048576 + num % den * 1048576 / den := by
    rw [e1, Int.add_mul_ediv_left _ _ (by omega), Int.add_comm]
  have e3 : num * 1048576 % den = num % den * 1048576 % den := by
    rw [e1, Int.add_mul_emod_self_left]
  unfold qmS
  rw [Int.fdiv_eq_ediv_of_nonneg _ (by omega), Int.fdiv_eq_ediv_of_nonneg _ (by omega), e2]
  have h3 := Int.mul_ediv_add_emod (num * 1048576) den
  have h4 := Int.emod_nonneg (num * 1048576) (show den ≠ 0 by omega)
  have h5 := Int.emod_lt_of_pos (num * 1048576) hd
  rw [← e3, ← e2]
  generalize num * 1048576 / den = q at *
  generalize num * 1048576 % den = r at *
  by_cases hr : r = 0
  · rw [if_pos hr, ← h3, hr, Int.add_zero, ← Int.mul_neg, Int.mul_ediv_cancel_left _ (by omega), Int.neg_neg, Int.add_zero]
  · rw [if_neg hr, ← h3, show -(den * q + r) = (den - r) + den * (-(q + 1)) by rw [Int.mul_neg, Int.mul_add, Int.mul_one]; omega, Int.add_mul_ediv_left _ _ (by omega), Int.ediv_eq_zero_of_lt (by omega) (by omega)]
    congr 1
    omega
end Go.Proofs.Ytldchncnadllpaa
