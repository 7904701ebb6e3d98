/- Contracts of the reference's sums, differences, products and quotients of spans. No conditions. -/
import Derived.Test.YtldchncnadllpaaApp
import Derived.Test.YtldchncnadllpaaMu
namespace Go.Proofs.Ytldchncnadllpaa
set_option linter.unusedVariables false
set_option linter.unusedSimpArgs false
open Go.RowKit
theorem ret_u64 {a b : Int} (h : a = b) : Ending.returned (.int .u64 a) = .returned (.int .u64 b) := by rw [h]
theorem size_any (n : Int) (w : World) (h : -9223372036854775807 ≤ n ∧ n ≤ 9223372036854775807) :
    Calls Try.prog 69 #[.int .i64 n] w fun e w' => e = .returned (.int .u64 (n.natAbs : Int)) ∧ w = w' := by
  go_enter Try.func69, Try.ntmps69
  go_wp2
  all_goals (go_ret; exact ⟨ret_u64 (by omega), rfl⟩)
theorem or_join (h l : Nat) (hl : l < 17592186044416) (hh : h ≤ 65536) : bits .or .u64 ((h : Int) * 17592186044416) (l : Int) = ((h * 17592186044416 + l : Nat) : Int) := by
  have e : (h : Int) * 17592186044416 = ((h * 17592186044416 : Nat) : Int) := by omega
  rw [e, u64_or_nat _ _ (by omega) (by omega)]
  congr 1
  have : h * 17592186044416 = 2 ^ 44 * h := by omega
  rw [this, ← Nat.two_pow_add_eq_or_of_lt hl]
theorem abs_prod (a b : Int) (h : ¬ (a < 0 ↔ b < 0)) : a * b = -((a.natAbs * b.natAbs : Nat) : Int) ∨ (a * b = ((a.natAbs * b.natAbs : Nat) : Int) ∧ (a.natAbs * b.natAbs : Nat) = 0) := by
  by_cases ha : a < 0
  · have hb : ¬ b < 0 := by omega
    left
    rw [Int.natCast_mul]
    have e1 : (a.natAbs : Int) = -a := by omega
    have e2 : (b.natAbs : Int) = b := by omega
    rw [e1, e2, Int.neg_mul, Int.neg_neg]
  · have hb : b < 0 := by omega
    left
    rw [Int.natCast_mul]
    have e1 : (a.natAbs : Int) = a := by omega
    have e2 : (b.natAbs : Int) = -b := by omega
    rw [e1, e2, Int.mul_neg, Int.neg_neg]
theorem abs_prod' (a b : Int) (h : a < 0 ↔ b < 0) : a * b = ((a.natAbs * b.natAbs : Nat) : Int) := by
  rw [Int.natCast_mul]
  by_cases ha : a < 0
  · have e1 : (a.natAbs : Int) = -a := by omega
    have e2 : (b.natAbs : Int) = -b := by omega
    rw [e1, e2, Int.neg_mul_neg]
  · have e1 : (a.natAbs : Int) = a := by omega
    have e2 : (b.natAbs : Int) = b := by omega
    rw [e1, e2]
set_option maxHeartbeats 1000000 in
theorem times01_any (a b : Int) (w : World) (h1 : Fix a) (h2 : Fix b) :
    Calls Try.prog 45 #[.int .i64 a, .int .i64 b] w fun e w' => e = .returned (.tuple #[.int .i64 (fDown a b), .int .i64 (fUp a b)]) ∧ w = w' := by
  obtain ⟨a1, a2⟩ := h1
  obtain ⟨a3, a4⟩ := h2
  obtain ⟨p, hp⟩ : ∃ p : Nat, p = a.natAbs * b.natAbs := ⟨_, rfl⟩
  have pb : p ≤ 1208925819614629174706176 := by
    have := Nat.mul_le_mul (show a.natAbs ≤ 1099511627776 by omega) (show b.natAbs ≤ 1099511627776 by omega)
    omega
  have eh : hi64 a.natAbs b.natAbs = ((p / 18446744073709551616 : Nat) : Int) := by unfold hi64; rw [hp]
  have el : lo64 a.natAbs b.natAbs = ((p % 18446744073709551616 : Nat) : Int) := by unfold lo64; rw [hp]
  obtain ⟨q, hq⟩ : ∃ q : Int, q = (p : Int) / 1048576 := ⟨_, rfl⟩
  have hj : bits .or .u64 (hi64 a.natAbs b.natAbs * 17592186044416) (lo64 a.natAbs b.natAbs / 1048576) = q := by
    have e : lo64 a.natAbs b.natAbs / 1048576 = ((p % 18446744073709551616 / 1048576 : Nat) : Int) := by rw [el]; omega
    rw [e, eh, or_join _ _ (by omega) (by omega), hq]
    omega
  have bh : 0 ≤ hi64 a.natAbs b.natAbs ∧ hi64 a.natAbs b.natAbs ≤ 65536 := by rw [eh]; omega
  have bl : 0 ≤ lo64 a.natAbs b.natAbs ∧ lo64 a.natAbs b.natAbs < 18446744073709551616 := by rw [el]; omega
  have bq : 0 ≤ q ∧ q ≤ 1152921504606846976 := by rw [hq]; omega
  have er : lo64 a.natAbs b.natAbs % 1048576 = (p : Int) % 1048576 := by rw [el]; omega
  have ER := Lib.hid er
  have HQ := Lib.hid hq
  have HP := Lib.hid hp
  clear er hq hp eh el pb
  go_enter Try.func45, Try.ntmps45
  go_wp2_with (first | (go_at_call 69; refine (size_any _ _ (by omega)).mono ?_; rintro e w1 ⟨rfl, rfl⟩) | (go_at_call 68; refine (mul64_any _ _ _ (by omega) (by omega)).mono ?_; rintro e w1 ⟨rfl, rfl⟩))
  all_goals
    go_ret2
    refine ⟨?_, rfl⟩
    have er := ER.out
    have hq := HQ.out
    by_cases hs : a < 0 ↔ b < 0
    · have hd := abs_prod' a b hs
      rw [← HP.out] at hd
      exact ret_int2 (by unfold fDown; rw [hd]; simp_all; try omega) (by unfold fUp; rw [hd]; simp_all; try omega)
    · have hd : a * b = -(p : Int) := by
        rcases abs_prod a b hs with hd | ⟨hd, h0⟩
        · rw [← HP.out] at hd; exact hd
        · rw [← HP.out] at hd h0; rw [hd, h0]; rfl
      exact ret_int2 (by unfold fDown; rw [hd]; simp_all; try omega) (by unfold fUp; rw [hd]; simp_all; try omega)
end Go.Proofs.Ytldchncnadllpaa
