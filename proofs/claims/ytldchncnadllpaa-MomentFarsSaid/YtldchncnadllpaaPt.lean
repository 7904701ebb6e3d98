/- Contracts: points, of the moments and of their reference. No conditions but bounds on numbers. -/
import Derived.Test.YtldchncnadllpaaPanr
namespace Go.Proofs.Ytldchncnadllpaa
set_option linter.unusedVariables false
set_option linter.unusedSimpArgs false
open Go.RowKit
theorem mfrom_any (n lo hi : Int) (w : World) :
    Calls Try.prog 55 #[.int .i64 n, .int .i64 lo, .int .i64 hi] w fun e w' => e = .returned (.bool (frB n lo hi)) ∧ w = w' := by
  go_enter Try.func55, Try.ntmps55
  go_wp2
  all_goals (go_ret; exact ⟨ret_bool (by unfold frB; rw [eq_comm]; first | (rw [decide_eq_decide]; omega) | (rw [decide_eq_false_iff_not]; omega)), rfl⟩)
theorem mnear_any (x y z m : Int) (w : World) (hm : 0 ≤ m ∧ m ≤ 1099511627776) :
    Calls Try.prog 51 #[.agg #[.int .i64 x, .int .i64 y, .int .i64 z], .int .i64 m] w fun e w' => e = .returned (.bool (inB x y z m)) ∧ Kept w w' := by
  obtain ⟨m0, m1⟩ := hm
  unfold inB
  cases h1 : frB x (-m) m
  · go_enter Try.func51, Try.ntmps51
    go_wp2_with (first | (go_at_call 55; refine (mfrom_any _ _ _ _).mono ?_; rintro e w1 ⟨rfl, rfl⟩))
    go_ret
    exact ⟨rfl, by (repeat (first | exact Kept.refl _ | assumption | refine Kept.alloc ?_ _ | refine Kept.ext ?_ _ | refine Kept.drew ?_ | refine Kept.drewN ?_ _))⟩
  cases h2 : frB y (-m) m
  · go_enter Try.func51, Try.ntmps51
    go_wp2_with (first | (go_at_call 55; refine (mfrom_any _ _ _ _).mono ?_; rintro e w1 ⟨rfl, rfl⟩))
    go_ret
    exact ⟨rfl, by (repeat (first | exact Kept.refl _ | assumption | refine Kept.alloc ?_ _ | refine Kept.ext ?_ _ | refine Kept.drew ?_ | refine Kept.drewN ?_ _))⟩
  · go_enter Try.func51, Try.ntmps51
    go_wp2_with (first | (go_at_call 55; refine (mfrom_any _ _ _ _).mono ?_; rintro e w1 ⟨rfl, rfl⟩))
    go_ret
    exact ⟨rfl, by (repeat (first | exact Kept.refl _ | assumption | refine Kept.alloc ?_ _ | refine Kept.ext ?_ _ | refine Kept.drew ?_ | refine Kept.drewN ?_ _))⟩
theorem mminus_any (a0 a1 a2 b0 b1 b2 : Int) (w : World) (h : (-1073741824 ≤ a0 ∧ a0 ≤ 1073741824) ∧ (-1073741824 ≤ a1 ∧ a1 ≤ 1073741824) ∧ (-1073741824 ≤ a2 ∧ a2 ≤ 1073741824) ∧ (-1073741824 ≤ b0 ∧ b0 ≤ 1073741824) ∧ (-1073741824 ≤ b1 ∧ b1 ≤ 1073741824) ∧ (-1073741824 ≤ b2 ∧ b2 ≤ 1073741824)) :
    Calls Try.prog 71 #[.agg #[.int .i64 a0, .int .i64 a1, .int .i64 a2], .agg #[.int .i64 b0, .int .i64 b1, .int .i64 b2]] w fun e w' => e = .returned (.agg #[.int .i64 (a0 - b0), .int .i64 (a1 - b1), .int .i64 (a2 - b2)]) ∧ Kept w w' := by
  go_enter Try.func71, Try.ntmps71
  go_wp2
  refine bodyPost_ret (by simp only [results, Try.results71]; go_simp; rfl) rfl ?_
  exact ⟨rfl, by (repeat (first | exact Kept.refl _ | assumption | refine Kept.alloc ?_ _ | refine Kept.ext ?_ _ | refine Kept.drew ?_ | refine Kept.drewN ?_ _))⟩
theorem mdot_any (a0 a1 a2 b0 b1 b2 : Int) (w : World) (h : (-1048576 ≤ a0 ∧ a0 ≤ 1048576) ∧ (-1048576 ≤ a1 ∧ a1 ≤ 1048576) ∧ (-1048576 ≤ a2 ∧ a2 ≤ 1048576) ∧ (-1048576 ≤ b0 ∧ b0 ≤ 1048576) ∧ (-1048576 ≤ b1 ∧ b1 ≤ 1048576) ∧ (-1048576 ≤ b2 ∧ b2 ≤ 1048576)) :
    Calls Try.prog 33 #[.agg #[.int .i64 a0, .int .i64 a1, .int .i64 a2], .agg #[.int .i64 b0, .int .i64 b1, .int .i64 b2]] w fun e w' => e = .returned (.int .i64 (a0 * b0 + a1 * b1 + a2 * b2)) ∧ Kept w w' := by
  obtain ⟨x0, x1, x2, y0, y1, y2⟩ := h
  have m0 := mul_sq 1048576 1099511627776 x0 y0 rfl
  have m1 := mul_sq 1048576 1099511627776 x1 y1 rfl
  have m2 := mul_sq 1048576 1099511627776 x2 y2 rfl
  go_enter Try.func33, Try.ntmps33
  go_wp2
  go_ret
  exact ⟨rfl, by (repeat (first | exact Kept.refl _ | assumption | refine Kept.alloc ?_ _ | refine Kept.ext ?_ _ | refine Kept.drew ?_ | refine Kept.drewN ?_ _))⟩
theorem fwithin_any (n lo hi : Int) (w : World) :
    Calls Try.prog 76 #[.int .i64 n, .int .i64 lo, .int .i64 hi] w fun e w' => e = .returned (.bool (frB n lo hi)) ∧ w = w' := by
  go_enter Try.func76, Try.ntmps76
  go_wp2
  all_goals (go_ret; exact ⟨ret_bool (by unfold frB; rw [eq_comm]; first | (rw [decide_eq_decide]; omega) | (rw [decide_eq_false_iff_not]; omega)), rfl⟩)
theorem r4square_any (a0 a1 a2 : Int) (w : World) (h : (-1048576 ≤ a0 ∧ a0 ≤ 1048576) ∧ (-1048576 ≤ a1 ∧ a1 ≤ 1048576) ∧ (-1048576 ≤ a2 ∧ a2 ≤ 1048576)) :
    Calls Try.prog 16 #[.agg #[.int .i64 a0, .int .i64 a1, .int .i64 a2]] w fun e w' => e = .returned (.int .i64 (a0 * a0 + a1 * a1 + a2 * a2)) ∧ Kept w w' := by
  obtain ⟨x0, x1, x2⟩ := h
  have m0 := mul_sq 1048576 1099511627776 x0 x0 rfl
  have m1 := mul_sq 1048576 1099511627776 x1 x1 rfl
  have m2 := mul_sq 1048576 1099511627776 x2 x2 rfl
  go_enter Try.func16, Try.ntmps16
  go_wp2
  go_ret
  exact ⟨rfl, by (repeat (first | exact Kept.refl _ | assumption | refine Kept.alloc ?_ _ | refine Kept.ext ?_ _ | refine Kept.drew ?_ | refine Kept.drewN ?_ _))⟩
theorem r4size_any (n : Int) (w : World) (h : -9223372036854775807 ≤ n ∧ n ≤ 9223372036854775807) :
    Calls Try.prog 39 #[.int .i64 n] w fun e w' => e = .returned (.int .i64 (max n (-n))) ∧ w = w' := by
  go_enter Try.func39, Try.ntmps39
  go_wp2
  go_ret
  exact ⟨rfl, rfl⟩
end Go.Proofs.Ytldchncnadllpaa
