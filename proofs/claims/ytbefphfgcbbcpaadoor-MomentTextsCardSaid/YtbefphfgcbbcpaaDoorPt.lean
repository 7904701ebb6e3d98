/- Contracts: points, of the moments and of their reference. No conditions but bounds on numbers. -/
import Derived.Test.YtbefphfgcbbcpaaDoorPanr
namespace Go.Proofs.YtbefphfgcbbcpaaDoor
set_option linter.unusedVariables false
set_option linter.unusedSimpArgs false
open Go.RowKit
theorem mfrom_any (n lo hi : Int) (w : World) :
    Calls Tryd.prog 69 #[.int .i64 n, .int .i64 lo, .int .i64 hi] w fun e w' => e = .returned (.bool (frB n lo hi)) ∧ w = w' := by
  go_enter Tryd.func69, Tryd.ntmps69
  go_wp2
  all_goals (go_ret; exact ⟨ret_bool (by unfold frB; rw [eq_comm]; first | (rw [decide_eq_decide]; omega) | (rw [decide_eq_false_iff_not]; omega)), rfl⟩)
theorem mnear_any (x y z m : Int) (w : World) (hm : 0 ≤ m ∧ m ≤ 1099511627776) :
    Calls Tryd.prog 65 #[.agg #[.int .i64 x, .int .i64 y, .int .i64 z], .int .i64 m] w fun e w' => e = .returned (.bool (inB x y z m)) ∧ Kept w w' := by
  obtain ⟨m0, m1⟩ := hm
  unfold inB
  cases h1 : frB x (-m) m
  · go_enter Tryd.func65, Tryd.ntmps65
    go_wp2_with (first | (go_at_call 69; refine (mfrom_any _ _ _ _).mono ?_; rintro e w1 ⟨rfl, rfl⟩))
    go_ret
    exact ⟨rfl, by (repeat (first | exact Kept.refl _ | assumption | refine Kept.alloc ?_ _ | refine Kept.ext ?_ _ | refine Kept.drew ?_ | refine Kept.drewN ?_ _))⟩
  cases h2 : frB y (-m) m
  · go_enter Tryd.func65, Tryd.ntmps65
    go_wp2_with (first | (go_at_call 69; refine (mfrom_any _ _ _ _).mono ?_; rintro e w1 ⟨rfl, rfl⟩))
    go_ret
    exact ⟨rfl, by (repeat (first | exact Kept.refl _ | assumption | refine Kept.alloc ?_ _ | refine Kept.ext ?_ _ | refine Kept.drew ?_ | refine Kept.drewN ?_ _))⟩
  · go_enter Tryd.func65, Tryd.ntmps65
    go_wp2_with (first | (go_at_call 69; refine (mfrom_any _ _ _ _).mono ?_; rintro e w1 ⟨rfl, rfl⟩))
    go_ret
    exact ⟨rfl, by (repeat (first | exact Kept.refl _ | assumption | refine Kept.alloc ?_ _ | refine Kept.ext ?_ _ | refine Kept.drew ?_ | refine Kept.drewN ?_ _))⟩
theorem mminus_any (a0 a1 a2 b0 b1 b2 : Int) (w : World) (h : (-1073741824 ≤ a0 ∧ a0 ≤ 1073741824) ∧ (-1073741824 ≤ a1 ∧ a1 ≤ 1073741824) ∧ (-1073741824 ≤ a2 ∧ a2 ≤ 1073741824) ∧ (-1073741824 ≤ b0 ∧ b0 ≤ 1073741824) ∧ (-1073741824 ≤ b1 ∧ b1 ≤ 1073741824) ∧ (-1073741824 ≤ b2 ∧ b2 ≤ 1073741824)) :
    Calls Tryd.prog 92 #[.agg #[.int .i64 a0, .int .i64 a1, .int .i64 a2], .agg #[.int .i64 b0, .int .i64 b1, .int .i64 b2]] w fun e w' => e = .returned (.agg #[.int .i64 (a0 - b0), .int .i64 (a1 - b1), .int .i64 (a2 - b2)]) ∧ Kept w w' := by
  go_enter Tryd.func92, Tryd.ntmps92
  go_wp2
  refine bodyPost_ret (by simp only [results, Tryd.results92]; go_simp; rfl) rfl ?_
  exact ⟨rfl, by (repeat (first | exact Kept.refl _ | assumption | refine Kept.alloc ?_ _ | refine Kept.ext ?_ _ | refine Kept.drew ?_ | refine Kept.drewN ?_ _))⟩
theorem fwithin_any (n lo hi : Int) (w : World) :
    Calls Tryd.prog 105 #[.int .i64 n, .int .i64 lo, .int .i64 hi] w fun e w' => e = .returned (.bool (frB n lo hi)) ∧ w = w' := by
  go_enter Tryd.func105, Tryd.ntmps105
  go_wp2
  all_goals (go_ret; exact ⟨ret_bool (by unfold frB; rw [eq_comm]; first | (rw [decide_eq_decide]; omega) | (rw [decide_eq_false_iff_not]; omega)), rfl⟩)
theorem r4size_any (n : Int) (w : World) (h : -9223372036854775807 ≤ n ∧ n ≤ 9223372036854775807) :
    Calls Tryd.prog 95 #[.int .i64 n] w fun e w' => e = .returned (.int .i64 (max n (-n))) ∧ w = w' := by
  go_enter Tryd.func95, Tryd.ntmps95
  go_wp2
  go_ret
  exact ⟨rfl, rfl⟩
end Go.Proofs.YtbefphfgcbbcpaaDoor
