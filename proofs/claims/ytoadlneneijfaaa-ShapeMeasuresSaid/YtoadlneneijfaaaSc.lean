/- Contracts: products and quotients of spans by whole numbers. No conditions. -/
import Derived.Test.YtoadlneneijfaaaRef
import Derived.Test.YtoadlneneijfaaaTail
import Derived.Test.YtoadlneneijfaaaQuob
namespace Go.Proofs.Ytoadlneneijfaaa
set_option linter.unusedVariables false
set_option linter.unusedSimpArgs false
open Go.RowKit
/-- x * n, or a number beyond the limit on the same side. -/
def prodS (x n : Int) : Int := if 1099511627776 < x * n then 1099511627777 else if x * n < -1099511627776 then -1099511627777 else x * n
theorem abs_mul' (x n : Int) : max x (-x) * max n (-n) = x * n ∨ max x (-x) * max n (-n) = -(x * n) := by
  rcases (show max x (-x) = x ∨ max x (-x) = -x by omega) with h | h <;> rcases (show max n (-n) = n ∨ max n (-n) = -n by omega) with k | k <;> rw [h, k]
  · exact .inl rfl
  · exact .inr (Int.mul_neg x n)
  · exact .inr (Int.neg_mul x n)
  · exact .inl (Int.neg_mul_neg x n)
theorem sign_mul {x n : Int} (hx : x ≠ 0) (hn : n ≠ 0) : (x < 0 ↔ n < 0) → 0 < x * n := by
  intro h
  rcases (show (0 < x ∧ 0 < n) ∨ (x < 0 ∧ n < 0) by omega) with ⟨a, b⟩ | ⟨a, b⟩
  · exact Int.mul_pos a b
  · exact Int.mul_pos_of_neg_of_neg a b
theorem sign_mul' {x n : Int} (hx : x ≠ 0) (hn : n ≠ 0) : ¬ (x < 0 ↔ n < 0) → x * n < 0 := by
  intro h
  rcases (show (0 < x ∧ n < 0) ∨ (x < 0 ∧ 0 < n) by omega) with ⟨a, b⟩ | ⟨a, b⟩
  · exact Int.mul_neg_of_pos_of_neg a b
  · exact Int.mul_neg_of_neg_of_pos a b
theorem big_iff {x n : Int} (hx : x ≠ 0) : 1099511627776 / max x (-x) < max n (-n) ↔ 1099511627776 < max x (-x) * max n (-n) := by
  rw [Int.ediv_lt_iff_lt_mul (by omega), Int.mul_comm]
theorem sgn_same {x n : Int} (h : x < 0 ↔ n < 0) : (!decide (x < 0) == decide (n < 0)) = false := by
  by_cases k1 : x < 0
  · have k2 := h.1 k1; simp [k1, k2]
  · have k2 : ¬ n < 0 := fun k => k1 (h.2 k); simp only [k1, k2, decide_false]; rfl
theorem sgn_diff {x n : Int} (h : ¬ (x < 0 ↔ n < 0)) : (!decide (x < 0) == decide (n < 0)) = true := by
  by_cases k1 : x < 0
  · have k2 : ¬ n < 0 := fun k => h ⟨fun _ => k, fun _ => k1⟩; simp only [k1, k2, decide_false, decide_true]; rfl
  · have k2 : n < 0 := by omega
    simp only [k1, k2, decide_false, decide_true]; rfl
def scaleS (al ah n : Int) : R := if validB al ah && wholeB n then resultS (min (prodS al n) (prodS ah n)) (max (prodS al n) (prodS ah n)) else ⟨0, 0, 1⟩
theorem fixv {al ah : Int} (h : validB al ah = true) : Fix al ∧ Fix ah ∧ al ≤ ah := by
  have v1 := valid_bd h
  unfold Fix
  omega
theorem prodS_mono {x y n : Int} (h : x ≤ y) (hn : 0 ≤ n) : prodS x n ≤ prodS y n := by
  have := Int.mul_le_mul_of_nonneg_right h hn
  unfold prodS; omega
theorem prodS_anti {x y n : Int} (h : x ≤ y) (hn : n ≤ 0) : prodS y n ≤ prodS x n := by
  have := Int.mul_le_mul_of_nonneg_right h (show 0 ≤ -n by omega)
  rw [Int.mul_neg, Int.mul_neg] at this
  unfold prodS; omega
def partS (al ah n : Int) : R := if validB al ah && decide (1 ≤ n ∧ n ≤ 1099511627776) then resultS (al / n) (-(-ah / n)) else ⟨0, 0, 1⟩
set_option maxHeartbeats 1000000 in
theorem part_any (al ah n : Int) (w : World) :
    Calls Try.prog 111 #[.agg #[.int .i64 al, .int .i64 ah], .int .i64 n] w fun e w' => e = .returned (.tuple #[.agg #[.int .i64 (partS al ah n).lo, .int .i64 (partS al ah n).hi], .int .i64 (partS al ah n).e]) ∧ Kept w w' := by
  cases h : validB al ah
  · go_enter Try.func111, Try.ntmps111
    go_wp2_with (first | (go_at_call 129; refine (check1_any _ _ _ _ (by simp)).mono ?_; rintro e w1 ⟨rfl, x, rfl⟩))
    all_goals (refine bodyPost_ret (by simp only [results, Try.results111]; go_simp; rfl) rfl ?_; refine ⟨ret_R3 (by simp_all [partS]), ?_⟩; (repeat (first | exact Kept.refl _ | assumption | refine Kept.alloc ?_ _ | refine Kept.ext ?_ _ | refine Kept.drew ?_ | refine Kept.drewN ?_ _)))
  · obtain ⟨⟨a1, a2⟩, ⟨a3, a4⟩, a9⟩ := fixv h
    by_cases hn : 1 ≤ n ∧ n ≤ 1099511627776
    · have e : partS al ah n = resultS (al.fdiv n) (-((-ah).fdiv n)) := by simp only [partS, h, hn, and_self, decide_true, Bool.and_self, if_true, fdiv_pos _ n (show 0 < n by omega)]
      rw [e]
      clear e
      obtain ⟨b1, b2⟩ := hn
      go_enter Try.func111, Try.ntmps111
      go_wp2_with (first | (go_at_call 129; refine (check1_any _ _ _ _ (by simp)).mono ?_; rintro e w1 ⟨rfl, x, rfl⟩))
      ((first | (with_reducible refine wp_region_tail2 11 (by kernel_rfl) (by kernel_rfl) ?_) | refine wp_region_tail 11 (by kernel_rfl) (by kernel_rfl) ?_); simp only [List.take_succ_cons, List.take_zero, List.drop_succ_cons, List.drop_zero]; (repeat (go_big_quiet_step (first | (go_at_call 130; exact Calls.kept_same (down_any _ _ _ (by omega) (by omega) (by omega))) | (go_at_call 131; exact Calls.kept_same (up_any _ _ _ (by omega) (by omega) (by omega))) | (go_at_call 128; exact Calls.kept_of (result_any _ _ _))))); refine wpQuiet_nil ?_; intro x)
      go_wp2
      all_goals (refine bodyPost_ret (by simp only [results, Try.results111]; go_simp; rfl) rfl ?_; refine ⟨rfl, ?_⟩; (repeat (first | exact Kept.refl _ | assumption | refine Kept.alloc ?_ _ | refine Kept.ext ?_ _ | refine Kept.drew ?_ | refine Kept.drewN ?_ _)))
    · have e : partS al ah n = ⟨0, 0, 1⟩ := by simp only [partS, h, hn, decide_false, Bool.and_false, Bool.false_eq_true, if_false]
      by_cases b1 : n < 1
      · clear hn
        go_enter Try.func111, Try.ntmps111
        go_wp2_with (first | (go_at_call 129; refine (check1_any _ _ _ _ (by simp)).mono ?_; rintro e w1 ⟨rfl, x, rfl⟩))
        all_goals (refine bodyPost_ret (by simp only [results, Try.results111]; go_simp; rfl) rfl ?_; refine ⟨ret_R3 e.symm, ?_⟩; (repeat (first | exact Kept.refl _ | assumption | refine Kept.alloc ?_ _ | refine Kept.ext ?_ _ | refine Kept.drew ?_ | refine Kept.drewN ?_ _)))
      · have b2 : 1099511627776 < n := by omega
        clear hn
        go_enter Try.func111, Try.ntmps111
        go_wp2_with (first | (go_at_call 129; refine (check1_any _ _ _ _ (by simp)).mono ?_; rintro e w1 ⟨rfl, x, rfl⟩))
        all_goals (refine bodyPost_ret (by simp only [results, Try.results111]; go_simp; rfl) rfl ?_; refine ⟨ret_R3 e.symm, ?_⟩; (repeat (first | exact Kept.refl _ | assumption | refine Kept.alloc ?_ _ | refine Kept.ext ?_ _ | refine Kept.drew ?_ | refine Kept.drewN ?_ _)))
set_option maxHeartbeats 1000000 in
theorem rpart_any (al ah n : Int) (w : World) :
    Calls Try.prog 114 #[.agg #[.int .i64 al, .int .i64 ah], .int .i64 n] w fun e w' => e = .returned (.tuple #[.agg #[.int .i64 (partS al ah n).lo, .int .i64 (partS al ah n).hi], .int .i64 (partS al ah n).e]) ∧ Kept w w' := by
  cases h : validB al ah
  · go_enter Try.func114, Try.ntmps114
    go_wp2_with (first | (go_at_call 136; refine (rvalid_any _ _ _).mono ?_; rintro e w1 ⟨rfl, x, rfl⟩) | (go_at_call 133; refine (within_any _ _ _ _).mono ?_; rintro e w1 ⟨rfl, rfl⟩))
    all_goals (refine bodyPost_ret (by simp only [results, Try.results114]; go_simp; rfl) rfl ?_; refine ⟨ret_R3 (by simp_all [partS]), ?_⟩; (repeat (first | exact Kept.refl _ | assumption | refine Kept.alloc ?_ _ | refine Kept.ext ?_ _ | refine Kept.drew ?_ | refine Kept.drewN ?_ _)))
  · obtain ⟨⟨a1, a2⟩, ⟨a3, a4⟩, a9⟩ := fixv h
    by_cases hn : 1 ≤ n ∧ n ≤ 1099511627776
    · have e : partS al ah n = resultS (al.fdiv n) (-((-ah).fdiv n)) := by simp only [partS, h, hn, and_self, decide_true, Bool.and_self, if_true, fdiv_pos _ n (show 0 < n by omega)]
      have e2 : withinB n 1 1099511627776 = true := decide_eq_true hn
      rw [e]
      clear e
      obtain ⟨b1, b2⟩ := hn
      go_enter Try.func114, Try.ntmps114
      go_wp2_with (first | (go_at_call 136; refine (rvalid_any _ _ _).mono ?_; rintro e w1 ⟨rfl, x, rfl⟩) | (go_at_call 133; refine (within_any _ _ _ _).mono ?_; rintro e w1 ⟨rfl, rfl⟩))
      ((first | (with_reducible refine wp_region_tail2 11 (by kernel_rfl) (by kernel_rfl) ?_) | refine wp_region_tail 11 (by kernel_rfl) (by kernel_rfl) ?_); simp only [List.take_succ_cons, List.take_zero, List.drop_succ_cons, List.drop_zero]; (repeat (go_big_quiet_step (first | (go_at_call 137; exact Calls.kept_same (rdown_any _ _ _ (by omega) (by omega))) | (go_at_call 138; exact Calls.kept_same (rup_any _ _ _ (by omega) (by omega))) | (go_at_call 135; exact Calls.kept_of (told_any _ _ _))))); refine wpQuiet_nil ?_; intro x)
      go_wp2
      all_goals (refine bodyPost_ret (by simp only [results, Try.results114]; go_simp; rfl) rfl ?_; refine ⟨rfl, ?_⟩; (repeat (first | exact Kept.refl _ | assumption | refine Kept.alloc ?_ _ | refine Kept.ext ?_ _ | refine Kept.drew ?_ | refine Kept.drewN ?_ _)))
    · have e : partS al ah n = ⟨0, 0, 1⟩ := by simp only [partS, h, hn, decide_false, Bool.and_false, Bool.false_eq_true, if_false]
      have e2 : withinB n 1 1099511627776 = false := decide_eq_false hn
      clear hn
      go_enter Try.func114, Try.ntmps114
      go_wp2_with (first | (go_at_call 136; refine (rvalid_any _ _ _).mono ?_; rintro e w1 ⟨rfl, x, rfl⟩) | (go_at_call 133; refine (within_any _ _ _ _).mono ?_; rintro e w1 ⟨rfl, rfl⟩))
      all_goals (refine bodyPost_ret (by simp only [results, Try.results114]; go_simp; rfl) rfl ?_; refine ⟨ret_R3 e.symm, ?_⟩; (repeat (first | exact Kept.refl _ | assumption | refine Kept.alloc ?_ _ | refine Kept.ext ?_ _ | refine Kept.drew ?_ | refine Kept.drewN ?_ _)))
end Go.Proofs.Ytoadlneneijfaaa
