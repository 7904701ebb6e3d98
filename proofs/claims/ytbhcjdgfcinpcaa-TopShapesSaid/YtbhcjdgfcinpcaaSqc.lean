/- Contracts of the squares of spans, of the program and of the reference. No conditions. Contracts: products and quotients of spans by whole numbers. No conditions. -/
import Derived.Test.YtbhcjdgfcinpcaaRef
import Derived.Test.YtbhcjdgfcinpcaaBas
import Derived.Test.YtbhcjdgfcinpcaaQuob
namespace Go.Proofs.Ytbhcjdgfcinpcaa
set_option linter.unusedVariables false
set_option linter.unusedSimpArgs false
open Go.RowKit
/-- The number of a span that is nearest to 0, and the farthest, without their signs. -/
def nearS (al ah : Int) : Int := max al (max (-ah) 0)
def farS (al ah : Int) : Int := max ah (-al)
def sqS (al ah : Int) : R := if validB al ah then resultS (fDown (nearS al ah) (nearS al ah)) (fUp (farS al ah) (farS al ah)) else ⟨0, 0, 1⟩
theorem fix1 {al ah : Int} (h : validB al ah = true) : Fix al ∧ Fix ah ∧ al ≤ ah := by
  have v1 := valid_bd h
  unfold Fix
  omega
theorem sq_mono {x y : Int} (h : 0 ≤ x ∧ x ≤ y) : x * x ≤ y * y := Int.mul_le_mul h.2 h.2 h.1 (by omega)
theorem sq_abs {x y : Int} (h : x.natAbs ≤ y.natAbs) : x * x ≤ y * y := by
  have := Nat.mul_le_mul h h
  have e1 : x * x = ((x.natAbs * x.natAbs : Nat) : Int) := (Int.natAbs_mul_self).symm
  have e2 : y * y = ((y.natAbs * y.natAbs : Nat) : Int) := (Int.natAbs_mul_self).symm
  omega
theorem fDown_sq {x y : Int} (h : x.natAbs ≤ y.natAbs) : fDown x x ≤ fDown y y := Int.ediv_le_ediv (by decide) (sq_abs h)
theorem fUp_sq {x y : Int} (h : x.natAbs ≤ y.natAbs) : fUp x x ≤ fUp y y := by
  have := sq_abs h
  unfold fUp; omega
theorem fDown_neg (x : Int) : fDown (-x) (-x) = fDown x x := by unfold fDown; rw [Int.neg_mul_neg]
theorem fUp_neg (x : Int) : fUp (-x) (-x) = fUp x x := by unfold fUp; rw [Int.neg_mul_neg]
theorem sq_far {al ah : Int} (h : al ≤ ah) : fUp (farS al ah) (farS al ah) = max (fUp al al) (fUp ah ah) := by
  by_cases c : -al ≤ ah
  · have e : farS al ah = ah := by unfold farS; omega
    have := fUp_sq (x := al) (y := ah) (by omega)
    rw [e]; omega
  · have e : farS al ah = -al := by unfold farS; omega
    have := fUp_sq (x := ah) (y := al) (by omega)
    rw [e, fUp_neg]; omega
theorem sq_near {al ah : Int} (h : al ≤ ah) : fDown (nearS al ah) (nearS al ah) = if al ≤ 0 ∧ 0 ≤ ah then 0 else min (fDown al al) (fDown ah ah) := by
  by_cases c : al ≤ 0 ∧ 0 ≤ ah
  · rw [if_pos c]
    have e : nearS al ah = 0 := by unfold nearS; omega
    rw [e]; rfl
  · rw [if_neg c]
    by_cases p : 0 < al
    · have e : nearS al ah = al := by unfold nearS; omega
      have := fDown_sq (x := al) (y := ah) (by omega)
      rw [e]; omega
    · have e : nearS al ah = -ah := by unfold nearS; omega
      have := fDown_sq (x := ah) (y := al) (by omega)
      rw [e, fDown_neg]; omega
end Go.Proofs.Ytbhcjdgfcinpcaa
namespace Go.Proofs.Ytbhcjdgfcinpcaa
set_option linter.unusedVariables false
set_option linter.unusedSimpArgs false
open Go.RowKit
/-- x * n, or a number beyond the limit on the same side. -/
def prodS (x n : Int) : Int := if 1099511627776 < x * n then 1099511627777 else if x * n < -1099511627776 then -1099511627777 else x * n
theorem abs_mul' (x n : Int) : max x (-x) * max n (-n) = x * n ∨ max x (-x) * max n (-n) = -(x * n) := by
  rcases (show max x (-x) = x ∨ max x (-x) = -x by omega) with h | h <;> rcases (show max n (-n) = n ∨ max n (-n) = -n by omega) with k | k <;> rw [h, k]
  · exact .inl rfl
  · exact .inr (Int.mul_neg x n)
  · exact .inr (Int.neg_mul x n)
  · exact .inl (Int.neg_mul_neg x n)
theorem sign_mul {x n : Int} (hx : x ≠ 0) (hn : n ≠ 0) : (x < 0 ↔ n < 0) → 0 < x * n := by
  intro h
  rcases (show (0 < x ∧ 0 < n) ∨ (x < 0 ∧ n < 0) by omega) with ⟨a, b⟩ | ⟨a, b⟩
  · exact Int.mul_pos a b
  · exact Int.mul_pos_of_neg_of_neg a b
theorem sign_mul' {x n : Int} (hx : x ≠ 0) (hn : n ≠ 0) : ¬ (x < 0 ↔ n < 0) → x * n < 0 := by
  intro h
  rcases (show (0 < x ∧ n < 0) ∨ (x < 0 ∧ 0 < n) by omega) with ⟨a, b⟩ | ⟨a, b⟩
  · exact Int.mul_neg_of_pos_of_neg a b
  · exact Int.mul_neg_of_neg_of_pos a b
theorem big_iff {x n : Int} (hx : x ≠ 0) : 1099511627776 / max x (-x) < max n (-n) ↔ 1099511627776 < max x (-x) * max n (-n) := by
  rw [Int.ediv_lt_iff_lt_mul (by omega), Int.mul_comm]
theorem sgn_same {x n : Int} (h : x < 0 ↔ n < 0) : (!decide (x < 0) == decide (n < 0)) = false := by
  by_cases k1 : x < 0
  · have k2 := h.1 k1; simp [k1, k2]
  · have k2 : ¬ n < 0 := fun k => k1 (h.2 k); simp only [k1, k2, decide_false]; rfl
theorem sgn_diff {x n : Int} (h : ¬ (x < 0 ↔ n < 0)) : (!decide (x < 0) == decide (n < 0)) = true := by
  by_cases k1 : x < 0
  · have k2 : ¬ n < 0 := fun k => h ⟨fun _ => k, fun _ => k1⟩; simp only [k1, k2, decide_false, decide_true]; rfl
  · have k2 : n < 0 := by omega
    simp only [k1, k2, decide_false, decide_true]; rfl
set_option maxHeartbeats 1000000 in
theorem prod_any (x n : Int) (w : World) (h1 : Fix x) (h2 : Fix n) :
    Calls Try.prog 41 #[.int .i64 x, .int .i64 n] w fun e w' => e = .returned (.int .i64 (prodS x n)) ∧ w = w' := by
  obtain ⟨a1, a2⟩ := h1
  obtain ⟨a3, a4⟩ := h2
  by_cases hx : x = 0
  · subst hx
    go_enter Try.func41, Try.ntmps41
    go_wp2
    all_goals (go_ret; exact ⟨ret_int (by simp [prodS]), rfl⟩)
  · by_cases hn : n = 0
    · subst hn
      have hx' : (x != 0) = true := by simpa using hx
      go_enter Try.func41, Try.ntmps41
      go_wp2
      all_goals (go_ret; exact ⟨ret_int (by simp [prodS]), rfl⟩)
    · have hx' : (x != 0) = true := by simpa using hx
      have hn' : (n != 0) = true := by simpa using hn
      have hm : 1 ≤ max x (-x) := by omega
      have bi := big_iff (n := n) hx
      have am := abs_mul' x n
      obtain ⟨P, hP⟩ : ∃ P, P = max x (-x) * max n (-n) := ⟨_, rfl⟩
      have hP0 : 0 ≤ P := by rw [hP]; exact Int.mul_nonneg (by omega) (by omega)
      rw [← hP] at am bi
      clear hP
      by_cases hb : 1099511627776 / max x (-x) < max n (-n)
      · have hbb := bi.1 hb
        by_cases hs : x < 0 ↔ n < 0
        · have hp := sign_mul hx hn hs
          have e : prodS x n = 1099511627777 := by unfold prodS; rw [if_pos (by omega)]
          clear bi hbb am hp
          rw [e]
          clear e
          go_enter Try.func41, Try.ntmps41
          go_wp2
          go_ret
          exact ⟨rfl, rfl⟩
        · have hp := sign_mul' hx hn hs
          have e : prodS x n = -1099511627777 := by unfold prodS; rw [if_neg (by omega), if_pos (by omega)]
          clear bi hbb am hp
          rw [e]
          clear e
          have hs' : (!decide (x < 0) == decide (n < 0)) = true := sgn_diff hs
          clear hs
          go_enter Try.func41, Try.ntmps41
          go_wp2
          go_ret
          exact ⟨rfl, rfl⟩
      · have hbb : ¬ 1099511627776 < P := fun k => hb (bi.2 k)
        have e : prodS x n = x * n := by unfold prodS; rw [if_neg (by omega), if_neg (by omega)]
        have hw : -1099511627776 ≤ x * n ∧ x * n ≤ 1099511627776 := by omega
        clear bi hbb am
        rw [e]
        clear e
        go_enter Try.func41, Try.ntmps41
        go_wp2
        go_ret
        exact ⟨rfl, rfl⟩
def scaleS (al ah n : Int) : R := if validB al ah && wholeB n then resultS (min (prodS al n) (prodS ah n)) (max (prodS al n) (prodS ah n)) else ⟨0, 0, 1⟩
theorem fixv {al ah : Int} (h : validB al ah = true) : Fix al ∧ Fix ah ∧ al ≤ ah := by
  have v1 := valid_bd h
  unfold Fix
  omega
set_option maxHeartbeats 1000000 in
theorem scale_any (al ah n : Int) (w : World) :
    Calls Try.prog 14 #[.agg #[.int .i64 al, .int .i64 ah], .int .i64 n] w fun e w' => e = .returned (.tuple #[.agg #[.int .i64 (scaleS al ah n).lo, .int .i64 (scaleS al ah n).hi], .int .i64 (scaleS al ah n).e]) ∧ Kept w w' := by
  cases h : validB al ah
  · go_enter Try.func14, Try.ntmps14
    go_wp2_with (first | (go_at_call 39; refine (check1_any _ _ _ _ (by simp)).mono ?_; rintro e w1 ⟨rfl, x, rfl⟩))
    all_goals (refine bodyPost_ret (by simp only [results, Try.results14]; go_simp; rfl) rfl ?_; refine ⟨ret_R3 (by simp_all [scaleS]), ?_⟩; (repeat (first | exact Kept.refl _ | assumption | refine Kept.alloc ?_ _ | refine Kept.ext ?_ _ | refine Kept.drew ?_ | refine Kept.drewN ?_ _)))
  · obtain ⟨⟨a1, a2⟩, ⟨a3, a4⟩, a9⟩ := fixv h
    cases hn : wholeB n
    · go_enter Try.func14, Try.ntmps14
      go_wp2_with (first | (go_at_call 39; refine (check1_any _ _ _ _ (by simp)).mono ?_; rintro e w1 ⟨rfl, x, rfl⟩) | (go_at_call 40; refine (whole_any _ _).mono ?_; rintro e w1 ⟨rfl, rfl⟩))
      all_goals (refine bodyPost_ret (by simp only [results, Try.results14]; go_simp; rfl) rfl ?_; refine ⟨ret_R3 (by simp_all [scaleS]), ?_⟩; (repeat (first | exact Kept.refl _ | assumption | refine Kept.alloc ?_ _ | refine Kept.ext ?_ _ | refine Kept.drew ?_ | refine Kept.drewN ?_ _)))
    · obtain ⟨b1, b2⟩ := whole_bd hn
      go_enter Try.func14, Try.ntmps14
      go_wp2_with (first | (go_at_call 39; refine (check1_any _ _ _ _ (by simp)).mono ?_; rintro e w1 ⟨rfl, x, rfl⟩) | (go_at_call 40; refine (whole_any _ _).mono ?_; rintro e w1 ⟨rfl, rfl⟩))
      ((first | (with_reducible refine wp_region_kept2 (by kernel_rfl) (by kernel_rfl) ?_) | refine wp_region_kept (by kernel_rfl) (by kernel_rfl) ?_); (repeat (go_big_quiet_step (first | (go_at_call 41; exact Calls.kept_same (prod_any _ _ _ ⟨by omega, by omega⟩ ⟨by omega, by omega⟩))))); refine wpQuiet_nil ?_; intro x)
      go_wp2_with (first | (go_at_call 42; refine (result_any _ _ _).mono ?_; rintro e w1 ⟨rfl, x, rfl⟩))
      all_goals (refine bodyPost_ret (by simp only [results, Try.results14]; go_simp; rfl) rfl ?_; refine ⟨ret_R3 (by simp only [scaleS, h, hn, Bool.and_self, if_true]), ?_⟩; (repeat (first | exact Kept.refl _ | assumption | refine Kept.alloc ?_ _ | refine Kept.ext ?_ _ | refine Kept.drew ?_ | refine Kept.drewN ?_ _)))
theorem prodS_mono {x y n : Int} (h : x ≤ y) (hn : 0 ≤ n) : prodS x n ≤ prodS y n := by
  have := Int.mul_le_mul_of_nonneg_right h hn
  unfold prodS; omega
theorem prodS_anti {x y n : Int} (h : x ≤ y) (hn : n ≤ 0) : prodS y n ≤ prodS x n := by
  have := Int.mul_le_mul_of_nonneg_right h (show 0 ≤ -n by omega)
  rw [Int.mul_neg, Int.mul_neg] at this
  unfold prodS; omega
def partS (al ah n : Int) : R := if validB al ah && decide (1 ≤ n ∧ n ≤ 1099511627776) then resultS (al / n) (-(-ah / n)) else ⟨0, 0, 1⟩
set_option maxHeartbeats 1000000 in
theorem part_any (al ah n : Int) (w : World) :
    Calls Try.prog 32 #[.agg #[.int .i64 al, .int .i64 ah], .int .i64 n] w fun e w' => e = .returned (.tuple #[.agg #[.int .i64 (partS al ah n).lo, .int .i64 (partS al ah n).hi], .int .i64 (partS al ah n).e]) ∧ Kept w w' := by
  cases h : validB al ah
  · go_enter Try.func32, Try.ntmps32
    go_wp2_with (first | (go_at_call 39; refine (check1_any _ _ _ _ (by simp)).mono ?_; rintro e w1 ⟨rfl, x, rfl⟩))
    all_goals (refine bodyPost_ret (by simp only [results, Try.results32]; go_simp; rfl) rfl ?_; refine ⟨ret_R3 (by simp_all [partS]), ?_⟩; (repeat (first | exact Kept.refl _ | assumption | refine Kept.alloc ?_ _ | refine Kept.ext ?_ _ | refine Kept.drew ?_ | refine Kept.drewN ?_ _)))
  · obtain ⟨⟨a1, a2⟩, ⟨a3, a4⟩, a9⟩ := fixv h
    by_cases hn : 1 ≤ n ∧ n ≤ 1099511627776
    · have e : partS al ah n = resultS (al.fdiv n) (-((-ah).fdiv n)) := by simp only [partS, h, hn, and_self, decide_true, Bool.and_self, if_true, fdiv_pos _ n (show 0 < n by omega)]
      rw [e]
      clear e
      obtain ⟨b1, b2⟩ := hn
      go_enter Try.func32, Try.ntmps32
      go_wp2_with (first | (go_at_call 39; refine (check1_any _ _ _ _ (by simp)).mono ?_; rintro e w1 ⟨rfl, x, rfl⟩))
      ((first | (with_reducible refine wp_region_tail2 11 (by kernel_rfl) (by kernel_rfl) ?_) | refine wp_region_tail 11 (by kernel_rfl) (by kernel_rfl) ?_); simp only [List.take_succ_cons, List.take_zero, List.drop_succ_cons, List.drop_zero]; (repeat (go_big_quiet_step (first | (go_at_call 64; exact Calls.kept_same (down_any _ _ _ (by omega) (by omega) (by omega))) | (go_at_call 65; exact Calls.kept_same (up_any _ _ _ (by omega) (by omega) (by omega))) | (go_at_call 42; exact Calls.kept_of (result_any _ _ _))))); refine wpQuiet_nil ?_; intro x)
      go_wp2
      all_goals (refine bodyPost_ret (by simp only [results, Try.results32]; go_simp; rfl) rfl ?_; refine ⟨rfl, ?_⟩; (repeat (first | exact Kept.refl _ | assumption | refine Kept.alloc ?_ _ | refine Kept.ext ?_ _ | refine Kept.drew ?_ | refine Kept.drewN ?_ _)))
    · have e : partS al ah n = ⟨0, 0, 1⟩ := by simp only [partS, h, hn, decide_false, Bool.and_false, Bool.false_eq_true, if_false]
      by_cases b1 : n < 1
      · clear hn
        go_enter Try.func32, Try.ntmps32
        go_wp2_with (first | (go_at_call 39; refine (check1_any _ _ _ _ (by simp)).mono ?_; rintro e w1 ⟨rfl, x, rfl⟩))
        all_goals (refine bodyPost_ret (by simp only [results, Try.results32]; go_simp; rfl) rfl ?_; refine ⟨ret_R3 e.symm, ?_⟩; (repeat (first | exact Kept.refl _ | assumption | refine Kept.alloc ?_ _ | refine Kept.ext ?_ _ | refine Kept.drew ?_ | refine Kept.drewN ?_ _)))
      · have b2 : 1099511627776 < n := by omega
        clear hn
        go_enter Try.func32, Try.ntmps32
        go_wp2_with (first | (go_at_call 39; refine (check1_any _ _ _ _ (by simp)).mono ?_; rintro e w1 ⟨rfl, x, rfl⟩))
        all_goals (refine bodyPost_ret (by simp only [results, Try.results32]; go_simp; rfl) rfl ?_; refine ⟨ret_R3 e.symm, ?_⟩; (repeat (first | exact Kept.refl _ | assumption | refine Kept.alloc ?_ _ | refine Kept.ext ?_ _ | refine Kept.drew ?_ | refine Kept.drewN ?_ _)))
end Go.Proofs.Ytbhcjdgfcinpcaa
