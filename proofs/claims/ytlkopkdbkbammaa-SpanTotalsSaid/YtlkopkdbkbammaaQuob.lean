/- Contracts: the reference's quotient, spans of whole numbers, pi, and the sanity check of the statements. No conditions. -/
import Derived.Test.YtlkopkdbkbammaaQuo
namespace Go.Proofs.Ytlkopkdbkbammaa
set_option linter.unusedVariables false
set_option linter.unusedSimpArgs false
open Go.RowKit
theorem within_whole (n : Int) : withinB n (-1099511627776) 1099511627776 = wholeB n := rfl
set_option maxHeartbeats 400000 in
theorem rquot_any (n d : Int) (w : World) :
    Calls Try.prog 18 #[.int .i64 n, .int .i64 d] w fun e w' => e = .returned (.tuple #[.agg #[.int .i64 (quotS n d).lo, .int .i64 (quotS n d).hi], .int .i64 (quotS n d).e]) ∧ Kept w w' := by
  have e1 := within_whole n
  have e2 := within_whole d
  cases hn : wholeB n
  · go_enter Try.func18, Try.ntmps18
    go_wp2_with (first | (go_at_call 61; refine (within_any _ _ _ _).mono ?_; rintro e w1 ⟨rfl, rfl⟩))
    all_goals (refine bodyPost_ret (by simp only [results, Try.results18]; go_simp; rfl) rfl ?_; refine ⟨ret_R3 (by simp_all [quotS]), ?_⟩; (repeat (first | exact Kept.refl _ | assumption | refine Kept.alloc ?_ _ | refine Kept.ext ?_ _ | refine Kept.drew ?_ | refine Kept.drewN ?_ _)))
  · cases hd : wholeB d
    · go_enter Try.func18, Try.ntmps18
      go_wp2_with (first | (go_at_call 61; refine (within_any _ _ _ _).mono ?_; rintro e w1 ⟨rfl, rfl⟩))
      all_goals (refine bodyPost_ret (by simp only [results, Try.results18]; go_simp; rfl) rfl ?_; refine ⟨ret_R3 (by simp_all [quotS]), ?_⟩; (repeat (first | exact Kept.refl _ | assumption | refine Kept.alloc ?_ _ | refine Kept.ext ?_ _ | refine Kept.drew ?_ | refine Kept.drewN ?_ _)))
    · have bn := whole_bd hn
      have bd := whole_bd hd
      by_cases h0 : d = 0
      · subst h0
        go_enter Try.func18, Try.ntmps18
        go_wp2_with (first | (go_at_call 61; refine (within_any _ _ _ _).mono ?_; rintro e w1 ⟨rfl, rfl⟩))
        all_goals (refine bodyPost_ret (by simp only [results, Try.results18]; go_simp; rfl) rfl ?_; refine ⟨ret_R3 (by simp_all [quotS]), ?_⟩; (repeat (first | exact Kept.refl _ | assumption | refine Kept.alloc ?_ _ | refine Kept.ext ?_ _ | refine Kept.drew ?_ | refine Kept.drewN ?_ _)))
      · have h0' : (d == 0) = false := by simpa using h0
        by_cases hs : d < 0
        · have e3 : quotS n d = resultS ((-n * 1048576).fdiv (-d)) (-((-n * 1048576).fdiv d)) := by
            have := fdiv_flip (n * 1048576) d
            simp_all [quotS, Int.neg_mul]
          rw [e3]
          have E3 := Lib.hid e3
          clear e3
          go_enter Try.func18, Try.ntmps18
          go_wp2_with (first | (go_at_call 61; refine (within_any _ _ _ _).mono ?_; rintro e w1 ⟨rfl, rfl⟩) | (go_at_call 63; refine (rdown_any _ _ _ (by omega) (by omega)).mono ?_; rintro e w1 ⟨rfl, rfl⟩) | (go_at_call 64; refine (rup_any _ _ _ (by omega) (by omega)).mono ?_; rintro e w1 ⟨rfl, rfl⟩) | (go_at_call 62; refine (told_any _ _ _).mono ?_; rintro e w1 ⟨rfl, x, rfl⟩))
          all_goals (refine bodyPost_ret (by simp only [results, Try.results18]; go_simp; rfl) rfl ?_; refine ⟨rfl, ?_⟩; (repeat (first | exact Kept.refl _ | assumption | refine Kept.alloc ?_ _ | refine Kept.ext ?_ _ | refine Kept.drew ?_ | refine Kept.drewN ?_ _)))
        · go_enter Try.func18, Try.ntmps18
          go_wp2_with (first | (go_at_call 61; refine (within_any _ _ _ _).mono ?_; rintro e w1 ⟨rfl, rfl⟩) | (go_at_call 63; refine (rdown_any _ _ _ (by omega) (by omega)).mono ?_; rintro e w1 ⟨rfl, rfl⟩) | (go_at_call 64; refine (rup_any _ _ _ (by omega) (by omega)).mono ?_; rintro e w1 ⟨rfl, rfl⟩) | (go_at_call 62; refine (told_any _ _ _).mono ?_; rintro e w1 ⟨rfl, x, rfl⟩))
          all_goals (refine bodyPost_ret (by simp only [results, Try.results18]; go_simp; rfl) rfl ?_; refine ⟨ret_R3 (by simp_all [quotS]), ?_⟩; (repeat (first | exact Kept.refl _ | assumption | refine Kept.alloc ?_ _ | refine Kept.ext ?_ _ | refine Kept.drew ?_ | refine Kept.drewN ?_ _)))
set_option maxHeartbeats 400000 in
theorem of_any (n : Int) (w : World) :
    Calls Try.prog 15 #[.int .i64 n] w fun e w' => e = .returned (.tuple #[.agg #[.int .i64 (quotS n 1).lo, .int .i64 (quotS n 1).hi], .int .i64 (quotS n 1).e]) ∧ Kept w w' := by
  go_enter Try.func15, Try.ntmps15
  go_wp2_with (first | (go_at_call 17; refine (quot_any _ _ _).mono ?_; rintro e w1 ⟨rfl, x, rfl⟩))
  all_goals (refine bodyPost_ret (by simp only [results, Try.results15]; go_simp; rfl) rfl ?_; refine ⟨rfl, ?_⟩; (repeat (first | exact Kept.refl _ | assumption | refine Kept.alloc ?_ _ | refine Kept.ext ?_ _ | refine Kept.drew ?_ | refine Kept.drewN ?_ _)))
set_option maxHeartbeats 400000 in
theorem rof_any (n : Int) (w : World) :
    Calls Try.prog 16 #[.int .i64 n] w fun e w' => e = .returned (.tuple #[.agg #[.int .i64 (quotS n 1).lo, .int .i64 (quotS n 1).hi], .int .i64 (quotS n 1).e]) ∧ Kept w w' := by
  go_enter Try.func16, Try.ntmps16
  go_wp2_with (first | (go_at_call 18; refine (rquot_any _ _ _).mono ?_; rintro e w1 ⟨rfl, x, rfl⟩))
  all_goals (refine bodyPost_ret (by simp only [results, Try.results16]; go_simp; rfl) rfl ?_; refine ⟨rfl, ?_⟩; (repeat (first | exact Kept.refl _ | assumption | refine Kept.alloc ?_ _ | refine Kept.ext ?_ _ | refine Kept.drew ?_ | refine Kept.drewN ?_ _)))
set_option maxHeartbeats 400000 in
theorem pi_any (w : World) :
    Calls Try.prog 65 #[] w fun e w' => e = .returned (.agg #[.int .i64 3294198, .int .i64 3294199]) ∧ Kept w w' := by
  go_enter Try.func65, Try.ntmps65
  go_wp2
  all_goals (refine bodyPost_ret (by simp only [results, Try.results65]; go_simp; rfl) rfl ?_; refine ⟨rfl, ?_⟩; (repeat (first | exact Kept.refl _ | assumption | refine Kept.alloc ?_ _ | refine Kept.ext ?_ _ | refine Kept.drew ?_ | refine Kept.drewN ?_ _)))
set_option maxHeartbeats 400000 in
theorem rpi_any (w : World) :
    Calls Try.prog 66 #[] w fun e w' => e = .returned (.agg #[.int .i64 3294198, .int .i64 3294199]) ∧ Kept w w' := by
  go_enter Try.func66, Try.ntmps66
  go_wp2
  all_goals (refine bodyPost_ret (by simp only [results, Try.results66]; go_simp; rfl) rfl ?_; refine ⟨rfl, ?_⟩; (repeat (first | exact Kept.refl _ | assumption | refine Kept.alloc ?_ _ | refine Kept.ext ?_ _ | refine Kept.drew ?_ | refine Kept.drewN ?_ _)))
set_option maxHeartbeats 400000 in
theorem known_any (w : World) :
    Calls Try.prog 21 #[] w fun e w' => e = .returned (.bool true) ∧ Kept w w' := by
  have e1 : (quotS (-1) 3).lo = -349526 := by decide +kernel
  have e2 : (quotS (-1) 3).hi = -349525 := by decide +kernel
  have e3 : (quotS (-1) 3).e = 0 := by decide +kernel
  go_enter Try.func21, Try.ntmps21
  go_wp2_with (first | (go_at_call 17; refine (quot_any _ _ _).mono ?_; rintro e w1 ⟨rfl, x, rfl⟩) | (go_at_call 65; refine (pi_any _).mono ?_; rintro e w1 ⟨rfl, x, rfl⟩) | (go_at_call 66; refine (rpi_any _).mono ?_; rintro e w1 ⟨rfl, x, rfl⟩))
  all_goals (go_ret; refine ⟨rfl, ?_⟩; (repeat (first | exact Kept.refl _ | assumption | refine Kept.alloc ?_ _ | refine Kept.ext ?_ _ | refine Kept.drew ?_ | refine Kept.drewN ?_ _)))
def enclosesB (wl wh e lo hi : Int) : Bool := e != 0 || decide (wl ≤ lo ∧ hi ≤ wh)
set_option maxHeartbeats 400000 in
theorem encloses_any (wl wh e lo hi : Int) (w : World) :
    Calls Try.prog 38 #[.agg #[.int .i64 wl, .int .i64 wh], .int .i64 e, .agg #[.int .i64 lo, .int .i64 hi]] w fun r w' => r = .returned (.bool (enclosesB wl wh e lo hi)) ∧ Kept w w' := by
  go_enter Try.func38, Try.ntmps38
  go_wp2
  all_goals (go_ret; refine ⟨ret_bool (by unfold enclosesB; rw [eq_comm]; simp_all; try omega), ?_⟩; (repeat (first | exact Kept.refl _ | assumption | refine Kept.alloc ?_ _ | refine Kept.ext ?_ _ | refine Kept.drew ?_ | refine Kept.drewN ?_ _)))
set_option maxRecDepth 100000 in
set_option maxHeartbeats 400000 in
theorem quotients_law (n d lo hi : Int) (w : World) :
    Calls Try.prog 3 #[.int .i64 n, .int .i64 d, .agg #[.int .i64 lo, .int .i64 hi]] w fun r w' => r = .returned (.bool true) ∧ Kept w w' := by
  go_enter Try.func3, Try.ntmps3
  go_wp2_with (first | (go_at_call 17; refine (quot_any _ _ _).mono ?_; rintro e w1 ⟨rfl, x, rfl⟩) | (go_at_call 18; refine (rquot_any _ _ _).mono ?_; rintro e w1 ⟨rfl, x, rfl⟩) | (go_at_call 15; refine (of_any _ _).mono ?_; rintro e w1 ⟨rfl, x, rfl⟩) | (go_at_call 16; refine (rof_any _ _).mono ?_; rintro e w1 ⟨rfl, x, rfl⟩) | (go_at_call 19; refine (valid_any _ _ _).mono ?_; rintro e w1 ⟨rfl, x, rfl⟩) | (go_at_call 20; refine (rvalid_any _ _ _).mono ?_; rintro e w1 ⟨rfl, x, rfl⟩) | (go_at_call 21; refine (known_any _).mono ?_; rintro e w1 ⟨rfl, x, rfl⟩))
  ((first | (with_reducible refine wp_region_kept2 (by kernel_rfl) (by kernel_rfl) ?_) | refine wp_region_kept (by kernel_rfl) (by kernel_rfl) ?_); (repeat (go_big_quiet_step (first | (go_at_call 19; exact Calls.kept_of (valid_any _ _ _)) | (go_at_call 20; exact Calls.kept_of (rvalid_any _ _ _)) | (go_at_call 21; exact Calls.kept_of (known_any _))))); refine wpQuiet_nil ?_; intro x)
  go_wp2
  go_ret
  refine ⟨rfl, ?_⟩
  (repeat (first | exact Kept.refl _ | assumption | refine Kept.alloc ?_ _ | refine Kept.ext ?_ _ | refine Kept.drew ?_ | refine Kept.drewN ?_ _))
end Go.Proofs.Ytlkopkdbkbammaa
