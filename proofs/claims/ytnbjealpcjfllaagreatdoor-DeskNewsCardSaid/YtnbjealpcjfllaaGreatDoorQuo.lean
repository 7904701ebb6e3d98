/- Contracts of the functions behind quotients. No conditions but bounds on numbers. -/
import Derived.Test.YtnbjealpcjfllaaGreatDoorBas
import Derived.Test.YtnbjealpcjfllaaGreatDoorNmb
namespace Go.Proofs.YtnbjealpcjfllaaGreatDoor
set_option linter.unusedVariables false
set_option linter.unusedSimpArgs false
open Go.RowKit
def wholeB (n : Int) : Bool := decide (-1099511627776 ≤ n ∧ n ≤ 1099511627776)
def validB (lo hi : Int) : Bool := decide (-1099511627776 ≤ lo ∧ lo ≤ hi ∧ hi ≤ 1099511627776)
def withinB (n lo hi : Int) : Bool := decide (lo ≤ n ∧ n ≤ hi)
def resultS (lo hi : Int) : R := if validB lo hi then ⟨lo, hi, 0⟩ else ⟨0, 0, 4⟩
set_option maxHeartbeats 400000 in
theorem whole_any (n : Int) (w : World) :
    Calls Tryz.prog 323 #[.int .i64 n] w fun e w' => e = .returned (.bool (wholeB n)) ∧ w = w' := by
  go_enter Tryz.func323, Tryz.ntmps323
  go_wp2
  all_goals (go_ret; exact ⟨ret_bool (by unfold wholeB; rw [eq_comm]; first | (rw [decide_eq_decide]; omega) | (rw [decide_eq_false_iff_not]; omega)), rfl⟩)
set_option maxHeartbeats 400000 in
theorem within_any (n lo hi : Int) (w : World) :
    Calls Tryz.prog 313 #[.int .i64 n, .int .i64 lo, .int .i64 hi] w fun e w' => e = .returned (.bool (withinB n lo hi)) ∧ w = w' := by
  go_enter Tryz.func313, Tryz.ntmps313
  go_wp2
  all_goals (go_ret; exact ⟨ret_bool (by unfold withinB; rw [eq_comm]; first | (rw [decide_eq_decide]; omega) | (rw [decide_eq_false_iff_not]; omega)), rfl⟩)
set_option maxHeartbeats 400000 in
theorem valid_any (lo hi : Int) (w : World) :
    Calls Tryz.prog 122 #[.agg #[.int .i64 lo, .int .i64 hi]] w fun e w' => e = .returned (.bool (validB lo hi)) ∧ Kept w w' := by
  go_enter Tryz.func122, Tryz.ntmps122
  go_wp2
  all_goals (go_ret; exact ⟨ret_bool (by rw [eq_comm]; unfold validB; first | (rw [decide_eq_decide]; omega) | (rw [decide_eq_false_iff_not]; omega)), by repeat (first | exact Kept.refl _ | refine Kept.alloc ?_ _)⟩)
set_option maxHeartbeats 400000 in
theorem rvalid_any (lo hi : Int) (w : World) :
    Calls Tryz.prog 193 #[.agg #[.int .i64 lo, .int .i64 hi]] w fun e w' => e = .returned (.bool (validB lo hi)) ∧ Kept w w' := by
  go_enter Tryz.func193, Tryz.ntmps193
  go_wp2
  all_goals (go_ret; exact ⟨ret_bool (by rw [eq_comm]; unfold validB; first | (rw [decide_eq_decide]; omega) | (rw [decide_eq_false_iff_not]; omega)), by repeat (first | exact Kept.refl _ | refine Kept.alloc ?_ _)⟩)
set_option maxHeartbeats 400000 in
theorem result_any (lo hi : Int) (w : World) :
    Calls Tryz.prog 298 #[.int .i64 lo, .int .i64 hi] w fun e w' => e = .returned (.tuple #[.agg #[.int .i64 (resultS lo hi).lo, .int .i64 (resultS lo hi).hi], .int .i64 (resultS lo hi).e]) ∧ Kept w w' := by
  go_enter Tryz.func298, Tryz.ntmps298
  go_wp2_with (first | (go_at_call 122; refine (valid_any _ _ _).mono ?_; rintro e w1 ⟨rfl, x, rfl⟩))
  all_goals (refine bodyPost_ret (by simp only [results, Tryz.results298]; go_simp; rfl) rfl ?_; refine ⟨ret_R3 (by simp_all [resultS]), ?_⟩; (repeat (first | exact Kept.refl _ | assumption | refine Kept.alloc ?_ _ | refine Kept.ext ?_ _ | refine Kept.drew ?_ | refine Kept.drewN ?_ _)))
set_option maxHeartbeats 400000 in
theorem told_any (lo hi : Int) (w : World) :
    Calls Tryz.prog 314 #[.int .i64 lo, .int .i64 hi] w fun e w' => e = .returned (.tuple #[.agg #[.int .i64 (resultS lo hi).lo, .int .i64 (resultS lo hi).hi], .int .i64 (resultS lo hi).e]) ∧ Kept w w' := by
  go_enter Tryz.func314, Tryz.ntmps314
  go_wp2_with (first | (go_at_call 193; refine (rvalid_any _ _ _).mono ?_; rintro e w1 ⟨rfl, x, rfl⟩))
  all_goals (refine bodyPost_ret (by simp only [results, Tryz.results314]; go_simp; rfl) rfl ?_; refine ⟨ret_R3 (by simp_all [resultS]), ?_⟩; (repeat (first | exact Kept.refl _ | assumption | refine Kept.alloc ?_ _ | refine Kept.ext ?_ _ | refine Kept.drew ?_ | refine Kept.drewN ?_ _)))
set_option maxHeartbeats 400000 in
theorem down_any (n d : Int) (w : World) (hn : -4611686018427387904 ≤ n ∧ n ≤ 4611686018427387904) (hd : -4611686018427387904 ≤ d ∧ d ≤ 4611686018427387904) (h0 : d ≠ 0) :
    Calls Tryz.prog 299 #[.int .i64 n, .int .i64 d] w fun e w' => e = .returned (.int .i64 (n.fdiv d)) ∧ w = w' := by
  have t := tdiv_bd n d hn
  go_enter Tryz.func299, Tryz.ntmps299
  go_wp2
  all_goals (go_ret; exact ⟨ret_int (by rw [eq_comm, fdiv_tdiv n d h0]; first | (rw [if_pos (by simp_all)]; done) | (rw [if_neg (by simp_all)]; done)), rfl⟩)
set_option maxHeartbeats 400000 in
theorem up_any (n d : Int) (w : World) (hn : -4611686018427387904 ≤ n ∧ n ≤ 4611686018427387904) (hd : -4611686018427387904 ≤ d ∧ d ≤ 4611686018427387904) (h0 : d ≠ 0) :
    Calls Tryz.prog 300 #[.int .i64 n, .int .i64 d] w fun e w' => e = .returned (.int .i64 (-((-n).fdiv d))) ∧ w = w' := by
  have t := fdiv_bd (-n) d (m := 4611686018427387904) h0 (by omega)
  go_enter Tryz.func300, Tryz.ntmps300
  go_wp2_with (first | (go_at_call 299; refine (down_any _ _ _ (by omega) (by omega) (by omega)).mono ?_; rintro e w1 ⟨rfl, rfl⟩))
  all_goals (go_ret; exact ⟨rfl, rfl⟩)
set_option maxHeartbeats 400000 in
theorem rdown_any (n d : Int) (w : World) (hn : -4611686018427387904 ≤ n ∧ n ≤ 4611686018427387904) (hd : 0 < d ∧ d ≤ 4611686018427387904) :
    Calls Tryz.prog 339 #[.int .i64 n, .int .i64 d] w fun e w' => e = .returned (.int .i64 (n.fdiv d)) ∧ w = w' := by
  have t := tdiv_bd n d hn
  have h1 : n.tmod d < 0 → n < 0 := fun h => by
    by_cases hn : 0 ≤ n
    · have := Int.tmod_nonneg d hn; omega
    · omega
  have h2 : n < 0 → ¬ n.tmod d = 0 → n.tmod d < 0 := fun h h' => by
    have h3 := Int.tmod_nonneg d (show 0 ≤ -n by omega); rw [Int.neg_tmod] at h3; omega
  have H1 := Lib.hid h1
  have H2 := Lib.hid h2
  clear h1 h2
  go_enter Tryz.func339, Tryz.ntmps339
  go_wp2
  all_goals (go_ret; have g1 := H1.out; have g2 := H2.out; exact ⟨ret_int (by rw [eq_comm, fdiv_tdiv n d (by omega)]; first | (rw [if_pos (by omega)]; done) | (rw [if_neg (by omega)]; done)), rfl⟩)
set_option maxHeartbeats 400000 in
theorem rup_any (n d : Int) (w : World) (hn : -4611686018427387904 ≤ n ∧ n ≤ 4611686018427387904) (hd : 0 < d ∧ d ≤ 4611686018427387904) :
    Calls Tryz.prog 340 #[.int .i64 n, .int .i64 d] w fun e w' => e = .returned (.int .i64 (-((-n).fdiv d))) ∧ w = w' := by
  have t := fdiv_bd (-n) d (m := 4611686018427387904) (by omega) (by omega)
  go_enter Tryz.func340, Tryz.ntmps340
  go_wp2_with (first | (go_at_call 339; refine (rdown_any _ _ _ (by omega) (by omega)).mono ?_; rintro e w1 ⟨rfl, rfl⟩))
  all_goals (go_ret; exact ⟨rfl, rfl⟩)
def quotS (n d : Int) : R := if !wholeB n || !wholeB d || d == 0 then ⟨0, 0, 1⟩ else resultS ((n * 1048576).fdiv d) (-((-(n * 1048576)).fdiv d))
theorem whole_bd {n : Int} (h : wholeB n = true) : -1099511627776 ≤ n ∧ n ≤ 1099511627776 := of_decide_eq_true h
theorem valid_bd {lo hi : Int} (h : validB lo hi = true) : -1099511627776 ≤ lo ∧ lo ≤ hi ∧ hi ≤ 1099511627776 := of_decide_eq_true h
end Go.Proofs.YtnbjealpcjfllaaGreatDoor
