/- Contracts: sums, differences, products and quotients of spans. No conditions. -/
import Derived.Test.YtldchncnadllpaaOp
import Derived.Laws.EntriesVeiled
namespace Go.Proofs.Ytldchncnadllpaa
set_option linter.unusedVariables false
set_option linter.unusedSimpArgs false
open Go.RowKit
def addS (al ah bl bh : Int) : R := if validB al ah && validB bl bh then resultS (al + bl) (ah + bh) else ⟨0, 0, 1⟩
def subS (al ah bl bh : Int) : R := if validB al ah && validB bl bh then resultS (al - bh) (ah - bl) else ⟨0, 0, 1⟩
def mulS (al ah bl bh : Int) : R := if validB al ah && validB bl bh then resultS (min4 fDown al ah bl bh) (max4 fUp al ah bl bh) else ⟨0, 0, 1⟩
def divS (al ah bl bh : Int) : R := if validB al ah && validB bl bh then (if bl ≤ 0 ∧ 0 ≤ bh then ⟨0, 0, 11⟩ else resultS (min4 qDown al ah bl bh) (max4 qUp al ah bl bh)) else ⟨0, 0, 1⟩
theorem fixes {al ah bl bh : Int} (h : (validB al ah && validB bl bh) = true) : Fix al ∧ Fix ah ∧ Fix bl ∧ Fix bh ∧ al ≤ ah ∧ bl ≤ bh := by
  simp only [Bool.and_eq_true] at h
  have v1 := valid_bd h.1
  have v2 := valid_bd h.2
  unfold Fix
  omega
theorem apply_add_no (al ah bl bh : Int) (w : World) (h : (validB al ah && validB bl bh) = false) :
    Calls Try.prog 74 #[.int .u8 43, .agg #[.int .i64 al, .int .i64 ah], .agg #[.int .i64 bl, .int .i64 bh]] w fun e w' => e = .returned (.tuple #[.agg #[.int .i64 (addS al ah bl bh).lo, .int .i64 (addS al ah bl bh).hi], .int .i64 (addS al ah bl bh).e]) ∧ Kept w w' := by
  go_enter Try.func74, Try.ntmps74
  go_wp2_with (first | (go_at_call 62; refine (check2_any _ _ _ _ _ _ (by simp)).mono ?_; rintro e w1 ⟨rfl, x, rfl⟩))
  all_goals (refine bodyPost_ret (by simp only [results, Try.results74]; go_simp; rfl) rfl ?_; refine ⟨ret_R3 (by simp_all [addS]), ?_⟩; (repeat (first | exact Kept.refl _ | assumption | refine Kept.alloc ?_ _ | refine Kept.ext ?_ _ | refine Kept.drew ?_ | refine Kept.drewN ?_ _)))
set_option maxHeartbeats 1000000 in
theorem apply_add (al ah bl bh : Int) (w : World) :
    Calls Try.prog 74 #[.int .u8 43, .agg #[.int .i64 al, .int .i64 ah], .agg #[.int .i64 bl, .int .i64 bh]] w fun e w' => e = .returned (.tuple #[.agg #[.int .i64 (addS al ah bl bh).lo, .int .i64 (addS al ah bl bh).hi], .int .i64 (addS al ah bl bh).e]) ∧ Kept w w' := by
  cases h : (validB al ah && validB bl bh)
  · exact apply_add_no al ah bl bh w h
  · obtain ⟨⟨a1, a2⟩, ⟨a3, a4⟩, ⟨a5, a6⟩, ⟨a7, a8⟩, a9, a10⟩ := fixes h
    go_enter Try.func74, Try.ntmps74
    go_wp2_with (first | (go_at_call 62; refine (check2_any _ _ _ _ _ _ (by simp)).mono ?_; rintro e w1 ⟨rfl, x, rfl⟩) | (go_at_call 78; refine (operations_any _).mono ?_; rintro e w1 ⟨rfl, rfl⟩) | (go_at_call 82; refine (allowed_any _ _ _).mono ?_; rintro e w1 ⟨rfl, x, rfl⟩) | (go_at_call 83; refine (plus_any _ _ _ _ _ (by omega)).mono ?_; rintro e w1 ⟨rfl, x, rfl⟩) | (go_at_call 47; refine (result_any _ _ _).mono ?_; rintro e w1 ⟨rfl, x, rfl⟩))
    all_goals (refine bodyPost_ret (by simp only [results, Try.results74]; go_simp; rfl) rfl ?_; refine ⟨ret_R3 (by simp only [addS, h, if_true]), ?_⟩; (repeat (first | exact Kept.refl _ | assumption | refine Kept.alloc ?_ _ | refine Kept.ext ?_ _ | refine Kept.drew ?_ | refine Kept.drewN ?_ _)))
theorem apply_sub_no (al ah bl bh : Int) (w : World) (h : (validB al ah && validB bl bh) = false) :
    Calls Try.prog 74 #[.int .u8 45, .agg #[.int .i64 al, .int .i64 ah], .agg #[.int .i64 bl, .int .i64 bh]] w fun e w' => e = .returned (.tuple #[.agg #[.int .i64 (subS al ah bl bh).lo, .int .i64 (subS al ah bl bh).hi], .int .i64 (subS al ah bl bh).e]) ∧ Kept w w' := by
  go_enter Try.func74, Try.ntmps74
  go_wp2_with (first | (go_at_call 62; refine (check2_any _ _ _ _ _ _ (by simp)).mono ?_; rintro e w1 ⟨rfl, x, rfl⟩))
  all_goals (refine bodyPost_ret (by simp only [results, Try.results74]; go_simp; rfl) rfl ?_; refine ⟨ret_R3 (by simp_all [subS]), ?_⟩; (repeat (first | exact Kept.refl _ | assumption | refine Kept.alloc ?_ _ | refine Kept.ext ?_ _ | refine Kept.drew ?_ | refine Kept.drewN ?_ _)))
set_option maxHeartbeats 1000000 in
theorem apply_sub (al ah bl bh : Int) (w : World) :
    Calls Try.prog 74 #[.int .u8 45, .agg #[.int .i64 al, .int .i64 ah], .agg #[.int .i64 bl, .int .i64 bh]] w fun e w' => e = .returned (.tuple #[.agg #[.int .i64 (subS al ah bl bh).lo, .int .i64 (subS al ah bl bh).hi], .int .i64 (subS al ah bl bh).e]) ∧ Kept w w' := by
  cases h : (validB al ah && validB bl bh)
  · exact apply_sub_no al ah bl bh w h
  · obtain ⟨⟨a1, a2⟩, ⟨a3, a4⟩, ⟨a5, a6⟩, ⟨a7, a8⟩, a9, a10⟩ := fixes h
    go_enter Try.func74, Try.ntmps74
    go_wp2_with (first | (go_at_call 62; refine (check2_any _ _ _ _ _ _ (by simp)).mono ?_; rintro e w1 ⟨rfl, x, rfl⟩) | (go_at_call 78; refine (operations_any _).mono ?_; rintro e w1 ⟨rfl, rfl⟩) | (go_at_call 82; refine (allowed_any _ _ _).mono ?_; rintro e w1 ⟨rfl, x, rfl⟩) | (go_at_call 84; refine (minus_any _ _ _ _ _ (by omega)).mono ?_; rintro e w1 ⟨rfl, x, rfl⟩) | (go_at_call 47; refine (result_any _ _ _).mono ?_; rintro e w1 ⟨rfl, x, rfl⟩))
    all_goals (refine bodyPost_ret (by simp only [results, Try.results74]; go_simp; rfl) rfl ?_; refine ⟨ret_R3 (by simp only [subS, h, if_true]), ?_⟩; (repeat (first | exact Kept.refl _ | assumption | refine Kept.alloc ?_ _ | refine Kept.ext ?_ _ | refine Kept.drew ?_ | refine Kept.drewN ?_ _)))
theorem apply_mul_no (al ah bl bh : Int) (w : World) (h : (validB al ah && validB bl bh) = false) :
    Calls Try.prog 74 #[.int .u8 42, .agg #[.int .i64 al, .int .i64 ah], .agg #[.int .i64 bl, .int .i64 bh]] w fun e w' => e = .returned (.tuple #[.agg #[.int .i64 (mulS al ah bl bh).lo, .int .i64 (mulS al ah bl bh).hi], .int .i64 (mulS al ah bl bh).e]) ∧ Kept w w' := by
  go_enter Try.func74, Try.ntmps74
  go_wp2_with (first | (go_at_call 62; refine (check2_any _ _ _ _ _ _ (by simp)).mono ?_; rintro e w1 ⟨rfl, x, rfl⟩))
  all_goals (refine bodyPost_ret (by simp only [results, Try.results74]; go_simp; rfl) rfl ?_; refine ⟨ret_R3 (by simp_all [mulS]), ?_⟩; (repeat (first | exact Kept.refl _ | assumption | refine Kept.alloc ?_ _ | refine Kept.ext ?_ _ | refine Kept.drew ?_ | refine Kept.drewN ?_ _)))
set_option maxHeartbeats 1000000 in
theorem apply_mul (al ah bl bh : Int) (w : World) :
    Calls Try.prog 74 #[.int .u8 42, .agg #[.int .i64 al, .int .i64 ah], .agg #[.int .i64 bl, .int .i64 bh]] w fun e w' => e = .returned (.tuple #[.agg #[.int .i64 (mulS al ah bl bh).lo, .int .i64 (mulS al ah bl bh).hi], .int .i64 (mulS al ah bl bh).e]) ∧ Kept w w' := by
  cases h : (validB al ah && validB bl bh)
  · exact apply_mul_no al ah bl bh w h
  · obtain ⟨⟨a1, a2⟩, ⟨a3, a4⟩, ⟨a5, a6⟩, ⟨a7, a8⟩, a9, a10⟩ := fixes h
    go_enter Try.func74, Try.ntmps74
    go_wp2_with (first | (go_at_call 62; refine (check2_any _ _ _ _ _ _ (by simp)).mono ?_; rintro e w1 ⟨rfl, x, rfl⟩) | (go_at_call 78; refine (operations_any _).mono ?_; rintro e w1 ⟨rfl, rfl⟩) | (go_at_call 82; refine (allowed_any _ _ _).mono ?_; rintro e w1 ⟨rfl, x, rfl⟩) | (go_at_call 85; refine (times_any _ _ _ _ _ ⟨by omega, by omega⟩ ⟨by omega, by omega⟩ ⟨by omega, by omega⟩ ⟨by omega, by omega⟩).mono ?_; rintro e w1 ⟨rfl, x, rfl⟩) | (go_at_call 47; refine (result_any _ _ _).mono ?_; rintro e w1 ⟨rfl, x, rfl⟩))
    all_goals (refine bodyPost_ret (by simp only [results, Try.results74]; go_simp; rfl) rfl ?_; refine ⟨ret_R3 (by simp only [mulS, h, if_true]), ?_⟩; (repeat (first | exact Kept.refl _ | assumption | refine Kept.alloc ?_ _ | refine Kept.ext ?_ _ | refine Kept.drew ?_ | refine Kept.drewN ?_ _)))
theorem mul_any (al ah bl bh : Int) (w : World) :
    Calls Try.prog 66 #[.agg #[.int .i64 al, .int .i64 ah], .agg #[.int .i64 bl, .int .i64 bh]] w fun e w' => e = .returned (.tuple #[.agg #[.int .i64 (mulS al ah bl bh).lo, .int .i64 (mulS al ah bl bh).hi], .int .i64 (mulS al ah bl bh).e]) ∧ Kept w w' := by
  go_enter Try.func66, Try.ntmps66
  go_wp2_with (first | (go_at_call 74; refine (apply_mul _ _ _ _ _).mono ?_; rintro e w1 ⟨rfl, x, rfl⟩))
  all_goals (refine bodyPost_ret (by simp only [results, Try.results66]; go_simp; rfl) rfl ?_; refine ⟨rfl, ?_⟩; (repeat (first | exact Kept.refl _ | assumption | refine Kept.alloc ?_ _ | refine Kept.ext ?_ _ | refine Kept.drew ?_ | refine Kept.drewN ?_ _)))
theorem apply_div_no (al ah bl bh : Int) (w : World) (h : (validB al ah && validB bl bh) = false) :
    Calls Try.prog 74 #[.int .u8 47, .agg #[.int .i64 al, .int .i64 ah], .agg #[.int .i64 bl, .int .i64 bh]] w fun e w' => e = .returned (.tuple #[.agg #[.int .i64 (divS al ah bl bh).lo, .int .i64 (divS al ah bl bh).hi], .int .i64 (divS al ah bl bh).e]) ∧ Kept w w' := by
  go_enter Try.func74, Try.ntmps74
  go_wp2_with (first | (go_at_call 62; refine (check2_any _ _ _ _ _ _ (by simp)).mono ?_; rintro e w1 ⟨rfl, x, rfl⟩))
  all_goals (refine bodyPost_ret (by simp only [results, Try.results74]; go_simp; rfl) rfl ?_; refine ⟨ret_R3 (by simp_all [divS]), ?_⟩; (repeat (first | exact Kept.refl _ | assumption | refine Kept.alloc ?_ _ | refine Kept.ext ?_ _ | refine Kept.drew ?_ | refine Kept.drewN ?_ _)))
set_option maxHeartbeats 1000000 in
theorem apply_div (al ah bl bh : Int) (w : World) :
    Calls Try.prog 74 #[.int .u8 47, .agg #[.int .i64 al, .int .i64 ah], .agg #[.int .i64 bl, .int .i64 bh]] w fun e w' => e = .returned (.tuple #[.agg #[.int .i64 (divS al ah bl bh).lo, .int .i64 (divS al ah bl bh).hi], .int .i64 (divS al ah bl bh).e]) ∧ Kept w w' := by
  cases h : (validB al ah && validB bl bh)
  · exact apply_div_no al ah bl bh w h
  · obtain ⟨⟨a1, a2⟩, ⟨a3, a4⟩, ⟨a5, a6⟩, ⟨a7, a8⟩, a9, a10⟩ := fixes h
    by_cases z : bl ≤ 0 ∧ 0 ≤ bh
    · have e : zeroIn bl bh = 11 := if_pos z
      go_enter Try.func74, Try.ntmps74
      go_wp2_with (first | (go_at_call 62; refine (check2_any _ _ _ _ _ _ (by simp)).mono ?_; rintro e w1 ⟨rfl, x, rfl⟩) | (go_at_call 78; refine (operations_any _).mono ?_; rintro e w1 ⟨rfl, rfl⟩) | (go_at_call 89; refine (notzero_any _ _ _).mono ?_; rintro e w1 ⟨rfl, x, rfl⟩))
      all_goals (refine bodyPost_ret (by simp only [results, Try.results74]; go_simp; rfl) rfl ?_; refine ⟨ret_R3 (by simp only [divS, h, if_true]; rw [if_pos z]), ?_⟩; (repeat (first | exact Kept.refl _ | assumption | refine Kept.alloc ?_ _ | refine Kept.ext ?_ _ | refine Kept.drew ?_ | refine Kept.drewN ?_ _)))
    · have e : zeroIn bl bh = 0 := if_neg z
      go_enter Try.func74, Try.ntmps74
      go_wp2_with (first | (go_at_call 62; refine (check2_any _ _ _ _ _ _ (by simp)).mono ?_; rintro e w1 ⟨rfl, x, rfl⟩) | (go_at_call 78; refine (operations_any _).mono ?_; rintro e w1 ⟨rfl, rfl⟩) | (go_at_call 89; refine (notzero_any _ _ _).mono ?_; rintro e w1 ⟨rfl, x, rfl⟩) | (go_at_call 90; refine (quots_any _ _ _ _ _ ⟨by omega, by omega⟩ ⟨by omega, by omega⟩ ⟨by omega, by omega⟩ ⟨by omega, by omega⟩ (by omega) (by omega)).mono ?_; rintro e w1 ⟨rfl, x, rfl⟩) | (go_at_call 47; refine (result_any _ _ _).mono ?_; rintro e w1 ⟨rfl, x, rfl⟩))
      all_goals (refine bodyPost_ret (by simp only [results, Try.results74]; go_simp; rfl) rfl ?_; refine ⟨ret_R3 (by simp only [divS, h, if_true]; rw [if_neg (by omega)]), ?_⟩; (repeat (first | exact Kept.refl _ | assumption | refine Kept.alloc ?_ _ | refine Kept.ext ?_ _ | refine Kept.drew ?_ | refine Kept.drewN ?_ _)))
end Go.Proofs.Ytldchncnadllpaa
