/- Contracts: common parts, inclusion and order of spans, and the statement SpanMeets. No conditions. -/
import Derived.Test.YtlkopkdbkbammaaChk
import Derived.Test.YtlkopkdbkbammaaQuob
namespace Go.Proofs.Ytlkopkdbkbammaa
set_option linter.unusedVariables false
set_option linter.unusedSimpArgs false
open Go.ChangeShapes Go.WideShapes Go.ChangeAt Go.RowKit
structure M where
  lo : Int
  hi : Int
  ok : Bool
  e : Int
theorem ret_M {a : M} {x y z : Int} {b : Bool} (h : ⟨x, y, b, z⟩ = a) : Ending.returned (.tuple #[.agg #[.int .i64 x, .int .i64 y], .bool b, .int .i64 z]) = Ending.returned (.tuple #[.agg #[.int .i64 a.lo, .int .i64 a.hi], .bool a.ok, .int .i64 a.e]) := by rw [← h]
def meetS (al ah bl bh : Int) : M := if validB al ah && validB bl bh then (if max al bl ≤ min ah bh then ⟨max al bl, min ah bh, true, 0⟩ else ⟨0, 0, false, 0⟩) else ⟨0, 0, false, 1⟩
def withinS (al ah bl bh : Int) : Bool := validB al ah && validB bl bh && decide (bl ≤ al ∧ ah ≤ bh)
def cmpS (al ah bl bh : Int) : Int := if validB al ah && validB bl bh then (if ah < bl then -1 else if bh < al then 1 else 0) else 0
def err2 (al ah bl bh : Int) : Int := if validB al ah && validB bl bh then 0 else 1
theorem ret_two {a b : Bool} {x y : Int} (h : a = b) (k : x = y) : Ending.returned (.tuple #[.bool a, .int .i64 x]) = Ending.returned (.tuple #[.bool b, .int .i64 y]) := by rw [h, k]
theorem ret_int2 {a b : Int} {x y : Int} (h : a = b) (k : x = y) : Ending.returned (.tuple #[.int .i64 a, .int .i64 x]) = Ending.returned (.tuple #[.int .i64 b, .int .i64 y]) := by rw [h, k]
set_option maxHeartbeats 400000 in
theorem meet_any (al ah bl bh : Int) (w : World) :
    Calls Try.prog 28 #[.agg #[.int .i64 al, .int .i64 ah], .agg #[.int .i64 bl, .int .i64 bh]] w fun e w' => e = .returned (.tuple #[.agg #[.int .i64 (meetS al ah bl bh).lo, .int .i64 (meetS al ah bl bh).hi], .bool (meetS al ah bl bh).ok, .int .i64 (meetS al ah bl bh).e]) ∧ Kept w w' := by
  cases h : (validB al ah && validB bl bh)
  · go_enter Try.func28, Try.ntmps28
    go_wp2_with (first | (go_at_call 69; refine (check2_any _ _ _ _ _ _ (by simp)).mono ?_; rintro e w1 ⟨rfl, x, rfl⟩))
    all_goals (refine bodyPost_ret (by simp only [results, Try.results28]; go_simp; rfl) rfl ?_; refine ⟨ret_M (by simp_all [meetS]), ?_⟩; (repeat (first | exact Kept.refl _ | assumption | refine Kept.alloc ?_ _ | refine Kept.ext ?_ _ | refine Kept.drew ?_ | refine Kept.drewN ?_ _)))
  · by_cases hm : max al bl ≤ min ah bh
    all_goals
      go_enter Try.func28, Try.ntmps28
      go_wp2_with (first | (go_at_call 69; refine (check2_any _ _ _ _ _ _ (by simp)).mono ?_; rintro e w1 ⟨rfl, x, rfl⟩))
      all_goals (refine bodyPost_ret (by simp only [results, Try.results28]; go_simp; rfl) rfl ?_; refine ⟨ret_M (by simp only [meetS, h, if_true]; first | (rw [if_pos (by omega)]; done) | (rw [if_neg (by omega)]; done)), ?_⟩; (repeat (first | exact Kept.refl _ | assumption | refine Kept.alloc ?_ _ | refine Kept.ext ?_ _ | refine Kept.drew ?_ | refine Kept.drewN ?_ _)))
set_option maxHeartbeats 400000 in
theorem rmeet_any (al ah bl bh : Int) (w : World) :
    Calls Try.prog 29 #[.agg #[.int .i64 al, .int .i64 ah], .agg #[.int .i64 bl, .int .i64 bh]] w fun e w' => e = .returned (.tuple #[.agg #[.int .i64 (meetS al ah bl bh).lo, .int .i64 (meetS al ah bl bh).hi], .bool (meetS al ah bl bh).ok, .int .i64 (meetS al ah bl bh).e]) ∧ Kept w w' := by
  cases ha : validB al ah <;> cases hb : validB bl bh
  all_goals
    go_enter Try.func29, Try.ntmps29
    go_wp2_with (first | (go_at_call 20; refine (rvalid_any _ _ _).mono ?_; rintro e w1 ⟨rfl, x, rfl⟩))
    all_goals (refine bodyPost_ret (by simp only [results, Try.results29]; go_simp; rfl) rfl ?_; refine ⟨ret_M (by simp only [meetS, ha, hb, Bool.and_self, Bool.and_false, Bool.false_and, Bool.false_eq_true, if_true, if_false]; try (first | (rw [if_pos (by omega)]; simp only [M.mk.injEq, and_true, true_and]; omega) | (rw [if_neg (by omega)]; done))), ?_⟩; (repeat (first | exact Kept.refl _ | assumption | refine Kept.alloc ?_ _ | refine Kept.ext ?_ _ | refine Kept.drew ?_ | refine Kept.drewN ?_ _)))
set_option maxHeartbeats 400000 in
theorem inside_any (al ah bl bh : Int) (w : World) :
    Calls Try.prog 30 #[.agg #[.int .i64 al, .int .i64 ah], .agg #[.int .i64 bl, .int .i64 bh]] w fun e w' => e = .returned (.tuple #[.bool (withinS al ah bl bh), .int .i64 (err2 al ah bl bh)]) ∧ Kept w w' := by
  cases h : (validB al ah && validB bl bh)
  all_goals
    go_enter Try.func30, Try.ntmps30
    go_wp2_with (first | (go_at_call 69; refine (check2_any _ _ _ _ _ _ (by simp)).mono ?_; rintro e w1 ⟨rfl, x, rfl⟩))
    all_goals (refine bodyPost_ret (by simp only [results, Try.results30]; go_simp; rfl) rfl ?_; refine ⟨ret_two (by simp [withinS, h]; try omega) (by simp [err2, h]), ?_⟩; (repeat (first | exact Kept.refl _ | assumption | refine Kept.alloc ?_ _ | refine Kept.ext ?_ _ | refine Kept.drew ?_ | refine Kept.drewN ?_ _)))
set_option maxHeartbeats 400000 in
theorem rinside_any (al ah bl bh : Int) (w : World) :
    Calls Try.prog 31 #[.agg #[.int .i64 al, .int .i64 ah], .agg #[.int .i64 bl, .int .i64 bh]] w fun e w' => e = .returned (.tuple #[.bool (withinS al ah bl bh), .int .i64 (err2 al ah bl bh)]) ∧ Kept w w' := by
  cases ha : validB al ah <;> cases hb : validB bl bh
  all_goals
    go_enter Try.func31, Try.ntmps31
    go_wp2_with (first | (go_at_call 20; refine (rvalid_any _ _ _).mono ?_; rintro e w1 ⟨rfl, x, rfl⟩))
    all_goals (refine bodyPost_ret (by simp only [results, Try.results31]; go_simp; rfl) rfl ?_; refine ⟨ret_two (by simp [withinS, ha, hb]; try omega) (by simp [err2, ha, hb]), ?_⟩; (repeat (first | exact Kept.refl _ | assumption | refine Kept.alloc ?_ _ | refine Kept.ext ?_ _ | refine Kept.drew ?_ | refine Kept.drewN ?_ _)))
set_option maxHeartbeats 400000 in
theorem cmp_any (al ah bl bh : Int) (w : World) :
    Calls Try.prog 32 #[.agg #[.int .i64 al, .int .i64 ah], .agg #[.int .i64 bl, .int .i64 bh]] w fun e w' => e = .returned (.tuple #[.int .i64 (cmpS al ah bl bh), .int .i64 (err2 al ah bl bh)]) ∧ Kept w w' := by
  cases h : (validB al ah && validB bl bh)
  all_goals
    go_enter Try.func32, Try.ntmps32
    go_wp2_with (first | (go_at_call 69; refine (check2_any _ _ _ _ _ _ (by simp)).mono ?_; rintro e w1 ⟨rfl, x, rfl⟩))
    all_goals (refine bodyPost_ret (by simp only [results, Try.results32]; go_simp; rfl) rfl ?_; refine ⟨ret_int2 (by simp only [cmpS, h, Bool.false_eq_true, if_true, if_false]; try omega) (by simp [err2, h]), ?_⟩; (repeat (first | exact Kept.refl _ | assumption | refine Kept.alloc ?_ _ | refine Kept.ext ?_ _ | refine Kept.drew ?_ | refine Kept.drewN ?_ _)))
set_option maxHeartbeats 400000 in
theorem rcmp_any (al ah bl bh : Int) (w : World) :
    Calls Try.prog 33 #[.agg #[.int .i64 al, .int .i64 ah], .agg #[.int .i64 bl, .int .i64 bh]] w fun e w' => e = .returned (.tuple #[.int .i64 (cmpS al ah bl bh), .int .i64 (err2 al ah bl bh)]) ∧ Kept w w' := by
  cases ha : validB al ah <;> cases hb : validB bl bh
  all_goals
    go_enter Try.func33, Try.ntmps33
    go_wp2_with (first | (go_at_call 20; refine (rvalid_any _ _ _).mono ?_; rintro e w1 ⟨rfl, x, rfl⟩))
    all_goals (refine bodyPost_ret (by simp only [results, Try.results33]; go_simp; rfl) rfl ?_; refine ⟨ret_int2 (by simp only [cmpS, ha, hb, Bool.and_self, Bool.and_false, Bool.false_and, Bool.false_eq_true, if_true, if_false]; try omega) (by simp [err2, ha, hb]), ?_⟩; (repeat (first | exact Kept.refl _ | assumption | refine Kept.alloc ?_ _ | refine Kept.ext ?_ _ | refine Kept.drew ?_ | refine Kept.drewN ?_ _)))
end Go.Proofs.Ytlkopkdbkbammaa
