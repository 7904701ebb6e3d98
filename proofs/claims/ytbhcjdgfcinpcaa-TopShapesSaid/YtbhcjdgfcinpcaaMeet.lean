/- Contracts: common parts, inclusion and order of spans, and the statement SpanMeets. No conditions. -/
import Derived.Test.YtbhcjdgfcinpcaaChk
import Derived.Test.YtbhcjdgfcinpcaaQuob
namespace Go.Proofs.Ytbhcjdgfcinpcaa
set_option linter.unusedVariables false
set_option linter.unusedSimpArgs false
open Go.ChangeShapes Go.WideShapes Go.ChangeAt Go.RowKit
structure M where
  lo : Int
  hi : Int
  ok : Bool
  e : Int
theorem ret_M {a : M} {x y z : Int} {b : Bool} (h : ⟨x, y, b, z⟩ = a) : Ending.returned (.tuple #[.agg #[.int .i64 x, .int .i64 y], .bool b, .int .i64 z]) = Ending.returned (.tuple #[.agg #[.int .i64 a.lo, .int .i64 a.hi], .bool a.ok, .int .i64 a.e]) := by rw [← h]
def meetS (al ah bl bh : Int) : M := if validB al ah && validB bl bh then (if max al bl ≤ min ah bh then ⟨max al bl, min ah bh, true, 0⟩ else ⟨0, 0, false, 0⟩) else ⟨0, 0, false, 1⟩
def withinS (al ah bl bh : Int) : Bool := validB al ah && validB bl bh && decide (bl ≤ al ∧ ah ≤ bh)
def cmpS (al ah bl bh : Int) : Int := if validB al ah && validB bl bh then (if ah < bl then -1 else if bh < al then 1 else 0) else 0
def err2 (al ah bl bh : Int) : Int := if validB al ah && validB bl bh then 0 else 1
set_option maxHeartbeats 400000 in
theorem meet_any (al ah bl bh : Int) (w : World) :
    Calls Try.prog 43 #[.agg #[.int .i64 al, .int .i64 ah], .agg #[.int .i64 bl, .int .i64 bh]] w fun e w' => e = .returned (.tuple #[.agg #[.int .i64 (meetS al ah bl bh).lo, .int .i64 (meetS al ah bl bh).hi], .bool (meetS al ah bl bh).ok, .int .i64 (meetS al ah bl bh).e]) ∧ Kept w w' := by
  cases h : (validB al ah && validB bl bh)
  · go_enter Try.func43, Try.ntmps43
    go_wp2_with (first | (go_at_call 39; refine (check2_any _ _ _ _ _ _ (by simp)).mono ?_; rintro e w1 ⟨rfl, x, rfl⟩))
    all_goals (refine bodyPost_ret (by simp only [results, Try.results43]; go_simp; rfl) rfl ?_; refine ⟨ret_M (by simp_all [meetS]), ?_⟩; (repeat (first | exact Kept.refl _ | assumption | refine Kept.alloc ?_ _ | refine Kept.ext ?_ _ | refine Kept.drew ?_ | refine Kept.drewN ?_ _)))
  · by_cases hm : max al bl ≤ min ah bh
    all_goals
      go_enter Try.func43, Try.ntmps43
      go_wp2_with (first | (go_at_call 39; refine (check2_any _ _ _ _ _ _ (by simp)).mono ?_; rintro e w1 ⟨rfl, x, rfl⟩))
      all_goals (refine bodyPost_ret (by simp only [results, Try.results43]; go_simp; rfl) rfl ?_; refine ⟨ret_M (by simp only [meetS, h, if_true]; first | (rw [if_pos (by omega)]; done) | (rw [if_neg (by omega)]; done)), ?_⟩; (repeat (first | exact Kept.refl _ | assumption | refine Kept.alloc ?_ _ | refine Kept.ext ?_ _ | refine Kept.drew ?_ | refine Kept.drewN ?_ _)))
end Go.Proofs.Ytbhcjdgfcinpcaa
