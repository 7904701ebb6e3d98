/- Contracts of the squares of spans, of the program and of the reference. No conditions. -/
import Derived.Test.YtlkopkdbkbammaaRef
import Derived.Test.YtlkopkdbkbammaaBaseb
namespace Go.Proofs.Ytlkopkdbkbammaa
set_option linter.unusedVariables false
set_option linter.unusedSimpArgs false
open Go.RowKit
/-- The number of a span that is nearest to 0, and the farthest, without their signs. -/
def nearS (al ah : Int) : Int := max al (max (-ah) 0)
def farS (al ah : Int) : Int := max ah (-al)
def sqS (al ah : Int) : R := if validB al ah then resultS (fDown (nearS al ah) (nearS al ah)) (fUp (farS al ah) (farS al ah)) else ⟨0, 0, 1⟩
theorem fix1 {al ah : Int} (h : validB al ah = true) : Fix al ∧ Fix ah ∧ al ≤ ah := by
  have v1 := valid_bd h
  unfold Fix
  omega
set_option maxHeartbeats 1000000 in
theorem sq_any (al ah : Int) (w : World) :
    Calls Try.prog 48 #[.agg #[.int .i64 al, .int .i64 ah]] w fun e w' => e = .returned (.tuple #[.agg #[.int .i64 (sqS al ah).lo, .int .i64 (sqS al ah).hi], .int .i64 (sqS al ah).e]) ∧ Kept w w' := by
  cases h : validB al ah
  · go_enter Try.func48, Try.ntmps48
    go_wp2_with (first | (go_at_call 69; refine (check1_any _ _ _ _ (by simp)).mono ?_; rintro e w1 ⟨rfl, x, rfl⟩))
    all_goals (refine bodyPost_ret (by simp only [results, Try.results48]; go_simp; rfl) rfl ?_; refine ⟨ret_R3 (by simp_all [sqS]), ?_⟩; (repeat (first | exact Kept.refl _ | assumption | refine Kept.alloc ?_ _ | refine Kept.ext ?_ _ | refine Kept.drew ?_ | refine Kept.drewN ?_ _)))
  · obtain ⟨⟨a1, a2⟩, ⟨a3, a4⟩, a9⟩ := fix1 h
    have b1 : 0 ≤ nearS al ah ∧ nearS al ah ≤ 1099511627776 := by unfold nearS; omega
    have b2 : 0 ≤ farS al ah ∧ farS al ah ≤ 1099511627776 := by unfold farS; omega
    go_enter Try.func48, Try.ntmps48
    go_wp2_with (first | (go_at_call 69; refine (check1_any _ _ _ _ (by simp)).mono ?_; rintro e w1 ⟨rfl, x, rfl⟩) | (go_at_call 77; refine (tdown_any _ _ _ (by omega)).mono ?_; rintro e w1 ⟨rfl, rfl⟩) | (go_at_call 78; refine (tup_any _ _ _ (by omega)).mono ?_; rintro e w1 ⟨rfl, rfl⟩) | (go_at_call 58; refine (result_any _ _ _).mono ?_; rintro e w1 ⟨rfl, x, rfl⟩))
    refine bodyPost_ret (by simp only [results, Try.results48]; go_simp; rfl) rfl ?_
    exact ⟨ret_R3 (by simp only [sqS, h, if_true]; rfl), by (repeat (first | exact Kept.refl _ | assumption | refine Kept.alloc ?_ _ | refine Kept.ext ?_ _ | refine Kept.drew ?_ | refine Kept.drewN ?_ _))⟩
theorem sq_mono {x y : Int} (h : 0 ≤ x ∧ x ≤ y) : x * x ≤ y * y := Int.mul_le_mul h.2 h.2 h.1 (by omega)
theorem sq_abs {x y : Int} (h : x.natAbs ≤ y.natAbs) : x * x ≤ y * y := by
  have := Nat.mul_le_mul h h
  have e1 : x * x = ((x.natAbs * x.natAbs : Nat) : Int) := (Int.natAbs_mul_self).symm
  have e2 : y * y = ((y.natAbs * y.natAbs : Nat) : Int) := (Int.natAbs_mul_self).symm
  omega
theorem fDown_sq {x y : Int} (h : x.natAbs ≤ y.natAbs) : fDown x x ≤ fDown y y := Int.ediv_le_ediv (by decide) (sq_abs h)
theorem fUp_sq {x y : Int} (h : x.natAbs ≤ y.natAbs) : fUp x x ≤ fUp y y := by
  have := sq_abs h
  unfold fUp; omega
theorem fDown_neg (x : Int) : fDown (-x) (-x) = fDown x x := by unfold fDown; rw [Int.neg_mul_neg]
theorem fUp_neg (x : Int) : fUp (-x) (-x) = fUp x x := by unfold fUp; rw [Int.neg_mul_neg]
theorem sq_far {al ah : Int} (h : al ≤ ah) : fUp (farS al ah) (farS al ah) = max (fUp al al) (fUp ah ah) := by
  by_cases c : -al ≤ ah
  · have e : farS al ah = ah := by unfold farS; omega
    have := fUp_sq (x := al) (y := ah) (by omega)
    rw [e]; omega
  · have e : farS al ah = -al := by unfold farS; omega
    have := fUp_sq (x := ah) (y := al) (by omega)
    rw [e, fUp_neg]; omega
theorem sq_near {al ah : Int} (h : al ≤ ah) : fDown (nearS al ah) (nearS al ah) = if al ≤ 0 ∧ 0 ≤ ah then 0 else min (fDown al al) (fDown ah ah) := by
  by_cases c : al ≤ 0 ∧ 0 ≤ ah
  · rw [if_pos c]
    have e : nearS al ah = 0 := by unfold nearS; omega
    rw [e]; rfl
  · rw [if_neg c]
    by_cases p : 0 < al
    · have e : nearS al ah = al := by unfold nearS; omega
      have := fDown_sq (x := al) (y := ah) (by omega)
      rw [e]; omega
    · have e : nearS al ah = -ah := by unfold nearS; omega
      have := fDown_sq (x := ah) (y := al) (by omega)
      rw [e, fDown_neg]; omega
set_option maxHeartbeats 1000000 in
theorem rsq_any (al ah : Int) (w : World) :
    Calls Try.prog 54 #[.agg #[.int .i64 al, .int .i64 ah]] w fun e w' => e = .returned (.tuple #[.agg #[.int .i64 (sqS al ah).lo, .int .i64 (sqS al ah).hi], .int .i64 (sqS al ah).e]) ∧ Kept w w' := by
  cases h : validB al ah
  · go_enter Try.func54, Try.ntmps54
    go_wp2_with (first | (go_at_call 20; refine (rvalid_any _ _ _).mono ?_; rintro e w1 ⟨rfl, x, rfl⟩))
    all_goals (refine bodyPost_ret (by simp only [results, Try.results54]; go_simp; rfl) rfl ?_; refine ⟨ret_R3 (by simp_all [sqS]), ?_⟩; (repeat (first | exact Kept.refl _ | assumption | refine Kept.alloc ?_ _ | refine Kept.ext ?_ _ | refine Kept.drew ?_ | refine Kept.drewN ?_ _)))
  · obtain ⟨⟨a1, a2⟩, ⟨a3, a4⟩, a9⟩ := fix1 h
    go_enter Try.func54, Try.ntmps54
    go_wp2_with (first | (go_at_call 20; refine (rvalid_any _ _ _).mono ?_; rintro e w1 ⟨rfl, x, rfl⟩) | (go_at_call 81; refine (times01_any _ _ _ ⟨by omega, by omega⟩ ⟨by omega, by omega⟩).mono ?_; rintro e w1 ⟨rfl, rfl⟩) | (go_at_call 62; refine (told_any _ _ _).mono ?_; rintro e w1 ⟨rfl, x, rfl⟩))
    all_goals (refine bodyPost_ret (by simp only [results, Try.results54]; go_simp; rfl) rfl ?_; refine ⟨ret_R3 ?_, ?_⟩; rotate_left 1; ((repeat (first | exact Kept.refl _ | assumption | refine Kept.alloc ?_ _ | refine Kept.ext ?_ _ | refine Kept.drew ?_ | refine Kept.drewN ?_ _))))
    all_goals
      show resultS _ _ = sqS al ah
      simp only [sqS, h, if_true]
      rw [sq_far a9, sq_near a9]
      congr 1 <;> (first | omega | (split <;> omega))
end Go.Proofs.Ytlkopkdbkbammaa
