/- Contracts of the squares of spans, of the program and of the reference. No conditions. -/
import Derived.Test.YtldchncnadllpaaRef
import Derived.Test.YtldchncnadllpaaBaseb
namespace Go.Proofs.Ytldchncnadllpaa
set_option linter.unusedVariables false
set_option linter.unusedSimpArgs false
open Go.RowKit
/-- The number of a span that is nearest to 0, and the farthest, without their signs. -/
def nearS (al ah : Int) : Int := max al (max (-ah) 0)
def farS (al ah : Int) : Int := max ah (-al)
def sqS (al ah : Int) : R := if validB al ah then resultS (fDown (nearS al ah) (nearS al ah)) (fUp (farS al ah) (farS al ah)) else ⟨0, 0, 1⟩
theorem fix1 {al ah : Int} (h : validB al ah = true) : Fix al ∧ Fix ah ∧ al ≤ ah := by
  have v1 := valid_bd h
  unfold Fix
  omega
theorem sq_mono {x y : Int} (h : 0 ≤ x ∧ x ≤ y) : x * x ≤ y * y := Int.mul_le_mul h.2 h.2 h.1 (by omega)
theorem sq_abs {x y : Int} (h : x.natAbs ≤ y.natAbs) : x * x ≤ y * y := by
  have := Nat.mul_le_mul h h
  have e1 : x * x = ((x.natAbs * x.natAbs : Nat) : Int) := (Int.natAbs_mul_self).symm
  have e2 : y * y = ((y.natAbs * y.natAbs : Nat) : Int) := (Int.natAbs_mul_self).symm
  omega
theorem fDown_sq {x y : Int} (h : x.natAbs ≤ y.natAbs) : fDown x x ≤ fDown y y := Int.ediv_le_ediv (by decide) (sq_abs h)
theorem fUp_sq {x y : Int} (h : x.natAbs ≤ y.natAbs) : fUp x x ≤ fUp y y := by
  have := sq_abs h
  unfold fUp; omega
theorem fDown_neg (x : Int) : fDown (-x) (-x) = fDown x x := by unfold fDown; rw [Int.neg_mul_neg]
theorem fUp_neg (x : Int) : fUp (-x) (-x) = fUp x x := by unfold fUp; rw [Int.neg_mul_neg]
theorem sq_far {al ah : Int} (h : al ≤ ah) : fUp (farS al ah) (farS al ah) = max (fUp al al) (fUp ah ah) := by
  by_cases c : -al ≤ ah
  · have e : farS al ah = ah := by unfold farS; omega
    have := fUp_sq (x := al) (y := ah) (by omega)
    rw [e]; omega
  · have e : farS al ah = -al := by unfold farS; omega
    have := fUp_sq (x := ah) (y := al) (by omega)
    rw [e, fUp_neg]; omega
theorem sq_near {al ah : Int} (h : al ≤ ah) : fDown (nearS al ah) (nearS al ah) = if al ≤ 0 ∧ 0 ≤ ah then 0 else min (fDown al al) (fDown ah ah) := by
  by_cases c : al ≤ 0 ∧ 0 ≤ ah
  · rw [if_pos c]
    have e : nearS al ah = 0 := by unfold nearS; omega
    rw [e]; rfl
  · rw [if_neg c]
    by_cases p : 0 < al
    · have e : nearS al ah = al := by unfold nearS; omega
      have := fDown_sq (x := al) (y := ah) (by omega)
      rw [e]; omega
    · have e : nearS al ah = -ah := by unfold nearS; omega
      have := fDown_sq (x := ah) (y := al) (by omega)
      rw [e, fDown_neg]; omega
end Go.Proofs.Ytldchncnadllpaa
