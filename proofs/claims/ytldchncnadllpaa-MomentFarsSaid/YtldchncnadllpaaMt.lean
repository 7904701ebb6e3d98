/- Terms of far fields: what they are. Contracts: which vectors and orders are right. Conditions: those of each theorem. -/
import Derived.Test.YtldchncnadllpaaMq
import Derived.Test.YtldchncnadllpaaMsc
import Derived.Test.YtldchncnadllpaaMean
import Derived.Test.YtldchncnadllpaaInvl
namespace Go.Proofs.Ytldchncnadllpaa
set_option linter.unusedVariables false
set_option linter.unusedSimpArgs false
open Go.ChangeShapes Go.WideShapes Go.ChangeAt Go.RowKit
def nS (u0 u1 u2 : Int) : Int := u0 * u0 + u1 * u1 + u2 * u2
/-- The sum over all i and j of u_i * Second_ij * u_j. -/
def twS (a b c d e f u0 u1 u2 : Int) : Int := u0 * a * u0 + 2 * (u0 * b * u1) + 2 * (u0 * c * u2) + u1 * d * u1 + 2 * (u1 * e * u2) + u2 * f * u2
def overS (num den n : Int) : R := if (qmS num den).e = 0 then mulS (qmS num den).lo (qmS num den).hi (inverseS n 1).lo (inverseS n 1).hi else ⟨0, 0, 4⟩
def termS (m : Mo) (u0 u1 u2 k : Int) : R := if k = 0 then scaleS (inverseS (nS u0 u1 u2) 1).lo (inverseS (nS u0 u1 u2) 1).hi m.q else if k = 1 then overS (m.x * u0 + m.y * u1 + m.z * u2) (3 * nS u0 u1 u2) (nS u0 u1 u2) else overS (3 * twS m.a m.b m.c m.d m.e m.f u0 u1 u2 - nS u0 u1 u2 * (m.a + m.d + m.f)) (24 * nS u0 u1 u2 * nS u0 u1 u2) (nS u0 u1 u2)
def vecS (u0 u1 u2 k : Int) : Int := if inB u0 u1 u2 384 && frB k 0 2 then (if u0 = 0 ∧ u1 = 0 ∧ u2 = 0 then 11 else 0) else 1
def rdyS (m : Mo) (u0 u1 u2 k : Int) : Int := if okM m then vecS u0 u1 u2 k else 1
theorem inv1_ok {n : Int} (h : 1 ≤ n ∧ n ≤ 1048576) : (inverseS n 1).e = 0 := by
  have e : inverseS n 1 = invS (1 * 1 * 1099511627776) n := if_pos (by omega)
  obtain ⟨-, -, k0, k1, -⟩ := inv_bd (t := 1 * 1 * 1099511627776) (n := n) (by omega)
  rw [e]
  unfold invS
  split <;> (unfold resultS validB; rw [decide_eq_true (by omega)]; rfl)
theorem sq_bd {u : Int} (h : -384 ≤ u ∧ u ≤ 384) : 0 ≤ u * u ∧ u * u ≤ 147456 ∧ (u ≠ 0 → 1 ≤ u * u) := by
  have h1 := mul_bd 147456 h h rfl
  have e : ((u.natAbs * u.natAbs : Nat) : Int) = u * u := Int.natAbs_mul_self
  refine ⟨by omega, h1.2, fun h0 => ?_⟩
  have := Nat.mul_pos (show 0 < u.natAbs by omega) (show 0 < u.natAbs by omega)
  omega
theorem nS_bd {u0 u1 u2 : Int} (h : inB u0 u1 u2 384 = true) (h0 : ¬ (u0 = 0 ∧ u1 = 0 ∧ u2 = 0)) : 1 ≤ nS u0 u1 u2 ∧ nS u0 u1 u2 ≤ 442368 := by
  obtain ⟨c1, c2, c3, c4, c5, c6⟩ := inB_true h
  have h1 := sq_bd ⟨c1, c2⟩
  have h2 := sq_bd ⟨c3, c4⟩
  have h3 := sq_bd ⟨c5, c6⟩
  unfold nS
  refine ⟨?_, by omega⟩
  by_cases e0 : u0 = 0
  · by_cases e1 : u1 = 0
    · have := h3.2.2 (fun e2 => h0 ⟨e0, e1, e2⟩)
      omega
    · have := h2.2.2 e1
      omega
  · have := h1.2.2 e0
    omega
end Go.Proofs.Ytldchncnadllpaa
