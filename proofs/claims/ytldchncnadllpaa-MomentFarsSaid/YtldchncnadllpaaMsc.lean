/- Contracts: traces, orders and scaled moments, of the program and of the reference. No conditions. -/
import Derived.Test.YtldchncnadllpaaMadd
import Derived.Test.YtldchncnadllpaaArq
namespace Go.Proofs.Ytldchncnadllpaa
set_option linter.unusedVariables false
set_option linter.unusedSimpArgs false
open Go.RowKit
def traceM (m : Mo) : Int := if okM m then m.a + m.d + m.f else 0
def neutM (m : Mo) : Int := if okM m then (if m.q ≠ 0 then 0 else if m.x ≠ 0 ∨ m.y ≠ 0 ∨ m.z ≠ 0 then 1 else if m.a ≠ 0 ∨ m.b ≠ 0 ∨ m.c ≠ 0 ∨ m.d ≠ 0 ∨ m.e ≠ 0 ∨ m.f ≠ 0 then 2 else 3) else 0
def scM (m : Mo) (k : Int) : Mo := ⟨m.q, m.t, k * m.x, k * m.y, k * m.z, m.a * (k * k), m.b * (k * k), m.c * (k * k), m.d * (k * k), m.e * (k * k), m.f * (k * k)⟩
def scaleM (m : Mo) (k : Int) : MR := if okM m && frB k 1 128 then toldM (scM m k) else ⟨moZ, 1⟩
set_option maxRecDepth 100000 in
theorem mtr0_any (m0 m1 m2 m3 m4 m5 m6 m7 m8 m9 m10 : Int) (w : World) (h : (-1125899906842624 ≤ m5 ∧ m5 ≤ 1125899906842624) ∧ (-1125899906842624 ≤ m8 ∧ m8 ≤ 1125899906842624) ∧ (-1125899906842624 ≤ m10 ∧ m10 ≤ 1125899906842624)) :
    Calls Try.prog 38 #[.agg #[.int .i64 m0, .int .i64 m1, .int .i64 m2, .int .i64 m3, .int .i64 m4, .int .i64 m5, .int .i64 m6, .int .i64 m7, .int .i64 m8, .int .i64 m9, .int .i64 m10]] w fun r w' => r = .returned (.int .i64 (m5 + m8 + m10)) ∧ Kept w w' := by
  go_enter Try.func38, Try.ntmps38
  go_wp2
  go_ret
  exact ⟨rfl, by (repeat (first | exact Kept.refl _ | assumption | refine Kept.alloc ?_ _ | refine Kept.ext ?_ _ | refine Kept.drew ?_ | refine Kept.drewN ?_ _))⟩
end Go.Proofs.Ytldchncnadllpaa
