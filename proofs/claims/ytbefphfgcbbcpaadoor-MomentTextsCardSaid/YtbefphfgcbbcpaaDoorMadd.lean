/- Contracts: sums of moments, of the program and of the reference. No conditions. -/
import Derived.Test.YtbefphfgcbbcpaaDoorMr
namespace Go.Proofs.YtbefphfgcbbcpaaDoor
set_option linter.unusedVariables false
set_option linter.unusedSimpArgs false
open Go.RowKit
def sumM (a b : Mo) : Mo := ⟨a.q + b.q, a.t + b.t, a.x + b.x, a.y + b.y, a.z + b.z, a.a + b.a, a.b + b.b, a.c + b.c, a.d + b.d, a.e + b.e, a.f + b.f⟩
def addM (a b : Mo) : MR := if okM a && okM b then toldM (sumM a b) else ⟨moZ, 1⟩
theorem ok_of {m : Mo} (h : okM m = true) : vmS m = 0 := by simp [vmS, h]
theorem bad_of {m : Mo} (h : okM m = false) : vmS m = 1 := by simp [vmS, h]
end Go.Proofs.YtbefphfgcbbcpaaDoor
