/- Small lemmas for the walks of this seat, more of them. No conditions. -/
import Derived.Test.YtoadlneneijfaaaBase
import Derived.Deep.RegionHeld3
namespace Go.Proofs.Ytoadlneneijfaaa
set_option linter.unusedVariables false
set_option linter.unusedSimpArgs false
open Go.RowKit
/-- A store into a block that the call itself has made. -/
theorem Kept.setCell {a w : World} (h : Kept a w) {p : Addr} (hp : a.heap.size ≤ p.block) (u : Value) : Kept a (w.setCell p u) :=
  Kept.of_below (h.below.setCell hp u)
theorem val_eq {k : IntKind} {a b : Int} (h : a = b) : Value.int k a = Value.int k b := by rw [h]
end Go.Proofs.Ytoadlneneijfaaa
