/- Contract: whether two faces have a side in common, of the reference. No conditions. -/
import Derived.Test.YtbhcjdgfcinpcaaGcv
namespace Go.Proofs.Ytbhcjdgfcinpcaa
set_option linter.unusedVariables false
set_option linter.unusedSimpArgs false
open Go.RowKit
/-- Side i of f is side j of g turned round, and ends at pt, or pt is below 0. -/
def cmP (f g : Nat → Int) (pt : Int) (i j : Nat) : Prop := g j = f ((i + 1) % 3) ∧ g ((j + 1) % 3) = f i ∧ (pt < 0 ∨ f i = pt ∨ f ((i + 1) % 3) = pt)
def comP (f g : Nat → Int) (pt : Int) : Prop := ∃ i j, i < 3 ∧ j < 3 ∧ cmP f g pt i j
theorem comP_dec (f g : Nat → Int) (pt : Int) : ∃ b : Bool, b = true ↔ comP f g pt := by
  by_cases h : comP f g pt
  · exact ⟨true, fun _ => h, fun _ => rfl⟩
  · exact ⟨false, fun e => (by cases e), fun k => absurd k h⟩
end Go.Proofs.Ytbhcjdgfcinpcaa
