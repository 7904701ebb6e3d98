/- Contract: all choices of k rows and columns, each given to a function value. Conditions: what that function value does. -/
import Derived.Test.YtjadpehpempjoaaMbr
import Derived.Scope
namespace Go.Proofs.Ytjadpehpempjoaa
set_option linter.unusedVariables false
set_option linter.unusedSimpArgs false
open Go.RowKit Go.Deep
/-- The blocks from b on that were there are as they were. -/
def FromOn (b : Nat) (w w' : World) : Prop := w.heap.size ≤ w'.heap.size ∧ ∀ g, b ≤ g → g < w.heap.size → w'.heap[g]? = w.heap[g]?
theorem FromOn.owns {b size n : Nat} {w w' : World} {e : TypeId} {v : Value} {xs : List Value} (h : FromOn b w w') (ho : w.ownsRow b e size v n xs) : w'.ownsRow b e size v n xs := by
  refine ⟨ho.1, ?_⟩
  rcases ho.2 with h0 | ⟨g, cap, cur, hv, hb, hg, h1, h2, h3, h4⟩
  · exact .inl h0
  · refine .inr ⟨g, cap, cur, hv, hb, ?_, h1, h2, h3, h4⟩
    rw [h.2 g hb (Array.getElem?_eq_some_iff.1 hg).1]
    exact hg
theorem own_lo2 {w : World} {b b' size n : Nat} {e : TypeId} {v : Value} {xs : List Value} (h : w.ownsRow b e size v n xs) (hb : b' ≤ b) : w.ownsRow b' e size v n xs := by
  refine ⟨h.1, ?_⟩
  rcases h.2 with h0 | ⟨g, cap, cur, hv, hg, hr⟩
  · exact .inl h0
  · exact .inr ⟨g, cap, cur, hv, Nat.le_trans hb hg, hr⟩
end Go.Proofs.Ytjadpehpempjoaa
