/- Contract: groups of faces of a list, of the reference. Conditions: the list's faces are faces of the mesh. -/
import Derived.Test.YtbhcjdgfcinpcaaGgr
import Derived.Test.YtbhcjdgfcinpcaaGrm
namespace Go.Proofs.Ytbhcjdgfcinpcaa
set_option linter.unusedVariables false
set_option linter.unusedSimpArgs false
open Go.RowKit  Go.Maps
/-- Places of a list of faces whose faces have a side in common. -/
def adjL (F : Nat → Nat → Int) (fs : Nat → Nat) (nf : Nat) (pt : Int) (a b : Nat) : Prop := b < nf ∧ comP (F (fs a)) (F (fs b)) pt
theorem rows1 {w : World} {A : Option Addr} {n k : Nat} {f : Nat → Nat → Int} (h : RowsAt w A n 1 f) (hk : k < n) : ∃ b off, A = some ⟨b, off, none⟩ ∧ b < w.heap.size ∧ w.cell? ⟨b, off + k, none⟩ = some (.int .i64 (f k 0)) := by
  obtain ⟨b, off, h1, h2, h3⟩ := h (by omega)
  refine ⟨b, off, h1, h2, ?_⟩
  have := (h3 k hk 0 (by omega)).1
  simpa using this
end Go.Proofs.Ytbhcjdgfcinpcaa
