/- Contract: groups of faces around a point, of the program. Conditions: the surface is closed. -/
import Derived.Test.YtbhcjdgfcinpcaaGgr
namespace Go.Proofs.Ytbhcjdgfcinpcaa
set_option linter.unusedVariables false
set_option linter.unusedSimpArgs false
open Go.RowKit  Go.Maps
theorem sel_yes {F : Nat → Nat → Int} {pt : Int} {r : Nat} (h : selV F pt r) : (F r 0 == pt || (F r 1 == pt || F r 2 == pt)) = true := by
  obtain ⟨k, hk, e⟩ := h
  rcases (show k = 0 ∨ k = 1 ∨ k = 2 by omega) with rfl | rfl | rfl <;> simp [e]
theorem sel_no {F : Nat → Nat → Int} {pt : Int} {r : Nat} (h : ¬ selV F pt r) : (F r 0 == pt || (F r 1 == pt || F r 2 == pt)) = false := by
  have key : ∀ k, k < 3 → F r k ≠ pt := fun k hk e => h ⟨k, hk, e⟩
  simp [key 0 (by omega), key 1 (by omega), key 2 (by omega)]
theorem on_yes {F : Nat → Nat → Int} {pt : Int} {y : Nat} (q : Nat) (hq : q < 3) (h : (F y q == pt || F y ((q + 1) % 3) == pt) = true) : tl F (3 * y + q) = pt ∨ tl F (nxt (3 * y + q)) = pt := by
  rw [nxt_at y q hq, tl_at F y q hq, tl_at F y _ (Nat.mod_lt _ (by omega))]
  simpa using h
theorem on_no {F : Nat → Nat → Int} {pt : Int} {y : Nat} (q : Nat) (hq : q < 3) (h : (F y q == pt || F y ((q + 1) % 3) == pt) = false) : ¬ (tl F (3 * y + q) = pt ∨ tl F (nxt (3 * y + q)) = pt) := by
  rw [nxt_at y q hq, tl_at F y q hq, tl_at F y _ (Nat.mod_lt _ (by omega))]
  simpa using h
end Go.Proofs.Ytbhcjdgfcinpcaa
