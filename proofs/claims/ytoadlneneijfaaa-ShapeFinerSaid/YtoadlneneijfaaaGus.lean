/- A list of bools that a call makes itself: what it holds. No conditions but those of each theorem. -/
import Derived.Test.YtoadlneneijfaaaRow
import Derived.Test.YtoadlneneijfaaaMap
import Derived.Laws.OwnMore
import Derived.Deep.OwnRows
namespace Go.Proofs.Ytoadlneneijfaaa
set_option linter.unusedVariables false
set_option linter.unusedSimpArgs false
open Go.RowKit
/-- Block ub holds n bools, u j at place j. -/
structure RowU (w : World) (ub n : Nat) (u : Nat → Bool) : Prop where
  cell : ∀ j, j < n → w.cell? ⟨ub, j, none⟩ = some (.bool (u j))
  froz : ∀ j, j < n → w.frozen? ⟨ub, j, none⟩ = false
  lt : ub < w.heap.size
theorem RowU.kept {w w' : World} {ub n : Nat} {u : Nat → Bool} (h : RowU w ub n u) (hk : Kept w w') : RowU w' ub n u := by
  obtain ⟨x, rfl⟩ := hk
  have L : Lower ub w.heap.size := ⟨h.lt⟩
  exact ⟨fun j hj => by rw [ext_cell]; exact h.cell j hj, fun j hj => by rw [ext_frozen]; exact h.froz j hj, by rw [ext_size]; exact Nat.lt_of_lt_of_le h.lt (adv_le _ _)⟩
theorem RowU.congr {w : World} {ub n : Nat} {u v : Nat → Bool} (h : RowU w ub n u) (he : ∀ j, j < n → u j = v j) : RowU w ub n v :=
  ⟨fun j hj => by rw [h.cell j hj, he j hj], h.froz, h.lt⟩
theorem RowU.made (w : World) (n : Nat) (e : TypeId) : RowU (w.alloc (.cells (madeCells #[.bool false] n) e)) w.heap.size n fun _ => false := by
  refine ⟨fun j hj => ?_, fun j hj => ?_, by simp⟩
  · unfold World.cell?
    simp only [heap_alloc_new]
    simp [madeCells, hj, Nat.mod_one]
  · unfold World.frozen?
    simp only [heap_alloc_new]
    simp
theorem RowU.stored {w : World} {ub n : Nat} {u : Nat → Bool} (h : RowU w ub n u) (j : Nat) (hj : j < n) (b : Bool) :
    RowU (w.setCell ⟨ub, j, none⟩ (.bool b)) ub n (fun i => if i = j then b else u i) ∧ w.grownBy (w.setCell ⟨ub, j, none⟩ (.bool b)) (some ub) := by
  refine ⟨⟨fun i hi => ?_, fun i hi => ?_, by simpa using h.lt⟩, ⟨rfl, rfl, rfl, by simp, fun k _ hk => heap_setCell_other w ⟨ub, j, none⟩ k _ (fun e => hk (by simp [e]))⟩⟩
  · by_cases e : i = j
    · subst e
      rw [if_pos rfl]
      exact World.cell?_setCell_same _ _ _ (h.cell i hi)
    · rw [if_neg e, World.cell?_setCell_other (h := fun q => by injection q with _ q2; exact e q2.symm)]
      exact h.cell i hi
  · rw [World.frozen?_setCell]
    exact h.froz i hi
theorem wp_putU (w : World) {ops : Array Oper} {rest : List Oper} {o : Oper} {a : Act} {Q : Exit → Act → World → Prop}
    (hg : o.guard = none) (x v : Operand) (hop : o.op = Op.store 4 x v) (ub n : Nat) (u : Nat → Bool) (hU : RowU w ub n u) (j : Nat) (b : Bool)
    (hx : a.eval x = .pointer (some ⟨ub, j, none⟩)) (hv : a.eval v = .bool b) (hj : j < n)
    (hK : ∀ w', RowU w' ub n (fun i => if i = j then b else u i) → w.grownBy w' (some ub) → wpList Try.prog ops Q rest (a.put o.dst undef) w') : wpList Try.prog ops Q (o :: rest) a w := by
  refine wpList_plain hg fun K' hK' => ?_
  obtain ⟨h1, h2⟩ := hU.stored j hj b
  have hc := hU.cell j hj
  have hf := hU.froz j hj
  have := hK' _ _ (hK _ h1 h2)
  clear hK hK' h1 h2
  obtain ⟨dst, op, type, pos, after, guard⟩ := o
  simp only at hop
  subst hop
  unfold Oper.wp
  simp only [execOp, hx, hv]
  go_simp
  exact this
end Go.Proofs.Ytoadlneneijfaaa
