/- What lies in memory that a call has made: cells of the new blocks by their numbers. No conditions but those of each theorem. -/
import Derived.Test.YtoadlneneijfaaaBaseb
namespace Go.Proofs.Ytoadlneneijfaaa
set_option linter.unusedVariables false
set_option linter.unusedSimpArgs false
open Go.RowKit
/-- Cell o of new block i. -/
def More.cell (x : More) (i o : Nat) : Option Value := match x.obs[i]? with
  | some (.cells c _ _) => c[o]?
  | _ => none
def More.froz (x : More) (i o : Nat) : Bool := match x.obs[i]? with
  | some (.cells _ _ (lo, hi)) => lo ≤ o && o < hi
  | _ => false
/-- The same with v in cell o of new block i. -/
def More.put (x : More) (i o : Nat) (v : Value) : More := ⟨x.draws, x.obs.modify i fun
  | .cells c elem frozen => .cells (c.setIfInBounds o v) elem frozen
  | b => b⟩
theorem ext_at {w : World} {x : More} {n i : Nat} [h : SizeIs w n] : (ext w x).heap[adv n i]? = x.obs[i]? := by
  have e := h.eq
  subst e
  show (w.heap ++ x.obs)[w.heap.size + i]? = x.obs[i]?
  rw [Array.getElem?_append_right (by omega), show w.heap.size + i - w.heap.size = i by omega]
@[go_sem] theorem ext_cell_in (w : World) (x : More) (i o n : Nat) [SizeIs w n] : (ext w x).cell? ⟨adv n i, o, none⟩ = x.cell i o := by
  unfold World.cell? More.cell
  simp only [ext_at]
  rfl
@[go_sem] theorem ext_frozen_in (w : World) (x : More) (i o n : Nat) [SizeIs w n] : (ext w x).frozen? ⟨adv n i, o, none⟩ = x.froz i o := by
  unfold World.frozen? More.froz
  simp only [ext_at]
  rfl
@[go_sem] theorem ext_store_in (w : World) (x : More) (i o n : Nat) (v : Value) [h : SizeIs w n] : (ext w x).setCell ⟨adv n i, o, none⟩ v = ext w (x.put i o v) := by
  have e := h.eq
  subst e
  unfold ext World.setCell More.put adv
  simp only [World.mk.injEq, and_true, true_and]
  apply Array.ext_getElem?
  intro k
  rw [Array.getElem?_modify, Array.getElem?_append, Array.getElem?_append, Array.getElem?_modify]
  by_cases hk : w.heap.size + i = k
  · subst hk
    rw [if_neg (show ¬ w.heap.size + i < w.heap.size by omega), if_neg (show ¬ w.heap.size + i < w.heap.size by omega), show w.heap.size + i - w.heap.size = i by omega]
    rw [if_pos rfl, if_pos rfl]
    congr
  · by_cases hlt : k < w.heap.size
    · simp [hk, hlt]
    · rw [if_neg hk, if_neg hlt, if_neg hlt, if_neg (by omega)]
@[simp, go_sem] theorem put_size (x : More) (i o : Nat) (v : Value) : (x.put i o v).obs.size = x.obs.size := by simp [More.put]
@[simp, go_sem] theorem put_draws (x : More) (i o : Nat) (v : Value) : (x.put i o v).draws = x.draws := rfl
@[go_sem] theorem put_cell_same (x : More) (i o : Nat) (v : Value) : (x.put i o v).cell i o = (x.cell i o).map fun _ => v := by
  unfold More.cell More.put
  simp only [Array.getElem?_modify, if_true]
  cases h : x.obs[i]? with
  | none => rfl
  | some b =>
    cases b with
    | cells c e f =>
      simp only [Option.map_some]
      rw [Array.getElem?_setIfInBounds_self]
      by_cases ho : o < c.size
      · simp [ho]
      · simp [ho]
    | _ => rfl
theorem put_cell_off {x : More} {i j o p : Nat} {v : Value} (h : o ≠ p) : (x.put i o v).cell j p = x.cell j p := by
  unfold More.cell More.put
  simp only [Array.getElem?_modify]
  by_cases hij : i = j
  · subst hij
    simp only [if_true]
    cases hb : x.obs[i]? with
    | none => rfl
    | some b =>
      cases b with
      | cells c e f => simp [Array.getElem?_setIfInBounds_ne h]
      | _ => rfl
  · simp [hij]
theorem put_cell_block {x : More} {i j o p : Nat} {v : Value} (h : i ≠ j) : (x.put i o v).cell j p = x.cell j p := by
  unfold More.cell More.put
  simp only [Array.getElem?_modify, if_neg h]
theorem put_froz (x : More) (i j o p : Nat) (v : Value) : (x.put i o v).froz j p = x.froz j p := by
  unfold More.froz More.put
  simp only [Array.getElem?_modify]
  by_cases hij : i = j
  · subst hij
    simp only [if_true]
    cases hb : x.obs[i]? with
    | none => rfl
    | some b => cases b <;> rfl
  · simp [hij]
attribute [go_sem] put_froz
instance lower_adv2 (n i k : Nat) [h : Lower i k] : Lower (adv n i) (adv n k) := ⟨Nat.add_lt_add_left h.lt n⟩
/-- Two new blocks, by their numbers. -/
theorem kept_at2 {W w' : World} {n b1 b2 : Nat} [hs : SizeIs W n] (h : Kept W w') (h1 : n ≤ b1 ∧ b1 < w'.heap.size) (h2 : n ≤ b2 ∧ b2 < w'.heap.size) :
    ∃ y i j, w' = ext W y ∧ b1 = adv n i ∧ b2 = adv n j ∧ i < y.obs.size ∧ j < y.obs.size ∧ (∀ o, y.cell i o = w'.cell? ⟨b1, o, none⟩) ∧ (∀ o, y.cell j o = w'.cell? ⟨b2, o, none⟩) := by
  obtain ⟨y, rfl⟩ := h
  have e := hs.eq
  simp only [ext_size, adv] at h1 h2
  refine ⟨y, b1 - n, b2 - n, rfl, by unfold adv; omega, by unfold adv; omega, by omega, by omega, fun o => ?_, fun o => ?_⟩
  · have := ext_cell_in W y (b1 - n) o n
    rw [← this]
    unfold adv
    rw [show n + (b1 - n) = b1 by omega]
  · have := ext_cell_in W y (b2 - n) o n
    rw [← this]
    unfold adv
    rw [show n + (b2 - n) = b2 by omega]
end Go.Proofs.Ytoadlneneijfaaa
