/- Worlds that differ in the blocks of a set alone, and in new ones. Conditions: those of each theorem. -/
import Derived.Test.YtnbjealpcjfllaaGreatDoorOpr
namespace Go.Proofs.YtnbjealpcjfllaaGreatDoor
set_option linter.unusedVariables false
set_option linter.unusedSimpArgs false
open Go.RowKit
/-- All blocks but those of S lie as they lay; whatever is behind is new. -/
structure KB (S : Nat → Prop) (w w' : World) : Prop where
  os : w'.os = w.os
  tape : w'.tape = w.tape
  output : w'.output = w.output
  size : w.heap.size ≤ w'.heap.size
  block : ∀ k, k < w.heap.size → ¬ S k → w'.heap[k]? = w.heap[k]?
theorem KB.refl (S : Nat → Prop) (w : World) : KB S w w := ⟨rfl, rfl, rfl, Nat.le_refl _, fun _ _ _ => rfl⟩
theorem KB.trans2 {S S' : Nat → Prop} {a b c : World} (h : KB S a b) (k : KB S' b c) (hs : ∀ k, k < a.heap.size → S' k → S k) : KB S a c :=
  ⟨k.os.trans h.os, k.tape.trans h.tape, k.output.trans h.output, Nat.le_trans h.size k.size, fun i hi hn => (k.block i (Nat.lt_of_lt_of_le hi h.size) (fun q => hn (hs i hi q))).trans (h.block i hi hn)⟩
theorem KB.trans {S : Nat → Prop} {a b c : World} (h : KB S a b) (k : KB S b c) : KB S a c := h.trans2 k (fun _ _ q => q)
theorem KB.mono {S S' : Nat → Prop} {a b : World} (h : KB S a b) (hs : ∀ k, k < a.heap.size → S k → S' k) : KB S' a b :=
  ⟨h.os, h.tape, h.output, h.size, fun k hk hn => h.block k hk (fun q => hn (hs k hk q))⟩
theorem KB.of_kept {S : Nat → Prop} {w w' : World} (h : Kept w w') : KB S w w' :=
  ⟨h.below.os, h.below.tape, h.below.output, h.below.size, fun k hk _ => h.below.block k hk⟩
theorem KB.kept {w w' : World} (h : KB (fun _ => False) w w') : Kept w w' :=
  Kept.of_below ⟨h.os, h.tape, h.output, h.size, fun k hk => h.block k hk (fun q => q)⟩
/-- Nothing of what is older than the first world is in the set. -/
theorem KB.kept_new {S : Nat → Prop} {a w w' : World} (h0 : Kept a w) (h : KB S w w') (hs : ∀ k, k < a.heap.size → ¬ S k) : Kept a w' :=
  ((KB.of_kept (S := fun _ => False) h0).trans2 h (fun k hk q => hs k hk q)).kept
theorem KB.on {S : Nat → Prop} {a b c : World} (h : KB S a b) (k : Kept b c) : KB S a c := h.trans (KB.of_kept k)
theorem KB.alloc {S : Nat → Prop} {a w : World} (h : KB S a w) (o : Obj) : KB S a (w.alloc o) := h.on ((Kept.refl w).alloc o)
theorem KB.drew {S : Nat → Prop} {a w : World} (h : KB S a w) : KB S a w.drew := h.on ((Kept.refl w).drew)
theorem KB.ext {S : Nat → Prop} {a w : World} (h : KB S a w) (x : More) : KB S a (ext w x) := h.on ⟨x, rfl⟩
theorem KB.setCell {S : Nat → Prop} {a w : World} (h : KB S a w) {p : Addr} (hp : p.block < a.heap.size → S p.block) (u : Value) : KB S a (w.setCell p u) := by
  have hb : Below 0 w (w.setCell p u) := (Below.refl 0 w).setCell (Nat.zero_le _) u
  refine ⟨hb.os.trans h.os, hb.tape.trans h.tape, hb.output.trans h.output, Nat.le_trans h.size hb.size, fun k hk hn => ?_⟩
  refine (Below.heap_setCell w p u k (fun e => hn ?_)).trans (h.block k hk hn)
  subst e
  exact hp hk
theorem KB.grown {S : Nat → Prop} {a w w' : World} {row : Option Nat} (h : KB S a w) (hg : w.grownBy w' row) (hr : ∀ k, row = some k → k < a.heap.size → S k) : KB S a w' :=
  ⟨hg.os.trans h.os, hg.tape.trans h.tape, hg.output.trans h.output, Nat.le_trans h.size hg.size, fun k hk hn =>
    (hg.block k (Nat.lt_of_lt_of_le hk h.size) (fun e => hn (hr k e.symm hk))).trans (h.block k hk hn)⟩
theorem KB.at {S : Nat → Prop} {w w' : World} (h : KB S w w') {k : Nat} {o : Obj} (hk : w.heap[k]? = some o) (hn : ¬ S k) : w'.heap[k]? = some o :=
  (h.block k (Array.getElem?_eq_some_iff.1 hk).1 hn).trans hk
theorem KB.cell {S : Nat → Prop} {w w' : World} (h : KB S w w') {a : Addr} {v : Value} (hv : w.cell? a = some v) (hn : ¬ S a.block) : w'.cell? a = some v :=
  (World.cell?_of_block (w := w) (w' := w') (h.block a.block (World.block_lt_of_cell? w a hv) hn)).trans hv
/-- A row of the call's own, where its block lies as it lay. -/
theorem owns_same {w w' : World} {base size n : Nat} {e : TypeId} {v : Value} {xs : List Value} (h : w.ownsRow base e size v n xs) (hs : ∀ k, v.ownBlock = some k → w'.heap[k]? = w.heap[k]?) : w'.ownsRow base e size v n xs := by
  refine ⟨h.1, ?_⟩
  rcases h.2 with h2 | ⟨g, cap, cur, hv, hg, hh, r⟩
  · exact .inl h2
  · refine .inr ⟨g, cap, cur, hv, hg, ?_, r⟩
    rw [hs g (by rw [hv]; rfl)]
    exact hh
theorem KB.owns {S : Nat → Prop} {w w' : World} (k : KB S w w') {base size n : Nat} {e : TypeId} {v : Value} {xs : List Value} (h : w.ownsRow base e size v n xs) (hn : ∀ k, v.ownBlock = some k → ¬ S k) : w'.ownsRow base e size v n xs :=
  owns_same h (fun q hq => k.block q (h.lt q hq).2 (hn q hq))
/-- Where a list lies that is not written. -/
def Off (S : Nat → Prop) (A : Option Addr) : Prop := ∀ a, A = some a → ¬ S a.block
theorem KB.rows {S : Nat → Prop} {w w' : World} (k : KB S w w') {A : Option Addr} {n c : Nat} {f : Nat → Nat → Int} (h : RowsAt w A n c f) (hn : 0 < n → Off S A) : RowsAt w' A n c f := by
  intro h0
  obtain ⟨b, off, rfl, hb, hc⟩ := h h0
  refine ⟨b, off, rfl, Nat.lt_of_lt_of_le hb k.size, fun i hi j hj => ⟨?_, (hc i hi j hj).2⟩⟩
  exact k.cell (hc i hi j hj).1 (hn h0 ⟨b, off, none⟩ rfl)
end Go.Proofs.YtnbjealpcjfllaaGreatDoor
