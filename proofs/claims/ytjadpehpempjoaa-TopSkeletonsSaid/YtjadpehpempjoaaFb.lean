/- An element appended to a list of the call's own, in a region that draws its order and reads two cells of another block meanwhile: what is known at each step. Conditions: those of each theorem. Contracts: products of skeletons, of the reference. Conditions: the lists' lengths are ints. -/
import Derived.Test.YtjadpehpempjoaaFa
namespace Go.Proofs.Ytjadpehpempjoaa
set_option linter.unusedVariables false
set_option linter.unusedSimpArgs false
open Go.RowKit Go.Deep
/-- Operation p makes the list of one element, operation a appends it. -/
structure AqI (p a : Nat) (W : World) (cb : Nat) (c0 c1 : Value) (e : TypeId) (c : Nat) (v : Value) (k : Nat) (xs : List Value) (cs : Array Value) (ys : List Value) (L : Nat → Bool) (b : Nat → Value) (w' : World) : Prop where
  kept : Kept W w'
  c0 : w'.cell? ⟨cb, 0, none⟩ = some c0
  c1 : w'.cell? ⟨cb, 1, none⟩ = some c1
  cl : cb < w'.heap.size
  ne : some cb ≠ v.ownBlock
  pa : L a = true → L p = true
  pre : L a = false → w'.ownsRow W.heap.size e c v k xs
  lit : L p = true → L a = false → ∃ g, b p = .slice (some ⟨g, 0, none⟩) 1 1 ∧ w'.heap[g]? = some (.cells cs e (0, 0))
  res : L a = true → w'.ownsRow W.heap.size e c (b a) (k + 1) ys
section
variable {p a : Nat} {W : World} {cb : Nat} {c0 c1 : Value} {e : TypeId} {c : Nat} {v : Value} {k : Nat} {xs : List Value} {cs : Array Value} {ys : List Value} {L : Nat → Bool} {b : Nat → Value} {w' w'' : World}
theorem AqI.start (hk : Kept W w') (h0 : w'.cell? ⟨cb, 0, none⟩ = some c0) (h1 : w'.cell? ⟨cb, 1, none⟩ = some c1) (hl : cb < w'.heap.size) (hne : some cb ≠ v.ownBlock) (ho : w'.ownsRow W.heap.size e c v k xs) :
    AqI p a W cb c0 c1 e c v k xs cs ys (fun _ => false) b w' :=
  ⟨hk, h0, h1, hl, hne, fun h => (by cases h), fun _ => ho, fun h => (by cases h), fun h => (by cases h)⟩
theorem cell_on {w w' : World} {a : Addr} {v : Value} (h : w.cell? a = some v) (hl : a.block < w.heap.size) (hk : Kept w w') : w'.cell? a = some v := by
  obtain ⟨x, rfl⟩ := hk
  unfold World.cell? at *
  rw [ext_block _ _ _ hl]
  exact h
theorem AqI.on (h : AqI p a W cb c0 c1 e c v k xs cs ys L b w') (hk : Kept w' w'') : AqI p a W cb c0 c1 e c v k xs cs ys L b w'' :=
  ⟨h.kept.trans hk, cell_on h.c0 h.cl hk, cell_on h.c1 h.cl hk, Nat.lt_of_lt_of_le h.cl (kept_le hk), h.ne, h.pa, fun q => owns_kept (h.pre q) hk, fun q r => by
    obtain ⟨g, e1, e2⟩ := h.lit q r
    exact ⟨g, e1, fr_kept e2 hk⟩, fun q => owns_kept (h.res q) hk⟩
theorem AqI.other (h : AqI p a W cb c0 c1 e c v k xs cs ys L b w') {i : Nat} (hp : i ≠ p) (ha : i ≠ a) : AqI p a W cb c0 c1 e c v k xs cs ys (doneAt L i) b w' := by
  have d1 : doneAt L i p = L p := if_neg (Ne.symm hp)
  have d2 : doneAt L i a = L a := if_neg (Ne.symm ha)
  exact ⟨h.kept, h.c0, h.c1, h.cl, h.ne, by rw [d1, d2]; exact h.pa, by rw [d2]; exact h.pre, by rw [d1, d2]; exact h.lit, by rw [d2]; exact h.res⟩
theorem AqI.opP (hpa : p ≠ a) (h : AqI p a W cb c0 c1 e c v k xs cs ys L b w') (hp : L p = false) : AqI p a W cb c0 c1 e c v k xs cs ys (doneAt L p) (tellAt b p (.slice (some ⟨w'.heap.size, 0, none⟩) 1 1)) (w'.alloc (.cells cs e)) := by
  have ha : L a = false := by
    cases q : L a with
    | false => rfl
    | true => rw [h.pa q] at hp; cases hp
  have h' := h.on ((Kept.refl w').alloc (.cells cs e))
  have d2 : doneAt L p a = L a := if_neg (Ne.symm hpa)
  refine ⟨h'.kept, h'.c0, h'.c1, h'.cl, h'.ne, fun _ => if_pos rfl, by rw [d2]; exact h'.pre, fun _ _ => ⟨_, if_pos rfl, heap_alloc_new w' _⟩, fun q => ?_⟩
  rw [d2, ha] at q; cases q
theorem AqI.opA (hpa : p ≠ a) (h : AqI p a W cb c0 c1 e c v k xs cs ys L b w') (hp : L p = true) (ha : L a = false) {v' : Value} (hown : w''.ownsRow W.heap.size e c v' (k + 1) ys) (hg : w'.grownBy w'' v.ownBlock) :
    AqI p a W cb c0 c1 e c v k xs cs ys (doneAt L a) (tellAt b a v') w'' := by
  have d1 : doneAt L a p = L p := if_neg hpa
  have d2 : doneAt L a a = true := if_pos rfl
  have hk2 := kept_grown h.kept (h.pre ha) (Nat.le_refl _) hg
  have hc0 : w''.cell? ⟨cb, 0, none⟩ = some c0 := by rw [hg.cell_far ⟨cb, 0, none⟩ h.cl h.ne]; exact h.c0
  have hc1 : w''.cell? ⟨cb, 1, none⟩ = some c1 := by rw [hg.cell_far ⟨cb, 1, none⟩ h.cl h.ne]; exact h.c1
  refine ⟨hk2, hc0, hc1, ?_, h.ne, fun _ => by rw [d1]; exact hp, fun q => ?_, fun _ q => ?_, fun _ => ?_⟩
  · have hcl := h.cl
    unfold World.cell? at hc0
    cases hb : w''.heap[cb]? with
    | none => simp [hb] at hc0
    | some o => exact (Array.getElem?_eq_some_iff.1 hb).1
  · rw [d2] at q; cases q
  · rw [d2] at q; cases q
  · rw [show tellAt b a v' a = v' from if_pos rfl]; exact hown
end
/-- A block of two ints is a list of one pair. -/
theorem rowsR_at {w : World} {g : Nat} {p q : Int} (h : w.heap[g]? = some (.cells #[.int .i64 p, .int .i64 q] 27 (0, 0))) (hp : I64 p) (hq : I64 q) : RowsAt w (some ⟨g, 0, none⟩) 1 2 (pr2 p q) := by
  refine rows_of_owns (base := 0) (cap := 1) (e := 27) ⟨rfl, .inr ⟨g, 1, _, rfl, Nat.zero_le _, h, Nat.le_refl _, by unfold maxLen; omega, rfl, rfl⟩⟩ (fun k _ j _ => ?_)
  unfold pr2
  split
  · exact hp
  · exact hq
end Go.Proofs.Ytjadpehpempjoaa
namespace Go.Proofs.Ytjadpehpempjoaa
set_option linter.unusedVariables false
set_option linter.unusedSimpArgs false
open Go.RowKit Go.Deep
end Go.Proofs.Ytjadpehpempjoaa
