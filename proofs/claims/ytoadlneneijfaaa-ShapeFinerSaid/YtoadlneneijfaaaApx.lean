/- A point appended to the points of a mesh that is being made, in a drawn order; other blocks are read meanwhile. A face appended to its faces. No conditions but those of each theorem. -/
import Derived.Test.YtoadlneneijfaaaGmp
namespace Go.Proofs.Ytoadlneneijfaaa
set_option linter.unusedVariables false
set_option linter.unusedSimpArgs false
open Go.RowKit Go.Deep
/-- i1 loads the list, i5 makes the list of one point, i6 appends it, i8 stores the list; the blocks of X are read meanwhile. -/
structure AppX (i1 i5 i6 i8 : Nat) (W : World) (rb mb : Nat) (X : List (Nat × Obj)) (v : Value) (k : Nat) (P : Nat → Nat → Int) (vF : Value) (m : Nat) (F : Nat → Nat → Int) (L : Nat → Bool) (b : Nat → Value) (w' : World) : Prop where
  kept : Kept W w'
  pk : ∀ x ∈ X, w'.heap[x.1]? = some x.2
  pne : ∀ x ∈ X, some x.1 ≠ v.ownBlock ∧ x.1 ≠ mb
  a8 : L i8 = true → L i6 = true ∧ L i1 = true
  n5 : L i5 = true → ∃ g, b i5 = .slice (some ⟨g, 0, none⟩) 1 1 ∧ (L i6 = false → w'.heap[g]? = some (.cells #[.int .i64 (P k 0), .int .i64 (P k 1), .int .i64 (P k 2)] 34 (0, 0)))
  s : L i6 = false → w'.ownsRow W.heap.size 34 3 v k (rowC 3 P k)
  t : L i6 = true → w'.ownsRow W.heap.size 34 3 (b i6) (k + 1) (rowC 3 P (k + 1))
  r : w'.heap[rb]? = some (.cells #[.slice none 0 0, .slice none 0 0] 25 (0, 0))
  q : w'.heap[mb]? = some (.cells #[if L i8 = true then b i6 else v, vF] 25 (0, 0))
  f : w'.ownsRow W.heap.size 54 3 vF m (rowC 3 F m)
section
variable {i1 i5 i6 i8 : Nat} {W : World} {rb mb k m : Nat} {X : List (Nat × Obj)} {v vF : Value} {P F : Nat → Nat → Int} {L : Nat → Bool} {b : Nat → Value} {w' w'' : World}
theorem AppX.start {wr : World} (h : Msh2 W rb mb v k P vF m F wr) (hk : Kept wr w') (hp : ∀ x ∈ X, w'.heap[x.1]? = some x.2) (hne : ∀ x ∈ X, some x.1 ≠ v.ownBlock ∧ x.1 ≠ mb) : AppX i1 i5 i6 i8 W rb mb X v k P vF m F (fun _ => false) b w' := by
  have h' := h.on hk
  exact ⟨h'.kept, hp, hne, fun e => (by cases e), fun e => (by cases e), fun _ => h'.p, fun e => (by cases e), h'.r, h'.q, h'.f⟩
theorem AppX.on (h : AppX i1 i5 i6 i8 W rb mb X v k P vF m F L b w') (hk : Kept w' w'') : AppX i1 i5 i6 i8 W rb mb X v k P vF m F L b w'' :=
  ⟨h.kept.trans hk, fun x hx => fr_kept (h.pk x hx) hk, h.pne, h.a8, fun e => by
    obtain ⟨g, e1, e2⟩ := h.n5 e
    exact ⟨g, e1, fun e3 => fr_kept (e2 e3) hk⟩, fun e => owns_kept (h.s e) hk, fun e => owns_kept (h.t e) hk, fr_kept h.r hk, fr_kept h.q hk, owns_kept h.f hk⟩
theorem AppX.other (h : AppX i1 i5 i6 i8 W rb mb X v k P vF m F L b w') {i : Nat} (h1 : i ≠ i1) (h5 : i ≠ i5) (h6 : i ≠ i6) (h8 : i ≠ i8) : AppX i1 i5 i6 i8 W rb mb X v k P vF m F (doneAt L i) b w' := by
  have d1 : doneAt L i i1 = L i1 := if_neg (Ne.symm h1)
  have d5 : doneAt L i i5 = L i5 := if_neg (Ne.symm h5)
  have d6 : doneAt L i i6 = L i6 := if_neg (Ne.symm h6)
  have d8 : doneAt L i i8 = L i8 := if_neg (Ne.symm h8)
  refine ⟨h.kept, h.pk, h.pne, ?_, ?_, ?_, ?_, h.r, ?_, h.f⟩
  · rw [d8, d6, d1]; exact h.a8
  · rw [d5, d6]; exact h.n5
  · rw [d6]; exact h.s
  · rw [d6]; exact h.t
  · rw [d8]; exact h.q
theorem AppX.no8 (h : AppX i1 i5 i6 i8 W rb mb X v k P vF m F L b w') (h3 : L i6 = false ∨ L i1 = false) : L i8 = false := by
  cases h8 : L i8 with
  | false => rfl
  | true =>
    have := h.a8 h8
    rw [this.1, this.2] at h3
    simp at h3
theorem AppX.op1 {u : Value} (h : AppX i1 i5 i6 i8 W rb mb X v k P vF m F L b w') (hi : i1 < i5 ∧ i5 < i6 ∧ i6 < i8) (d : L i1 = false) : AppX i1 i5 i6 i8 W rb mb X v k P vF m F (doneAt L i1) (tellAt b i1 u) w' := by
  have d5 : doneAt L i1 i5 = L i5 := if_neg (by omega)
  have d6 : doneAt L i1 i6 = L i6 := if_neg (by omega)
  have d8 : doneAt L i1 i8 = L i8 := if_neg (by omega)
  have t5 : tellAt b i1 u i5 = b i5 := if_neg (by omega)
  have t6 : tellAt b i1 u i6 = b i6 := if_neg (by omega)
  refine ⟨h.kept, h.pk, h.pne, ?_, ?_, ?_, ?_, h.r, ?_, h.f⟩
  · rw [d8, d6]; intro e; exact ⟨(h.a8 e).1, if_pos rfl⟩
  · rw [d5, d6, t5]; exact h.n5
  · rw [d6]; exact h.s
  · rw [d6, t6]; exact h.t
  · rw [d8, t6]; exact h.q
theorem AppX.op5 (h : AppX i1 i5 i6 i8 W rb mb X v k P vF m F L b w') (hi : i1 < i5 ∧ i5 < i6 ∧ i6 < i8) :
    AppX i1 i5 i6 i8 W rb mb X v k P vF m F (doneAt L i5) (tellAt b i5 (.slice (some ⟨w'.heap.size, 0, none⟩) 1 1)) (w'.alloc (.cells #[.int .i64 (P k 0), .int .i64 (P k 1), .int .i64 (P k 2)] 34)) := by
  have h' := h.on ((Kept.refl w').alloc (.cells #[.int .i64 (P k 0), .int .i64 (P k 1), .int .i64 (P k 2)] 34))
  have d1 : doneAt L i5 i1 = L i1 := if_neg (by omega)
  have d6 : doneAt L i5 i6 = L i6 := if_neg (by omega)
  have d8 : doneAt L i5 i8 = L i8 := if_neg (by omega)
  have t6 : tellAt b i5 (.slice (some ⟨w'.heap.size, 0, none⟩) 1 1) i6 = b i6 := if_neg (by omega)
  refine ⟨h'.kept, h'.pk, h'.pne, ?_, ?_, ?_, ?_, h'.r, ?_, h'.f⟩
  · rw [d8, d6, d1]; exact h'.a8
  · intro _; exact ⟨_, if_pos rfl, fun _ => heap_alloc_new w' _⟩
  · rw [d6]; exact h'.s
  · rw [d6, t6]; exact h'.t
  · rw [d8, t6]; exact h'.q
theorem AppX.op6 {v' : Value} (h : AppX i1 i5 i6 i8 W rb mb X v k P vF m F L b w') (hi : i1 < i5 ∧ i5 < i6 ∧ i6 < i8) (d : L i6 = false) (hown : w''.ownsRow W.heap.size 34 3 v' (k + 1) (rowC 3 P (k + 1))) (hg : w'.grownBy w'' v.ownBlock) :
    AppX i1 i5 i6 i8 W rb mb X v k P vF m F (doneAt L i6) (tellAt b i6 v') w'' := by
  have e8 := h.no8 (.inl d)
  have hp := h.s d
  have hq := h.q
  rw [e8] at hq
  have d1 : doneAt L i6 i1 = L i1 := if_neg (by omega)
  have d5 : doneAt L i6 i5 = L i5 := if_neg (by omega)
  have d6 : doneAt L i6 i6 = true := if_pos rfl
  have d8 : doneAt L i6 i8 = L i8 := if_neg (by omega)
  have t5 : tellAt b i6 v' i5 = b i5 := if_neg (by omega)
  have t6 : tellAt b i6 v' i6 = v' := if_pos rfl
  refine ⟨kept_grown h.kept hp (Nat.le_refl _) hg, ?_, h.pne, ?_, ?_, ?_, ?_, own_keepsB hp hg h.r (by decide), ?_, h.f.kept hg (own_ne2 hp h.f (by decide))⟩
  · intro x hx
    rw [hg.block x.1 (Array.getElem?_eq_some_iff.1 (h.pk x hx)).1 (h.pne x hx).1]; exact h.pk x hx
  · rw [d8, e8]; intro e; cases e
  · rw [d5, t5]
    intro e
    obtain ⟨g, e1, -⟩ := h.n5 e
    exact ⟨g, e1, fun e3 => by rw [d6] at e3; cases e3⟩
  · rw [d6]; intro e; cases e
  · rw [t6]; exact fun _ => hown
  · rw [d8, e8]; exact own_keepsB hp hg hq (by decide)
theorem AppX.op8 {u : Value} (h : AppX i1 i5 i6 i8 W rb mb X v k P vF m F L b w') (hi : i1 < i5 ∧ i5 < i6 ∧ i6 < i8) (d1 : L i1 = true) (d6 : L i6 = true) (d8 : L i8 = false) (hne : rb ≠ mb) (hle : W.heap.size ≤ mb) :
    AppX i1 i5 i6 i8 W rb mb X v k P vF m F (doneAt L i8) (tellAt b i8 u) (w'.setCell ⟨mb, 0, none⟩ (b i6)) := by
  have hq := h.q
  rw [d8] at hq
  have hs : w'.grownBy (w'.setCell ⟨mb, 0, none⟩ (b i6)) (some mb) := ⟨rfl, rfl, rfl, by simp, fun i _ hi => heap_setCell_other w' ⟨mb, 0, none⟩ i _ (fun e => hi (by simp [e]))⟩
  have e1 : doneAt L i8 i1 = L i1 := if_neg (by omega)
  have e5 : doneAt L i8 i5 = L i5 := if_neg (by omega)
  have e6 : doneAt L i8 i6 = L i6 := if_neg (by omega)
  have e8 : doneAt L i8 i8 = true := if_pos rfl
  have t5 : tellAt b i8 u i5 = b i5 := if_neg (by omega)
  have t6 : tellAt b i8 u i6 = b i6 := if_neg (by omega)
  refine ⟨h.kept.setCell hle _, ?_, h.pne, ?_, ?_, ?_, ?_, ?_, ?_, h.f.kept hs (.inr fun q => own_ne h.f hq (by decide) q.symm)⟩
  · intro x hx
    rw [hs.block x.1 (Array.getElem?_eq_some_iff.1 (h.pk x hx)).1 (fun e => (h.pne x hx).2 (Option.some.inj e))]
    exact h.pk x hx
  · rw [e8, e6, e1]; exact fun _ => ⟨d6, d1⟩
  · rw [e5, e6, t5]
    intro e
    obtain ⟨g, q1, -⟩ := h.n5 e
    exact ⟨g, q1, fun e3 => by rw [d6] at e3; cases e3⟩
  · rw [e6, d6]; intro e; cases e
  · rw [t6]; exact fun _ => (h.t d6).kept hs (.inr fun q => own_ne (h.t d6) hq (by decide) q.symm)
  · rw [heap_setCell_other _ _ _ _ hne]; exact h.r
  · rw [e8, t6]
    rw [heap_setCell_same _ _ _ _ _ _ hq]
    rfl
theorem AppX.done (h : AppX i1 i5 i6 i8 W rb mb X v k P vF m F L b w') (d6 : L i6 = true) (d8 : L i8 = true) : Msh2 W rb mb (b i6) (k + 1) P vF m F w' := by
  have hq := h.q
  rw [d8] at hq
  exact ⟨h.kept, h.r, hq, h.t d6, h.f⟩
theorem AppX.v0 (h : AppX i1 i5 i6 i8 W rb mb X v k P vF m F L b w') (d1 : L i1 = false) : w'.cell? ⟨mb, 0, none⟩ = some v := by
  have hq := h.q
  rw [h.no8 (.inr d1)] at hq
  exact (cells2 hq).1
end
/-- Faces appended: the new list is stored into the mesh. -/
theorem Msh2.appF {wr w1 w2 : World} {rb mb n m d : Nat} {W : World} {vP vF v' : Value} {P F F' : Nat → Nat → Int} (h : Msh2 W rb mb vP n P vF m F wr) (hk : Kept wr w1) (hown : w2.ownsRow W.heap.size 54 3 v' (m + d) (rowC 3 F' (m + d))) (hg : w1.grownBy w2 vF.ownBlock) (hne : rb ≠ mb) (hle : W.heap.size ≤ mb) : Msh2 W rb mb vP n P v' (m + d) F' (w2.setCell ⟨mb, 1, none⟩ v') := by
  have h' := h.on hk
  have hq := own_keepsB h'.f hg h'.q (by decide)
  have hr := own_keepsB h'.f hg h'.r (by decide)
  have hp := h'.p.kept hg (own_ne2 h'.f h'.p (by decide))
  have hs : w2.grownBy (w2.setCell ⟨mb, 1, none⟩ v') (some mb) := ⟨rfl, rfl, rfl, by simp, fun i _ hi => heap_setCell_other w2 ⟨mb, 1, none⟩ i _ (fun e => hi (by simp [e]))⟩
  refine ⟨(kept_grown h'.kept h'.f (Nat.le_refl _) hg).setCell hle _, ?_, ?_, hp.kept hs (.inr fun q => own_ne hp hq (by decide) q.symm), hown.kept hs (.inr fun q => own_ne hown hq (by decide) q.symm)⟩
  · rw [heap_setCell_other _ _ _ _ hne]; exact hr
  · rw [heap_setCell_same _ _ _ _ _ _ hq]
    rfl
/-- As Msh2.fin, where the result's block is older. -/
theorem Msh2.fin2 {W wr : World} {rb mb n m : Nat} {P F : Nat → Nat → Int} {w wx : World} {A B : Option Addr} {c1 c2 : Nat} (h : Msh2 W rb mb (.slice A n c1) n P (.slice B m c2) m F wr) (hw : Kept w W) (e : Int) (hk : Kept wr wx) (hrb : w.heap.size ≤ rb) :
    MeshO w (wx.setRow rb #[.slice (okA e A) (okN e n) (okN e c1), .slice (okA e B) (okN e m) (okN e c2)]) (.returned (.tuple #[.agg #[.slice (okA e A) (okN e n) (okN e c1), .slice (okA e B) (okN e m) (okN e c2)], .int .i64 e])) e n P m F := by
  have h' := h.on hk
  have hle := kept_le hw
  exact ⟨_, _, _, _, rfl, (hw.trans h'.kept).map_store hrb (grown_setRow _ _ _), own_mono (own_row _ (own_ok e h'.p) h'.r (by decide)) hle, own_mono (own_row _ (own_ok e h'.f) h'.r (by decide)) hle⟩
end Go.Proofs.Ytoadlneneijfaaa
