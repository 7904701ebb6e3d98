/- Maps that a call makes itself: which keys they have and what is at them. No conditions but those of each theorem. A point appended to the points of a mesh that is being made, in a drawn order; other blocks are read meanwhile. A face appended to its faces. No conditions but those of each theorem. Contract: the middle of a side, of the program, while a surface is cut finer. Conditions: the surface is closed; what the map has. -/
import Derived.Test.YtbhcjdgfcinpcaaGcv
import Derived.Test.YtbhcjdgfcinpcaaGcl
import Derived.Maps.OwnSet
import Derived.Test.YtbhcjdgfcinpcaaGcq
import Derived.Test.YtbhcjdgfcinpcaaUfp
import Derived.Test.YtbhcjdgfcinpcaaGva
namespace Go.Proofs.Ytbhcjdgfcinpcaa
set_option linter.unusedVariables false
set_option linter.unusedSimpArgs false
open Go.Maps Go.RowKit
section
variable {ι : Type} {P : Program} {k e : TypeId} {kv : ι → Value} {ok : ι → Prop}
/-- Block b is a map of at most n entries that has what c tells. -/
def MapO (P : Program) (k e : TypeId) (kv : ι → Value) (ok : ι → Prop) (w : World) (b n : Nat) (c : ι → Option Int) : Prop :=
  ∃ D : DataW Unit, w.ownsMap P k (plainElem P e) b n D ∧ Maps.IsMap D ∧ ∀ i kl, ok i → keyOf P k (kv i) = some kl → Maps.has D kl = (c i).isSome ∧ D.atKey kl (.lit (.int .i64 0)) = .lit (.int .i64 ((c i).getD 0))
theorem MapO.made (w : World) : MapO P k e kv ok (w.alloc (.map #[] 0)) w.heap.size 0 fun _ => none :=
  ⟨_, World.ownsMap_made w P k _, ⟨_, rfl⟩, fun _ _ _ _ => ⟨rfl, rfl⟩⟩
theorem MapO.by {w w' : World} {b n : Nat} {g : Option Nat} {c : ι → Option Int} (h : MapO P k e kv ok w b n c) (hg : w.grownBy w' g) (hne : some b ≠ g) : MapO P k e kv ok w' b n c := by
  obtain ⟨D, h1, h2, h3⟩ := h
  exact ⟨D, h1.kept hg hne, h2, h3⟩
theorem MapO.kept {w w' : World} {b n : Nat} {c : ι → Option Int} (h : MapO P k e kv ok w b n c) (hk : Kept w w') : MapO P k e kv ok w' b n c := h.by hk.grown (by simp)
theorem MapO.lt {w : World} {b n : Nat} {c : ι → Option Int} (h : MapO P k e kv ok w b n c) : b < w.heap.size := by
  obtain ⟨D, h1, -⟩ := h
  exact h1.lt
theorem MapO.congr {w : World} {b n : Nat} {c c' : ι → Option Int} (h : MapO P k e kv ok w b n c) (hc : ∀ i, ok i → c i = c' i) : MapO P k e kv ok w b n c' := by
  obtain ⟨D, h1, h2, h3⟩ := h
  exact ⟨D, h1, h2, fun i kl hi hk => by rw [← hc i hi]; exact h3 i kl hi hk⟩
theorem MapO.run_look {w : World} {t : TypeId} {b n : Nat} {c : ι → Option Int} (K : Keyed P k) (ht : P.underlying t = some (.map k e)) (he : P.underlying e = some (.int .i64)) (hz : (zeroValue e).run P w = .ok (.int .i64 0) w)
    (hM : MapO P k e kv ok w b n c) (i : ι) (hi : ok i) (hkey : ∃ kl, keyOf P k (kv i) = some kl) : (Instr.lookup t (.map (some b)) (kv i) true).run P w = .ok (.tuple #[.int .i64 ((c i).getD 0), .bool (c i).isSome]) w := by
  obtain ⟨D, h1, -, h3⟩ := hM
  obtain ⟨kl, hkl⟩ := hkey
  obtain ⟨v, ps, hrun, hv⟩ := h1.look_ok K ht hz (plainElem_int he (by decide)) hkl
  obtain ⟨e1, e2⟩ := h3 i kl hi hkl
  rw [e2] at hv
  obtain ⟨z, rfl, hz2, -⟩ := plainElem_int_inv he hv
  simp only [Prod.mk.injEq, DataW.lit.injEq, Lit.int.injEq, true_and] at hz2
  rw [hrun, e1, hz2.1]
theorem MapO.run_put [DecidableEq ι] {w : World} {t : TypeId} {b n : Nat} {c : ι → Option Int} (K : Keyed P k) (ht : P.underlying t = some (.map k e)) (he : P.underlying e = some (.int .i64))
    (hM : MapO P k e kv ok w b n c) (hn : n < maxLen) (i : ι) (z : Int) (hz : I64 z) (hkey : ∃ kl, keyOf P k (kv i) = some kl) (hinj : ∀ j, kv j = kv i → j = i) :
    ∃ w', (Instr.mapUpdate t (.map (some b)) (kv i) (.int .i64 z)).run P w = .ok () w' ∧ MapO P k e kv ok w' b (n + 1) (fun j => if j = i then some z else c j) ∧ w.grownBy w' (some b) := by
  obtain ⟨D, h1, h2, h3⟩ := hM
  obtain ⟨kl, hkl⟩ := hkey
  obtain ⟨w', hrun, h1', hg'⟩ := h1.update K ht hn hkl (plainElem_int (H := Unit) he (by unfold I64 at hz; simp only [Lit.wf, Bool.and_eq_true, decide_eq_true_eq]; exact hz))
  refine ⟨w', hrun, ⟨_, h1', h2.put _ _, fun j kl' hj hkj => ?_⟩, hg'⟩
  dsimp only
  by_cases hji : j = i
  · subst hji
    rw [if_pos rfl]
    rw [hkl] at hkj
    injection hkj with e1
    subst e1
    exact ⟨Maps.has_put_same h2 (K.key hkl) _, Maps.atKey_put_same h2 (K.key hkl) _ _⟩
  · have hne := fun e1 => hji (hinj j (K.inj (hkj.trans (congrArg some e1)) hkl))
    rw [if_neg hji, Maps.has_put_other hne, Maps.atKey_put_other hne]
    exact h3 j kl' hj hkj
theorem wp_lookO (w : World) {ops : Array Oper} {rest : List Oper} {o : Oper} {a : Act} {Q : Exit → Act → World → Prop}
    (hg : Region.wanted o (yielded ops a.tmps) = true) (m x : Operand) (t : TypeId) (hop : o.op = Op.lookup t m x true)
    (K : Keyed P k) (ht : P.underlying t = some (.map k e)) (he : P.underlying e = some (.int .i64)) (hz : (zeroValue e).run P w = .ok (.int .i64 0) w) (b n : Nat) (c : ι → Option Int)
    (hM : MapO P k e kv ok w b n c) (i : ι) (hm : a.eval m = .map (some b)) (hx : a.eval x = kv i) (hi : ok i) (hkey : ∃ kl, keyOf P k (kv i) = some kl) (z : Int) (q : Bool) (h1 : (c i).getD 0 = z) (h2 : (c i).isSome = q)
    (hK : wpList P ops Q rest (a.put o.dst (.tuple #[.int .i64 z, .bool q])) w) : wpList P ops Q (o :: rest) a w := by
  refine BigFrame.wpList_want hg fun K' hK' => ?_
  subst h1 h2
  unfold Oper.wp
  simp [execOp, hop, hm, hx, hM.run_look K ht he hz i hi hkey, Result.andThen]
  exact hK' _ _ hK
theorem tells_lookO {K' : Value → World → Prop} {ρ : Operand → Value} {o : Oper} {w : World} {t : TypeId} {b n : Nat} {c : ι → Option Int} (m x : Operand) (hop : o.op = Op.lookup t m x true) (K : Keyed P k) (ht : P.underlying t = some (.map k e)) (he : P.underlying e = some (.int .i64)) (hz : (zeroValue e).run P w = .ok (.int .i64 0) w)
    (hM : MapO P k e kv ok w b n c) (i : ι) (hi : ok i) (hkey : ∃ kl, keyOf P k (kv i) = some kl) (hm : ρ m = .map (some b)) (hx : ρ x = kv i)
    (h : K' (.tuple #[.int .i64 ((c i).getD 0), .bool (c i).isSome]) w) : tellsUpon P K' ((execOp ρ o).run P w) := by
  unfold execOp
  simp only [hop, hm, hx, Sem.run_bind, hM.run_look K ht he hz i hi hkey, Result.andThen_ok, Sem.run_pure]
  exact h
theorem tells_putO [DecidableEq ι] {K' : Value → World → Prop} {ρ : Operand → Value} {o : Oper} {w : World} {t : TypeId} {b n : Nat} {c : ι → Option Int} (m x v : Operand) (hop : o.op = Op.mapUpdate t m x v) (K : Keyed P k) (ht : P.underlying t = some (.map k e)) (he : P.underlying e = some (.int .i64))
    (hM : MapO P k e kv ok w b n c) (hn : n < maxLen) (i : ι) (z : Int) (hz : I64 z) (hkey : ∃ kl, keyOf P k (kv i) = some kl) (hinj : ∀ j, kv j = kv i → j = i) (hm : ρ m = .map (some b)) (hx : ρ x = kv i) (hv : ρ v = .int .i64 z)
    (h : ∀ w', MapO P k e kv ok w' b (n + 1) (fun j => if j = i then some z else c j) → w.grownBy w' (some b) → K' undef w') : tellsUpon P K' ((execOp ρ o).run P w) := by
  obtain ⟨w', hrun, h1, h2⟩ := hM.run_put K ht he hn i z hz hkey hinj
  unfold execOp
  simp only [hop, hm, hx, hv, Sem.run_bind, hrun, Result.andThen_ok, Sem.run_pure]
  exact h w' h1 h2
end
end Go.Proofs.Ytbhcjdgfcinpcaa
namespace Go.Proofs.Ytbhcjdgfcinpcaa
set_option linter.unusedVariables false
set_option linter.unusedSimpArgs false
open Go.RowKit Go.Deep
/-- i1 loads the list, i5 makes the list of one point, i6 appends it, i8 stores the list; the blocks of X are read meanwhile. -/
structure AppX (i1 i5 i6 i8 : Nat) (W : World) (rb mb : Nat) (X : List (Nat × Obj)) (v : Value) (k : Nat) (P : Nat → Nat → Int) (vF : Value) (m : Nat) (F : Nat → Nat → Int) (L : Nat → Bool) (b : Nat → Value) (w' : World) : Prop where
  kept : Kept W w'
  pk : ∀ x ∈ X, w'.heap[x.1]? = some x.2
  pne : ∀ x ∈ X, some x.1 ≠ v.ownBlock ∧ x.1 ≠ mb
  a8 : L i8 = true → L i6 = true ∧ L i1 = true
  n5 : L i5 = true → ∃ g, b i5 = .slice (some ⟨g, 0, none⟩) 1 1 ∧ (L i6 = false → w'.heap[g]? = some (.cells #[.int .i64 (P k 0), .int .i64 (P k 1), .int .i64 (P k 2)] 27 (0, 0)))
  s : L i6 = false → w'.ownsRow W.heap.size 27 3 v k (rowC 3 P k)
  t : L i6 = true → w'.ownsRow W.heap.size 27 3 (b i6) (k + 1) (rowC 3 P (k + 1))
  r : w'.heap[rb]? = some (.cells #[.slice none 0 0, .slice none 0 0] 25 (0, 0))
  q : w'.heap[mb]? = some (.cells #[if L i8 = true then b i6 else v, vF] 25 (0, 0))
  f : w'.ownsRow W.heap.size 55 3 vF m (rowC 3 F m)
section
variable {i1 i5 i6 i8 : Nat} {W : World} {rb mb k m : Nat} {X : List (Nat × Obj)} {v vF : Value} {P F : Nat → Nat → Int} {L : Nat → Bool} {b : Nat → Value} {w' w'' : World}
theorem AppX.start {wr : World} (h : Msh2 W rb mb v k P vF m F wr) (hk : Kept wr w') (hp : ∀ x ∈ X, w'.heap[x.1]? = some x.2) (hne : ∀ x ∈ X, some x.1 ≠ v.ownBlock ∧ x.1 ≠ mb) : AppX i1 i5 i6 i8 W rb mb X v k P vF m F (fun _ => false) b w' := by
  have h' := h.on hk
  exact ⟨h'.kept, hp, hne, fun e => (by cases e), fun e => (by cases e), fun _ => h'.p, fun e => (by cases e), h'.r, h'.q, h'.f⟩
theorem AppX.on (h : AppX i1 i5 i6 i8 W rb mb X v k P vF m F L b w') (hk : Kept w' w'') : AppX i1 i5 i6 i8 W rb mb X v k P vF m F L b w'' :=
  ⟨h.kept.trans hk, fun x hx => fr_kept (h.pk x hx) hk, h.pne, h.a8, fun e => by
    obtain ⟨g, e1, e2⟩ := h.n5 e
    exact ⟨g, e1, fun e3 => fr_kept (e2 e3) hk⟩, fun e => owns_kept (h.s e) hk, fun e => owns_kept (h.t e) hk, fr_kept h.r hk, fr_kept h.q hk, owns_kept h.f hk⟩
theorem AppX.other (h : AppX i1 i5 i6 i8 W rb mb X v k P vF m F L b w') {i : Nat} (h1 : i ≠ i1) (h5 : i ≠ i5) (h6 : i ≠ i6) (h8 : i ≠ i8) : AppX i1 i5 i6 i8 W rb mb X v k P vF m F (doneAt L i) b w' := by
  have d1 : doneAt L i i1 = L i1 := if_neg (Ne.symm h1)
  have d5 : doneAt L i i5 = L i5 := if_neg (Ne.symm h5)
  have d6 : doneAt L i i6 = L i6 := if_neg (Ne.symm h6)
  have d8 : doneAt L i i8 = L i8 := if_neg (Ne.symm h8)
  refine ⟨h.kept, h.pk, h.pne, ?_, ?_, ?_, ?_, h.r, ?_, h.f⟩
  · rw [d8, d6, d1]; exact h.a8
  · rw [d5, d6]; exact h.n5
  · rw [d6]; exact h.s
  · rw [d6]; exact h.t
  · rw [d8]; exact h.q
theorem AppX.no8 (h : AppX i1 i5 i6 i8 W rb mb X v k P vF m F L b w') (h3 : L i6 = false ∨ L i1 = false) : L i8 = false := by
  cases h8 : L i8 with
  | false => rfl
  | true =>
    have := h.a8 h8
    rw [this.1, this.2] at h3
    simp at h3
theorem AppX.op1 {u : Value} (h : AppX i1 i5 i6 i8 W rb mb X v k P vF m F L b w') (hi : i1 < i5 ∧ i5 < i6 ∧ i6 < i8) (d : L i1 = false) : AppX i1 i5 i6 i8 W rb mb X v k P vF m F (doneAt L i1) (tellAt b i1 u) w' := by
  have d5 : doneAt L i1 i5 = L i5 := if_neg (by omega)
  have d6 : doneAt L i1 i6 = L i6 := if_neg (by omega)
  have d8 : doneAt L i1 i8 = L i8 := if_neg (by omega)
  have t5 : tellAt b i1 u i5 = b i5 := if_neg (by omega)
  have t6 : tellAt b i1 u i6 = b i6 := if_neg (by omega)
  refine ⟨h.kept, h.pk, h.pne, ?_, ?_, ?_, ?_, h.r, ?_, h.f⟩
  · rw [d8, d6]; intro e; exact ⟨(h.a8 e).1, if_pos rfl⟩
  · rw [d5, d6, t5]; exact h.n5
  · rw [d6]; exact h.s
  · rw [d6, t6]; exact h.t
  · rw [d8, t6]; exact h.q
theorem AppX.op5 (h : AppX i1 i5 i6 i8 W rb mb X v k P vF m F L b w') (hi : i1 < i5 ∧ i5 < i6 ∧ i6 < i8) :
    AppX i1 i5 i6 i8 W rb mb X v k P vF m F (doneAt L i5) (tellAt b i5 (.slice (some ⟨w'.heap.size, 0, none⟩) 1 1)) (w'.alloc (.cells #[.int .i64 (P k 0), .int .i64 (P k 1), .int .i64 (P k 2)] 27)) := by
  have h' := h.on ((Kept.refl w').alloc (.cells #[.int .i64 (P k 0), .int .i64 (P k 1), .int .i64 (P k 2)] 27))
  have d1 : doneAt L i5 i1 = L i1 := if_neg (by omega)
  have d6 : doneAt L i5 i6 = L i6 := if_neg (by omega)
  have d8 : doneAt L i5 i8 = L i8 := if_neg (by omega)
  have t6 : tellAt b i5 (.slice (some ⟨w'.heap.size, 0, none⟩) 1 1) i6 = b i6 := if_neg (by omega)
  refine ⟨h'.kept, h'.pk, h'.pne, ?_, ?_, ?_, ?_, h'.r, ?_, h'.f⟩
  · rw [d8, d6, d1]; exact h'.a8
  · intro _; exact ⟨_, if_pos rfl, fun _ => heap_alloc_new w' _⟩
  · rw [d6]; exact h'.s
  · rw [d6, t6]; exact h'.t
  · rw [d8, t6]; exact h'.q
theorem AppX.op6 {v' : Value} (h : AppX i1 i5 i6 i8 W rb mb X v k P vF m F L b w') (hi : i1 < i5 ∧ i5 < i6 ∧ i6 < i8) (d : L i6 = false) (hown : w''.ownsRow W.heap.size 27 3 v' (k + 1) (rowC 3 P (k + 1))) (hg : w'.grownBy w'' v.ownBlock) :
    AppX i1 i5 i6 i8 W rb mb X v k P vF m F (doneAt L i6) (tellAt b i6 v') w'' := by
  have e8 := h.no8 (.inl d)
  have hp := h.s d
  have hq := h.q
  rw [e8] at hq
  have d1 : doneAt L i6 i1 = L i1 := if_neg (by omega)
  have d5 : doneAt L i6 i5 = L i5 := if_neg (by omega)
  have d6 : doneAt L i6 i6 = true := if_pos rfl
  have d8 : doneAt L i6 i8 = L i8 := if_neg (by omega)
  have t5 : tellAt b i6 v' i5 = b i5 := if_neg (by omega)
  have t6 : tellAt b i6 v' i6 = v' := if_pos rfl
  refine ⟨kept_grown h.kept hp (Nat.le_refl _) hg, ?_, h.pne, ?_, ?_, ?_, ?_, own_keepsB hp hg h.r (by decide), ?_, h.f.kept hg (own_ne2 hp h.f (by decide))⟩
  · intro x hx
    rw [hg.block x.1 (Array.getElem?_eq_some_iff.1 (h.pk x hx)).1 (h.pne x hx).1]; exact h.pk x hx
  · rw [d8, e8]; intro e; cases e
  · rw [d5, t5]
    intro e
    obtain ⟨g, e1, -⟩ := h.n5 e
    exact ⟨g, e1, fun e3 => by rw [d6] at e3; cases e3⟩
  · rw [d6]; intro e; cases e
  · rw [t6]; exact fun _ => hown
  · rw [d8, e8]; exact own_keepsB hp hg hq (by decide)
theorem AppX.op8 {u : Value} (h : AppX i1 i5 i6 i8 W rb mb X v k P vF m F L b w') (hi : i1 < i5 ∧ i5 < i6 ∧ i6 < i8) (d1 : L i1 = true) (d6 : L i6 = true) (d8 : L i8 = false) (hne : rb ≠ mb) (hle : W.heap.size ≤ mb) :
    AppX i1 i5 i6 i8 W rb mb X v k P vF m F (doneAt L i8) (tellAt b i8 u) (w'.setCell ⟨mb, 0, none⟩ (b i6)) := by
  have hq := h.q
  rw [d8] at hq
  have hs : w'.grownBy (w'.setCell ⟨mb, 0, none⟩ (b i6)) (some mb) := ⟨rfl, rfl, rfl, by simp, fun i _ hi => heap_setCell_other w' ⟨mb, 0, none⟩ i _ (fun e => hi (by simp [e]))⟩
  have e1 : doneAt L i8 i1 = L i1 := if_neg (by omega)
  have e5 : doneAt L i8 i5 = L i5 := if_neg (by omega)
  have e6 : doneAt L i8 i6 = L i6 := if_neg (by omega)
  have e8 : doneAt L i8 i8 = true := if_pos rfl
  have t5 : tellAt b i8 u i5 = b i5 := if_neg (by omega)
  have t6 : tellAt b i8 u i6 = b i6 := if_neg (by omega)
  refine ⟨h.kept.setCell hle _, ?_, h.pne, ?_, ?_, ?_, ?_, ?_, ?_, h.f.kept hs (.inr fun q => own_ne h.f hq (by decide) q.symm)⟩
  · intro x hx
    rw [hs.block x.1 (Array.getElem?_eq_some_iff.1 (h.pk x hx)).1 (fun e => (h.pne x hx).2 (Option.some.inj e))]
    exact h.pk x hx
  · rw [e8, e6, e1]; exact fun _ => ⟨d6, d1⟩
  · rw [e5, e6, t5]
    intro e
    obtain ⟨g, q1, -⟩ := h.n5 e
    exact ⟨g, q1, fun e3 => by rw [d6] at e3; cases e3⟩
  · rw [e6, d6]; intro e; cases e
  · rw [t6]; exact fun _ => (h.t d6).kept hs (.inr fun q => own_ne (h.t d6) hq (by decide) q.symm)
  · rw [heap_setCell_other _ _ _ _ hne]; exact h.r
  · rw [e8, t6]
    rw [heap_setCell_same _ _ _ _ _ _ hq]
    rfl
theorem AppX.done (h : AppX i1 i5 i6 i8 W rb mb X v k P vF m F L b w') (d6 : L i6 = true) (d8 : L i8 = true) : Msh2 W rb mb (b i6) (k + 1) P vF m F w' := by
  have hq := h.q
  rw [d8] at hq
  exact ⟨h.kept, h.r, hq, h.t d6, h.f⟩
theorem AppX.v0 (h : AppX i1 i5 i6 i8 W rb mb X v k P vF m F L b w') (d1 : L i1 = false) : w'.cell? ⟨mb, 0, none⟩ = some v := by
  have hq := h.q
  rw [h.no8 (.inr d1)] at hq
  exact (cells2 hq).1
end
/-- Faces appended: the new list is stored into the mesh. -/
theorem Msh2.appF {wr w1 w2 : World} {rb mb n m d : Nat} {W : World} {vP vF v' : Value} {P F F' : Nat → Nat → Int} (h : Msh2 W rb mb vP n P vF m F wr) (hk : Kept wr w1) (hown : w2.ownsRow W.heap.size 55 3 v' (m + d) (rowC 3 F' (m + d))) (hg : w1.grownBy w2 vF.ownBlock) (hne : rb ≠ mb) (hle : W.heap.size ≤ mb) : Msh2 W rb mb vP n P v' (m + d) F' (w2.setCell ⟨mb, 1, none⟩ v') := by
  have h' := h.on hk
  have hq := own_keepsB h'.f hg h'.q (by decide)
  have hr := own_keepsB h'.f hg h'.r (by decide)
  have hp := h'.p.kept hg (own_ne2 h'.f h'.p (by decide))
  have hs : w2.grownBy (w2.setCell ⟨mb, 1, none⟩ v') (some mb) := ⟨rfl, rfl, rfl, by simp, fun i _ hi => heap_setCell_other w2 ⟨mb, 1, none⟩ i _ (fun e => hi (by simp [e]))⟩
  refine ⟨(kept_grown h'.kept h'.f (Nat.le_refl _) hg).setCell hle _, ?_, ?_, hp.kept hs (.inr fun q => own_ne hp hq (by decide) q.symm), hown.kept hs (.inr fun q => own_ne hown hq (by decide) q.symm)⟩
  · rw [heap_setCell_other _ _ _ _ hne]; exact hr
  · rw [heap_setCell_same _ _ _ _ _ _ hq]
    rfl
/-- As Msh2.fin, where the result's block is older. -/
theorem Msh2.fin2 {W wr : World} {rb mb n m : Nat} {P F : Nat → Nat → Int} {w wx : World} {A B : Option Addr} {c1 c2 : Nat} (h : Msh2 W rb mb (.slice A n c1) n P (.slice B m c2) m F wr) (hw : Kept w W) (e : Int) (hk : Kept wr wx) (hrb : w.heap.size ≤ rb) :
    MeshO w (wx.setRow rb #[.slice (okA e A) (okN e n) (okN e c1), .slice (okA e B) (okN e m) (okN e c2)]) (.returned (.tuple #[.agg #[.slice (okA e A) (okN e n) (okN e c1), .slice (okA e B) (okN e m) (okN e c2)], .int .i64 e])) e n P m F := by
  have h' := h.on hk
  have hle := kept_le hw
  exact ⟨_, _, _, _, rfl, (hw.trans h'.kept).map_store hrb (grown_setRow _ _ _), own_mono (own_row _ (own_ok e h'.p) h'.r (by decide)) hle, own_mono (own_row _ (own_ok e h'.f) h'.r (by decide)) hle⟩
end Go.Proofs.Ytbhcjdgfcinpcaa
namespace Go.Proofs.Ytbhcjdgfcinpcaa
set_option linter.unusedVariables false
set_option linter.unusedSimpArgs false
open Go.RowKit Go.Deep Go.Maps
/-- Which sides have a number behind the first a sides. -/
def numS (n : Nat) (al : Nat → Nat) (F : Nat → Nat → Int) : Nat → Int × Int → Option Int
  | 0 => fun _ => none
  | a + 1 => fun s => if s = (tl F (nxt a), tl F a) then some (midN n al a : Nat) else if s = (tl F a, tl F (nxt a)) then some (midN n al a : Nat) else numS n al F a s
section
variable {F : Nat → Nat → Int} {al : Nat → Nat} {n m : Nat}
theorem Oth.oneS (h : Oth F al m) {a b : Nat} (ha : a < 3 * m) (hb : b < 3 * m) (e : (tl F a, tl F (nxt a)) = (tl F b, tl F (nxt b))) : a = b := h.one ha hb (congrArg Prod.fst e) (congrArg Prod.snd e)
theorem Oth.unS (h : Oth F al m) {a b : Nat} (ha : a < 3 * m) (hb : b < 3 * m) (e : (tl F a, tl F (nxt a)) = (tl F (nxt b), tl F b)) : b = al a := h.un a b ha hb (congrArg Prod.snd e).symm (congrArg Prod.fst e).symm
theorem numS_at (h : Oth F al m) {b : Nat} : ∀ {a : Nat}, a ≤ 3 * m → b < a → numS n al F a (tl F b, tl F (nxt b)) = some ((midN n al b : Nat) : Int) ∧ numS n al F a (tl F (nxt b), tl F b) = some ((midN n al b : Nat) : Int)
  | 0, _, k => absurd k (by omega)
  | a + 1, ha, k => by
    unfold numS
    by_cases e : b = a
    · subst e
      refine ⟨?_, by rw [if_pos rfl]⟩
      split
      · rfl
      · rw [if_pos rfl]
    · obtain ⟨k1, k2⟩ := numS_at h (b := b) (a := a) (by omega) (by omega)
      have hal : ∀ {b'}, b' = al a → midN n al a = midN n al b' := fun e => by rw [e, mid_old h (by omega)]
      constructor
      · by_cases e1 : (tl F b, tl F (nxt b)) = (tl F (nxt a), tl F a)
        · rw [if_pos e1, hal (h.unS (by omega) (by omega) (Prod.ext (congrArg Prod.snd e1).symm (congrArg Prod.fst e1).symm))]
        · rw [if_neg e1]
          by_cases e2 : (tl F b, tl F (nxt b)) = (tl F a, tl F (nxt a))
          · exact absurd (h.oneS (by omega) (by omega) e2) e
          · rw [if_neg e2]; exact k1
      · by_cases e1 : (tl F (nxt b), tl F b) = (tl F (nxt a), tl F a)
        · exact absurd (h.oneS (by omega) (by omega) (Prod.ext (congrArg Prod.snd e1) (congrArg Prod.fst e1))) e
        · rw [if_neg e1]
          by_cases e2 : (tl F (nxt b), tl F b) = (tl F a, tl F (nxt a))
          · rw [if_pos e2, hal (h.unS (by omega) (by omega) e2.symm)]
          · rw [if_neg e2]; exact k2
theorem numS_no (h : Oth F al m) {a : Nat} (ha : a < 3 * m) (hn : a < al a) : ∀ {r : Nat}, r ≤ a → numS n al F r (tl F a, tl F (nxt a)) = none
  | 0, _ => rfl
  | r + 1, hr => by
    unfold numS
    rw [if_neg, if_neg]
    · exact numS_no h ha hn (by omega)
    · intro e
      have := h.oneS ha (by omega) e
      omega
    · intro e
      have := h.unS ha (by omega) e
      omega
theorem numS_old (h : Oth F al m) {a : Nat} (ha : a < 3 * m) (ho : al a < a) (s : Int × Int) : numS n al F a s = numS n al F (a + 1) s := by
  obtain ⟨b1, b2, b3⟩ := h.nb a ha
  obtain ⟨k1, k2⟩ := numS_at (n := n) h (b := al a) (a := a) (by omega) ho
  rw [b2, b3, mid_old h ha] at k1 k2
  show _ = if s = (tl F (nxt a), tl F a) then some ((midN n al a : Nat) : Int) else if s = (tl F a, tl F (nxt a)) then some ((midN n al a : Nat) : Int) else numS n al F a s
  by_cases e1 : s = (tl F (nxt a), tl F a)
  · rw [if_pos e1, e1, k1]
  · rw [if_neg e1]
    by_cases e2 : s = (tl F a, tl F (nxt a))
    · rw [if_pos e2, e2, k2]
    · rw [if_neg e2]
end
/-- All blocks but mb and the one of v. -/
def restL (w : World) (mb : Nat) (v : Value) : List (Nat × Obj) := (List.range w.heap.size).filterMap fun b => if b = mb ∨ some b = v.ownBlock then none else (w.heap[b]?).map fun o => (b, o)
theorem mem_restL {w : World} {mb : Nat} {v : Value} {x : Nat × Obj} : x ∈ restL w mb v ↔ w.heap[x.1]? = some x.2 ∧ x.1 ≠ mb ∧ some x.1 ≠ v.ownBlock := by
  unfold restL
  rw [List.mem_filterMap]
  constructor
  · rintro ⟨b, hb, e⟩
    split at e
    · cases e
    · rename_i hn
      rw [Option.map_eq_some_iff] at e
      obtain ⟨o, ho, rfl⟩ := e
      simp only [not_or] at hn
      exact ⟨ho, hn.1, hn.2⟩
  · rintro ⟨h1, h2, h3⟩
    refine ⟨x.1, List.mem_range.2 (Array.getElem?_eq_some_iff.1 h1).1, ?_⟩
    rw [if_neg (by simp only [not_or]; exact ⟨h2, h3⟩), h1]
    rfl
abbrev MapN (w : World) (b n : Nat) (c : Int × Int → Option Int) : Prop := MapO Try.prog 80 3 sideV sideOk w b n c
theorem MapO.heap {ι : Type} {P : Program} {k e : TypeId} {kv : ι → Value} {ok : ι → Prop} {w w' : World} {b n : Nat} {c : ι → Option Int} (h : MapO P k e kv ok w b n c) (he : w'.heap[b]? = w.heap[b]?) : MapO P k e kv ok w' b n c := by
  obtain ⟨D, ⟨es, clock, h1, h2⟩, h3⟩ := h
  exact ⟨D, ⟨es, clock, by rw [he, h1], h2⟩, h3⟩
theorem MapO.ne {ι : Type} {P : Program} {k e : TypeId} {kv : ι → Value} {ok : ι → Prop} {w : World} {b n g : Nat} {c : ι → Option Int} {cs : Array Value} {T : TypeId} (h : MapO P k e kv ok w b n c) (hg : w.heap[g]? = some (.cells cs T (0, 0))) : g ≠ b := by
  rintro rfl
  obtain ⟨D, ⟨es, clock, h1, h2⟩, h3⟩ := h
  rw [hg] at h1
  cases h1
theorem MapO.neOwn {ι : Type} {P : Program} {k e : TypeId} {kv : ι → Value} {ok : ι → Prop} {w : World} {b n base c' n' : Nat} {t : TypeId} {v : Value} {xs : List Value} {c : ι → Option Int} (h : MapO P k e kv ok w b n c) (hv : w.ownsRow base t c' v n' xs) : v.ownBlock ≠ some b := by
  rcases hv.2 with ⟨rfl, -⟩ | ⟨g, cp, cur, rfl, -, hg, -⟩
  · intro q; cases q
  · intro q
    exact h.ne hg (Option.some.inj q)
/-- The state of a surface that is cut finer: the mesh in block mb, the map in block B, its variable in block qb. -/
structure FinS (W : World) (rb mb qb B : Nat) (vP : Value) (np : Nat) (P' : Nat → Nat → Int) (vF : Value) (nf : Nat) (F' : Nat → Nat → Int) (cnt : Nat) (c : Int × Int → Option Int) (w : World) : Prop where
  msh : Msh2 W rb mb vP np P' vF nf F' w
  map : MapN w B cnt c
  qv : w.heap[qb]? = some (.cells #[.map (some B)] 78 (0, 0))
section
variable {W w w' : World} {rb mb qb B np nf cnt : Nat} {vP vF : Value} {P' F' : Nat → Nat → Int} {c : Int × Int → Option Int}
theorem FinS.on (h : FinS W rb mb qb B vP np P' vF nf F' cnt c w) (hk : Kept w w') : FinS W rb mb qb B vP np P' vF nf F' cnt c w' := ⟨h.msh.on hk, h.map.kept hk, fr_kept h.qv hk⟩
/-- The map changed. -/
theorem Msh2.byMap (h : Msh2 W rb mb vP np P' vF nf F' w) (hm : MapN w B cnt c) (hB : W.heap.size ≤ B) (hg : w.grownBy w' (some B)) : Msh2 W rb mb vP np P' vF nf F' w' := by
  have key : ∀ {g : Nat} {cs : Array Value} {T : TypeId}, w.heap[g]? = some (.cells cs T (0, 0)) → w'.heap[g]? = some (.cells cs T (0, 0)) := fun {g cs T} e => by
    rw [hg.block g (Array.getElem?_eq_some_iff.1 e).1 (fun q => hm.ne e (Option.some.inj q))]
    exact e
  exact ⟨h.kept.map_store hB hg, key h.r, key h.q, h.p.kept hg (.inr (hm.neOwn h.p)), h.f.kept hg (.inr (hm.neOwn h.f))⟩
end
/-- The state of two stores into the map. -/
structure TwoP (w0 : World) (B cnt : Nat) (k1 k2 : Int × Int) (z : Int) (c : Int × Int → Option Int) (L : Nat → Bool) (w' : World) : Prop where
  gr : w0.grownBy w' (some B)
  a8 : L 8 = true → L 7 = true
  m0 : L 7 = false → MapN w' B cnt c
  m7 : L 7 = true → L 8 = false → MapN w' B (cnt + 1) (fun s => if s = k1 then some z else c s)
  m8 : L 8 = true → MapN w' B (cnt + 2) (fun s => if s = k2 then some z else if s = k1 then some z else c s)
theorem grownBy_trans {a b c : World} {r : Option Nat} (h : a.grownBy b r) (k : b.grownBy c r) : a.grownBy c r :=
  ⟨k.os.trans h.os, k.tape.trans h.tape, k.output.trans h.output, Nat.le_trans h.size k.size, fun i hi hr => by rw [k.block i (Nat.lt_of_lt_of_le hi h.size) hr, h.block i hi hr]⟩
theorem grownBy_kept {a b : World} (r : Option Nat) (h : Kept a b) : a.grownBy b r := by
  have := h.grown
  exact ⟨this.os, this.tape, this.output, this.size, fun k hk _ => this.block k hk (by simp)⟩
section
variable {w0 w' w'' : World} {B cnt : Nat} {k1 k2 : Int × Int} {z : Int} {c : Int × Int → Option Int} {L : Nat → Bool}
theorem TwoP.on (h : TwoP w0 B cnt k1 k2 z c L w') (hk : Kept w' w'') : TwoP w0 B cnt k1 k2 z c L w'' :=
  ⟨grownBy_trans h.gr (grownBy_kept _ hk), h.a8, fun e => (h.m0 e).kept hk, fun e e' => (h.m7 e e').kept hk, fun e => (h.m8 e).kept hk⟩
theorem TwoP.other (h : TwoP w0 B cnt k1 k2 z c L w') {i : Nat} (h7 : i ≠ 7) (h8 : i ≠ 8) : TwoP w0 B cnt k1 k2 z c (doneAt L i) w' := by
  have d7 : doneAt L i 7 = L 7 := if_neg (Ne.symm h7)
  have d8 : doneAt L i 8 = L 8 := if_neg (Ne.symm h8)
  exact ⟨h.gr, by rw [d7, d8]; exact h.a8, by rw [d7]; exact h.m0, by rw [d7, d8]; exact h.m7, by rw [d8]; exact h.m8⟩
theorem TwoP.op7 (h : TwoP w0 B cnt k1 k2 z c L w') (d : L 7 = false) (hg : w'.grownBy w'' (some B)) (hm : MapN w'' B (cnt + 1) (fun s => if s = k1 then some z else c s)) : TwoP w0 B cnt k1 k2 z c (doneAt L 7) w'' := by
  have d8 : L 8 = false := by
    cases e : L 8 with
    | false => rfl
    | true => rw [h.a8 e] at d; cases d
  have e8 : doneAt L 7 8 = L 8 := rfl
  exact ⟨grownBy_trans h.gr hg, fun _ => rfl, fun e => (by cases e), fun _ _ => hm, fun e => (by rw [e8, d8] at e; cases e)⟩
theorem TwoP.op8 (h : TwoP w0 B cnt k1 k2 z c L w') (d7 : L 7 = true) (hg : w'.grownBy w'' (some B)) (hm : MapN w'' B (cnt + 2) (fun s => if s = k2 then some z else if s = k1 then some z else c s)) : TwoP w0 B cnt k1 k2 z c (doneAt L 8) w'' := by
  have e7 : doneAt L 8 7 = L 7 := rfl
  exact ⟨grownBy_trans h.gr hg, fun _ => (by rw [e7]; exact d7), fun e => (by rw [e7, d7] at e; cases e), fun _ e => (by cases e), fun _ => hm⟩
end
set_option maxRecDepth 100000 in
set_option maxHeartbeats 16000000 in
theorem sfin_any (A Bf : Option Addr) (n cap m cap2 : Nat) (P F : Nat → Nat → Int) (al : Nat → Nat) (a : Nat) (W : World) (gm rb mb qb B : Nat) (vP vF : Value) (nf : Nat) (F' : Nat → Nat → Int) (w : World)
    (hn : n ≤ 64 ∧ m ≤ 96) (ho : Oth F al m) (hin : ∀ i, i < m → ∀ k, k < 3 → 0 ≤ F i k ∧ F i k < n) (hbd : ∀ i, i < n → ∀ j, j < 3 → -64 ≤ P i j ∧ P i j ≤ 64) (ha : a < 3 * m) (hP : RowsAt W A n 3 P)
    (hm : W.heap[gm]? = some (.cells #[.slice A n cap, .slice Bf m cap2] 25 (0, 0))) (hrb : rb ≠ mb) (hmb : W.heap.size ≤ mb) (hB : W.heap.size ≤ B)
    (hS : FinS W rb mb qb B vP (npt n al a) (finP n m P F al) vF nf F' (2 * a) (numS n al F a) w) :
    Calls Try.prog 46 #[.agg #[.int .i64 (tl F a), .int .i64 (tl F (nxt a))], .pointer (some ⟨qb, 0, none⟩), .pointer (some ⟨mb, 0, none⟩), .pointer (some ⟨gm, 0, none⟩)] w fun r w' =>
      r = .returned (.int .i64 (midN n al a : Nat)) ∧ ∃ vP', FinS W rb mb qb B vP' (npt n al (a + 1)) (finP n m P F al) vF nf F' (2 * (a + 1)) (numS n al F (a + 1)) w' ∧
        w.heap.size ≤ w'.heap.size ∧ ∀ b, b < w.heap.size → b ≠ mb → b ≠ B → some b ≠ vP.ownBlock → w'.heap[b]? = w.heap[b]? := by
  obtain ⟨i0, hi, hz0, hz1, hz2⟩ := info_parts infoPoint
  have HJP := Lib.hid (And.intro hi (And.intro hz0 (And.intro hz1 hz2)))
  clear hi hz0 hz1 hz2
  have HS := Lib.hid hS
  have HP := Lib.hid hP
  have HM := Lib.hid hm
  have HO := Lib.hid ho
  have hsd : sideOk (tl F a, tl F (nxt a)) := by
    have h0 := hin (a / 3) (by omega) (a % 3) (Nat.mod_lt _ (by omega))
    have h1 := hin (nxt a / 3) (by rw [nxt_div]; omega) (nxt a % 3) (Nat.mod_lt _ (by omega))
    show I64 (F (a / 3) (a % 3)) ∧ I64 (F (nxt a / 3) (nxt a % 3))
    unfold I64
    omega
  have hsb : sideOk (tl F (nxt a), tl F a) := ⟨hsd.2, hsd.1⟩
  have HSD := Lib.hid hsd
  have HSB := Lib.hid hsb
  have qv0 : w.cell? ⟨qb, 0, none⟩ = some (.map (some B)) := by
    unfold World.cell?
    simp only [hS.qv]
    rfl
  have LQ : Lower qb w.heap.size := ⟨cell_lt qv0⟩
  clear hS hP hm ho hsd hsb
  have hne := HO.out.ne a ha
  by_cases hlt : al a < a
  · have hn1 : npt n al (a + 1) = npt n al a := by rw [npt_next, if_neg (by omega)]; rfl
    have hk := (numS_at (n := n) HO.out (b := al a) (a := a) (by omega) hlt).2
    obtain ⟨b1, b2, b3⟩ := HO.out.nb a ha
    rw [b2, b3, mid_old HO.out ha] at hk
    have HKE := Lib.hid hk
    have HN := Lib.hid hn1
    clear b1 b2 b3 hk hn1
    go_enter Try.func46, Try.ntmps46
    go_wp2_with (at_lookup; refine wp_lookO _ (by rfl) _ _ _ rfl (Keyed.of_law lawSide) Try.underlying78 Try.underlying3 (zeroInt _) B (2 * a) (numS n al F a) (HS.out.map.kept (by (repeat (first | exact Kept.refl _ | assumption | refine Kept.alloc ?_ _ | refine Kept.ext ?_ _ | refine Kept.drew ?_ | refine Kept.drewN ?_ _)))) (tl F a, tl F (nxt a)) rfl rfl HSD.out (keyOf_side _ HSD.out) (midN n al a : Nat) true (by rw [HKE.out]; rfl) (by rw [HKE.out]; rfl) ?_)
    refine bodyPost_ret (by simp only [results, Try.results46]; go_simp; rfl) rfl ?_
    refine ⟨rfl, vP, ?_, by simp [adv], fun b hb _ _ _ => ?_⟩
    · have h := HS.out.on (by (repeat (first | exact Kept.refl _ | assumption | refine Kept.alloc ?_ _ | refine Kept.ext ?_ _ | refine Kept.drew ?_ | refine Kept.drewN ?_ _)) : Kept w (w.alloc (.cells #[.int .i64 (tl F a), .int .i64 (tl F (nxt a))] 80)))
      refine ⟨by rw [HN.out]; exact h.msh, ?_, h.qv⟩
      obtain ⟨D, h1, h2, h3⟩ := h.map
      exact MapO.congr ⟨D, h1.mono (by omega), h2, h3⟩ fun s _ => numS_old HO.out ha hlt s
    · exact (by (repeat (first | exact Kept.refl _ | assumption | refine Kept.alloc ?_ _ | refine Kept.ext ?_ _ | refine Kept.drew ?_ | refine Kept.drewN ?_ _)) : Kept w (w.alloc (.cells #[.int .i64 (tl F a), .int .i64 (tl F (nxt a))] 80))).grown.block b hb (by simp)
  · have hlt' : a < al a := by omega
    have hn1 : npt n al (a + 1) = npt n al a + 1 := by rw [npt_next, if_pos hlt']
    have hmid : midN n al a = npt n al a := mid_new hlt'
    have hno := numS_no (n := n) HO.out ha hlt' (Nat.le_refl a)
    have hnp : npt n al a ≤ 64 + 3 * 96 := by
      unfold npt
      have := cnB_le (newB al) a
      omega
    have HNO := Lib.hid hno
    have HN1 := Lib.hid hn1
    have HMID := Lib.hid hmid
    clear hno hn1
    obtain ⟨np, hnpe⟩ : ∃ np, npt n al a = np := ⟨_, rfl⟩
    have HNP := Lib.hid hnpe
    have hS2 := HS.out
    rw [hnpe] at hS2 hnp
    obtain ⟨A2, cp2, rfl, hcp⟩ := own_sl hS2.msh.p
    obtain ⟨m0, m1, z0, z1⟩ := cells2 hS2.msh.q
    have LM : Lower mb w.heap.size := ⟨cell_lt m0⟩
    clear hS2 hnpe hmid
    go_enter Try.func46, Try.ntmps46
    go_wp2_with (at_lookup; refine wp_lookO _ (by rfl) _ _ _ rfl (Keyed.of_law lawSide) Try.underlying78 Try.underlying3 (zeroInt _) B (2 * a) (numS n al F a) (HS.out.map.kept (by (repeat (first | exact Kept.refl _ | assumption | refine Kept.alloc ?_ _ | refine Kept.ext ?_ _ | refine Kept.drew ?_ | refine Kept.drewN ?_ _)))) (tl F a, tl F (nxt a)) rfl rfl HSD.out (keyOf_side _ HSD.out) 0 false (by rw [HNO.out]; rfl) (by rw [HNO.out]; rfl) ?_)
    refine wp_region_tellC (C := fun W' => World.grownBy (w.alloc (.cells #[.int .i64 (tl F a), .int .i64 (tl F (nxt a))] 80)) W' (some B)) [.q, .q, .q, .q, .q, .q, .q, .k undef, .k undef] (fun L _ w' => TwoP (w.alloc (.cells #[.int .i64 (tl F a), .int .i64 (tl F (nxt a))] 80)) B (2 * a) (tl F a, tl F (nxt a)) (tl F (nxt a), tl F a) (np : Int) (numS n al F a) L w') (by kernel_rfl) (by kernel_rfl) (fun b => by kernel_rfl) ?_ ?_ ?_ ?_
    · exact fun b => ⟨grownBy_kept _ (by (repeat (first | exact Kept.refl _ | assumption | refine Kept.alloc ?_ _ | refine Kept.ext ?_ _ | refine Kept.drew ?_ | refine Kept.drewN ?_ _))), fun h => (by cases h), fun _ => HS.out.map.kept (by (repeat (first | exact Kept.refl _ | assumption | refine Kept.alloc ?_ _ | refine Kept.ext ?_ _ | refine Kept.drew ?_ | refine Kept.drewN ?_ _))), fun h => (by cases h), fun h => (by cases h)⟩
    · intro i L b w' w'' hs hI hk
      exact (hI.on hk).other (by rintro rfl; cases hs) (by rintro rfl; cases hs)
    · exact fun L b w' h => h.gr
    apply Exists.intro
    refine ⟨?_, ?_, ?_, ?_⟩
    · rintro b W' hg
      have hq : W'.heap[qb]? = some (.cells #[.map (some B)] 78 (0, 0)) := by
        have h := (HS.out.on (by (repeat (first | exact Kept.refl _ | assumption | refine Kept.alloc ?_ _ | refine Kept.ext ?_ _ | refine Kept.drew ?_ | refine Kept.drewN ?_ _)) : Kept w (w.alloc (.cells #[.int .i64 (tl F a), .int .i64 (tl F (nxt a))] 80)))).qv
        rw [hg.block qb (Array.getElem?_eq_some_iff.1 h).1 (fun e => HS.out.map.ne HS.out.qv (Option.some.inj e))]
        exact h
      have q0 : W'.cell? ⟨qb, 0, none⟩ = some (.map (some B)) := by
        unfold World.cell?
        simp only [hq]
        rfl
      have hs : W'.heap[w.heap.size]? = some (.cells #[.int .i64 (tl F a), .int .i64 (tl F (nxt a))] 80 (0, 0)) := by
        have h := alloc_now w (.cells #[.int .i64 (tl F a), .int .i64 (tl F (nxt a))] 80) w.heap.size
        rw [hg.block _ (Array.getElem?_eq_some_iff.1 h).1 (fun e => (HS.out.map.kept (by (repeat (first | exact Kept.refl _ | assumption | refine Kept.alloc ?_ _ | refine Kept.ext ?_ _ | refine Kept.drew ?_ | refine Kept.drewN ?_ _)) : Kept w (w.alloc (.cells #[.int .i64 (tl F a), .int .i64 (tl F (nxt a))] 80)))).ne h (Option.some.inj e))]
        exact h
      obtain ⟨s0, s1, -, -⟩ := cells2 hs
      have LQ' : Lower qb W'.heap.size := ⟨cell_lt q0⟩
      have LS' : Lower w.heap.size W'.heap.size := ⟨cell_lt s0⟩
      simp only [swapL, Nat.reduceAdd]
      repeat (go_big_quiet_step (first | (go_at_call 47; exact Calls.kept_of (sback_any _ _ _))))
      refine wpQuiet_nil ?_
      rfl
    · simp only [EachS, and_true]
      refine ⟨?_, ?_⟩
      · intro L b w' hd hL hI
        refine tells_putO (.tmp 20) (.tmp 21) (.tmp 25) rfl (Keyed.of_law lawSide) Try.underlying78 Try.underlying3 (hI.m0 hL) (by unfold maxLen; omega) (tl F a, tl F (nxt a)) np (by unfold I64; omega) (keyOf_side _ HSD.out) (fun j e => sideV_inj _ _ e) rfl rfl rfl ?_
        exact fun w'' h1 h2 => ⟨rfl, hI.op7 hL h2 h1⟩
      · intro L b w' hd hL hI
        have d7 : L 7 = true := hd { on := 7, ground := .phase } (by simp) rfl
        refine tells_putO (.tmp 22) (.tmp 24) (.tmp 26) rfl (Keyed.of_law lawSide) Try.underlying78 Try.underlying3 (hI.m7 d7 hL) (by unfold maxLen; omega) (tl F (nxt a), tl F a) np (by unfold I64; omega) (keyOf_side _ HSB.out) (fun j e => sideV_inj _ _ e) rfl rfl rfl ?_
        exact fun w'' h1 h2 => ⟨rfl, hI.op8 d7 h2 h1⟩
    · intro b b' d hd
      simp [callSlots, dullOp] at hd
      try (subst hd; rfl)
    · intro L b w3 hL hI
      have h8 := hI.m8 (hL 8 (by decide))
      have hg := hI.gr
      have hS1 := HS.out.on (by (repeat (first | exact Kept.refl _ | assumption | refine Kept.alloc ?_ _ | refine Kept.ext ?_ _ | refine Kept.drew ?_ | refine Kept.drewN ?_ _)) : Kept w (w.alloc (.cells #[.int .i64 (tl F a), .int .i64 (tl F (nxt a))] 80)))
      have hM3 := Msh2.byMap hS1.msh hS1.map hB hg
      have hq3 : w3.heap[qb]? = some (.cells #[.map (some B)] 78 (0, 0)) := by
        rw [hg.block qb (Array.getElem?_eq_some_iff.1 hS1.qv).1 (fun e => hS1.map.ne hS1.qv (Option.some.inj e))]
        exact hS1.qv
      have hs3 : w3.heap[w.heap.size]? = some (.cells #[.int .i64 (tl F a), .int .i64 (tl F (nxt a))] 80 (0, 0)) := by
        have h := alloc_now w (.cells #[.int .i64 (tl F a), .int .i64 (tl F (nxt a))] 80) w.heap.size
        rw [hg.block _ (Array.getElem?_eq_some_iff.1 h).1 (fun e => hS1.map.ne h (Option.some.inj e))]
        exact h
      rw [HNP.out] at hM3
      have hsz3 : w.heap.size ≤ w3.heap.size := Nat.le_trans (by simp) hg.size
      have hoth : ∀ b, b < w.heap.size → b ≠ B → w3.heap[b]? = w.heap[b]? := fun b hb hne => by
        rw [hg.block b (by simp; omega) (fun e => hne (Option.some.inj e))]
        exact (by (repeat (first | exact Kept.refl _ | assumption | refine Kept.alloc ?_ _ | refine Kept.ext ?_ _ | refine Kept.drew ?_ | refine Kept.drewN ?_ _)) : Kept w (w.alloc (.cells #[.int .i64 (tl F a), .int .i64 (tl F (nxt a))] 80))).grown.block b hb (by simp)
      have hBl := h8.lt
      have hBo := h8.neOwn hM3.p
      have hBm : B ≠ mb := fun e => h8.ne hM3.q e.symm
      have H8 := Lib.hid h8
      have HM3 := Lib.hid hM3
      have HQ3 := Lib.hid hq3
      have HS3 := Lib.hid hs3
      have HOT := Lib.hid hoth
      obtain ⟨m0, m1, z0, z1⟩ := cells2 hM3.q
      have LM : Lower mb w3.heap.size := ⟨cell_lt m0⟩
      clear h8 hg hS1 hM3 hq3 hs3 hI hL hoth
      -- the ends of the side
      have e0 := hin (a / 3) (by omega) (a % 3) (Nat.mod_lt _ (by omega))
      have e1 := hin (nxt a / 3) (by rw [nxt_div]; omega) (nxt a % 3) (Nat.mod_lt _ (by omega))
      have e0' : 0 ≤ tl F a ∧ tl F a < n := e0
      have e1' : 0 ≤ tl F (nxt a) ∧ tl F (nxt a) < n := e1
      obtain ⟨ka, hka⟩ : ∃ k, (tl F a).toNat = k := ⟨_, rfl⟩
      obtain ⟨kb, hkb⟩ : ∃ k, (tl F (nxt a)).toNat = k := ⟨_, rfl⟩
      have hkal : ka < n := by omega
      have hkbl : kb < n := by omega
      have pa := fun j hj => hbd ka hkal j hj
      have pb := fun j hj => hbd kb hkbl j hj
      have pa0 := pa 0 (by omega)
      have pa1 := pa 1 (by omega)
      have pa2 := pa 2 (by omega)
      have pb0 := pb 0 (by omega)
      have pb1 := pb 1 (by omega)
      have pb2 := pb 2 (by omega)
      have hpl : ∀ w', Calls Try.prog 27 #[.agg #[.int .i64 (P ka 0), .int .i64 (P ka 1), .int .i64 (P ka 2)], .int .i64 1, .agg #[.int .i64 (P kb 0), .int .i64 (P kb 1), .int .i64 (P kb 2)]] w' fun e w'' => e = .returned (.agg #[.int .i64 (P ka 0 + P kb 0), .int .i64 (P ka 1 + P kb 1), .int .i64 (P ka 2 + P kb 2)]) ∧ Kept w' w'' := fun w' => by
        have := splus_any (P ka 0) (P ka 1) (P ka 2) 1 (P kb 0) (P kb 1) (P kb 2) w' (by omega) (by omega)
        simpa only [Int.one_mul] using this
      have HPL := Lib.hid hpl
      have u : ∀ j, finP n m P F al np j = P ka j + P kb j := fun j => by
        have : np - n = cnB (newB al) a := by rw [← HNP.out]; unfold npt; omega
        unfold finP
        rw [if_neg (by rw [← HNP.out]; unfold npt; omega), this, fsel_at (by unfold newB; simpa using hlt') ha, hka, hkb]
      have HU := Lib.hid u
      clear e0 e1 pa pb hpl u
      obtain ⟨b, off, rfl, -, -⟩ := rows3 HP.out hkal
      go_wp2_with fail
      refine wp_region_tellC (C := fun W' => Kept W W' ∧ ∀ x ∈ restL w3 mb (.slice A2 np cp2), W'.heap[x.1]? = some x.2) [.q, .k (.slice A2 np cp2), .q, .q, .q, .q, .q, .q, .q, .q, .q, .q, .q, .q, .q, .s, .s, .q, .k undef] (AppX 1 15 16 18 W rb mb (restL w3 mb (.slice A2 np cp2)) (.slice A2 np cp2) np (finP n m P F al) vF nf F') (by kernel_rfl) (by kernel_rfl) (fun b => by kernel_rfl) ?_ ?_ ?_ ?_
      · exact fun bb => AppX.start HM3.out (by (repeat (first | exact Kept.refl _ | assumption | refine Kept.alloc ?_ _ | refine Kept.ext ?_ _ | refine Kept.drew ?_ | refine Kept.drewN ?_ _))) (fun x hx => fr_kept (mem_restL.1 hx).1 (by (repeat (first | exact Kept.refl _ | assumption | refine Kept.alloc ?_ _ | refine Kept.ext ?_ _ | refine Kept.drew ?_ | refine Kept.drewN ?_ _)))) (fun x hx => ⟨(mem_restL.1 hx).2.2, (mem_restL.1 hx).2.1⟩)
      · intro i L b w' w'' hs hI hk
        exact (hI.on hk).other (by rintro rfl; cases hs) (by rintro rfl; cases hs) (by rintro rfl; cases hs) (by rintro rfl; cases hs)
      · exact fun L b w' h => ⟨h.kept, h.pk⟩
      apply Exists.intro
      refine ⟨?_, ?_, ?_, ?_⟩
      · rintro bb W' ⟨hkW, hX⟩
        obtain ⟨s0, s1, -, -⟩ := cells2 (hX (w.heap.size, .cells #[.int .i64 (tl F a), .int .i64 (tl F (nxt a))] 80 (0, 0)) (mem_restL.2 ⟨HS3.out, fun e => by
          have e' : w.heap.size = mb := e
          have h := HS3.out
          rw [e', HM3.out.q] at h
          simp only [Option.some.injEq, Obj.cells.injEq] at h
          exact absurd h.2.1 (by decide), own_ne HM3.out.p HS3.out (by decide)⟩))
        obtain ⟨g0, g1, -, -⟩ := cells2 (fr_kept HM.out hkW)
        have LS' : Lower w.heap.size W'.heap.size := ⟨cell_lt s0⟩
        have LGM : Lower gm W'.heap.size := ⟨cell_lt g0⟩
        obtain ⟨b', off', eb, hb, f0, f1, f2⟩ := rows3 (HP.out.of hkW) hkal
        cases eb
        obtain ⟨b', off', eb, hb', q0, q1, q2⟩ := rows3 (HP.out.of hkW) hkbl
        cases eb
        have LB : Lower b W'.heap.size := ⟨hb⟩
        clear hkW hX
        simp only [swapL, Nat.reduceAdd]
        repeat (go_big_quiet_step (first | (go_at_call 27; exact Calls.kept_of (HPL.out _))))
        refine wpQuiet_nil ?_
        rfl
      · simp only [EachS, and_true]
        refine ⟨?_, ?_, ?_, ?_⟩
        · intro L b w' hd hL hI
          have h0 := hI.v0 hL
          have LQ : Lower mb w'.heap.size := ⟨cell_lt h0⟩
          go_simp
          exact ⟨rfl, hI.op1 (by omega) hL⟩
        · intro L b w' hd hL hI
          have h5 := hI.op5 (by omega)
          rw [HU.out 0, HU.out 1, HU.out 2] at h5
          go_simp
          exact ⟨rfl, h5⟩
        · intro L b w' hd hL hI
          have d5 : L 15 = true := hd { on := 15, ground := .data } (by simp) rfl
          obtain ⟨g5, e5, e6⟩ := hI.n5 d5
          have hs := hI.s hL
          refine tells_append (.tmp 28) (.tmp 42) 22 (by rfl) _ 27 i0 _ 3 24 Try.underlying22 HJP.out.1 HJP.out.2.1 HJP.out.2.2.1 HJP.out.2.2.2 (by rfl) (by omega) (kept_le hI.kept) _ np (rowC 3 (finP n m P F al) np) (by rfl) hs (some ⟨g5, 0, none⟩) 1 1 _ e5 (one_rows (e6 hL) ⟨by rw [HU.out 0]; unfold I64; omega, by rw [HU.out 1]; unfold I64; omega, by rw [HU.out 2]; unfold I64; omega⟩) (by unfold maxLen; omega) (by omega) ?_
          intro v' w'' k1 k2 k3
          rw [rowC_one3, ← rowC_succ3] at k1
          exact ⟨rfl, hI.op6 (by omega) hL k1 k2⟩
        · intro L b w' hd hL hI
          have d1 : L 1 = true := hd { on := 1, ground := .phase } (by simp) rfl
          have d6 : L 16 = true := hd { on := 16, ground := .phase } (by simp) rfl
          have h8 := hI.op8 (u := undef) (by omega) d1 d6 hL hrb hmb
          obtain ⟨q0, -, q1, -⟩ := cells2 hI.q
          obtain ⟨A6, c6, e6⟩ := own_slice2 (hI.t d6)
          rw [e6] at h8
          have LQ : Lower mb w'.heap.size := ⟨cell_lt q0⟩
          go_simp
          exact ⟨rfl, h8⟩
      · intro b b' d hd
        simp [callSlots, dullOp] at hd
        try (subst hd; rfl)
      · intro L b w' hL hI
        have hM4 := hI.done (hL 16 (by decide)) (hL 18 (by decide))
        have hX := hI.pk
        have hX4 : ∀ c, c < w3.heap.size → c ≠ mb → some c ≠ (Value.slice A2 np cp2).ownBlock → w'.heap[c]? = w3.heap[c]? := fun c hc h1 h2 => by
          have hc' : w3.heap[c]? = some (w3.heap[c]) := Array.getElem?_eq_getElem hc
          rw [hc']
          exact hX (c, w3.heap[c]) (mem_restL.2 ⟨hc', h1, h2⟩)
        have hsz4 : w.heap.size ≤ w'.heap.size := by
          have := hX (w.heap.size, .cells #[.int .i64 (tl F a), .int .i64 (tl F (nxt a))] 80 (0, 0)) (mem_restL.2 ⟨HS3.out, fun e => by
            have e' : w.heap.size = mb := e
            have h := HS3.out
            rw [e', HM3.out.q] at h
            simp only [Option.some.injEq, Obj.cells.injEq] at h
            exact absurd h.2.1 (by decide), own_ne HM3.out.p HS3.out (by decide)⟩)
          exact Nat.le_of_lt (Array.getElem?_eq_some_iff.1 this).1
        have HM4 := Lib.hid hM4
        have HX4 := Lib.hid hX4
        have HSZ4 := Lib.hid hsz4
        clear hM4 hX hX4 hL hI hsz4
        go_wp2_with fail
        refine bodyPost_ret (by simp only [results, Try.results46]; go_simp; rfl) rfl ?_
        refine ⟨by rw [HMID.out, HNP.out], b 16, ⟨by rw [HN1.out, HNP.out]; exact HM4.out, ?_, ?_⟩, HSZ4.out, fun c hc h1 h2 h3 => ?_⟩
        · have e : numS n al F (a + 1) = fun s => if s = (tl F (nxt a), tl F a) then some (np : Int) else if s = (tl F a, tl F (nxt a)) then some (np : Int) else numS n al F a s := by
            funext s
            show (if s = (tl F (nxt a), tl F a) then some ((midN n al a : Nat) : Int) else if s = (tl F a, tl F (nxt a)) then some ((midN n al a : Nat) : Int) else numS n al F a s) = _
            rw [HMID.out, HNP.out]
          rw [e]
          exact H8.out.heap (HX4.out B hBl hBm (fun e => hBo e.symm))
        · rw [HX4.out qb (Array.getElem?_eq_some_iff.1 HQ3.out).1 (fun e => ?_) (own_ne HM3.out.p HQ3.out (by decide))]
          · exact HQ3.out
          · have h := HQ3.out
            rw [e, HM3.out.q] at h
            simp only [Option.some.injEq, Obj.cells.injEq] at h
            exact absurd h.2.1 (by decide)
        · rw [HX4.out c (by omega) h1 h3]
          exact HOT.out c hc h2
end Go.Proofs.Ytbhcjdgfcinpcaa
