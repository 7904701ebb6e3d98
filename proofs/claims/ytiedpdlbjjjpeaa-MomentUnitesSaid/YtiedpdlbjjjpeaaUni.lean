/- The list of two lists, made anew while a block is allotted at any time: what is known at each step. No conditions but those of each theorem. -/
import Derived.Test.YtiedpdlbjjjpeaaCat
import Derived.Test.YtiedpdlbjjjpeaaTell
namespace Go.Proofs.Ytiedpdlbjjjpeaa
set_option linter.unusedVariables false
set_option linter.unusedSimpArgs false
open Go.ChangeShapes Go.WideShapes Go.ChangeAt Go.RowKit
theorem own_cat {w : World} {base n m : Nat} {e : TypeId} {v : Value} {f g : Nat → Nat → Int} (h : w.ownsRow base e 10 v (n + m) (rowC 10 f n ++ rowC 10 g m)) : w.ownsRow base e 10 v (n + m) (rowC 10 (catF n f g) (n + m)) := by
  rw [rowC_cat]
  exact h
theorem own_new (X : World) (base : Nat) {e : TypeId} {c : Nat} (h : base ≤ X.heap.size) : (X.alloc (.cells #[] e)).ownsRow base e c (.slice (some ⟨X.heap.size, 0, none⟩) 0 0) 0 [] :=
  ⟨by simp, .inr ⟨_, 0, #[], rfl, h, heap_alloc_new X _, by omega, by unfold maxLen; omega, by simp, by simp⟩⟩
theorem own_lt {w : World} {base size n b : Nat} {e : TypeId} {v : Value} {xs : List Value} (h : w.ownsRow base e size v n xs) (hb : v.ownBlock = some b) : b < w.heap.size := by
  rcases h.2 with ⟨rfl, rfl⟩ | ⟨g', cap, cur, rfl, -, hc, -⟩
  · cases hb
  · have hl := (Array.getElem?_eq_some_iff.1 hc).1
    simp only [Value.ownBlock, Option.some.injEq] at hb
    omega
theorem kept_le {w w' : World} (h : Kept w w') : w.heap.size ≤ w'.heap.size := by
  obtain ⟨x, rfl⟩ := h
  rw [ext_size]
  exact adv_le _ _
def SLc (WB w' : World) (e : TypeId) (L : Nat → Bool) (b : Nat → Value) (v : Value) (n : Nat) (xs : List Value) : Prop :=
  w'.ownsRow WB.heap.size e 10 v n xs ∧ (L 10 = true → ∀ k, b 10 = .pointer (some ⟨k, 0, none⟩) → some k ≠ v.ownBlock)
structure UI (WB : World) (e T : TypeId) (z ms : Array Value) (n m : Nat) (f g : Nat → Nat → Int) (L : Nat → Bool) (b : Nat → Value) (w' : World) : Prop where
  kept : Kept WB w'
  a4 : L 4 = true → L 2 = true
  a11 : L 11 = true → L 10 = true
  s0 : L 0 = true → L 2 = false → SLc WB w' e L b (b 0) 0 []
  s2 : L 2 = true → L 4 = false → SLc WB w' e L b (b 2) n (rowC 10 f n)
  s4 : L 4 = true → L 6 = false → SLc WB w' e L b (b 4) (n + m) (rowC 10 f n ++ rowC 10 g m)
  p : L 10 = true → ∃ k, b 10 = .pointer (some ⟨k, 0, none⟩) ∧ WB.heap.size ≤ k ∧ w'.heap[k]? = some (.cells (if L 11 = true then ms else z) T (0, 0))
section
variable {WB : World} {e T : TypeId} {z ms : Array Value} {n m : Nat} {f g : Nat → Nat → Int} {L : Nat → Bool} {b : Nat → Value} {w' w'' : World}
theorem SLc.on {v : Value} {k : Nat} {xs : List Value} (h : SLc WB w' e L b v k xs) (hk : Kept w' w'') : SLc WB w'' e L b v k xs := ⟨owns_kept h.1 hk, h.2⟩
theorem UI.on (h : UI WB e T z ms n m f g L b w') (hk : Kept w' w'') : UI WB e T z ms n m f g L b w'' where
  kept := h.kept.trans hk
  a4 := h.a4
  a11 := h.a11
  s0 := fun h1 h2 => (h.s0 h1 h2).on hk
  s2 := fun h1 h2 => (h.s2 h1 h2).on hk
  s4 := fun h1 h2 => (h.s4 h1 h2).on hk
  p := fun h1 => by
    obtain ⟨k, e1, e2, e3⟩ := h.p h1
    exact ⟨k, e1, e2, heap_kept e3 hk⟩
/-- Another operation. -/
theorem UI.other {i : Nat} (h : UI WB e T z ms n m f g L b w') (h0 : i ≠ 0) (h2 : i ≠ 2) (h4 : i ≠ 4) (h6 : i ≠ 6) (h10 : i ≠ 10) (h11 : i ≠ 11) : UI WB e T z ms n m f g (doneAt L i) b w' := by
  have key : ∀ j, j ≠ i → doneAt L i j = L j := fun j hj => if_neg hj
  refine ⟨h.kept, ?_, ?_, ?_, ?_, ?_, ?_⟩
  · rw [key 4 (Ne.symm h4), key 2 (Ne.symm h2)]; exact h.a4
  · rw [key 11 (Ne.symm h11), key 10 (Ne.symm h10)]; exact h.a11
  · unfold SLc
    rw [key 0 (Ne.symm h0), key 2 (Ne.symm h2), key 10 (Ne.symm h10)]; exact h.s0
  · unfold SLc
    rw [key 4 (Ne.symm h4), key 2 (Ne.symm h2), key 10 (Ne.symm h10)]; exact h.s2
  · unfold SLc
    rw [key 4 (Ne.symm h4), key 6 (Ne.symm h6), key 10 (Ne.symm h10)]; exact h.s4
  · rw [key 11 (Ne.symm h11), key 10 (Ne.symm h10)]; exact h.p
theorem UI.op0 (h : UI WB e T z ms n m f g L b w') (d0 : L 0 = false) : UI WB e T z ms n m f g (doneAt L 0) (tellAt b 0 (.slice (some ⟨w'.heap.size, 0, none⟩) 0 0)) (w'.alloc (.cells #[] e)) := by
  have hk : Kept w' (w'.alloc (.cells #[] e)) := (Kept.refl _).alloc _
  have h' := h.on hk
  refine ⟨h'.kept, h'.a4, h'.a11, fun _ _ => ⟨own_new _ _ (kept_le h.kept), fun h1 k hb => ?_⟩, fun h1 h2 => h'.s2 h1 h2, fun h1 h2 => h'.s4 h1 h2, fun h1 => h'.p h1⟩
  obtain ⟨k', e1, e2, e3⟩ := h.p h1
  have e4 : k' = k := by
    have := e1.symm.trans hb
    simpa using this
  subst e4
  have := (Array.getElem?_eq_some_iff.1 e3).1
  intro q
  simp only [tellAt, if_true, Value.ownBlock, Option.some.injEq] at q
  omega
theorem UI.op10 (h : UI WB e T z ms n m f g L b w') (d10 : L 10 = false) : UI WB e T z ms n m f g (doneAt L 10) (tellAt b 10 (.pointer (some ⟨w'.heap.size, 0, none⟩))) (w'.alloc (.cells z T)) := by
  have hk : Kept w' (w'.alloc (.cells z T)) := (Kept.refl _).alloc _
  have h' := h.on hk
  have key : ∀ {v : Value} {k : Nat} {xs : List Value}, SLc WB w' e L b v k xs → SLc WB (w'.alloc (.cells z T)) e (doneAt L 10) (tellAt b 10 (.pointer (some ⟨w'.heap.size, 0, none⟩))) v k xs := by
    intro v k xs hs
    refine ⟨owns_kept hs.1 hk, fun _ j hj q => ?_⟩
    simp only [tellAt, if_true, Value.pointer.injEq, Option.some.injEq, Addr.mk.injEq, and_true] at hj
    have := own_lt hs.1 q.symm
    omega
  refine ⟨h'.kept, h'.a4, fun _ => rfl, fun h1 h2 => key (h.s0 h1 h2), fun h1 h2 => key (h.s2 h1 h2), fun h1 h2 => key (h.s4 h1 h2), fun _ => ⟨_, rfl, kept_le h.kept, ?_⟩⟩
  have d11 : doneAt L 10 11 = false := by
    show L 11 = false
    cases h11 : L 11 with
    | false => rfl
    | true => rw [h.a11 h11] at d10; cases d10
  rw [d11]
  exact heap_alloc_new w' _
theorem UI.op2 {v' : Value} (h : UI WB e T z ms n m f g L b w') (d0 : L 0 = true) (d2 : L 2 = false) (hown : w''.ownsRow WB.heap.size e 10 v' n (rowC 10 f n)) (hg : w'.grownBy w'' (b 0).ownBlock)
    (hv : v'.ownBlock = (b 0).ownBlock ∨ v'.ownBlock = some w'.heap.size) : UI WB e T z ms n m f g (doneAt L 2) (tellAt b 2 v') w'' := by
  obtain ⟨ho, hp⟩ := h.s0 d0 d2
  have d4 : L 4 = false := by
    cases h4 : L 4 with
    | false => rfl
    | true => rw [h.a4 h4] at d2; cases d2
  refine ⟨kept_grown h.kept ho (Nat.le_refl _) hg, fun h1 => rfl, h.a11, fun _ h2 => (by cases h2), fun _ _ => ⟨hown, fun h1 k hb q => ?_⟩, fun h1 => (by rw [show doneAt L 2 4 = L 4 from rfl, d4] at h1; cases h1), fun h1 => ?_⟩
  · obtain ⟨k', e1, e2, e3⟩ := h.p h1
    have e4 : k' = k := by
      have := e1.symm.trans hb
      simpa using this
    subst e4
    have hne := hp h1 k' e1
    have := (Array.getElem?_eq_some_iff.1 e3).1
    rcases hv with hv | hv
    · exact hne (q.trans hv)
    · rw [show tellAt b 2 v' 2 = v' from rfl, hv] at q
      injection q with q
      omega
  · obtain ⟨k', e1, e2, e3⟩ := h.p h1
    refine ⟨k', e1, e2, ?_⟩
    rw [hg.block k' (Array.getElem?_eq_some_iff.1 e3).1 (hp h1 k' e1)]
    exact e3
theorem UI.op4 {v' : Value} (h : UI WB e T z ms n m f g L b w') (d2 : L 2 = true) (d4 : L 4 = false) (hown : w''.ownsRow WB.heap.size e 10 v' (n + m) (rowC 10 f n ++ rowC 10 g m)) (hg : w'.grownBy w'' (b 2).ownBlock)
    (hv : v'.ownBlock = (b 2).ownBlock ∨ v'.ownBlock = some w'.heap.size) : UI WB e T z ms n m f g (doneAt L 4) (tellAt b 4 v') w'' := by
  obtain ⟨ho, hp⟩ := h.s2 d2 d4
  refine ⟨kept_grown h.kept ho (Nat.le_refl _) hg, fun h1 => d2, h.a11, fun _ h2 => (by rw [show doneAt L 4 2 = L 2 from rfl, d2] at h2; cases h2), fun _ h2 => (by cases h2), fun _ _ => ⟨hown, fun h1 k hb q => ?_⟩, fun h1 => ?_⟩
  · obtain ⟨k', e1, e2, e3⟩ := h.p h1
    have e4 : k' = k := by
      have := e1.symm.trans hb
      simpa using this
    subst e4
    have hne := hp h1 k' e1
    have := (Array.getElem?_eq_some_iff.1 e3).1
    rcases hv with hv | hv
    · exact hne (q.trans hv)
    · rw [show tellAt b 4 v' 4 = v' from rfl, hv] at q
      injection q with q
      omega
  · obtain ⟨k', e1, e2, e3⟩ := h.p h1
    refine ⟨k', e1, e2, ?_⟩
    rw [hg.block k' (Array.getElem?_eq_some_iff.1 e3).1 (hp h1 k' e1)]
    exact e3
theorem UI.op6 {v : Value} (h : UI WB e T z ms n m f g L b w') : UI WB e T z ms n m f g (doneAt L 6) (tellAt b 6 v) w' :=
  ⟨h.kept, h.a4, h.a11, fun h1 h2 => h.s0 h1 h2, fun h1 h2 => h.s2 h1 h2, fun _ h2 => (by cases h2), fun h1 => h.p h1⟩
theorem UI.op11 {v : Value} (h : UI WB e T z ms n m f g L b w') (d2 : L 2 = true) (d4 : L 4 = true) (d6 : L 6 = true) (d10 : L 10 = true)
    (hw : ∀ k, b 10 = .pointer (some ⟨k, 0, none⟩) → WB.heap.size ≤ k → Kept WB w'' ∧ w''.heap[k]? = some (.cells ms T (0, 0))) : UI WB e T z ms n m f g (doneAt L 11) (tellAt b 11 v) w'' := by
  obtain ⟨k, e1, e2, e3⟩ := h.p d10
  obtain ⟨k1, k2⟩ := hw k e1 e2
  exact ⟨k1, h.a4, fun _ => d10, fun _ h2 => (by rw [show doneAt L 11 2 = L 2 from rfl, d2] at h2; cases h2), fun _ h2 => (by rw [show doneAt L 11 4 = L 4 from rfl, d4] at h2; cases h2),
    fun _ h2 => (by rw [show doneAt L 11 6 = L 6 from rfl, d6] at h2; cases h2), fun _ => ⟨k, e1, e2, k2⟩⟩
end
/-- An append of a list that can be read to a list of the call's own, at any time. -/
theorem tells_append {P : Program} {K : Value → World → Prop} {w' : World} {ρ : Operand → Value} {o : Oper} (s x : Operand) (t : TypeId)
    (ho : o.op = .call { callee := .builtin .append, args := #[s, x], argTypes := #[t, t] })
    (base : Nat) (e : TypeId) (i : TypeInfo) (z : Value) (c bytes : Nat) (ht : P.underlying t = some (.slice e)) (hi : P.info? e = some i) (hz : i.zero = some z)
    (hsize : i.size = c) (hby : i.bytes = bytes) (hzs : z.cells.size = c) (hc : 0 < c) (hbase : base ≤ w'.heap.size)
    (v : Value) (n : Nat) (xs : List Value) (hs : ρ s = v) (hown : w'.ownsRow base e c v n xs)
    (A : Option Addr) (m cp : Nat) (f : Nat → Nat → Int) (hx : ρ x = .slice A m cp) (hr : RowsAt w' A m c f) (h63 : n + m ≤ maxLen) (hbytes : (n + m) * bytes ≤ 140737488355328)
    (h : ∀ v' w'', w''.ownsRow base e c v' (n + m) (xs ++ rowC c f m) → w'.grownBy w'' v.ownBlock → (v'.ownBlock = v.ownBlock ∨ v'.ownBlock = some w'.heap.size) → K v' w'') : tellsUpon P K ((execOp ρ o).run P w') := by
  obtain ⟨v', w'', hrun, h2, h3, h9⟩ := run_append_rows (P := P) base t o.type e i z c bytes ht hi hz hsize hby hzs hc v n xs hown A m cp f hr h63 hbytes hbase
  unfold execOp
  simp only [ho, resolve, invoke, builtin, Sem.run_bind, Sem.run_pure, Result.andThen_ok, List.map_toArray, List.map_cons, List.map_nil, hs, hx, hrun]
  exact h v' w'' h2 h3 h9
/-- A whole new block stored into, at any time. -/
theorem tells_store {P : Program} {K : Value → World → Prop} {w' : World} {ρ : Operand → Value} {o : Oper} (ty : TypeId) (x y : Operand) (ho : o.op = .store ty x y)
    (g : Nat) (cells : Array Value) (hx : ρ x = .pointer (some ⟨g, 0, none⟩)) (hy : ρ y = .agg cells)
    (t : TypeId) (old : Array Value) (hg : w'.heap[g]? = some (.cells old t (0, 0))) (hi : (P.info? ty).map (·.size) = some cells.size)
    (hold : old.size = cells.size) (h1 : cells.all (·.oneCell') = true) (h : K undef (w'.setRow g cells)) : tellsUpon P K ((execOp ρ o).run P w') := by
  unfold execOp
  simp only [ho, hx, hy, Instr.storeAt, Instr.sureAddr, Sem.run_bind, Sem.run_pure, Result.andThen_ok, run_storeVar_row w' g t ty old cells hg hi hold h1]
  exact h
theorem row_new {w : World} {g : Nat} {old cells : Array Value} {t : TypeId} (hg : w.heap[g]? = some (.cells old t (0, 0))) : (w.setRow g cells).heap[g]? = some (.cells cells t (0, 0)) := by
  unfold World.setRow
  simp [Array.getElem?_modify, hg]
theorem row_kept {W w : World} {g : Nat} {cells : Array Value} (h : Kept W w) (hg : W.heap.size ≤ g) : Kept W (w.setRow g cells) := by
  refine Kept.of_below ?_
  obtain ⟨x, rfl⟩ := h
  refine ⟨rfl, rfl, rfl, by simp [World.setRow, adv], fun k hk => ?_⟩
  unfold World.setRow
  simp only [Array.getElem?_modify]
  rw [if_neg (by omega)]
  exact ext_block _ _ _ hk
end Go.Proofs.Ytiedpdlbjjjpeaa
