/- What lies in memory that a call has made: cells of the new blocks by their numbers. No conditions but those of each theorem. Blocks that a region allots and fills in a drawn order: what is known at each step. No conditions but those of each theorem. -/
import Derived.Test.YtnbjealpcjfllaaGreatDoorBas
import Derived.Test.YtnbjealpcjfllaaGreatDoorTell
namespace Go.Proofs.YtnbjealpcjfllaaGreatDoor
set_option linter.unusedVariables false
set_option linter.unusedSimpArgs false
open Go.RowKit
/-- Cell o of new block i. -/
def More.cell (x : More) (i o : Nat) : Option Value := match x.obs[i]? with
  | some (.cells c _ _) => c[o]?
  | _ => none
def More.froz (x : More) (i o : Nat) : Bool := match x.obs[i]? with
  | some (.cells _ _ (lo, hi)) => lo ≤ o && o < hi
  | _ => false
/-- The same with v in cell o of new block i. -/
def More.put (x : More) (i o : Nat) (v : Value) : More := ⟨x.draws, x.obs.modify i fun
  | .cells c elem frozen => .cells (c.setIfInBounds o v) elem frozen
  | b => b⟩
theorem ext_at {w : World} {x : More} {n i : Nat} [h : SizeIs w n] : (ext w x).heap[adv n i]? = x.obs[i]? := by
  have e := h.eq
  subst e
  show (w.heap ++ x.obs)[w.heap.size + i]? = x.obs[i]?
  rw [Array.getElem?_append_right (by omega), show w.heap.size + i - w.heap.size = i by omega]
@[go_sem] theorem ext_cell_in (w : World) (x : More) (i o n : Nat) [SizeIs w n] : (ext w x).cell? ⟨adv n i, o, none⟩ = x.cell i o := by
  unfold World.cell? More.cell
  simp only [ext_at]
  rfl
@[go_sem] theorem ext_frozen_in (w : World) (x : More) (i o n : Nat) [SizeIs w n] : (ext w x).frozen? ⟨adv n i, o, none⟩ = x.froz i o := by
  unfold World.frozen? More.froz
  simp only [ext_at]
  rfl
@[go_sem] theorem ext_store_in (w : World) (x : More) (i o n : Nat) (v : Value) [h : SizeIs w n] : (ext w x).setCell ⟨adv n i, o, none⟩ v = ext w (x.put i o v) := by
  have e := h.eq
  subst e
  unfold ext World.setCell More.put adv
  simp only [World.mk.injEq, and_true, true_and]
  apply Array.ext_getElem?
  intro k
  rw [Array.getElem?_modify, Array.getElem?_append, Array.getElem?_append, Array.getElem?_modify]
  by_cases hk : w.heap.size + i = k
  · subst hk
    rw [if_neg (show ¬ w.heap.size + i < w.heap.size by omega), if_neg (show ¬ w.heap.size + i < w.heap.size by omega), show w.heap.size + i - w.heap.size = i by omega]
    rw [if_pos rfl, if_pos rfl]
    congr
  · by_cases hlt : k < w.heap.size
    · simp [hk, hlt]
    · rw [if_neg hk, if_neg hlt, if_neg hlt, if_neg (by omega)]
@[simp, go_sem] theorem put_size (x : More) (i o : Nat) (v : Value) : (x.put i o v).obs.size = x.obs.size := by simp [More.put]
@[simp, go_sem] theorem put_draws (x : More) (i o : Nat) (v : Value) : (x.put i o v).draws = x.draws := rfl
@[go_sem] theorem put_cell_same (x : More) (i o : Nat) (v : Value) : (x.put i o v).cell i o = (x.cell i o).map fun _ => v := by
  unfold More.cell More.put
  simp only [Array.getElem?_modify, if_true]
  cases h : x.obs[i]? with
  | none => rfl
  | some b =>
    cases b with
    | cells c e f =>
      simp only [Option.map_some]
      rw [Array.getElem?_setIfInBounds_self]
      by_cases ho : o < c.size
      · simp [ho]
      · simp [ho]
    | _ => rfl
theorem put_cell_off {x : More} {i j o p : Nat} {v : Value} (h : o ≠ p) : (x.put i o v).cell j p = x.cell j p := by
  unfold More.cell More.put
  simp only [Array.getElem?_modify]
  by_cases hij : i = j
  · subst hij
    simp only [if_true]
    cases hb : x.obs[i]? with
    | none => rfl
    | some b =>
      cases b with
      | cells c e f => simp [Array.getElem?_setIfInBounds_ne h]
      | _ => rfl
  · simp [hij]
theorem put_cell_block {x : More} {i j o p : Nat} {v : Value} (h : i ≠ j) : (x.put i o v).cell j p = x.cell j p := by
  unfold More.cell More.put
  simp only [Array.getElem?_modify, if_neg h]
theorem put_froz (x : More) (i j o p : Nat) (v : Value) : (x.put i o v).froz j p = x.froz j p := by
  unfold More.froz More.put
  simp only [Array.getElem?_modify]
  by_cases hij : i = j
  · subst hij
    simp only [if_true]
    cases hb : x.obs[i]? with
    | none => rfl
    | some b => cases b <;> rfl
  · simp [hij]
attribute [go_sem] put_froz
instance lower_adv2 (n i k : Nat) [h : Lower i k] : Lower (adv n i) (adv n k) := ⟨Nat.add_lt_add_left h.lt n⟩
/-- Two new blocks, by their numbers. -/
theorem kept_at2 {W w' : World} {n b1 b2 : Nat} [hs : SizeIs W n] (h : Kept W w') (h1 : n ≤ b1 ∧ b1 < w'.heap.size) (h2 : n ≤ b2 ∧ b2 < w'.heap.size) :
    ∃ y i j, w' = ext W y ∧ b1 = adv n i ∧ b2 = adv n j ∧ i < y.obs.size ∧ j < y.obs.size ∧ (∀ o, y.cell i o = w'.cell? ⟨b1, o, none⟩) ∧ (∀ o, y.cell j o = w'.cell? ⟨b2, o, none⟩) := by
  obtain ⟨y, rfl⟩ := h
  have e := hs.eq
  simp only [ext_size, adv] at h1 h2
  refine ⟨y, b1 - n, b2 - n, rfl, by unfold adv; omega, by unfold adv; omega, by omega, by omega, fun o => ?_, fun o => ?_⟩
  · have := ext_cell_in W y (b1 - n) o n
    rw [← this]
    unfold adv
    rw [show n + (b1 - n) = b1 by omega]
  · have := ext_cell_in W y (b2 - n) o n
    rw [← this]
    unfold adv
    rw [show n + (b2 - n) = b2 by omega]
end Go.Proofs.YtnbjealpcjfllaaGreatDoor
namespace Go.Proofs.YtnbjealpcjfllaaGreatDoor
set_option linter.unusedVariables false
set_option linter.unusedSimpArgs false
open Go.RowKit
/-- A block that operation a allots, cells z of type T, and that operation s fills with c. -/
structure Fr where
  a : Nat
  s : Nat
  T : TypeId
  z : Array Value
  c : Array Value
structure FI (W : World) (frs : List Fr) (L : Nat → Bool) (b : Nat → Value) (w' : World) : Prop where
  kept : Kept W w'
  o : ∀ (i : Nat) (x : Fr), frs[i]? = some x → L x.s = true → L x.a = true
  p : ∀ (i : Nat) (x : Fr), frs[i]? = some x → L x.a = true → ∃ k, b x.a = .pointer (some ⟨k, 0, none⟩) ∧ W.heap.size ≤ k ∧ w'.heap[k]? = some (.cells (if L x.s = true then x.c else x.z) x.T (0, 0))
  d : ∀ (i j : Nat) (x y : Fr), frs[i]? = some x → frs[j]? = some y → i ≠ j → L x.a = true → L y.a = true → b x.a ≠ b y.a
def frsB (sp : List Tk) (frs : List Fr) : Bool :=
  (List.range frs.length).all fun i => match frs[i]? with
    | none => true
    | some x => spAt sp x.a && spAt sp x.s && (List.range frs.length).all fun j => match frs[j]? with
      | none => true
      | some y => y.s != x.a && (i == j || (y.a != x.a && y.s != x.s))
theorem frsB_spec {sp : List Tk} {frs : List Fr} (h : frsB sp frs = true) {i : Nat} {x : Fr} (hx : frs[i]? = some x) :
    spAt sp x.a = true ∧ spAt sp x.s = true ∧ ∀ (j : Nat) (y : Fr), frs[j]? = some y → y.s ≠ x.a ∧ (i ≠ j → y.a ≠ x.a ∧ y.s ≠ x.s) := by
  have h1 := List.all_eq_true.1 h i (List.mem_range.2 (List.getElem?_eq_some_iff.1 hx).1)
  simp only [hx, Bool.and_eq_true] at h1
  refine ⟨h1.1.1, h1.1.2, fun j y hy => ?_⟩
  have h2 := List.all_eq_true.1 h1.2 j (List.mem_range.2 (List.getElem?_eq_some_iff.1 hy).1)
  simp only [hy, Bool.and_eq_true, Bool.or_eq_true, bne_iff_ne, beq_iff_eq] at h2
  exact ⟨h2.1, fun hij => h2.2.resolve_left hij⟩
section
variable {W w' w'' : World} {sp : List Tk} {frs : List Fr} {L : Nat → Bool} {b : Nat → Value}
theorem fr_kept {w w' : World} {b : Nat} {o : Obj} (h : w.heap[b]? = some o) (hk : Kept w w') : w'.heap[b]? = some o := by
  obtain ⟨x, rfl⟩ := hk
  rw [ext_block _ _ _ (Array.getElem?_eq_some_iff.1 h).1]
  exact h
theorem fr_le {w w' : World} (h : Kept w w') : w.heap.size ≤ w'.heap.size := by
  obtain ⟨x, rfl⟩ := h
  rw [ext_size]
  exact adv_le _ _
theorem FI.start (b : Nat → Value) : FI W frs (fun _ => false) b W.drew :=
  ⟨(Kept.refl _).drew, fun _ _ _ h => (by cases h), fun _ _ _ h => (by cases h), fun _ _ _ _ _ _ _ h => (by cases h)⟩
theorem FI.on (h : FI W frs L b w') (hk : Kept w' w'') : FI W frs L b w'' :=
  ⟨h.kept.trans hk, h.o, fun i x hx h1 => by
    obtain ⟨k, e1, e2, e3⟩ := h.p i x hx h1
    exact ⟨k, e1, e2, fr_kept e3 hk⟩, h.d⟩
theorem FI.other (hB : frsB sp frs = true) {i : Nat} (hi : spAt sp i = false) (h : FI W frs L b w') : FI W frs (doneAt L i) b w' := by
  have key : ∀ (j : Nat) (x : Fr), frs[j]? = some x → doneAt L i x.a = L x.a ∧ doneAt L i x.s = L x.s := fun j x hx => by
    obtain ⟨h1, h2, -⟩ := frsB_spec hB hx
    exact ⟨if_neg (by rintro rfl; rw [h1] at hi; cases hi), if_neg (by rintro rfl; rw [h2] at hi; cases hi)⟩
  refine ⟨h.kept, fun j x hx => ?_, fun j x hx => ?_, fun i j x y hx hy => ?_⟩
  · rw [(key j x hx).1, (key j x hx).2]; exact h.o j x hx
  · rw [(key j x hx).1, (key j x hx).2]; exact h.p j x hx
  · rw [(key i x hx).1, (key j y hy).1]; exact h.d i j x y hx hy
theorem FI.alloc (hB : frsB sp frs = true) {j : Nat} {x : Fr} (hx : frs[j]? = some x) (h : FI W frs L b w') (hL : L x.a = false) :
    FI W frs (doneAt L x.a) (tellAt b x.a (.pointer (some ⟨w'.heap.size, 0, none⟩))) (w'.alloc (.cells x.z x.T)) := by
  have hk : Kept w' (w'.alloc (.cells x.z x.T)) := (Kept.refl _).alloc _
  obtain ⟨-, -, hn⟩ := frsB_spec hB hx
  have ks : ∀ (i : Nat) (y : Fr), frs[i]? = some y → doneAt L x.a y.s = L y.s := fun i y hy => if_neg (hn i y hy).1
  refine ⟨h.kept.trans hk, fun i y hy h1 => ?_, fun i y hy h1 => ?_, fun i i2 y y2 hy hy2 hne h1 h2 => ?_⟩
  · rw [ks i y hy] at h1
    unfold doneAt
    split
    · rfl
    · exact h.o i y hy h1
  · by_cases e : j = i
    · subst e
      obtain rfl : x = y := Option.some.inj (hx.symm.trans hy)
      refine ⟨w'.heap.size, if_pos rfl, fr_le h.kept, ?_⟩
      have d : doneAt L x.a x.s = false := by
        rw [ks j x hx]
        cases q : L x.s with
        | false => rfl
        | true => rw [h.o j x hx q] at hL; cases hL
      rw [d]
      exact heap_alloc_new w' _
    · have na := ((hn i y hy).2 e).1
      have h1' : L y.a = true := by
        unfold doneAt at h1
        rwa [if_neg na] at h1
      obtain ⟨k, e1, e2, e3⟩ := h.p i y hy h1'
      refine ⟨k, ?_, e2, ?_⟩
      · unfold tellAt; rw [if_neg na]; exact e1
      · rw [ks i y hy]; exact fr_kept e3 hk
  · have new : ∀ (i : Nat) (y : Fr), frs[i]? = some y → i ≠ j → doneAt L x.a y.a = true → tellAt b x.a (.pointer (some ⟨w'.heap.size, 0, none⟩)) y.a = b y.a ∧ L y.a = true ∧ b y.a ≠ .pointer (some ⟨w'.heap.size, 0, none⟩) := by
      intro i y hy hij h1
      have na := ((hn i y hy).2 (Ne.symm hij)).1
      have h1' : L y.a = true := by
        unfold doneAt at h1
        rwa [if_neg na] at h1
      refine ⟨if_neg na, h1', ?_⟩
      obtain ⟨k, e1, e2, e3⟩ := h.p i y hy h1'
      rw [e1]
      intro q
      simp only [Value.pointer.injEq, Option.some.injEq, Addr.mk.injEq, and_true] at q
      have := (Array.getElem?_eq_some_iff.1 e3).1
      omega
    by_cases e : i = j
    · subst e
      obtain rfl : x = y := Option.some.inj (hx.symm.trans hy)
      obtain ⟨n1, n2, n3⟩ := new i2 y2 hy2 (Ne.symm hne) h2
      rw [n1, show tellAt b x.a (.pointer (some ⟨w'.heap.size, 0, none⟩)) x.a = .pointer (some ⟨w'.heap.size, 0, none⟩) from if_pos rfl]
      exact Ne.symm n3
    · obtain ⟨n1, n2, n3⟩ := new i y hy e h1
      rw [n1]
      by_cases e2 : i2 = j
      · subst e2
        obtain rfl : x = y2 := Option.some.inj (hx.symm.trans hy2)
        rw [show tellAt b x.a (.pointer (some ⟨w'.heap.size, 0, none⟩)) x.a = .pointer (some ⟨w'.heap.size, 0, none⟩) from if_pos rfl]
        exact n3
      · obtain ⟨m1, m2, -⟩ := new i2 y2 hy2 e2 h2
        rw [m1]
        exact h.d i i2 y y2 hy hy2 hne n2 m2
theorem row_at {w : World} {g : Nat} {old cells : Array Value} {t : TypeId} (hg : w.heap[g]? = some (.cells old t (0, 0))) : (w.setRow g cells).heap[g]? = some (.cells cells t (0, 0)) := setRow_heap w g old cells t (0, 0) hg
theorem row_kept2 {W w : World} {g : Nat} {cells : Array Value} (h : Kept W w) (hg : W.heap.size ≤ g) : Kept W (w.setRow g cells) := by
  refine Kept.of_below ?_
  obtain ⟨x, rfl⟩ := h
  refine ⟨rfl, rfl, rfl, by simp [World.setRow, adv], fun k hk => ?_⟩
  rw [setRow_other _ _ _ _ (by omega)]
  exact ext_block _ _ _ hk
theorem FI.store (hB : frsB sp frs = true) {j : Nat} {x : Fr} (hx : frs[j]? = some x) (h : FI W frs L b w') (ha : L x.a = true) {k : Nat} (hk : b x.a = .pointer (some ⟨k, 0, none⟩)) (v : Value) :
    FI W frs (doneAt L x.s) (tellAt b x.s v) (w'.setRow k x.c) := by
  obtain ⟨-, -, hn⟩ := frsB_spec hB hx
  have key : ∀ (i : Nat) (y : Fr), frs[i]? = some y → doneAt L x.s y.a = L y.a ∧ tellAt b x.s v y.a = b y.a := fun i y hy => by
    have := ((frsB_spec hB hy).2.2 j x hx).1
    exact ⟨if_neg (Ne.symm this), if_neg (Ne.symm this)⟩
  obtain ⟨k', e1, e2, e3⟩ := h.p j x hx ha
  obtain rfl : k' = k := by
    have := e1.symm.trans hk
    simpa using this
  refine ⟨row_kept2 h.kept e2, fun i y hy h1 => ?_, fun i y hy h1 => ?_, fun i i2 y y2 hy hy2 hne h1 h2 => ?_⟩
  · rw [(key i y hy).1]
    by_cases e : j = i
    · subst e
      obtain rfl : x = y := Option.some.inj (hx.symm.trans hy)
      exact ha
    · have ns := ((hn i y hy).2 e).2
      unfold doneAt at h1
      rw [if_neg ns] at h1
      exact h.o i y hy h1
  · rw [(key i y hy).1] at h1
    rw [(key i y hy).2]
    obtain ⟨q, f1, f2, f3⟩ := h.p i y hy h1
    refine ⟨q, f1, f2, ?_⟩
    by_cases e : j = i
    · subst e
      obtain rfl : x = y := Option.some.inj (hx.symm.trans hy)
      obtain rfl : q = k' := by
        have := f1.symm.trans hk
        simpa using this
      rw [show doneAt L x.s x.s = true from if_pos rfl, if_pos rfl]
      exact row_at e3
    · have ns := ((hn i y hy).2 e).2
      rw [show doneAt L x.s y.s = L y.s from if_neg ns]
      rw [setRow_other _ _ _ _ (by
        rintro rfl
        exact h.d j i x y hx hy e ha h1 (e1.trans f1.symm))]
      exact f3
  · rw [(key i y hy).1] at h1
    rw [(key i2 y2 hy2).1] at h2
    rw [(key i y hy).2, (key i2 y2 hy2).2]
    exact h.d i i2 y y2 hy hy2 hne h1 h2
variable {P : Program}
theorem FI.tells_alloc (hB : frsB sp frs = true) (j : Nat) {x : Fr} (hx : frs[j]? = some x) (h : FI W frs L b w') (hL : L x.a = false) {r : Result Next}
    (hr : r = .ok (.value (.pointer (some ⟨w'.heap.size, 0, none⟩))) (w'.alloc (.cells x.z x.T))) : tellsUpon P (fun v w'' => v = Tk.s.val v ∧ FI W frs (doneAt L x.a) (tellAt b x.a v) w'') r := by
  subst hr
  exact ⟨rfl, h.alloc hB hx hL⟩
theorem FI.tells_store (hB : frsB sp frs = true) (j : Nat) {x : Fr} (hx : frs[j]? = some x) (h : FI W frs L b w') (hL : L x.s = false) (ha : L x.a = true) {ρ : Operand → Value} {o : Oper} (ty : TypeId) (px py : Operand)
    (ho : o.op = .store ty px py) (hp : ρ px = b x.a) (hy : ρ py = .agg x.c) (hi : (P.info? ty).map (·.size) = some x.c.size) (hz : x.z.size = x.c.size) (h1 : x.c.all (·.oneCell') = true) :
    tellsUpon P (fun v w'' => v = Tk.s.val v ∧ FI W frs (doneAt L x.s) (tellAt b x.s v) w'') ((execOp ρ o).run P w') := by
  obtain ⟨k, e1, e2, e3⟩ := h.p j x hx ha
  rw [hL] at e3
  simp only [Bool.false_eq_true, if_false] at e3
  unfold execOp
  simp only [ho, hp.trans e1, hy, Instr.storeAt, Instr.sureAddr, Sem.run_bind, Sem.run_pure, Result.andThen_ok, run_storeVar_row w' k x.T ty x.z x.c e3 hi hz h1]
  exact ⟨rfl, h.store hB hx ha e1 _⟩
/-- At the end: what each block holds. -/
theorem FI.ends (h : FI W frs L b w') (j : Nat) {x : Fr} (hx : frs[j]? = some x) (ha : L x.a = true) (hs : L x.s = true) :
    ∃ k, b x.a = .pointer (some ⟨k, 0, none⟩) ∧ W.heap.size ≤ k ∧ w'.heap[k]? = some (.cells x.c x.T (0, 0)) := by
  obtain ⟨k, e1, e2, e3⟩ := h.p j x hx ha
  rw [if_pos hs] at e3
  exact ⟨k, e1, e2, e3⟩
end
/-- A block above what was there, by its number. -/
theorem late_at {WB : World} {y : More} {n b : Nat} {cs : Array Value} {T : TypeId} [hs : SizeIs WB n] (h : (ext WB y).heap[b]? = some (.cells cs T (0, 0))) (hb : WB.heap.size ≤ b) :
    ∃ i, b = adv n i ∧ (ext WB y).heap[adv n i]? = some (.cells cs T (0, 0)) ∧ Lower i y.obs.size ∧ (∀ j, y.cell i j = cs[j]?) ∧ (∀ j, y.froz i j = false) := by
  rw [hs.eq] at hb
  have e : b = adv n (b - n) := by unfold adv; omega
  rw [e] at h
  have h' := h
  rw [ext_at] at h
  refine ⟨b - n, e, h', ⟨(Array.getElem?_eq_some_iff.1 h).1⟩, fun j => ?_, fun j => ?_⟩
  · unfold More.cell; rw [h]
  · unfold More.froz; rw [h]; simp
/-- The law for such a region. -/
theorem wp_region_frs {P : Program} {Q : Exit → Act → World → Prop} {w : World} {l : List Oper} {id : Nat} {a : Act} (sp : List Tk) (frs : List Fr) (hm : P.follows .mixedOrders = true) (hB : tellB l sp = true) (hF : frsB sp frs = true)
    (hL : ∀ b, Region.lexB .any (swapL b sp 0 l).toArray = true)
    (h : ∃ aF : (Nat → Value) → Act,
      (∀ b W, Kept w W → wpQuiet P (swapL b sp 0 l).toArray (fun w' => ∃ x, w' = ext W x) (fun a' => a' = aF b) (swapL b sp 0 l) a) ∧
      EachS (fun i o => ∀ (L : Nat → Bool) (b : Nat → Value) (w' : World), (∀ e ∈ o.after, Region.binds .any e = true → L e.on = true) → L i = false → FI w frs L b w' →
        tellsUpon P (fun v w'' => v = (sp.getD i .q).val v ∧ FI w frs (doneAt L i) (tellAt b i v) w'') ((execOp (aF b).eval o).run P w')) sp 0 l ∧
      (∀ b b', ∀ d ∈ callSlots sp l, (aF b).tmps[d]? = (aF b').tmps[d]?) ∧
      (∀ L b w', (∀ i, i < l.length → L i = true) → FI w frs L b w' → Q .normal (aF b) w')) : (Code.region id l.toArray true).wp P Q a w :=
  wp_region_tell sp (FI w frs) hm hB hL (fun b => FI.start b) (fun _ _ _ _ _ hs hI hk => (hI.on hk).other hF hs) (fun _ _ _ h => h.kept) h
end Go.Proofs.YtnbjealpcjfllaaGreatDoor
