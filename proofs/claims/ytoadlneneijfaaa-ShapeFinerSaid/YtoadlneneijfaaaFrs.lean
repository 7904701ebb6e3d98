/- Blocks that a region allots and fills in a drawn order: what is known at each step. No conditions but those of each theorem. -/
import Derived.Test.YtoadlneneijfaaaTell
import Derived.Test.YtoadlneneijfaaaMem
namespace Go.Proofs.Ytoadlneneijfaaa
set_option linter.unusedVariables false
set_option linter.unusedSimpArgs false
open Go.RowKit
/-- A block that operation a allots, cells z of type T, and that operation s fills with c. -/
structure Fr where
  a : Nat
  s : Nat
  T : TypeId
  z : Array Value
  c : Array Value
structure FI (W : World) (frs : List Fr) (L : Nat → Bool) (b : Nat → Value) (w' : World) : Prop where
  kept : Kept W w'
  o : ∀ (i : Nat) (x : Fr), frs[i]? = some x → L x.s = true → L x.a = true
  p : ∀ (i : Nat) (x : Fr), frs[i]? = some x → L x.a = true → ∃ k, b x.a = .pointer (some ⟨k, 0, none⟩) ∧ W.heap.size ≤ k ∧ w'.heap[k]? = some (.cells (if L x.s = true then x.c else x.z) x.T (0, 0))
  d : ∀ (i j : Nat) (x y : Fr), frs[i]? = some x → frs[j]? = some y → i ≠ j → L x.a = true → L y.a = true → b x.a ≠ b y.a
def frsB (sp : List Tk) (frs : List Fr) : Bool :=
  (List.range frs.length).all fun i => match frs[i]? with
    | none => true
    | some x => spAt sp x.a && spAt sp x.s && (List.range frs.length).all fun j => match frs[j]? with
      | none => true
      | some y => y.s != x.a && (i == j || (y.a != x.a && y.s != x.s))
theorem frsB_spec {sp : List Tk} {frs : List Fr} (h : frsB sp frs = true) {i : Nat} {x : Fr} (hx : frs[i]? = some x) :
    spAt sp x.a = true ∧ spAt sp x.s = true ∧ ∀ (j : Nat) (y : Fr), frs[j]? = some y → y.s ≠ x.a ∧ (i ≠ j → y.a ≠ x.a ∧ y.s ≠ x.s) := by
  have h1 := List.all_eq_true.1 h i (List.mem_range.2 (List.getElem?_eq_some_iff.1 hx).1)
  simp only [hx, Bool.and_eq_true] at h1
  refine ⟨h1.1.1, h1.1.2, fun j y hy => ?_⟩
  have h2 := List.all_eq_true.1 h1.2 j (List.mem_range.2 (List.getElem?_eq_some_iff.1 hy).1)
  simp only [hy, Bool.and_eq_true, Bool.or_eq_true, bne_iff_ne, beq_iff_eq] at h2
  exact ⟨h2.1, fun hij => h2.2.resolve_left hij⟩
section
variable {W w' w'' : World} {sp : List Tk} {frs : List Fr} {L : Nat → Bool} {b : Nat → Value}
theorem fr_kept {w w' : World} {b : Nat} {o : Obj} (h : w.heap[b]? = some o) (hk : Kept w w') : w'.heap[b]? = some o := by
  obtain ⟨x, rfl⟩ := hk
  rw [ext_block _ _ _ (Array.getElem?_eq_some_iff.1 h).1]
  exact h
theorem fr_le {w w' : World} (h : Kept w w') : w.heap.size ≤ w'.heap.size := by
  obtain ⟨x, rfl⟩ := h
  rw [ext_size]
  exact adv_le _ _
theorem FI.start (b : Nat → Value) : FI W frs (fun _ => false) b W.drew :=
  ⟨(Kept.refl _).drew, fun _ _ _ h => (by cases h), fun _ _ _ h => (by cases h), fun _ _ _ _ _ _ _ h => (by cases h)⟩
theorem FI.on (h : FI W frs L b w') (hk : Kept w' w'') : FI W frs L b w'' :=
  ⟨h.kept.trans hk, h.o, fun i x hx h1 => by
    obtain ⟨k, e1, e2, e3⟩ := h.p i x hx h1
    exact ⟨k, e1, e2, fr_kept e3 hk⟩, h.d⟩
theorem FI.other (hB : frsB sp frs = true) {i : Nat} (hi : spAt sp i = false) (h : FI W frs L b w') : FI W frs (doneAt L i) b w' := by
  have key : ∀ (j : Nat) (x : Fr), frs[j]? = some x → doneAt L i x.a = L x.a ∧ doneAt L i x.s = L x.s := fun j x hx => by
    obtain ⟨h1, h2, -⟩ := frsB_spec hB hx
    exact ⟨if_neg (by rintro rfl; rw [h1] at hi; cases hi), if_neg (by rintro rfl; rw [h2] at hi; cases hi)⟩
  refine ⟨h.kept, fun j x hx => ?_, fun j x hx => ?_, fun i j x y hx hy => ?_⟩
  · rw [(key j x hx).1, (key j x hx).2]; exact h.o j x hx
  · rw [(key j x hx).1, (key j x hx).2]; exact h.p j x hx
  · rw [(key i x hx).1, (key j y hy).1]; exact h.d i j x y hx hy
theorem FI.alloc (hB : frsB sp frs = true) {j : Nat} {x : Fr} (hx : frs[j]? = some x) (h : FI W frs L b w') (hL : L x.a = false) :
    FI W frs (doneAt L x.a) (tellAt b x.a (.pointer (some ⟨w'.heap.size, 0, none⟩))) (w'.alloc (.cells x.z x.T)) := by
  have hk : Kept w' (w'.alloc (.cells x.z x.T)) := (Kept.refl _).alloc _
  obtain ⟨-, -, hn⟩ := frsB_spec hB hx
  have ks : ∀ (i : Nat) (y : Fr), frs[i]? = some y → doneAt L x.a y.s = L y.s := fun i y hy => if_neg (hn i y hy).1
  refine ⟨h.kept.trans hk, fun i y hy h1 => ?_, fun i y hy h1 => ?_, fun i i2 y y2 hy hy2 hne h1 h2 => ?_⟩
  · rw [ks i y hy] at h1
    unfold doneAt
    split
    · rfl
    · exact h.o i y hy h1
  · by_cases e : j = i
    · subst e
      obtain rfl : x = y := Option.some.inj (hx.symm.trans hy)
      refine ⟨w'.heap.size, if_pos rfl, fr_le h.kept, ?_⟩
      have d : doneAt L x.a x.s = false := by
        rw [ks j x hx]
        cases q : L x.s with
        | false => rfl
        | true => rw [h.o j x hx q] at hL; cases hL
      rw [d]
      exact heap_alloc_new w' _
    · have na := ((hn i y hy).2 e).1
      have h1' : L y.a = true := by
        unfold doneAt at h1
        rwa [if_neg na] at h1
      obtain ⟨k, e1, e2, e3⟩ := h.p i y hy h1'
      refine ⟨k, ?_, e2, ?_⟩
      · unfold tellAt; rw [if_neg na]; exact e1
      · rw [ks i y hy]; exact fr_kept e3 hk
  · have new : ∀ (i : Nat) (y : Fr), frs[i]? = some y → i ≠ j → doneAt L x.a y.a = true → tellAt b x.a (.pointer (some ⟨w'.heap.size, 0, none⟩)) y.a = b y.a ∧ L y.a = true ∧ b y.a ≠ .pointer (some ⟨w'.heap.size, 0, none⟩) := by
      intro i y hy hij h1
      have na := ((hn i y hy).2 (Ne.symm hij)).1
      have h1' : L y.a = true := by
        unfold doneAt at h1
        rwa [if_neg na] at h1
      refine ⟨if_neg na, h1', ?_⟩
      obtain ⟨k, e1, e2, e3⟩ := h.p i y hy h1'
      rw [e1]
      intro q
      simp only [Value.pointer.injEq, Option.some.injEq, Addr.mk.injEq, and_true] at q
      have := (Array.getElem?_eq_some_iff.1 e3).1
      omega
    by_cases e : i = j
    · subst e
      obtain rfl : x = y := Option.some.inj (hx.symm.trans hy)
      obtain ⟨n1, n2, n3⟩ := new i2 y2 hy2 (Ne.symm hne) h2
      rw [n1, show tellAt b x.a (.pointer (some ⟨w'.heap.size, 0, none⟩)) x.a = .pointer (some ⟨w'.heap.size, 0, none⟩) from if_pos rfl]
      exact Ne.symm n3
    · obtain ⟨n1, n2, n3⟩ := new i y hy e h1
      rw [n1]
      by_cases e2 : i2 = j
      · subst e2
        obtain rfl : x = y2 := Option.some.inj (hx.symm.trans hy2)
        rw [show tellAt b x.a (.pointer (some ⟨w'.heap.size, 0, none⟩)) x.a = .pointer (some ⟨w'.heap.size, 0, none⟩) from if_pos rfl]
        exact n3
      · obtain ⟨m1, m2, -⟩ := new i2 y2 hy2 e2 h2
        rw [m1]
        exact h.d i i2 y y2 hy hy2 hne n2 m2
theorem row_at {w : World} {g : Nat} {old cells : Array Value} {t : TypeId} (hg : w.heap[g]? = some (.cells old t (0, 0))) : (w.setRow g cells).heap[g]? = some (.cells cells t (0, 0)) := setRow_heap w g old cells t (0, 0) hg
theorem row_kept2 {W w : World} {g : Nat} {cells : Array Value} (h : Kept W w) (hg : W.heap.size ≤ g) : Kept W (w.setRow g cells) := by
  refine Kept.of_below ?_
  obtain ⟨x, rfl⟩ := h
  refine ⟨rfl, rfl, rfl, by simp [World.setRow, adv], fun k hk => ?_⟩
  rw [setRow_other _ _ _ _ (by omega)]
  exact ext_block _ _ _ hk
theorem FI.store (hB : frsB sp frs = true) {j : Nat} {x : Fr} (hx : frs[j]? = some x) (h : FI W frs L b w') (ha : L x.a = true) {k : Nat} (hk : b x.a = .pointer (some ⟨k, 0, none⟩)) (v : Value) :
    FI W frs (doneAt L x.s) (tellAt b x.s v) (w'.setRow k x.c) := by
  obtain ⟨-, -, hn⟩ := frsB_spec hB hx
  have key : ∀ (i : Nat) (y : Fr), frs[i]? = some y → doneAt L x.s y.a = L y.a ∧ tellAt b x.s v y.a = b y.a := fun i y hy => by
    have := ((frsB_spec hB hy).2.2 j x hx).1
    exact ⟨if_neg (Ne.symm this), if_neg (Ne.symm this)⟩
  obtain ⟨k', e1, e2, e3⟩ := h.p j x hx ha
  obtain rfl : k' = k := by
    have := e1.symm.trans hk
    simpa using this
  refine ⟨row_kept2 h.kept e2, fun i y hy h1 => ?_, fun i y hy h1 => ?_, fun i i2 y y2 hy hy2 hne h1 h2 => ?_⟩
  · rw [(key i y hy).1]
    by_cases e : j = i
    · subst e
      obtain rfl : x = y := Option.some.inj (hx.symm.trans hy)
      exact ha
    · have ns := ((hn i y hy).2 e).2
      unfold doneAt at h1
      rw [if_neg ns] at h1
      exact h.o i y hy h1
  · rw [(key i y hy).1] at h1
    rw [(key i y hy).2]
    obtain ⟨q, f1, f2, f3⟩ := h.p i y hy h1
    refine ⟨q, f1, f2, ?_⟩
    by_cases e : j = i
    · subst e
      obtain rfl : x = y := Option.some.inj (hx.symm.trans hy)
      obtain rfl : q = k' := by
        have := f1.symm.trans hk
        simpa using this
      rw [show doneAt L x.s x.s = true from if_pos rfl, if_pos rfl]
      exact row_at e3
    · have ns := ((hn i y hy).2 e).2
      rw [show doneAt L x.s y.s = L y.s from if_neg ns]
      rw [setRow_other _ _ _ _ (by
        rintro rfl
        exact h.d j i x y hx hy e ha h1 (e1.trans f1.symm))]
      exact f3
  · rw [(key i y hy).1] at h1
    rw [(key i2 y2 hy2).1] at h2
    rw [(key i y hy).2, (key i2 y2 hy2).2]
    exact h.d i i2 y y2 hy hy2 hne h1 h2
variable {P : Program}
theorem FI.tells_alloc (hB : frsB sp frs = true) (j : Nat) {x : Fr} (hx : frs[j]? = some x) (h : FI W frs L b w') (hL : L x.a = false) {r : Result Next}
    (hr : r = .ok (.value (.pointer (some ⟨w'.heap.size, 0, none⟩))) (w'.alloc (.cells x.z x.T))) : tellsUpon P (fun v w'' => v = Tk.s.val v ∧ FI W frs (doneAt L x.a) (tellAt b x.a v) w'') r := by
  subst hr
  exact ⟨rfl, h.alloc hB hx hL⟩
theorem FI.tells_store (hB : frsB sp frs = true) (j : Nat) {x : Fr} (hx : frs[j]? = some x) (h : FI W frs L b w') (hL : L x.s = false) (ha : L x.a = true) {ρ : Operand → Value} {o : Oper} (ty : TypeId) (px py : Operand)
    (ho : o.op = .store ty px py) (hp : ρ px = b x.a) (hy : ρ py = .agg x.c) (hi : (P.info? ty).map (·.size) = some x.c.size) (hz : x.z.size = x.c.size) (h1 : x.c.all (·.oneCell') = true) :
    tellsUpon P (fun v w'' => v = Tk.s.val v ∧ FI W frs (doneAt L x.s) (tellAt b x.s v) w'') ((execOp ρ o).run P w') := by
  obtain ⟨k, e1, e2, e3⟩ := h.p j x hx ha
  rw [hL] at e3
  simp only [Bool.false_eq_true, if_false] at e3
  unfold execOp
  simp only [ho, hp.trans e1, hy, Instr.storeAt, Instr.sureAddr, Sem.run_bind, Sem.run_pure, Result.andThen_ok, run_storeVar_row w' k x.T ty x.z x.c e3 hi hz h1]
  exact ⟨rfl, h.store hB hx ha e1 _⟩
/-- At the end: what each block holds. -/
theorem FI.ends (h : FI W frs L b w') (j : Nat) {x : Fr} (hx : frs[j]? = some x) (ha : L x.a = true) (hs : L x.s = true) :
    ∃ k, b x.a = .pointer (some ⟨k, 0, none⟩) ∧ W.heap.size ≤ k ∧ w'.heap[k]? = some (.cells x.c x.T (0, 0)) := by
  obtain ⟨k, e1, e2, e3⟩ := h.p j x hx ha
  rw [if_pos hs] at e3
  exact ⟨k, e1, e2, e3⟩
end
/-- A block above what was there, by its number. -/
theorem late_at {WB : World} {y : More} {n b : Nat} {cs : Array Value} {T : TypeId} [hs : SizeIs WB n] (h : (ext WB y).heap[b]? = some (.cells cs T (0, 0))) (hb : WB.heap.size ≤ b) :
    ∃ i, b = adv n i ∧ (ext WB y).heap[adv n i]? = some (.cells cs T (0, 0)) ∧ Lower i y.obs.size ∧ (∀ j, y.cell i j = cs[j]?) ∧ (∀ j, y.froz i j = false) := by
  rw [hs.eq] at hb
  have e : b = adv n (b - n) := by unfold adv; omega
  rw [e] at h
  have h' := h
  rw [ext_at] at h
  refine ⟨b - n, e, h', ⟨(Array.getElem?_eq_some_iff.1 h).1⟩, fun j => ?_, fun j => ?_⟩
  · unfold More.cell; rw [h]
  · unfold More.froz; rw [h]; simp
/-- The law for such a region. -/
theorem wp_region_frs {P : Program} {Q : Exit → Act → World → Prop} {w : World} {l : List Oper} {id : Nat} {a : Act} (sp : List Tk) (frs : List Fr) (hm : P.follows .mixedOrders = true) (hB : tellB l sp = true) (hF : frsB sp frs = true)
    (hL : ∀ b, Region.lexB .any (swapL b sp 0 l).toArray = true)
    (h : ∃ aF : (Nat → Value) → Act,
      (∀ b W, Kept w W → wpQuiet P (swapL b sp 0 l).toArray (fun w' => ∃ x, w' = ext W x) (fun a' => a' = aF b) (swapL b sp 0 l) a) ∧
      EachS (fun i o => ∀ (L : Nat → Bool) (b : Nat → Value) (w' : World), (∀ e ∈ o.after, Region.binds .any e = true → L e.on = true) → L i = false → FI w frs L b w' →
        tellsUpon P (fun v w'' => v = (sp.getD i .q).val v ∧ FI w frs (doneAt L i) (tellAt b i v) w'') ((execOp (aF b).eval o).run P w')) sp 0 l ∧
      (∀ b b', ∀ d ∈ callSlots sp l, (aF b).tmps[d]? = (aF b').tmps[d]?) ∧
      (∀ L b w', (∀ i, i < l.length → L i = true) → FI w frs L b w' → Q .normal (aF b) w')) : (Code.region id l.toArray true).wp P Q a w :=
  wp_region_tell sp (FI w frs) hm hB hL (fun b => FI.start b) (fun _ _ _ _ _ hs hI hk => (hI.on hk).other hF hs) (fun _ _ _ h => h.kept) h
end Go.Proofs.Ytoadlneneijfaaa
