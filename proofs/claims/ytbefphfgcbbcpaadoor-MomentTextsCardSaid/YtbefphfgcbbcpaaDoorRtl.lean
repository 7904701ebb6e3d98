/- Lists of ints that a region makes, appends and takes in a drawn order: what is known at each step. No conditions but those of each theorem. -/
import Derived.Test.YtbefphfgcbbcpaaDoorCop
import Derived.Test.YtbefphfgcbbcpaaDoorTell
namespace Go.Proofs.YtbefphfgcbbcpaaDoor
set_option linter.unusedVariables false
set_option linter.unusedSimpArgs false
open Go.RowKit Go.Deep
theorem info_I : ((Tryd.prog.info? 3).map fun i => (i.zero, i.size, i.bytes)) = some (some (.int .i64 0), 1, 8) := by kernel_rfl
/-- A list of n ints xs that operation i makes (or that was there: v) and that operation j takes (or none does). -/
structure Rt where
  v : Option Value
  i : Nat
  j : Option Nat
  n : Nat
  xs : List Value
def Rt.val (r : Rt) (b : Nat → Value) : Value := match r.v with
  | some v => v
  | none => b r.i
def Rt.gone (r : Rt) (L : Nat → Bool) : Bool := match r.j with
  | some j => L j
  | none => false
def Rt.up (r : Rt) (L : Nat → Bool) : Bool := (r.v.isSome || L r.i) && !r.gone L
structure RtI (W : World) (base : Nat) (rs : List Rt) (L : Nat → Bool) (b : Nat → Value) (w' : World) : Prop where
  kept : Kept W w'
  own : ∀ (k : Nat) (r : Rt), rs[k]? = some r → r.up L = true → w'.ownsRow base 3 1 (r.val b) r.n r.xs
  d : ∀ (k l : Nat) (r s : Rt), rs[k]? = some r → rs[l]? = some s → k ≠ l → r.up L = true → s.up L = true → (r.val b).ownBlock = none ∨ (r.val b).ownBlock ≠ (s.val b).ownBlock
/-- Each operation that makes or takes a list is special; none makes two, none takes two; a list is taken by another than it is made by. -/
def rtB (sp : List Tk) (rs : List Rt) : Bool :=
  (List.range rs.length).all fun k => match rs[k]? with
    | none => true
    | some r => (r.v.isSome || spAt sp r.i) && (match r.j with | none => true | some j => spAt sp j && (r.v.isSome || r.i != j)) && (List.range rs.length).all fun l => match rs[l]? with
      | none => true
      | some s => k == l || (r.v.isSome || s.v.isSome || r.i != s.i)
theorem rtB_at {sp : List Tk} {rs : List Rt} (h : rtB sp rs = true) {k : Nat} {r : Rt} (hk : rs[k]? = some r) : (r.v.isSome = true ∨ spAt sp r.i = true) ∧ (∀ j, r.j = some j → spAt sp j = true ∧ (r.v.isSome = true ∨ r.i ≠ j)) ∧
    ∀ (l : Nat) (s : Rt), rs[l]? = some s → k ≠ l → (r.v.isSome = true ∨ s.v.isSome = true ∨ r.i ≠ s.i) := by
  have h1 := List.all_eq_true.1 h k (List.mem_range.2 (List.getElem?_eq_some_iff.1 hk).1)
  simp only [hk, Bool.and_eq_true, Bool.or_eq_true] at h1
  refine ⟨h1.1.1, fun j hj => ?_, fun l s hl hkl => ?_⟩
  · have h2 := h1.1.2
    rw [hj] at h2
    simpa using h2
  · have h2 := List.all_eq_true.1 h1.2 l (List.mem_range.2 (List.getElem?_eq_some_iff.1 hl).1)
    simp only [hl, Bool.or_eq_true, beq_iff_eq, bne_iff_ne, or_assoc] at h2
    exact h2.resolve_left hkl
section
variable {W w' w'' : World} {base : Nat} {rs : List Rt} {sp : List Tk} {L : Nat → Bool} {b : Nat → Value}
theorem RtI.on (h : RtI W base rs L b w') (hk : Kept w' w'') : RtI W base rs L b w'' :=
  ⟨h.kept.trans hk, fun k r hr hu => owns_kept (h.own k r hr hu) hk, h.d⟩
/-- At first only the lists are there that were there before. -/
theorem RtI.start (hk : Kept W w') (ho : ∀ (k : Nat) (r : Rt), rs[k]? = some r → ∀ v, r.v = some v → w'.ownsRow base 3 1 v r.n r.xs)
    (hd : ∀ (k l : Nat) (r s : Rt), rs[k]? = some r → rs[l]? = some s → k ≠ l → ∀ v u, r.v = some v → s.v = some u → v.ownBlock = none ∨ v.ownBlock ≠ u.ownBlock) : RtI W base rs (fun _ => false) b w' := by
  have key : ∀ r : Rt, r.up (fun _ => false) = true → ∃ v, r.v = some v ∧ r.val b = v := by
    intro r hu
    unfold Rt.up at hu
    cases hv : r.v with
    | none => rw [hv] at hu; simp at hu
    | some v => exact ⟨v, rfl, by unfold Rt.val; rw [hv]⟩
  refine ⟨hk, fun k r hr hu => ?_, fun k l r s hr hs hkl h1 h2 => ?_⟩
  · obtain ⟨v, e1, e2⟩ := key r hu
    rw [e2]; exact ho k r hr v e1
  · obtain ⟨v, e1, e2⟩ := key r h1
    obtain ⟨u, e3, e4⟩ := key s h2
    rw [e2, e4]; exact hd k l r s hr hs hkl v u e1 e3
theorem up_other {r : Rt} {i : Nat} (hi : r.v.isSome = true ∨ i ≠ r.i) (hj : ∀ j, r.j = some j → i ≠ j) : r.up (doneAt L i) = r.up L := by
  have hg : r.gone (doneAt L i) = r.gone L := by
    unfold Rt.gone
    cases h : r.j with
    | none => rfl
    | some j => exact if_neg (Ne.symm (hj j h))
  unfold Rt.up
  rw [hg]
  rcases hi with hi | hi
  · rw [hi]; rfl
  · rw [show doneAt L i r.i = L r.i from if_neg (Ne.symm hi)]
theorem val_other {r : Rt} {i : Nat} {u : Value} (hi : r.v.isSome = true ∨ i ≠ r.i) : r.val (tellAt b i u) = r.val b := by
  unfold Rt.val
  cases hv : r.v with
  | some v => rfl
  | none =>
    rw [hv] at hi
    exact if_neg (Ne.symm (hi.resolve_left (by simp)))
/-- An operation that makes no list and takes none. -/
theorem RtI.other (hB : rtB sp rs = true) {i : Nat} (hi : spAt sp i = false) (h : RtI W base rs L b w') : RtI W base rs (doneAt L i) b w' := by
  have key : ∀ (k : Nat) (r : Rt), rs[k]? = some r → r.up (doneAt L i) = r.up L := fun k r hr => by
    obtain ⟨h1, h2, -⟩ := rtB_at hB hr
    refine up_other ?_ (fun j hj => ?_)
    · rcases h1 with h1 | h1
      · exact .inl h1
      · exact .inr (by rintro rfl; rw [h1] at hi; cases hi)
    · rintro rfl
      rw [(h2 _ hj).1] at hi; cases hi
  exact ⟨h.kept, fun k r hr hu => h.own k r hr (by rw [← key k r hr]; exact hu), fun k l r s hr hs hkl h1 h2 => h.d k l r s hr hs hkl (by rw [← key k r hr]; exact h1) (by rw [← key l s hs]; exact h2)⟩
/-- A special operation that makes no list and takes none. -/
theorem RtI.pass (h : RtI W base rs L b w') {i : Nat} (u : Value) (hi : ∀ (k : Nat) (r : Rt), rs[k]? = some r → (r.v.isSome = true ∨ i ≠ r.i) ∧ ∀ j, r.j = some j → i ≠ j) : RtI W base rs (doneAt L i) (tellAt b i u) w' := by
  have key : ∀ (k : Nat) (r : Rt), rs[k]? = some r → r.up (doneAt L i) = r.up L ∧ r.val (tellAt b i u) = r.val b := fun k r hr => ⟨up_other (hi k r hr).1 (hi k r hr).2, val_other (hi k r hr).1⟩
  refine ⟨h.kept, fun k r hr hu => ?_, fun k l r s hr hs hkl h1 h2 => ?_⟩
  · rw [(key k r hr).2]; exact h.own k r hr (by rw [← (key k r hr).1]; exact hu)
  · rw [(key k r hr).2, (key l s hs).2]; exact h.d k l r s hr hs hkl (by rw [← (key k r hr).1]; exact h1) (by rw [← (key l s hs).1]; exact h2)
/-- Operation i makes list k; what it takes is not up any more. -/
theorem RtI.step (hB : rtB sp rs = true) {k : Nat} {r : Rt} (hr : rs[k]? = some r) (hv : r.v = none) {u : Value} (h : RtI W base rs L b w') (hk : Kept W w'') (hown : w''.ownsRow base 3 1 u r.n r.xs)
    (ho : ∀ (l : Nat) (s : Rt), rs[l]? = some s → l ≠ k → s.j ≠ some r.i → s.up L = true → w''.ownsRow base 3 1 (s.val b) s.n s.xs ∧ (u.ownBlock = none ∨ u.ownBlock ≠ (s.val b).ownBlock)) :
    RtI W base rs (doneAt L r.i) (tellAt b r.i u) w'' := by
  obtain ⟨a1, a2, a4⟩ := rtB_at hB hr
  have vk : r.val (tellAt b r.i u) = u := by unfold Rt.val; rw [hv]; exact if_pos rfl
  have key : ∀ (l : Nat) (s : Rt), rs[l]? = some s → l ≠ k → s.up (doneAt L r.i) = true → s.j ≠ some r.i ∧ s.up L = true ∧ s.val (tellAt b r.i u) = s.val b := by
    intro l s hs hlk hu
    have hne : s.v.isSome = true ∨ r.i ≠ s.i := by
      rcases a4 l s hs (Ne.symm hlk) with q | q | q
      · rw [hv] at q; cases q
      · exact .inl q
      · exact .inr q
    have hj : s.j ≠ some r.i := by
      intro e
      unfold Rt.up at hu
      have hg : s.gone (doneAt L r.i) = true := by unfold Rt.gone; rw [e]; exact if_pos rfl
      rw [hg] at hu
      simp at hu
    exact ⟨hj, by rw [← up_other hne (fun j hj' e => hj (by rw [hj', e]))]; exact hu, val_other hne⟩
  refine ⟨hk, fun l s hs hu => ?_, fun l m s t hs ht hlm h1 h2 => ?_⟩
  · by_cases e : l = k
    · subst e
      obtain rfl : r = s := Option.some.inj (hr.symm.trans hs)
      rw [vk]; exact hown
    · obtain ⟨e1, e2, e3⟩ := key l s hs e hu
      rw [e3]; exact (ho l s hs e e1 e2).1
  · by_cases e : l = k
    · subst e
      obtain rfl : r = s := Option.some.inj (hr.symm.trans hs)
      obtain ⟨e1, e2, e3⟩ := key m t ht (Ne.symm hlm) h2
      rw [vk, e3]; exact (ho m t ht (Ne.symm hlm) e1 e2).2
    · obtain ⟨e1, e2, e3⟩ := key l s hs e h1
      by_cases e' : m = k
      · subst e'
        obtain rfl : r = t := Option.some.inj (hr.symm.trans ht)
        rw [vk, e3]
        rcases (ho l s hs e e1 e2).2 with q | q
        · cases hq : (s.val b).ownBlock with
          | none => exact .inl rfl
          | some g => rw [q]; exact .inr (by simp)
        · exact .inr (Ne.symm q)
      · obtain ⟨f1, f2, f3⟩ := key m t ht e' h2
        rw [e3, f3]; exact h.d l m s t hs ht hlm e2 f2
/-- Operation r.i builds a new list. -/
theorem RtI.build (hB : rtB sp rs = true) {k : Nat} {r : Rt} (hr : rs[k]? = some r) (hv : r.v = none) (h : RtI W base rs L b w') (hbase : base ≤ W.heap.size) {cs : Array Value} (hcs : cs.toList = r.xs) (hn : cs.size = r.n) (h9 : r.n ≤ maxLen) :
    RtI W base rs (doneAt L r.i) (tellAt b r.i (.slice (some ⟨w'.heap.size, 0, none⟩) r.n r.n)) (w'.alloc (.cells cs 3)) := by
  have hle := kept_le h.kept
  refine RtI.step hB hr hv h (h.kept.trans ((Kept.refl w').alloc _)) ?_ (fun l s hs hlk hj hu => ⟨owns_kept (h.own l s hs hu) ((Kept.refl w').alloc _), .inr ?_⟩)
  · rw [← hcs]
    exact World.ownsRow_lit w' cs r.n (by omega) h9 (by rw [hn, Nat.mul_one])
  · intro e
    have := own_lt (b := w'.heap.size) (h.own l s hs hu) e.symm
    omega
/-- Operation r.i appends to list l, which it takes. -/
theorem RtI.app (hB : rtB sp rs = true) {k l : Nat} {r s : Rt} (hr : rs[k]? = some r) (hs : rs[l]? = some s) (hv : r.v = none) (hj : s.j = some r.i) (h : RtI W base rs L b w') (hbase : W.heap.size ≤ base) (hu : s.up L = true) {v' : Value} (hown : w''.ownsRow base 3 1 v' r.n r.xs)
    (hg : w'.grownBy w'' (s.val b).ownBlock) (hvb : v'.ownBlock = (s.val b).ownBlock ∨ v'.ownBlock = some w'.heap.size) : RtI W base rs (doneAt L r.i) (tellAt b r.i v') w'' := by
  refine RtI.step hB hr hv h (kept_grown h.kept (h.own l s hs hu) hbase hg) hown (fun m t ht hmk hj' hu' => ?_)
  have hml : m ≠ l := by
    rintro rfl
    obtain rfl : s = t := Option.some.inj (hs.symm.trans ht)
    exact hj' hj
  have hd := h.d l m s t hs ht (Ne.symm hml) hu hu'
  have hd2 := h.d m l t s ht hs hml hu' hu
  refine ⟨(h.own m t ht hu').kept hg hd2, ?_⟩
  rcases hvb with e | e
  · rw [e]; exact hd
  · right
    rw [e]
    intro q
    have := own_lt (b := w'.heap.size) (h.own m t ht hu') q.symm
    omega
theorem up_of {r : Rt} (h1 : r.v.isSome = true ∨ L r.i = true) (h2 : ∀ j, r.j = some j → L j = false) : r.up L = true := by
  have hg : r.gone L = false := by
    unfold Rt.gone
    cases h : r.j with
    | none => rfl
    | some j => exact h2 j h
  unfold Rt.up
  rw [hg]
  rcases h1 with h1 | h1 <;> rw [h1] <;> simp
end
/-- An append in such a region: list k out of list l and of a list that can be read. -/
theorem RtI.tells_app {P : Program} {W w' : World} {base : Nat} {rs : List Rt} {sp : List Tk} {L : Nat → Bool} {b : Nat → Value} (hB : rtB sp rs = true) (k l : Nat) {r s : Rt} (hr : rs[k]? = some r) (hs : rs[l]? = some s) (hv : r.v = none) (hj : s.j = some r.i)
    (h : RtI W base rs L b w') (hbase : base = W.heap.size) (hu : s.up L = true) {ρ : Operand → Value} {o : Oper} (x y : Operand) (t : TypeId)
    (ho : o.op = .call { callee := .builtin .append, args := #[x, y], argTypes := #[t, t] }) (i : TypeInfo) (z : Value) (ht : P.underlying t = some (.slice 3)) (hi : P.info? 3 = some i) (hz : i.zero = some z)
    (hsize : i.size = 1) (hby : i.bytes = 8) (hzs : z.cells.size = 1) (hx : ρ x = s.val b) (A : Option Addr) (m cp : Nat) (f : Nat → Nat → Int) (hy : ρ y = .slice A m cp) (hrow : RowsAt w' A m 1 f)
    (hn : s.n + m = r.n) (hxs : s.xs ++ rowC 1 f m = r.xs) (h9 : r.n ≤ 1000) : tellsUpon P (fun v w'' => v = Tk.s.val v ∧ RtI W base rs (doneAt L r.i) (tellAt b r.i v) w'') ((execOp ρ o).run P w') := by
  subst hbase
  refine tells_append x y t ho _ 3 i z 1 8 ht hi hz hsize hby hzs (by omega) (kept_le h.kept) _ s.n s.xs hx (h.own l s hs hu) A m cp f hy hrow (by unfold maxLen; omega) (by omega) ?_
  intro v' w'' k1 k2 k3
  rw [hn, hxs] at k1
  exact ⟨rfl, h.app hB hr hs hv hj (Nat.le_refl _) hu k1 k2 k3⟩
end Go.Proofs.YtbefphfgcbbcpaaDoor
