/- A region that draws its order: operations that are quiet, and special ones (an alloc, an append, a store into a new block) whose values are told ahead. One walk in the order of the text, and one law for each special operation, serve every order. No conditions but those of each theorem. -/
import Derived.Test.YtnbjealpcjfllaaGreatDoorBas
namespace Go.Proofs.YtnbjealpcjfllaaGreatDoor
set_option linter.unusedVariables false
set_option linter.unusedSimpArgs false
open Go.RowKit
/-- An operation is quiet; or special, its value told ahead; or special with a value that is known. -/
inductive Tk where
  | q
  | s
  | k (v : Value)
def Tk.sp : Tk → Bool
  | .q => false
  | _ => true
def Tk.val : Tk → Value → Value
  | .k v, _ => v
  | _, u => u
def spAt (sp : List Tk) (i : Nat) : Bool := (sp.getD i .q).sp
/-- The same list with a told value in the place of each special operation. -/
def swapL (b : Nat → Value) : List Tk → Nat → List Oper → List Oper
  | .s :: sp, k, o :: l => { o with op := .move (.const (b k)) } :: swapL b sp (k + 1) l
  | .k v :: sp, k, o :: l => { o with op := .move (.const v) } :: swapL b sp (k + 1) l
  | .q :: sp, k, o :: l => o :: swapL b sp (k + 1) l
  | [], _, l => l
  | _ :: _, _, [] => []
def swapO (b : Nat → Value) (sp : List Tk) (k i : Nat) (o : Oper) : Oper := if spAt sp i = true then { o with op := .move (.const ((sp.getD i .q).val (b (k + i)))) } else o
/-- What is asked of a special operation. -/
def tellsUpon (P : Program) (K : Value → World → Prop) : Result Next → Prop
  | .ok (.value v) w' => K v w'
  | .ok .skip w' => K undef w'
  | .ok (.enter f args) w' => Calls P f args w' (fun e w'' => ∃ v, e = .returned v ∧ K v w'')
  | _ => False
theorem swapL_get (b : Nat → Value) : ∀ (sp : List Tk) (k : Nat) (l : List Oper) (i : Nat), (swapL b sp k l)[i]? = (l[i]?).map (swapO b sp k i)
  | [], k, l, i => by
    simp only [swapL]
    cases l[i]? <;> simp [swapO, spAt, Tk.sp]
  | t :: sp, k, [], i => by cases t <;> simp [swapL]
  | t :: sp, k, o :: l, 0 => by cases t <;> simp [swapL, swapO, spAt, Tk.sp, Tk.val]
  | t :: sp, k, o :: l, i + 1 => by
    have h : (swapL b (t :: sp) k (o :: l))[i + 1]? = (swapL b sp (k + 1) l)[i]? := by cases t <;> simp only [swapL, List.getElem?_cons_succ]
    rw [h, swapL_get b sp (k + 1) l i, List.getElem?_cons_succ]
    cases l[i]? with
    | none => rfl
    | some o' => simp [swapO, spAt, Nat.add_assoc, Nat.add_comm 1 i]
theorem swapL_len (b : Nat → Value) : ∀ (sp : List Tk) (k : Nat) (l : List Oper), (swapL b sp k l).length = l.length
  | [], k, l => by simp [swapL]
  | t :: sp, k, [] => by cases t <;> simp [swapL]
  | t :: sp, k, o :: l => by cases t <;> simp [swapL, swapL_len b sp (k + 1) l]
theorem swapO_dst (b : Nat → Value) (sp : List Tk) (k i : Nat) (o : Oper) : (swapO b sp k i o).dst = o.dst := by unfold swapO; split <;> rfl
theorem swapO_after (b : Nat → Value) (sp : List Tk) (k i : Nat) (o : Oper) : (swapO b sp k i o).after = o.after := by unfold swapO; split <;> rfl
theorem swapO_guard (b : Nat → Value) (sp : List Tk) (k i : Nat) (o : Oper) : (swapO b sp k i o).guard = o.guard := by unfold swapO; split <;> rfl
theorem swap_ready (b : Nat → Value) (sp : List Tk) (l : List Oper) (md : Region.Mode) (listed : Array Bool) : Region.ready md (swapL b sp 0 l).toArray listed = Region.ready md l.toArray listed := by
  unfold Region.ready
  simp only [List.size_toArray, swapL_len, List.getElem?_toArray]
  refine List.filter_congr fun i _ => ?_
  rw [swapL_get]
  cases l[i]? with
  | none => rfl
  | some o => simp only [Option.map_some, swapO_after]
theorem swap_yielded (b : Nat → Value) (sp : List Tk) (l : List Oper) (tmps : Array Value) : yielded (swapL b sp 0 l).toArray tmps = yielded l.toArray tmps := by
  funext j
  unfold yielded
  simp only [List.getElem?_toArray, swapL_get]
  cases l[j]? with
  | none => rfl
  | some o => simp only [Option.map_some, Option.bind_some, swapO_dst]
theorem swap_wanted (b : Nat → Value) (sp : List Tk) (k i : Nat) (o : Oper) (y : Nat → Option Bool) : Region.wanted (swapO b sp k i o) y = Region.wanted o y := by
  unfold Region.wanted
  rw [swapO_guard]
section
variable {P : Program} {ops : Array Oper} {md : Region.Mode} {C : World → Prop}
theorem put_slot {a : Act} {x : Option Tmp} {v : Value} {d : Nat} (h : x ≠ some d) : (a.put x v).tmps[d]? = a.tmps[d]? := by
  cases x with
  | none => rfl
  | some e =>
    have hne : e ≠ d := fun q => h (by rw [q])
    simp [Act.put, Array.getElem?_setIfInBounds_ne hne]
theorem unlisted_set {listed : Array Bool} {i j : Nat} (hi : listed.getD i true = false) (h : (listed.setIfInBounds i true).getD j true = false) : listed.getD j true = false := by
  by_cases hij : i = j
  · subst hij; exact hi
  · rw [getD_set_ne true hij] at h; exact h
theorem slot_end {aF : Act} {d : Nat} : ∀ (f : Nat) (listed : Array Bool) (a : Act), wpAnyQ P md ops C (fun a' => a' = aF) f listed a →
    (∀ j o, ops[j]? = some o → listed.getD j true = false → o.dst ≠ some d) → aF.tmps[d]? = a.tmps[d]?
  | 0, _, a, h, _ => by rw [← h.2]
  | f + 1, listed, a, h, hd => by
    cases hr : Region.ready md ops listed with
    | nil => rw [← h.1 hr]
    | cons i r =>
      have hi : i ∈ Region.ready md ops listed := by rw [hr]; exact List.mem_cons_self
      obtain ⟨hun, o, ho, -⟩ := mem_ready.1 hi
      obtain ⟨v, -, hk⟩ := yieldsIn_of_qOp ho (h.2 i hi)
      rw [slot_end f _ _ hk (fun j oj hj hl => hd j oj hj (unlisted_set hun hl))]
      exact put_slot (hd i o ho hun)
theorem eval_end {aF : Act} {ops₂ : Array Oper} {o₂ : Oper} (hs : ∀ cs b, o₂.op ≠ .select cs b) : ∀ (f : Nat) (listed : Array Bool) (a : Act), wpAnyQ P md ops C (fun a' => a' = aF) f listed a →
    (∀ j o, ops[j]? = some o → listed.getD j true = false → ∀ d, o.dst = some d → d ∉ o₂.looksAt ops₂) → execOp aF.eval o₂ = execOp a.eval o₂
  | 0, _, a, h, _ => by rw [← h.2]
  | f + 1, listed, a, h, hd => by
    cases hr : Region.ready md ops listed with
    | nil => rw [← h.1 hr]
    | cons i r =>
      have hi : i ∈ Region.ready md ops listed := by rw [hr]; exact List.mem_cons_self
      obtain ⟨hun, o, ho, -⟩ := mem_ready.1 hi
      obtain ⟨v, -, hk⟩ := yieldsIn_of_qOp ho (h.2 i hi)
      rw [eval_end hs f _ _ hk (fun j oj hj hl => hd j oj hj (unlisted_set hun hl))]
      exact execOp_put o₂ hs a o.dst v (hd i o ho hun)
end
/-- Operations that are no calls: what they yield is settled by the world that they run in. -/
def dullOp : Op → Bool
  | .move _ | .assign _ | .load .. | .fieldAddr .. | .indexAddr .. | .field .. | .index .. | .binOp .. | .unOp .. | .convert .. | .extract .. | .slice .. => true
  | _ => false
theorem dull_run {P : Program} {o : Oper} {ρ : Operand → Value} {w w' : World} {n : Next} (h : dullOp o.op = true) (hr : (execOp ρ o).run P w = .ok n w') : ∃ v, n = .value v := by
  have key : ∀ (s : Sem Value), (do pure (Next.value (← s)) : Sem Next).run P w = .ok n w' → ∃ v, n = .value v := by
    intro s hs
    simp only [Sem.run_bind] at hs
    cases hq : s.run P w with
    | ok v w2 =>
      rw [hq] at hs
      simp only [Result.andThen_ok, Sem.run_pure] at hs
      injection hs with h1 h2
      exact ⟨v, h1.symm⟩
    | halt x w2 =>
      rw [hq] at hs
      cases hs
  obtain ⟨dst, op, type, pos, after, guard⟩ := o
  unfold execOp at hr
  cases op <;> simp only [dullOp, Bool.false_eq_true] at h <;> simp only at hr
  all_goals first
    | exact key _ hr
    | (simp only [Sem.run_pure] at hr; injection hr with h1 h2; exact ⟨_, h1.symm⟩)
/-- What is checked of a region once. -/
def tellB (l : List Oper) (sp : List Tk) : Bool :=
  Region.noSelect l.toArray &&
  (List.range l.length).all fun i => match l[i]? with
    | none => true
    | some oi => (oi.after.all fun e => !(Region.binds .any e) || decide (e.on < i)) && (!(spAt sp i) || oi.guard.isNone) &&
      (List.range l.length).all fun j => match l[j]? with
        | none => true
        | some oj => match oj.dst with
          | none => true
          | some d => (decide (i = j) || oi.dst != some d) && (!(spAt sp i) || !((oi.looksAt l.toArray).contains d) || oi.after.any fun e => Region.binds .any e && e.on == j)
/-- The slots of the quiet operations that may be calls. -/
def callSlots : List Tk → List Oper → List Nat
  | .q :: sp, o :: l => if dullOp o.op then callSlots sp l else o.dst.toList ++ callSlots sp l
  | [], o :: l => if dullOp o.op then callSlots [] l else o.dst.toList ++ callSlots [] l
  | _ :: sp, _ :: l => callSlots sp l
  | _, [] => []
theorem callSlots_mem : ∀ (sp : List Tk) (l : List Oper) (i : Nat) (o : Oper) (d : Nat), l[i]? = some o → spAt sp i = false → dullOp o.op = false → o.dst = some d → d ∈ callSlots sp l
  | sp, [], i, o, d, h, _, _, _ => by simp at h
  | .s :: sp, o' :: l, 0, o, d, h, hs, hd, ho => by simp [spAt, Tk.sp] at hs
  | .k v :: sp, o' :: l, 0, o, d, h, hs, hd, ho => by simp [spAt, Tk.sp] at hs
  | .s :: sp, o' :: l, i + 1, o, d, h, hs, hd, ho => by
    simp only [callSlots]
    exact callSlots_mem sp l i o d (by simpa using h) (by simpa [spAt] using hs) hd ho
  | .k v :: sp, o' :: l, i + 1, o, d, h, hs, hd, ho => by
    simp only [callSlots]
    exact callSlots_mem sp l i o d (by simpa using h) (by simpa [spAt] using hs) hd ho
  | .q :: sp, o' :: l, 0, o, d, h, hs, hd, ho => by
    obtain rfl : o' = o := by simpa using h
    simp [callSlots, hd, ho]
  | .q :: sp, o' :: l, i + 1, o, d, h, hs, hd, ho => by
    have := callSlots_mem sp l i o d (by simpa using h) (by simpa [spAt] using hs) hd ho
    simp only [callSlots]
    split
    · exact this
    · exact List.mem_append_right _ this
  | [], o' :: l, 0, o, d, h, hs, hd, ho => by
    obtain rfl : o' = o := by simpa using h
    simp [callSlots, hd, ho]
  | [], o' :: l, i + 1, o, d, h, hs, hd, ho => by
    have := callSlots_mem [] l i o d (by simpa using h) (by simp [spAt, Tk.sp]) hd ho
    simp only [callSlots]
    split
    · exact this
    · exact List.mem_append_right _ this
/-- What is said of each special operation. -/
def EachS (R : Nat → Oper → Prop) : List Tk → Nat → List Oper → Prop
  | .q :: sp, k, _ :: l => EachS R sp (k + 1) l
  | .s :: sp, k, o :: l => R k o ∧ EachS R sp (k + 1) l
  | .k _ :: sp, k, o :: l => R k o ∧ EachS R sp (k + 1) l
  | _, _, _ => True
theorem eachS_at {R : Nat → Oper → Prop} : ∀ (sp : List Tk) (k : Nat) (l : List Oper) (i : Nat) (o : Oper), EachS R sp k l → l[i]? = some o → spAt sp i = true → R (k + i) o
  | [], k, l, i, o, _, _, hs => by simp [spAt, Tk.sp] at hs
  | t :: sp, k, [], i, o, _, h, _ => by simp at h
  | .q :: sp, k, o' :: l, 0, o, _, _, hs => by simp [spAt, Tk.sp] at hs
  | .s :: sp, k, o' :: l, 0, o, h, ho, _ => by
    obtain rfl : o' = o := by simpa using ho
    exact h.1
  | .k v :: sp, k, o' :: l, 0, o, h, ho, _ => by
    obtain rfl : o' = o := by simpa using ho
    exact h.1
  | .q :: sp, k, o' :: l, i + 1, o, h, ho, hs => by
    have := eachS_at sp (k + 1) l i o h (by simpa using ho) (by simpa [spAt] using hs)
    rwa [show k + 1 + i = k + (i + 1) by omega] at this
  | .s :: sp, k, o' :: l, i + 1, o, h, ho, hs => by
    have := eachS_at sp (k + 1) l i o h.2 (by simpa using ho) (by simpa [spAt] using hs)
    rwa [show k + 1 + i = k + (i + 1) by omega] at this
  | .k v :: sp, k, o' :: l, i + 1, o, h, ho, hs => by
    have := eachS_at sp (k + 1) l i o h.2 (by simpa using ho) (by simpa [spAt] using hs)
    rwa [show k + 1 + i = k + (i + 1) by omega] at this
/-- The told values but for one. -/
def tellAt (b : Nat → Value) (i : Nat) (v : Value) : Nat → Value := fun j => if j = i then v else b j
/-- What has been done, with one more. -/
def doneAt (L : Nat → Bool) (i : Nat) : Nat → Bool := fun j => if j = i then true else L j
section
variable {P : Program} {Q : Exit → Act → World → Prop} {w : World} {C : World → Prop} {l : List Oper} {sp : List Tk} {aF : (Nat → Value) → Act} {I : (Nat → Bool) → (Nat → Value) → World → Prop}
theorem any_of_tell
    (hsel : ∀ (j : Nat) (o : Oper) cs b, l.toArray[j]? = some o → o.op ≠ .select cs b)
    (hord : ∀ (i : Nat) (o : Oper), l[i]? = some o → ∀ e ∈ o.after, Region.binds .any e = true → e.on < i)
    (hgd : ∀ (i : Nat) (o : Oper), l[i]? = some o → spAt sp i = true → o.guard = none)
    (hnd : ∀ (i j : Nat) (oi oj : Oper) (d : Nat), l[i]? = some oi → l[j]? = some oj → i ≠ j → oj.dst = some d → oi.dst ≠ some d)
    (hlk : ∀ (i j : Nat) (oi oj : Oper) (d : Nat), l[i]? = some oi → l[j]? = some oj → spAt sp i = true → oj.dst = some d → d ∈ oi.looksAt l.toArray → ∃ e ∈ oi.after, Region.binds .any e = true ∧ e.on = j)
    (hs : ∀ (i : Nat) (o : Oper) (L : Nat → Bool) (b : Nat → Value) (w' : World), l[i]? = some o → spAt sp i = true → (∀ e ∈ o.after, Region.binds .any e = true → L e.on = true) → L i = false → I L b w' →
      tellsUpon P (fun v w'' => v = (sp.getD i .q).val v ∧ I (doneAt L i) (tellAt b i v) w'') ((execOp (aF b).eval o).run P w'))
    (hq : ∀ (i : Nat) (o : Oper) (L : Nat → Bool) (b : Nat → Value) (w' w'' : World), l[i]? = some o → spAt sp i = false → I L b w' → Kept w' w'' → I (doneAt L i) b w'')
    (hK : ∀ L b w', I L b w' → C w')
    (hc : ∀ b b', ∀ d ∈ callSlots sp l, (aF b).tmps[d]? = (aF b').tmps[d]?)
    (hQ : ∀ L b w', (∀ i, i < l.length → L i = true) → I L b w' → Q .normal (aF b) w') :
    ∀ (f : Nat) (listed : Array Bool) (a : Act) (w' : World) (b0 : Nat → Value), listed.size = l.length → I (fun i => listed.getD i false) b0 w' →
      (∀ b, (∀ i, listed.getD i false = true → spAt sp i = true → b i = b0 i) → ∀ W, C W → wpAnyQ P .any (swapL b sp 0 l).toArray (Kept W) (fun a' => a' = aF b) f listed a) →
      wpAny P .any l.toArray Q f listed a w' := by
  have hall : ∀ listed : Array Bool, listed.size = l.length → Region.ready .any l.toArray listed = [] → ∀ i, i < l.length → listed.getD i false = true := by
    intro listed hz hr i
    induction i using Nat.strongRecOn with
    | _ i ih =>
      intro hi
      cases hl : listed.getD i false with
      | true => rfl
      | false =>
        have ho : l[i]? = some l[i] := List.getElem?_eq_getElem hi
        have : i ∈ Region.ready .any l.toArray listed := mem_ready.2 ⟨getD_in (by omega) hl, l[i], by simp, fun e he hb => ih e.on (hord i _ ho e he hb) (Nat.lt_trans (hord i _ ho e he hb) hi)⟩
        rw [hr] at this
        cases this
  intro f
  induction f with
  | zero =>
    intro listed a w' b0 hz hi H
    have h := H b0 (fun _ _ _ => rfl) w' (hK _ _ _ hi)
    have hr := h.1
    rw [swap_ready] at hr
    refine ⟨hr, ?_⟩
    rw [h.2]
    exact hQ _ _ _ (hall listed hz hr) hi
  | succ f ih =>
    intro listed a w' b0 hz hi H
    have hw' := hK _ _ _ hi
    refine ⟨fun hr => ?_, fun i hir => ?_⟩
    · have h := H b0 (fun _ _ _ => rfl) w' hw'
      rw [h.1 (by rw [swap_ready]; exact hr)]
      exact hQ _ _ _ (hall listed hz hr) hi
    · obtain ⟨hun, o, ho, hall'⟩ := mem_ready.1 hir
      have hol : l[i]? = some o := by simpa using ho
      have hin : i < listed.size := by rw [hz]; exact (List.getElem?_eq_some_iff.1 hol).1
      have hset : (fun j => (listed.setIfInBounds i true).getD j false) = doneAt (fun j => listed.getD j false) i := by
        funext j
        unfold doneAt
        by_cases hij : j = i
        · subst hij; rw [if_pos rfl]; simp [hin]
        · rw [if_neg hij, getD_set_ne false (Ne.symm hij)]
      have hz' : (listed.setIfInBounds i true).size = l.length := by simpa using hz
      have hir' : ∀ b, i ∈ Region.ready .any (swapL b sp 0 l).toArray listed := fun b => by rw [swap_ready]; exact hir
      have ho' : ∀ b, (swapL b sp 0 l).toArray[i]? = some (swapO b sp 0 i o) := fun b => by rw [List.getElem?_toArray, swapL_get, hol]; rfl
      have hset2 : ∀ j, listed.getD j false = true → (listed.setIfInBounds i true).getD j false = true := fun j h => getD_set_true h
      unfold wpOp
      simp only [ho]
      by_cases hsp : spAt sp i = true
      · -- a special operation
        have hwt : Region.wanted o (yielded l.toArray a.tmps) = true := by simp [Region.wanted, hgd i o hol hsp]
        rw [if_pos hwt]
        left
        have hev : execOp (aF b0).eval o = execOp a.eval o := eval_end (ops₂ := l.toArray) (fun cs b => hsel i o cs b ho) (f + 1) listed a (H b0 (fun _ _ _ => rfl) w' hw') (by
          intro j oj hj hl d hd hmem
          rw [List.getElem?_toArray, swapL_get] at hj
          cases hjl : l[j]? with
          | none => rw [hjl] at hj; cases hj
          | some oj' =>
            rw [hjl] at hj
            simp only [Option.map_some, Option.some.injEq] at hj
            subst hj
            rw [swapO_dst] at hd
            obtain ⟨e, he, hb, hon⟩ := hlk i j o oj' d hol hjl hsp hd hmem
            have := hall' e he hb
            rw [hon, getD_both hl] at this
            cases this)
        have hrun := hs i o _ b0 w' hol hsp hall' (getD_both hun) hi
        rw [hev] at hrun
        have hfin : ∀ v w'', (v = (sp.getD i .q).val v ∧ I (doneAt (fun j => listed.getD j false) i) (tellAt b0 i v) w'') → wpAny P .any l.toArray Q f (listed.setIfInBounds i true) (a.put o.dst v) w'' := by
          rintro v w'' ⟨hkv, hI⟩
          refine ih (listed.setIfInBounds i true) _ w'' (tellAt b0 i v) hz' (by rw [hset]; exact hI) ?_
          intro b hb W hW
          have hbi : b i = v := by
            have := hb i (by simp [hin]) hsp
            rw [this]; simp [tellAt]
          have hb' : ∀ j, listed.getD j false = true → spAt sp j = true → b j = b0 j := fun j h1 h2 => by
            have := hb j (hset2 j h1) h2
            rw [this]
            unfold tellAt
            rw [if_neg (fun q => by subst q; rw [getD_both hun] at h1; cases h1)]
          obtain ⟨v1, hy1, hk1⟩ := yieldsIn_of_qOp (ho' b) ((H b hb' W hW).2 i (hir' b))
          have hv1 : v1 = v := by
            rcases hy1 with ⟨-, hy⟩ | ⟨hw, -⟩
            · have h3 := hy W (Kept.refl W)
              unfold Oper.quietAt at h3
              rw [BigFrame.run_move (.const ((sp.getD i .q).val (b i))) (by unfold swapO; rw [if_pos hsp, Nat.zero_add])] at h3
              rw [← h3.2, hbi]
              exact hkv.symm
            · rw [swap_yielded, swap_wanted, hwt] at hw
              cases hw
          rw [swapO_dst, hv1] at hk1
          exact hk1
        unfold Oper.wp
        generalize (execOp a.eval o).run P w' = r at hrun
        cases r with
        | ok n w3 =>
          cases n <;> simp only [tellsUpon] at hrun <;> simp only [Oper.upon]
          case value u => exact hfin _ _ hrun
          case skip => exact hfin _ _ hrun
          case enter fn args => exact hrun.mono fun e w'' ⟨v, he, hw''⟩ => by subst he; exact hfin _ _ hw''
        | halt x w3 => simp only [tellsUpon] at hrun
      · have hsp' : spAt sp i = false := by simpa using hsp
        have hsw : ∀ b, swapO b sp 0 i o = o := fun b => by unfold swapO; rw [if_neg hsp]
        have hagree : ∀ b : Nat → Value, (∀ j, (listed.setIfInBounds i true).getD j false = true → spAt sp j = true → b j = b0 j) → ∀ j, listed.getD j false = true → spAt sp j = true → b j = b0 j := fun b hb j h1 h2 => hb j (hset2 j h1) h2
        by_cases hwt : Region.wanted o (yielded l.toArray a.tmps) = true
        · rw [if_pos hwt]
          left
          obtain ⟨v0, hy0, hk0⟩ := yieldsIn_of_qOp (ho' b0) ((H b0 (fun _ _ _ => rfl) w' hw').2 i (hir' b0))
          rw [hsw] at hy0 hk0
          have hq0 : o.quietAt P a (Kept w') w' v0 := by
            rcases hy0 with ⟨-, hy⟩ | ⟨hw, -⟩
            · exact hy w' (Kept.refl w')
            · rw [swap_yielded, hwt] at hw; cases hw
          have hnx : ∀ w'', Kept w' w'' → wpAny P .any l.toArray Q f (listed.setIfInBounds i true) (a.put o.dst v0) w'' := by
            intro w'' hk
            refine ih (listed.setIfInBounds i true) _ w'' b0 hz' (by rw [hset]; exact hq i o _ b0 w' w'' hol hsp' hi hk) ?_
            intro b hb W hW
            obtain ⟨v1, hy1, hk1⟩ := yieldsIn_of_qOp (ho' b) ((H b (hagree b hb) W hW).2 i (hir' b))
            rw [hsw] at hy1 hk1
            have heq : a.put o.dst v1 = a.put o.dst v0 := by
              cases hdst : o.dst with
              | none => rfl
              | some d =>
                by_cases hd : d < a.tmps.size
                · have hun' : ∀ (b : Nat → Value) (j : Nat) (oj : Oper), (swapL b sp 0 l).toArray[j]? = some oj → (listed.setIfInBounds i true).getD j true = false → oj.dst ≠ some d := by
                    intro b j oj hj hl
                    rw [List.getElem?_toArray, swapL_get] at hj
                    cases hjl : l[j]? with
                    | none => rw [hjl] at hj; cases hj
                    | some oj' =>
                      rw [hjl] at hj
                      simp only [Option.map_some, Option.some.injEq] at hj
                      subst hj
                      rw [swapO_dst]
                      refine hnd j i oj' o d hjl hol ?_ hdst
                      intro q
                      subst q
                      simp [hin] at hl
                  have slot : ∀ (b : Nat → Value) (W : World) (v : Value), wpAnyQ P .any (swapL b sp 0 l).toArray (Kept W) (fun a' => a' = aF b) f (listed.setIfInBounds i true) (a.put o.dst v) → (aF b).tmps[d]? = some v := by
                    intro b W v h
                    rw [slot_end f _ _ h (hun' b), hdst]
                    simp [Act.put, hd]
                  have s1 := slot b W v1 hk1
                  have s0 := slot b0 w' v0 hk0
                  have hv : v1 = v0 := by
                    by_cases hdl : dullOp o.op = true
                    · obtain ⟨v2, hy2, hk2⟩ := yieldsIn_of_qOp (ho' b) ((H b (hagree b hb) w' hw').2 i (hir' b))
                      rw [hsw] at hy2 hk2
                      have s2 := slot b w' v2 hk2
                      have hq2 : o.quietAt P a (Kept w') w' v2 := by
                        rcases hy2 with ⟨-, hy⟩ | ⟨hw, -⟩
                        · exact hy w' (Kept.refl w')
                        · rw [swap_yielded, hwt] at hw; cases hw
                      have e12 : v1 = v2 := Option.some.inj (s1.symm.trans s2)
                      unfold Oper.quietAt at hq0 hq2
                      cases hrr : (execOp a.eval o).run P w' with
                      | halt x w3 => rw [hrr] at hq0; exact hq0.elim
                      | ok n w3 =>
                        obtain ⟨u, rfl⟩ := dull_run hdl hrr
                        rw [hrr] at hq0 hq2
                        rw [e12, ← hq2.2, ← hq0.2]
                    · have := hc b b0 d (callSlots_mem sp l i o d hol hsp' (by simpa using hdl) hdst)
                      rw [s1, s0] at this
                      exact Option.some.inj this
                  rw [hv]
                · simp only [Act.put, Array.setIfInBounds, hd, dite_false]
            rw [heq] at hk1
            exact hk1
          unfold Oper.wp
          unfold Oper.quietAt at hq0
          generalize (execOp a.eval o).run P w' = r at hq0
          cases r with
          | ok n w3 =>
            cases n <;> simp only [Oper.quietUpon] at hq0 <;> simp only [Oper.upon]
            case value u =>
              obtain ⟨e1, e2⟩ := hq0
              rw [e1, e2]
              exact hnx _ (Kept.refl _)
            case skip =>
              obtain ⟨e1, e2⟩ := hq0
              rw [e1, ← e2]
              exact hnx _ (Kept.refl _)
            case enter fn args =>
              obtain ⟨e1, hcc⟩ := hq0
              rw [e1]
              exact hcc.mono fun e w'' ⟨he, hw''⟩ => by subst he; exact hnx _ hw''
          | halt x w3 => simp only [Oper.quietUpon] at hq0
        · rw [if_neg hwt]
          refine ih (listed.setIfInBounds i true) _ w' b0 hz' (by rw [hset]; exact hq i o _ b0 w' w' hol hsp' hi (Kept.refl _)) ?_
          intro b hb W hW
          obtain ⟨v1, hy1, hk1⟩ := yieldsIn_of_qOp (ho' b) ((H b (hagree b hb) W hW).2 i (hir' b))
          rw [hsw] at hy1 hk1
          rcases hy1 with ⟨hw, -⟩ | ⟨-, hv⟩
          · rw [swap_yielded] at hw; exact absurd hw hwt
          · rw [hv] at hk1; exact hk1
theorem wp_region_tellC {id : Nat} {a : Act} (sp : List Tk) (I : (Nat → Bool) → (Nat → Value) → World → Prop) (hm : P.follows .mixedOrders = true) (hB : tellB l sp = true) (hL : ∀ b, Region.lexB .any (swapL b sp 0 l).toArray = true)
    (h0 : ∀ b, I (fun _ => false) b w.drew)
    (hq : ∀ (i : Nat) (L : Nat → Bool) (b : Nat → Value) (w' w'' : World), spAt sp i = false → I L b w' → Kept w' w'' → I (doneAt L i) b w'')
    (hK : ∀ L b w', I L b w' → C w')
    (h : ∃ aF : (Nat → Value) → Act,
      (∀ b W, C W → wpQuiet P (swapL b sp 0 l).toArray (fun w' => ∃ x, w' = ext W x) (fun a' => a' = aF b) (swapL b sp 0 l) a) ∧
      EachS (fun i o => ∀ (L : Nat → Bool) (b : Nat → Value) (w' : World), (∀ e ∈ o.after, Region.binds .any e = true → L e.on = true) → L i = false → I L b w' →
        tellsUpon P (fun v w'' => v = (sp.getD i .q).val v ∧ I (doneAt L i) (tellAt b i v) w'') ((execOp (aF b).eval o).run P w')) sp 0 l ∧
      (∀ b b', ∀ d ∈ callSlots sp l, (aF b).tmps[d]? = (aF b').tmps[d]?) ∧
      (∀ L b w', (∀ i, i < l.length → L i = true) → I L b w' → Q .normal (aF b) w')) : (Code.region id l.toArray true).wp P Q a w := by
  obtain ⟨aF, hW, hs, hc, hQ⟩ := h
  unfold tellB at hB
  rw [Bool.and_eq_true] at hB
  obtain ⟨hsel, hB⟩ := hB
  have hB2 : ∀ (i : Nat) (oi : Oper), l[i]? = some oi → (∀ e ∈ oi.after, Region.binds .any e = true → e.on < i) ∧ (spAt sp i = true → oi.guard = none) ∧
      ∀ (j : Nat) (oj : Oper) (d : Nat), l[j]? = some oj → oj.dst = some d → (i = j ∨ oi.dst ≠ some d) ∧ (spAt sp i = true → d ∈ oi.looksAt l.toArray → ∃ e ∈ oi.after, Region.binds .any e = true ∧ e.on = j) := by
    intro i oi hi
    have hil := (List.getElem?_eq_some_iff.1 hi).1
    have h := List.all_eq_true.1 hB i (List.mem_range.2 hil)
    simp only [hi] at h
    rw [Bool.and_eq_true, Bool.and_eq_true] at h
    obtain ⟨⟨h1, h2⟩, h3⟩ := h
    refine ⟨fun e he hb => ?_, fun hsp => ?_, fun j oj d hj hd => ?_⟩
    · rw [Array.all_eq_true'] at h1
      have := h1 e he
      rw [hb] at this
      simpa using this
    · rw [hsp] at h2
      simpa using h2
    · have hjl := (List.getElem?_eq_some_iff.1 hj).1
      have h4 := List.all_eq_true.1 h3 j (List.mem_range.2 hjl)
      simp only [hj, hd] at h4
      rw [Bool.and_eq_true] at h4
      obtain ⟨h4, h5⟩ := h4
      refine ⟨?_, fun hsp hmem => ?_⟩
      · rw [Bool.or_eq_true] at h4
        rcases h4 with h4 | h4
        · exact .inl (by simpa using h4)
        · exact .inr (by simpa using h4)
      · rw [hsp] at h5
        have hm' : (oi.looksAt l.toArray).contains d = true := by simpa using hmem
        rw [hm'] at h5
        simp only [Bool.not_true, Bool.false_or] at h5
        obtain ⟨e, he, hb⟩ := Array.any_eq_true'.1 h5
        simp only [Bool.and_eq_true, beq_iff_eq] at hb
        exact ⟨e, he, hb.1, hb.2⟩
  refine wp_region_any hm ?_
  have key := any_of_tell (P := P) (Q := Q) (C := C) (l := l) (sp := sp) (aF := aF) (I := I) (Region.noSelect_spec hsel)
    (fun i o h => (hB2 i o h).1) (fun i o h => (hB2 i o h).2.1)
    (fun i j oi oj d hi hj hij hd => ((hB2 i oi hi).2.2 j oj d hj hd).1.resolve_left hij)
    (fun i j oi oj d hi hj hsp hd hmem => ((hB2 i oi hi).2.2 j oj d hj hd).2 hsp hmem)
    (fun i o L b w' hi hsp => by have := eachS_at sp 0 l i o hs hi hsp; rw [Nat.zero_add] at this; exact this L b w') (fun i o L b w' w'' _ hsp => hq i L b w' w'' hsp) hK hc hQ l.length (Array.replicate l.length false) a w.drew (fun _ => undef) (by simp)
    (by
      have e : (fun i => (Array.replicate l.length false).getD i false) = fun _ => false := by
        funext i
        exact getD_replicate_false _ _
      rw [e]; exact h0 _)
    (by
      intro b _ W hk
      have hLb := hL b
      simp only [Region.lexB, Bool.and_eq_true] at hLb
      have := wpAnyQ_lex (C := Kept W) (md := .any) (Q := fun a' => a' = aF b) hLb.1 (swapL b sp 0 l) 0 (Array.replicate (swapL b sp 0 l).toArray.size false) a (by simp) (by simpa using hLb.2) (hW b W hk)
      simpa [swapL_len] using this)
  simpa using key
theorem wp_region_tell {id : Nat} {a : Act} (sp : List Tk) (I : (Nat → Bool) → (Nat → Value) → World → Prop) (hm : P.follows .mixedOrders = true) (hB : tellB l sp = true) (hL : ∀ b, Region.lexB .any (swapL b sp 0 l).toArray = true)
    (h0 : ∀ b, I (fun _ => false) b w.drew)
    (hq : ∀ (i : Nat) (L : Nat → Bool) (b : Nat → Value) (w' w'' : World), spAt sp i = false → I L b w' → Kept w' w'' → I (doneAt L i) b w'')
    (hK : ∀ L b w', I L b w' → Kept w w')
    (h : ∃ aF : (Nat → Value) → Act,
      (∀ b W, Kept w W → wpQuiet P (swapL b sp 0 l).toArray (fun w' => ∃ x, w' = ext W x) (fun a' => a' = aF b) (swapL b sp 0 l) a) ∧
      EachS (fun i o => ∀ (L : Nat → Bool) (b : Nat → Value) (w' : World), (∀ e ∈ o.after, Region.binds .any e = true → L e.on = true) → L i = false → I L b w' →
        tellsUpon P (fun v w'' => v = (sp.getD i .q).val v ∧ I (doneAt L i) (tellAt b i v) w'') ((execOp (aF b).eval o).run P w')) sp 0 l ∧
      (∀ b b', ∀ d ∈ callSlots sp l, (aF b).tmps[d]? = (aF b').tmps[d]?) ∧
      (∀ L b w', (∀ i, i < l.length → L i = true) → I L b w' → Q .normal (aF b) w')) : (Code.region id l.toArray true).wp P Q a w :=
  wp_region_tellC sp I hm hB hL h0 hq hK h
end
end Go.Proofs.YtnbjealpcjfllaaGreatDoor
