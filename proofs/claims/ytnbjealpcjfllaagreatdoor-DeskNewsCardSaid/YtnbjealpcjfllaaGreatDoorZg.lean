/- Regions that draw their order, in a round of a range over a function. Conditions: those of each theorem. A loop over the parts of a panel: the law, with the loop's variable in a box. Conditions: those of each theorem. Contracts: boxes of points and the squared distance of two boxes, of the program. Conditions: bounds on numbers. Contract: the greatest square of a distance of two lists of points, of the program. Conditions: bounds on numbers. Contract: the corners of a panel, of the program. No conditions. Contract: an average as a span, of the program. No conditions. -/
import Derived.Test.YtnbjealpcjfllaaGreatDoorMef
import Derived.Shelf.Abstract
import Derived.Shelf.RegionOpen
import Derived.OwnWalkIn
import Derived.TacticsInMore
import Derived.LoopNIn
import Derived.LoopIn
import Derived.RangeFuncNested
import Derived.Great.BuildSlice
import Derived.Test.YtnbjealpcjfllaaGreatDoorZf
import Derived.Test.YtnbjealpcjfllaaGreatDoorZa
import Derived.Test.YtnbjealpcjfllaaGreatDoorGsf
import Derived.Test.YtnbjealpcjfllaaGreatDoorPnl
import Derived.Test.YtnbjealpcjfllaaGreatDoorZe
namespace Go.Proofs.YtnbjealpcjfllaaGreatDoor
set_option linter.unusedVariables false
set_option linter.unusedSimpArgs false
open Go.RowKit
section
variable {P : Program} {Q : Exit → Act → World → Prop}
theorem rows_round {l n : Nat} {row : String} {args : Array Value} {w : World} {R : Value → World → Prop} (h : Rows P row args w R) : RowsIn (Fence.wide.inRound l) n P row args w R := fun c cs _ => by
  obtain ⟨v, w', hr, hs⟩ := h c cs
  exact ⟨v, w', hr, stepsIn_wide.2 hs⟩
theorem upon_round {l n : Nat} {o : Oper} {a : Act} {K K' : Act → World → Prop} (hk : ∀ a w, K a w → K' a w) {r : Result Next} (h : o.upon P a K Q r) : o.uponIn (Fence.wide.inRound l) n P a K' Q r := by
  have hd : (Fence.wide.inRound l).depth.isSome = true → 1 ≤ n := fun h => by cases h
  cases r with
  | ok x w =>
    cases x with
    | value v => exact hk _ _ h
    | skip => exact hk _ _ h
    | defer d => exact hk _ _ h
    | enter f args => exact ⟨hd, CallsIn.mono (callsIn_wide.2 h) (fun e w' he => by cases e <;> first | exact hk _ _ he | exact he)⟩
    | row r args => exact ⟨hd, rows_round (Rows.mono h fun v w' he => hk _ _ he)⟩
    | round => exact h.elim
    | _ => exact h.elim
  | halt x w => cases x <;> first | exact h | exact h.elim
theorem op_round {l n i : Nat} {ops : Array Oper} (hnd : ∀ (i : Nat) (o : Oper) c, ops[i]? = some o → o.op ≠ .defer c) (hQ : ¬ LetsOut Q) {a : Act} {w : World} {K K' : Act → World → Prop} (hk : ∀ a w, K a w → K' a w) (h : wpOp P ops Q i K a w) : wpOpIn (Fence.wide.inRound l) n P ops Q i K' a w := by
  unfold wpOp at h
  unfold wpOpIn
  cases ho : ops[i]? with
  | none => rw [ho] at h; exact hk _ _ h
  | some o =>
    rw [ho] at h
    simp only at h ⊢
    split
    · rename_i hw
      rw [if_pos hw] at h
      rcases h with h | h
      · refine ⟨fun _ _ => trivial, ?_⟩
        rw [Oper.semAt_eq _ _ _ (fun c => hnd i o c ho)]
        exact upon_round hk h
      · exact absurd h.2 hQ
    · rename_i hw
      rw [if_neg hw] at h
      exact ⟨fun _ _ => trivial, hk _ _ h⟩
theorem any_round {l n : Nat} {md : Region.Mode} {ops : Array Oper} (hnd : ∀ (i : Nat) (o : Oper) c, ops[i]? = some o → o.op ≠ .defer c) (hQ : ¬ LetsOut Q) : ∀ (f : Nat) (listed : Array Bool) (a : Act) (w : World), wpAny P md ops Q f listed a w → wpAnyIn (Fence.wide.inRound l) n P md ops Q f listed a w
  | 0, _, _, _, h => h
  | f + 1, _, _, _, h => ⟨h.1, fun i hi => op_round hnd hQ (fun a w => any_round hnd hQ f _ a w) (h.2 i hi)⟩
def noDeferB (l : List Oper) : Bool := l.all fun o => match o.op with
  | .defer _ => false
  | _ => true
theorem noDefer_spec {l : List Oper} (h : noDeferB l = true) : ∀ (i : Nat) (o : Oper) c, l.toArray[i]? = some o → o.op ≠ .defer c := fun i o c ho e => by
  have hm : o ∈ l := List.mem_of_getElem? (by simpa using ho)
  have := List.all_eq_true.1 h o hm
  rw [e] at this
  cases this
end
section
variable {P : Program} {Q : Exit → Act → World → Prop} {w : World} {C : World → Prop} {l : List Oper} {sp : List Tk} {aF : (Nat → Value) → Act} {I : (Nat → Bool) → (Nat → Value) → World → Prop}
theorem any_region_tellC {a : Act} (sp : List Tk) (I : (Nat → Bool) → (Nat → Value) → World → Prop) (hB : tellB l sp = true) (hL : ∀ b, Region.lexB .any (swapL b sp 0 l).toArray = true)
    (h0 : ∀ b, I (fun _ => false) b w.drew)
    (hq : ∀ (i : Nat) (L : Nat → Bool) (b : Nat → Value) (w' w'' : World), spAt sp i = false → I L b w' → Kept w' w'' → I (doneAt L i) b w'')
    (hK : ∀ L b w', I L b w' → C w')
    (h : ∃ aF : (Nat → Value) → Act,
      (∀ b W, C W → wpQuiet P (swapL b sp 0 l).toArray (fun w' => ∃ x, w' = ext W x) (fun a' => a' = aF b) (swapL b sp 0 l) a) ∧
      EachS (fun i o => ∀ (L : Nat → Bool) (b : Nat → Value) (w' : World), (∀ e ∈ o.after, Region.binds .any e = true → L e.on = true) → L i = false → I L b w' →
        tellsUpon P (fun v w'' => v = (sp.getD i .q).val v ∧ I (doneAt L i) (tellAt b i v) w'') ((execOp (aF b).eval o).run P w')) sp 0 l ∧
      (∀ b b', ∀ d ∈ callSlots sp l, (aF b).tmps[d]? = (aF b').tmps[d]?) ∧
      (∀ L b w', (∀ i, i < l.length → L i = true) → I L b w' → Q .normal (aF b) w')) : wpAny P .any l.toArray Q l.toArray.size (Array.replicate l.toArray.size false) a { w with drawn := w.drawn + 1 } := by
  obtain ⟨aF, hW, hs, hc, hQ⟩ := h
  unfold tellB at hB
  rw [Bool.and_eq_true] at hB
  obtain ⟨hsel, hB⟩ := hB
  have hB2 : ∀ (i : Nat) (oi : Oper), l[i]? = some oi → (∀ e ∈ oi.after, Region.binds .any e = true → e.on < i) ∧ (spAt sp i = true → oi.guard = none) ∧
      ∀ (j : Nat) (oj : Oper) (d : Nat), l[j]? = some oj → oj.dst = some d → (i = j ∨ oi.dst ≠ some d) ∧ (spAt sp i = true → d ∈ oi.looksAt l.toArray → ∃ e ∈ oi.after, Region.binds .any e = true ∧ e.on = j) := by
    intro i oi hi
    have hil := (List.getElem?_eq_some_iff.1 hi).1
    have h := List.all_eq_true.1 hB i (List.mem_range.2 hil)
    simp only [hi] at h
    rw [Bool.and_eq_true, Bool.and_eq_true] at h
    obtain ⟨⟨h1, h2⟩, h3⟩ := h
    refine ⟨fun e he hb => ?_, fun hsp => ?_, fun j oj d hj hd => ?_⟩
    · rw [Array.all_eq_true'] at h1
      have := h1 e he
      rw [hb] at this
      simpa using this
    · rw [hsp] at h2
      simpa using h2
    · have hjl := (List.getElem?_eq_some_iff.1 hj).1
      have h4 := List.all_eq_true.1 h3 j (List.mem_range.2 hjl)
      simp only [hj, hd] at h4
      rw [Bool.and_eq_true] at h4
      obtain ⟨h4, h5⟩ := h4
      refine ⟨?_, fun hsp hmem => ?_⟩
      · rw [Bool.or_eq_true] at h4
        rcases h4 with h4 | h4
        · exact .inl (by simpa using h4)
        · exact .inr (by simpa using h4)
      · rw [hsp] at h5
        have hm' : (oi.looksAt l.toArray).contains d = true := by simpa using hmem
        rw [hm'] at h5
        simp only [Bool.not_true, Bool.false_or] at h5
        obtain ⟨e, he, hb⟩ := Array.any_eq_true'.1 h5
        simp only [Bool.and_eq_true, beq_iff_eq] at hb
        exact ⟨e, he, hb.1, hb.2⟩
  have key := any_of_tell (P := P) (Q := Q) (C := C) (l := l) (sp := sp) (aF := aF) (I := I) (Region.noSelect_spec hsel)
    (fun i o h => (hB2 i o h).1) (fun i o h => (hB2 i o h).2.1)
    (fun i j oi oj d hi hj hij hd => ((hB2 i oi hi).2.2 j oj d hj hd).1.resolve_left hij)
    (fun i j oi oj d hi hj hsp hd hmem => ((hB2 i oi hi).2.2 j oj d hj hd).2 hsp hmem)
    (fun i o L b w' hi hsp => by have := eachS_at sp 0 l i o hs hi hsp; rw [Nat.zero_add] at this; exact this L b w') (fun i o L b w' w'' _ hsp => hq i L b w' w'' hsp) hK hc hQ l.length (Array.replicate l.length false) a w.drew (fun _ => undef) (by simp)
    (by
      have e : (fun i => (Array.replicate l.length false).getD i false) = fun _ => false := by
        funext i
        exact getD_replicate_false _ _
      rw [e]; exact h0 _)
    (by
      intro b _ W hk
      have hLb := hL b
      simp only [Region.lexB, Bool.and_eq_true] at hLb
      have := wpAnyQ_lex (C := Kept W) (md := .any) (Q := fun a' => a' = aF b) hLb.1 (swapL b sp 0 l) 0 (Array.replicate (swapL b sp 0 l).toArray.size false) a (by simp) (by simpa using hLb.2) (hW b W hk)
      simpa [swapL_len] using this)
  simpa using key
/-- A store of one cell. -/
theorem FI.tells_one {W w' : World} {sp : List Tk} {frs : List Fr} {L : Nat → Bool} {b : Nat → Value} (hB : frsB sp frs = true) (j : Nat) {x : Fr} (hx : frs[j]? = some x) (h : FI W frs L b w') (hL : L x.s = false) (ha : L x.a = true) {ρ : Operand → Value} {o : Oper} (ty : TypeId) (px py : Operand) {z v : Value}
    (ho : o.op = .store ty px py) (hp : ρ px = b x.a) (hy : ρ py = v) (hz : x.z = #[z]) (hc : x.c = #[v]) (hi : (P.info? ty).map (·.size) = some 1) (h1 : v.oneCell' = true) :
    tellsUpon P (fun v w'' => v = Tk.s.val v ∧ FI W frs (doneAt L x.s) (tellAt b x.s v) w'') ((execOp ρ o).run P w') := by
  obtain ⟨k, e1, e2, e3⟩ := h.p j x hx ha
  rw [hL] at e3
  simp only [Bool.false_eq_true, if_false] at e3
  rw [hz] at e3
  unfold execOp
  simp only [ho, hp.trans e1, hy, Instr.storeAt, Instr.sureAddr, Sem.run_bind, Sem.run_pure, Result.andThen_ok, run_storeVar_one w' k x.T ty z v e3 hi h1]
  have := h.store hB hx ha e1 undef
  rw [hc] at this
  exact ⟨rfl, this⟩
/-- The law for such a region in a round. -/
theorem wpIn_round_frs {id l0 n : Nat} {a : Act} (sp : List Tk) (frs : List Fr) (hm : P.follows .mixedOrders = true) (hnd : noDeferB l = true) (hB : tellB l sp = true) (hF : frsB sp frs = true)
    (hL : ∀ b, Region.lexB .any (swapL b sp 0 l).toArray = true) (hO : ¬ LetsOut Q)
    (h : ∃ aF : (Nat → Value) → Act,
      (∀ b W, Kept w W → wpQuiet P (swapL b sp 0 l).toArray (fun w' => ∃ x, w' = ext W x) (fun a' => a' = aF b) (swapL b sp 0 l) a) ∧
      EachS (fun i o => ∀ (L : Nat → Bool) (b : Nat → Value) (w' : World), (∀ e ∈ o.after, Region.binds .any e = true → L e.on = true) → L i = false → FI w frs L b w' →
        tellsUpon P (fun v w'' => v = (sp.getD i .q).val v ∧ FI w frs (doneAt L i) (tellAt b i v) w'') ((execOp (aF b).eval o).run P w')) sp 0 l ∧
      (∀ b b', ∀ d ∈ callSlots sp l, (aF b).tmps[d]? = (aF b').tmps[d]?) ∧
      (∀ L b w', (∀ i, i < l.length → L i = true) → FI w frs L b w' → Q .normal (aF b) w')) : (Code.region id l.toArray true).wpIn (Fence.wide.inRound l0) n P Q a w :=
  wpIn_region_any hm (any_round (noDefer_spec hnd) hO _ _ _ _ (any_region_tellC (C := Kept w) sp (FI w frs) hB hL (fun b => FI.start b) (fun _ _ _ _ _ hs hI hk => (hI.on hk).other hF hs) (fun _ _ _ h => h.kept) h))
/-- A region that only reads and calls. -/
theorem wpIn_round_kept {id l0 n : Nat} {a : Act} (hm : P.follows .mixedOrders = true) (hnd : noDeferB l = true) (hB : Region.lexB .any l.toArray = true) (hO : ¬ LetsOut Q)
    (h : wpQuiet P l.toArray (fun w' => ∃ x, w' = ext w x) (fun a' => ∀ x, Q .normal a' (ext w x)) l a) : (Code.region id l.toArray true).wpIn (Fence.wide.inRound l0) n P Q a w := by
  refine wpIn_region_any hm (any_round (noDefer_spec hnd) hO _ _ _ _ ?_)
  simp only [Region.lexB, Bool.and_eq_true] at hB
  refine wpAny_of_quiet (C := fun w' => ∃ x, w' = ext w x) (Q := fun a' => ∀ w', (∃ x, w' = ext w x) → Q .normal a' w') (fun _ w' hw' h => h w' hw') _ _ _ _ (Kept.refl w).drew ?_
  have e : (fun a' => ∀ w', (∃ x, w' = ext w x) → Q .normal a' w') = (fun a' => ∀ x, Q .normal a' (ext w x)) := by
    funext a'
    exact propext ⟨fun h x => h _ ⟨x, rfl⟩, fun h w' ⟨x, hx⟩ => hx ▸ h x⟩
  rw [e]
  have := wpAnyQ_lex (C := fun w' => ∃ x, w' = ext w x) (md := .any) hB.1 l 0 (Array.replicate l.toArray.size false) a (by simp) (by simpa using hB.2) h
  simpa using this
end
end Go.Proofs.YtnbjealpcjfllaaGreatDoor

namespace Go.Proofs.YtnbjealpcjfllaaGreatDoor
set_option linter.unusedVariables false
set_option linter.unusedSimpArgs false
open Go.RowKit Go.Shelf
def Pn.cells (p : Pn) : Array Value := #[.int .i64 p.a0, .int .i64 p.a1, .int .i64 p.a2, .int .i64 p.b0, .int .i64 p.b1, .int .i64 p.b2, .int .i64 p.c0, .int .i64 p.c1, .int .i64 p.c2]
theorem others_kept {A B : World} (h : Kept A B) : KeepsOthers A B := ⟨h.below.size, fun k _ hk _ => (h.below.block k (Array.getElem?_eq_some_iff.1 hk).1).trans hk⟩
theorem heap_from {n : Nat} {A B : World} {row : Option Nat} (hg : A.grownBy B row) (hr : ∀ r, row = some r → n ≤ r ∧ ∃ o : Obj, A.heap[r]? = some o ∧ o.isCells = false) {k : Nat} {o : Obj} (h : A.heap[k]? = some o) (hc : o.isCells = true) : B.heap[k]? = some o := by
  refine (hg.block k (Array.getElem?_eq_some_iff.1 h).1 (fun e => ?_)).trans h
  obtain ⟨-, o', ho, hn⟩ := hr k e.symm
  rw [h] at ho
  cases ho
  rw [hc] at hn
  cases hn
theorem KpS.from {e1 e2 n : Nat} {W A B : World} {row : Option Nat} (h : KpS e1 e2 W A) (hg : A.grownBy B row) (hr : ∀ r, row = some r → n ≤ r ∧ ∃ o : Obj, A.heap[r]? = some o ∧ o.isCells = false) : KpS e1 e2 W B :=
  ⟨hg.os.trans h.os, hg.tape.trans h.tape, hg.output.trans h.output, Nat.le_trans h.size hg.size, fun k cs T o hk h1 h2 h3 => heap_from hg hr (h.cells k cs T o hk h1 h2 h3) rfl⟩
theorem below_from {n m : Nat} {W A B : World} {row : Option Nat} (h : Below m W A) (hm : m ≤ W.heap.size) (hn : m ≤ n) (hg : A.grownBy B row) (hr : ∀ r, row = some r → n ≤ r ∧ ∃ o : Obj, A.heap[r]? = some o ∧ o.isCells = false) : Below m W B :=
  h.grown hg (Nat.le_trans hm h.size) (fun k hk => Nat.le_trans hn (hr k hk).1)
theorem owns_from {n base size k : Nat} {e : TypeId} {v : Value} {xs : List Value} {A B : World} {row : Option Nat} (h : A.ownsRow base e size v k xs) (hg : A.grownBy B row) (hr : ∀ r, row = some r → n ≤ r ∧ ∃ o : Obj, A.heap[r]? = some o ∧ o.isCells = false) : B.ownsRow base e size v k xs := by
  refine ⟨h.1, ?_⟩
  rcases h.2 with h2 | ⟨g, cap, cur, hv, hb, hh, r⟩
  · exact .inl h2
  · exact .inr ⟨g, cap, cur, hv, hb, heap_from hg hr hh rfl, r⟩
/-- The law: the assign code puts the part into a new box, in slot sx; the round's value comes in slot sy. -/
theorem range_parts {G : Pn → Prop} {g : Operand} {sx sy : Nat} {assign body : Code} {Q : Exit → Act → World → Prop} {a : Act} {w : World} {n : Nat}
    {lb : Array Value} (hg : a.eval g = .func (.func 294) #[] lb)
    {Kp : World → World → Prop} {S Sp : List (PtP G) → Prop} {N : Nat} {w0 : World} (hseq : SeqStopsK Fence.wide (n - 1) Tryz.prog 294 lb (fun x : PtP G => #[x.1.val]) Kp S Sp N w0) (h1 : 1 ≤ n)
    (hKt : ∀ {A B C : World}, Kp A B → Kp B C → Kp A C) (hKb : ∀ (W : World) (l : Nat) (o o' : Obj), w.heap.size ≤ l → W.heap[l]? = some o → o.isCells = false → o.isWalk = false → Kp W (W.putObj l o')) (hb0 : Below w0.heap.size w0 w)
    (I : List (PtP G) → World → Prop) (Ix : Code → List (PtP G) → World → Prop) (hI : OwnFrom w.heap.size I) (hIx : ∀ c, OwnFrom w.heap.size (Ix c)) (h0 : I [] w)
    (hassign : ∀ (l : Nat) (pre : List (PtP G)) (x : PtP G) (W : World) (K : Act → World → Prop), I pre W → (∀ Bx W', KeepsFrom w.heap.size W W' → Kp W W' → I pre W' → W'.heap[Bx]? = some (.cells x.1.cells 207 (0, 0)) → w.heap.size ≤ Bx → K { tmps := (a.tmps.setIfInBounds sy x.1.val).setIfInBounds sx (.pointer (some ⟨Bx, 0, none⟩)), defers := [] } W') →
      assign.wpIn (Fence.wide.inRound l) (n - 1 - 1) Tryz.prog (Exit.then K (fun _ _ _ => False)) { tmps := a.tmps.setIfInBounds sy x.1.val, defers := [] } W)
    (hbody : ∀ (l : Nat) (pre : List (PtP G)) (x : PtP G) (Bx : Nat) (W : World), w.heap.size ≤ l → I pre W → W.heap[Bx]? = some (.cells x.1.cells 207 (0, 0)) → w.heap.size ≤ Bx → pre.length < N → body.wpIn (Fence.wide.inRound l) (n - 1 - 1) Tryz.prog (ownPostG w.heap.size Kp I Ix (pre ++ [x]) W) { tmps := (a.tmps.setIfInBounds sy x.1.val).setIfInBounds sx (.pointer (some ⟨Bx, 0, none⟩)), defers := [] } W)
    (hdone : ∀ (D : Nat) (xs : List (PtP G)) (W : World), w.heap.size ≤ D → S xs → I xs W → W.heap[D]? = some (.deferred (some [])) → Q .normal { a with defers := { target := .collected D, args := #[] } :: a.defers } W)
    (hstop : ∀ (D : Nat) (c : Code) (pre : List (PtP G)) (W : World), w.heap.size ≤ D → Sp pre → Ix c pre W → W.heap[D]? = some (.deferred (some [])) → c.wpIn Fence.wide n Tryz.prog Q { a with defers := { target := .collected D, args := #[] } :: a.defers } W) :
    (Code.rangeFunc g #[sy] assign body).wpIn Fence.wide n Tryz.prog Q a w :=
  wpIn_rangeFunc_ownH rfl h1 (gf := 294) (lb := lb) hg trivial (enters_of Tryz.func294 (by kernel_rfl) rfl) hseq hKt hKb hb0 (fun _ => rfl) I Ix hI hIx h0
    (fun x a' W => ∃ Bx, W.heap[Bx]? = some (.cells x.1.cells 207 (0, 0)) ∧ w.heap.size ≤ Bx ∧ a' = { tmps := (a.tmps.setIfInBounds sy x.1.val).setIfInBounds sx (.pointer (some ⟨Bx, 0, none⟩)), defers := [] })
    (fun x a' _ A B row hs hg hr => by
      obtain ⟨Bx, h1, h2, h3⟩ := hs
      exact ⟨Bx, heap_from hg hr h1 rfl, h2, h3⟩)
    (fun l pre x W K hi hK => by
      have := hassign l pre x W K hi (fun Bx W' k1 k2 k3 k4 k5 => hK _ _ k1 k2 k3 ⟨Bx, k4, k5, rfl⟩)
      simpa using this)
    (fun l pre x a' W hl _ hi ⟨Bx, k4, k5, e⟩ hlen => by
      subst e
      exact hbody l pre x Bx W hl hi k4 k5 hlen)
    hdone hstop
end Go.Proofs.YtnbjealpcjfllaaGreatDoor

namespace Go.Proofs.YtnbjealpcjfllaaGreatDoor
set_option linter.unusedVariables false
set_option linter.unusedSimpArgs false
open Go.RowKit
theorem loB_box (P : Nat → Nat → Int) (c : Nat) : ∀ k, boxLo P c k = loB P c k
  | 0 => rfl
  | k + 1 => by unfold boxLo loB; rw [loB_box P c k]
theorem hiB_box (P : Nat → Nat → Int) (c : Nat) : ∀ k, boxHi P c k = hiB P c k
  | 0 => rfl
  | k + 1 => by unfold boxHi hiB; rw [hiB_box P c k]
set_option maxRecDepth 100000 in
set_option maxHeartbeats 16000000 in
theorem fbox_any (A : Option Addr) (n cap : Nat) (P : Nat → Nat → Int) (w : World) (hn0 : 0 < n) (hn : n ≤ 1000) (hP : RowsAt w A n 3 P) :
    Calls Tryz.prog 320 #[.slice A n cap] w fun r w' => r = .returned (.tuple #[.agg #[.int .i64 (boxLo P 0 n), .int .i64 (boxLo P 1 n), .int .i64 (boxLo P 2 n)], .agg #[.int .i64 (boxHi P 0 n), .int .i64 (boxHi P 1 n), .int .i64 (boxHi P 2 n)]]) ∧ Kept w w' := by
  have HP := Lib.hid hP
  clear hP
  obtain ⟨fb, off, rfl, hb, f0, f1, f2⟩ := rows3 HP.out hn0
  have LB : Lower fb w.heap.size := ⟨hb⟩
  simp only [Nat.zero_mul, Nat.add_zero] at f0 f1 f2
  go_enter Tryz.func320, Tryz.ntmps320
  go_wp2_with fail
  refine wp_region_tellC (C := Kept w) [.q, .q, .q, .q, .q, .q, .k undef, .k undef] (TwoI w (w.heap.size) (w.heap.size + 1) 6 7 136 #[.int .i64 0, .int .i64 0, .int .i64 0] #[.int .i64 0, .int .i64 0, .int .i64 0] #[.int .i64 (P 0 0), .int .i64 (P 0 1), .int .i64 (P 0 2)] #[.int .i64 (P 0 0), .int .i64 (P 0 1), .int .i64 (P 0 2)]) (by kernel_rfl) (by kernel_rfl) (fun b => by kernel_rfl) ?_ ?_ ?_ ?_
  · intro b
    refine ⟨by (repeat (first | exact Kept.refl _ | assumption | refine Kept.alloc ?_ _ | refine Kept.ext ?_ _ | refine Kept.drew ?_ | refine Kept.drewN ?_ _)), ?_, ?_⟩
    · exact heap_kp (alloc_now w _ _) (by (repeat (first | exact Kept.refl _ | assumption | refine Kept.alloc ?_ _ | refine Kept.ext ?_ _ | refine Kept.drew ?_ | refine Kept.drewN ?_ _)))
    · exact heap_kp (alloc_now _ _ _) (by (repeat (first | exact Kept.refl _ | assumption | refine Kept.alloc ?_ _ | refine Kept.ext ?_ _ | refine Kept.drew ?_ | refine Kept.drewN ?_ _)))
  · intro i L b w' w'' hs hI hk
    exact (hI.on hk).other (by rintro rfl; cases hs) (by rintro rfl; cases hs)
  · exact fun L b w' h => h.kept
  apply Exists.intro
  refine ⟨?_, ?_, ?_, ?_⟩
  · rintro b W ⟨y, rfl⟩
    simp only [swapL, Nat.reduceAdd]
    repeat (go_big_quiet_step (fail))
    refine wpQuiet_nil ?_
    rfl
  · simp only [EachS, and_true]
    refine ⟨?_, ?_⟩
    · intro L b w' hd hL hI
      have e3 := hI.hg
      rw [hL] at e3
      simp only [Bool.false_eq_true, if_false] at e3
      refine tells_put 136 (.tmp 2) (.tmp 8) rfl (w.heap.size) rfl rfl e3 (by kernel_rfl) rfl (by simp [Value.oneCell']) ?_
      exact ⟨rfl, hI.one (by omega) (by omega) (by simp) _⟩
    · intro L b w' hd hL hI
      have e3 := hI.hh
      rw [hL] at e3
      simp only [Bool.false_eq_true, if_false] at e3
      refine tells_put 136 (.tmp 3) (.tmp 11) rfl (w.heap.size + 1) rfl rfl e3 (by kernel_rfl) rfl (by simp [Value.oneCell']) ?_
      exact ⟨rfl, hI.two (by omega) (by omega) (by simp) _⟩
  · intro b b' d hd
    simp [callSlots, dullOp] at hd
  · intro L b w' hL hI
    have HG := Lib.hid hI.hg
    have HH := Lib.hid hI.hh
    rw [hL 6 (by decide)] at HG
    rw [hL 7 (by decide)] at HH
    simp only [if_true] at HG HH
    have HK := Lib.hid hI.kept
    clear hL hI
    obtain ⟨y, rfl⟩ := HK.out
    go_wp2_with fail
    go_loopw [14] (fun i wr => ∃ k : Nat, k ≤ n ∧ i = .int .i64 k ∧ BoxI w (w.heap.size) (w.heap.size + 1) P k wr) (fun i _ => n - (intOf i).toNat)
    case atStart => exact ⟨0, by omega, rfl, HK.out, HG.out, HH.out⟩
    case round =>
      obtain ⟨k, hk, rfl, ⟨z, rfl⟩, hg, hh⟩ := hrel
      have HG2 := Lib.hid hg
      have HH2 := Lib.hid hh
      obtain ⟨l0, l1, l2⟩ := cells3 hg
      obtain ⟨u0, u1, u2⟩ := cells3 hh
      clear hg hh
      have LG : Lower (w.heap.size) (adv (w.heap.size) z.obs.size) := ⟨by have := cell_lt l0; simpa using this⟩
      have LH : Lower (w.heap.size + 1) (adv (w.heap.size) z.obs.size) := ⟨by have := cell_lt u0; simpa using this⟩
      by_cases hlt : k < n
      · obtain ⟨fb', off', e, -, f0, f1, f2⟩ := rows3 HP.out hlt
        cases e
        go_wp2_with (first | (refine wp_putRow (cs := #[.int .i64 (min (boxLo P 0 k) (P k 0)), .int .i64 (min (boxLo P 1 k) (P k 1)), .int .i64 (min (boxLo P 2 k) (P k 2))]) _ rfl 136 (.tmp 2) (.tmp 33) rfl (w.heap.size) (by rfl) (by rfl) (heap_kp HG2.out (by (repeat (first | exact Kept.refl _ | assumption | refine Kept.alloc ?_ _ | refine Kept.ext ?_ _ | refine Kept.drew ?_ | refine Kept.drewN ?_ _)))) (by kernel_rfl) (by rfl) (by simp [Value.oneCell']) ?_; intro w2 h2 g2; have k2 : Kept w w2 := Kept.map_store (by (repeat (first | exact Kept.refl _ | assumption | refine Kept.alloc ?_ _ | refine Kept.ext ?_ _ | refine Kept.drew ?_ | refine Kept.drewN ?_ _))) (by simp) g2; have hh2 := block_of g2 (heap_kp HH2.out (by (repeat (first | exact Kept.refl _ | assumption | refine Kept.alloc ?_ _ | refine Kept.ext ?_ _ | refine Kept.drew ?_ | refine Kept.drewN ?_ _)))) (by omega); have hp2 : w2.heap[adv (w.heap.size) z.obs.size]? = some (.cells #[.int .i64 (P k 0), .int .i64 (P k 1), .int .i64 (P k 2)] 136 (0, 0)) := block_of g2 (alloc_now _ _ _) (by have := LG.lt; omega); obtain ⟨v0, v1, v2⟩ := cells3 hh2; obtain ⟨p0, p1, p2⟩ := cells3 hp2; have H2 := Lib.hid h2; have HH3 := Lib.hid hh2; have G2 := Lib.hid g2; have K2 := Lib.hid k2; clear h2 g2 k2 hh2 hp2) | (refine wp_putRow (cs := #[.int .i64 (max (boxHi P 0 k) (P k 0)), .int .i64 (max (boxHi P 1 k) (P k 1)), .int .i64 (max (boxHi P 2 k) (P k 2))]) _ rfl 136 (.tmp 3) (.tmp 49) rfl (w.heap.size + 1) (by rfl) (by rfl) HH3.out (by kernel_rfl) (by rfl) (by simp [Value.oneCell']) ?_; intro w3 h3 g3; have H3 := Lib.hid h3; have G3 := Lib.hid g3; clear h3 g3))
        go_roundw
        case rel => exact ⟨k + 1, by omega, by go_num, K2.out.map_store (by simp) G3.out, block_of G3.out H2.out (by omega), H3.out⟩
        case measure => simp [intOf]; omega
      · obtain rfl : k = n := by omega
        go_wp2_with fail
        refine wp_region_tellC (C := fun W => Kept w W ∧ W.heap[w.heap.size]? = some (.cells #[.int .i64 (boxLo P 0 k), .int .i64 (boxLo P 1 k), .int .i64 (boxLo P 2 k)] 136 (0, 0)) ∧ W.heap[w.heap.size + 1]? = some (.cells #[.int .i64 (boxHi P 0 k), .int .i64 (boxHi P 1 k), .int .i64 (boxHi P 2 k)] 136 (0, 0))) [.q, .q, .k undef, .k undef] (TwoI w (w.heap.size) (w.heap.size + 1) 2 3 136 #[.int .i64 (boxLo P 0 k), .int .i64 (boxLo P 1 k), .int .i64 (boxLo P 2 k)] #[.int .i64 (boxHi P 0 k), .int .i64 (boxHi P 1 k), .int .i64 (boxHi P 2 k)] #[.int .i64 (boxLo P 0 k), .int .i64 (boxLo P 1 k), .int .i64 (boxLo P 2 k)] #[.int .i64 (boxHi P 0 k), .int .i64 (boxHi P 1 k), .int .i64 (boxHi P 2 k)]) (by kernel_rfl) (by kernel_rfl) (fun b => by kernel_rfl) ?_ ?_ ?_ ?_
        · intro b
          exact ⟨by (repeat (first | exact Kept.refl _ | assumption | refine Kept.alloc ?_ _ | refine Kept.ext ?_ _ | refine Kept.drew ?_ | refine Kept.drewN ?_ _)), heap_kp HG2.out (by (repeat (first | exact Kept.refl _ | assumption | refine Kept.alloc ?_ _ | refine Kept.ext ?_ _ | refine Kept.drew ?_ | refine Kept.drewN ?_ _))), heap_kp HH2.out (by (repeat (first | exact Kept.refl _ | assumption | refine Kept.alloc ?_ _ | refine Kept.ext ?_ _ | refine Kept.drew ?_ | refine Kept.drewN ?_ _)))⟩
        · intro i L b w' w'' hs hI hk
          exact (hI.on hk).other (by rintro rfl; cases hs) (by rintro rfl; cases hs)
        · intro L b w' h
          have e1 := h.hg
          have e2 := h.hh
          rw [ite_self] at e1 e2
          exact ⟨h.kept, e1, e2⟩
        apply Exists.intro
        refine ⟨?_, ?_, ?_, ?_⟩
        · rintro b W ⟨hk, e1, e2⟩
          obtain ⟨l0, l1, l2⟩ := cells3 e1
          obtain ⟨u0, u1, u2⟩ := cells3 e2
          haveI : Lower (w.heap.size) W.heap.size := ⟨cell_lt l0⟩
          haveI : Lower (w.heap.size + 1) W.heap.size := ⟨cell_lt u0⟩
          clear e1 e2 hk
          simp only [swapL, Nat.reduceAdd]
          repeat (go_big_quiet_step (fail))
          refine wpQuiet_nil ?_
          rfl
        · simp only [EachS, and_true]
          refine ⟨?_, ?_⟩
          · intro L b w' hd hL hI
            have e3 := hI.hg
            rw [ite_self] at e3
            refine tells_put 136 (.tmp 2) (.tmp 51) (by rfl) (w.heap.size) (c := #[.int .i64 (boxLo P 0 k), .int .i64 (boxLo P 1 k), .int .i64 (boxLo P 2 k)]) (by rfl) (by rfl) e3 (by kernel_rfl) (by rfl) (by simp [Value.oneCell']) ?_
            exact ⟨rfl, hI.one (by omega) (by omega) (by simp) _⟩
          · intro L b w' hd hL hI
            have e3 := hI.hh
            rw [ite_self] at e3
            refine tells_put 136 (.tmp 3) (.tmp 52) (by rfl) (w.heap.size + 1) (c := #[.int .i64 (boxHi P 0 k), .int .i64 (boxHi P 1 k), .int .i64 (boxHi P 2 k)]) (by rfl) (by rfl) e3 (by kernel_rfl) (by rfl) (by simp [Value.oneCell']) ?_
            exact ⟨rfl, hI.two (by omega) (by omega) (by simp) _⟩
        · intro b b' d hd
          simp [callSlots, dullOp] at hd
        · intro L b w' hL hI
          have e1 := hI.hg
          have e2 := hI.hh
          rw [ite_self] at e1 e2
          obtain ⟨l0, l1, l2⟩ := cells3 e1
          obtain ⟨u0, u1, u2⟩ := cells3 e2
          have HK9 := Lib.hid hI.kept
          clear hL hI e1 e2
          go_wp2_with fail
          refine bodyPost_ret (by simp only [results, Tryz.results320]; go_simp; rfl) rfl ?_
          exact ⟨rfl, HK9.out⟩
set_option maxRecDepth 100000 in
set_option maxHeartbeats 16000000 in
theorem fnear_any (A B : Option Addr) (n cap m cap2 : Nat) (P Q : Nat → Nat → Int) (w : World) (hn : (0 < n ∧ n ≤ 1000) ∧ (0 < m ∧ m ≤ 1000)) (hP : RowsAt w A n 3 P) (hQ : RowsAt w B m 3 Q) (bP : Near1 P n) (bQ : Near1 Q m) :
    Calls Tryz.prog 292 #[.slice A n cap, .slice B m cap2] w fun r w' => r = .returned (.int .i64 (nearP P n Q m)) ∧ Kept w w' := by
  have h1 : ∀ w', Kept w w' → _ := fun w' hk => fbox_any A n cap P w' hn.1.1 hn.1.2 (hP.of hk)
  have h2 : ∀ w', Kept w w' → _ := fun w' hk => fbox_any B m cap2 Q w' hn.2.1 hn.2.2 (hQ.of hk)
  have H1 := Lib.hid h1
  have H2 := Lib.hid h2
  have a0 : ∀ c, c < 3 → (-4096 ≤ boxLo P c n ∧ boxLo P c n ≤ 4096) ∧ (-4096 ≤ boxHi P c n ∧ boxHi P c n ≤ 4096) := fun c hc => by
    rw [loB_box, hiB_box]
    exact loB_bd (t := 4096) hn.1.1 (fun i hi => by have := bP i hi; rcases (show c = 0 ∨ c = 1 ∨ c = 2 by omega) with rfl | rfl | rfl <;> omega) n (Nat.le_refl _)
  have b0 : ∀ c, c < 3 → (-4096 ≤ boxLo Q c m ∧ boxLo Q c m ≤ 4096) ∧ (-4096 ≤ boxHi Q c m ∧ boxHi Q c m ≤ 4096) := fun c hc => by
    rw [loB_box, hiB_box]
    exact loB_bd (t := 4096) hn.2.1 (fun i hi => by have := bQ i hi; rcases (show c = 0 ∨ c = 1 ∨ c = 2 by omega) with rfl | rfl | rfl <;> omega) m (Nat.le_refl _)
  have A0 := a0 0 (by omega)
  have A1 := a0 1 (by omega)
  have A2 := a0 2 (by omega)
  have B0 := b0 0 (by omega)
  have B1 := b0 1 (by omega)
  have B2 := b0 2 (by omega)
  have G0 := gapS_bd ⟨A0, B0⟩
  have G1 := gapS_bd ⟨A1, B1⟩
  have G2 := gapS_bd ⟨A2, B2⟩
  have E : nearP P n Q m = (gapS (boxLo P 0 n) (boxHi P 0 n) (boxLo Q 0 m) (boxHi Q 0 m)) * (gapS (boxLo P 0 n) (boxHi P 0 n) (boxLo Q 0 m) (boxHi Q 0 m)) + (gapS (boxLo P 1 n) (boxHi P 1 n) (boxLo Q 1 m) (boxHi Q 1 m)) * (gapS (boxLo P 1 n) (boxHi P 1 n) (boxLo Q 1 m) (boxHi Q 1 m)) + (gapS (boxLo P 2 n) (boxHi P 2 n) (boxLo Q 2 m) (boxHi Q 2 m)) * (gapS (boxLo P 2 n) (boxHi P 2 n) (boxLo Q 2 m) (boxHi Q 2 m)) := by
    unfold nearP
    simp only [loB_box, hiB_box]
  rw [E]
  obtain ⟨g0, e0⟩ : ∃ x, gapS (boxLo P 0 n) (boxHi P 0 n) (boxLo Q 0 m) (boxHi Q 0 m) = x := ⟨_, rfl⟩
  obtain ⟨g1, e1⟩ : ∃ x, gapS (boxLo P 1 n) (boxHi P 1 n) (boxLo Q 1 m) (boxHi Q 1 m) = x := ⟨_, rfl⟩
  obtain ⟨g2, e2⟩ : ∃ x, gapS (boxLo P 2 n) (boxHi P 2 n) (boxLo Q 2 m) (boxHi Q 2 m) = x := ⟨_, rfl⟩
  rw [e0] at G0 ⊢
  rw [e1] at G1 ⊢
  rw [e2] at G2 ⊢
  have E0 := Lib.hid e0
  have E1 := Lib.hid e1
  have E2 := Lib.hid e2
  clear E a0 b0 h1 h2 hP hQ bP bQ hn e0 e1 e2
  go_enter Tryz.func292, Tryz.ntmps292
  go_upto_region 3 with (first | (go_at_call 320; (with_reducible refine (H1.out _ (by (repeat (first | exact Kept.refl _ | assumption | refine Kept.alloc ?_ _ | refine Kept.ext ?_ _ | refine Kept.drew ?_ | refine Kept.drewN ?_ _)))).mono ?_); rintro e w1 ⟨rfl, x1, rfl⟩) | (go_at_call 320; (with_reducible refine (H2.out _ (by (repeat (first | exact Kept.refl _ | assumption | refine Kept.alloc ?_ _ | refine Kept.ext ?_ _ | refine Kept.drew ?_ | refine Kept.drewN ?_ _)))).mono ?_); rintro e w2 ⟨rfl, x2, rfl⟩))
  go_cut [9] from 20 to 47 (fun s9 wx => ∃ g, s9 = .pointer (some ⟨g, 0, none⟩) ∧ Kept w wx ∧ wx.cell? ⟨g, 0, none⟩ = some (.int .i64 g0) ∧ wx.cell? ⟨g, 1, none⟩ = some (.int .i64 g1) ∧ wx.cell? ⟨g, 2, none⟩ = some (.int .i64 g2))
  case first =>
    go_region_held3 (fun w' => w'.cell? ⟨adv w.heap.size x1.obs.size, 0, none⟩ = some (.int .i64 (boxLo P 0 n)) ∧ w'.cell? ⟨adv w.heap.size x1.obs.size, 1, none⟩ = some (.int .i64 (boxLo P 1 n)) ∧ w'.cell? ⟨adv w.heap.size x1.obs.size, 2, none⟩ = some (.int .i64 (boxLo P 2 n)) ∧ w'.cell? ⟨adv w.heap.size x1.obs.size + 1, 0, none⟩ = some (.int .i64 (boxHi P 0 n)) ∧ w'.cell? ⟨adv w.heap.size x1.obs.size + 1, 1, none⟩ = some (.int .i64 (boxHi P 1 n)) ∧ w'.cell? ⟨adv w.heap.size x1.obs.size + 1, 2, none⟩ = some (.int .i64 (boxHi P 2 n)) ∧ w'.cell? ⟨adv (adv w.heap.size x1.obs.size + 1 + 1) x2.obs.size, 0, none⟩ = some (.int .i64 (boxLo Q 0 m)) ∧ w'.cell? ⟨adv (adv w.heap.size x1.obs.size + 1 + 1) x2.obs.size, 1, none⟩ = some (.int .i64 (boxLo Q 1 m)) ∧ w'.cell? ⟨adv (adv w.heap.size x1.obs.size + 1 + 1) x2.obs.size, 2, none⟩ = some (.int .i64 (boxLo Q 2 m)) ∧ w'.cell? ⟨adv (adv w.heap.size x1.obs.size + 1 + 1) x2.obs.size + 1, 0, none⟩ = some (.int .i64 (boxHi Q 0 m)) ∧ w'.cell? ⟨adv (adv w.heap.size x1.obs.size + 1 + 1) x2.obs.size + 1, 1, none⟩ = some (.int .i64 (boxHi Q 1 m)) ∧ w'.cell? ⟨adv (adv w.heap.size x1.obs.size + 1 + 1) x2.obs.size + 1, 2, none⟩ = some (.int .i64 (boxHi Q 2 m))) ((refine ⟨?_, ?_, ?_, ?_, ?_, ?_, ?_, ?_, ?_, ?_, ?_, ?_⟩ <;> go_simp)) ((go_at_call 321; refine (fgap_any _ _ _ _ _ (by omega)).mono ?_; rintro e w1 ⟨rfl, rfl⟩))
    all_goals (go_wp2_with fail; go_meet)
    all_goals exact ⟨_, rfl, by (repeat (first | exact Kept.refl _ | assumption | refine Kept.alloc ?_ _ | refine Kept.ext ?_ _ | refine Kept.drew ?_ | refine Kept.drewN ?_ _)), by rw [← E0.out]; go_simp, by rw [← E1.out]; go_simp, by rw [← E2.out]; go_simp⟩
  case rest =>
  obtain ⟨g, rfl, hk, c0, c1, c2⟩ := hcut
  have LG : Lower g wc.heap.size := ⟨cell_lt c0⟩
  have HK := Lib.hid hk
  clear hk
  have m0 := mul_sq 8192 67108864 (show -8192 ≤ g0 ∧ g0 ≤ 8192 by omega) (show -8192 ≤ g0 ∧ g0 ≤ 8192 by omega) rfl
  have m1 := mul_sq 8192 67108864 (show -8192 ≤ g1 ∧ g1 ≤ 8192 by omega) (show -8192 ≤ g1 ∧ g1 ≤ 8192 by omega) rfl
  have m2 := mul_sq 8192 67108864 (show -8192 ≤ g2 ∧ g2 ≤ 8192 by omega) (show -8192 ≤ g2 ∧ g2 ≤ 8192 by omega) rfl
  go_wp2_with (go_at_call 318; refine (fdot_any _ _ _ _ _ _ _ (by omega)).mono ?_; rintro e w1 ⟨rfl, x6, rfl⟩)
  go_ret
  exact ⟨rfl, HK.out.trans (by (repeat (first | exact Kept.refl _ | assumption | refine Kept.alloc ?_ _ | refine Kept.ext ?_ _ | refine Kept.drew ?_ | refine Kept.drewN ?_ _)))⟩
end Go.Proofs.YtnbjealpcjfllaaGreatDoor

namespace Go.Proofs.YtnbjealpcjfllaaGreatDoor
set_option linter.unusedVariables false
set_option linter.unusedSimpArgs false
open Go.RowKit
set_option maxRecDepth 100000 in
set_option maxHeartbeats 8000000 in
theorem ffar_any (A B : Option Addr) (n cap m cap2 : Nat) (P Q : Nat → Nat → Int) (w : World) (hn : n ≤ 1000 ∧ m ≤ 1000) (hP : RowsAt w A n 3 P) (hQ : RowsAt w B m 3 Q) (bP : Near1 P n) (bQ : Near1 Q m) :
    Calls Tryz.prog 291 #[.slice A n cap, .slice B m cap2] w fun r w' => r = .returned (.int .i64 (farI P Q m n)) ∧ Kept w w' := by
  have HP := Lib.hid hP
  have HQ := Lib.hid hQ
  have BP := Lib.hid bP
  have BQ := Lib.hid bQ
  clear hP hQ bP bQ
  go_enter Tryz.func291, Tryz.ntmps291
  go_wp2_with fail
  go_loopw [5, 13] (fun o i wr => ∃ k : Nat, k ≤ n ∧ i = .int .i64 k ∧ o = .int .i64 (farI P Q m k) ∧ ∃ x, wr = ext w x) (fun _ i _ => n - (intOf i).toNat)
  case atStart => exact ⟨0, by omega, rfl, rfl, by (repeat (first | exact Kept.refl _ | assumption | refine Kept.alloc ?_ _ | refine Kept.ext ?_ _ | refine Kept.drew ?_ | refine Kept.drewN ?_ _))⟩
  case round =>
    obtain ⟨k, hk, rfl, rfl, x, rfl⟩ := hrel
    by_cases hlt : k < n
    · have pk := BP.out k hlt
      have fk := farI_bd BP.out BQ.out k hk
      obtain ⟨fb, off, rfl, lb, f0, f1, f2⟩ := rows3 HP.out hlt
      have LB : Lower fb w.heap.size := ⟨lb⟩
      clear lb
      go_wp2_with fail
      go_loopw [5, 19] (fun o i wr => ∃ j : Nat, j ≤ m ∧ i = .int .i64 j ∧ o = .int .i64 (farJ P Q k (farI P Q m k) j) ∧ ∃ x', wr = ext ((ext w x).alloc (.cells #[.int .i64 (P k 0), .int .i64 (P k 1), .int .i64 (P k 2)] 136)) x') (fun _ i _ => m - (intOf i).toNat)
      case atStart => exact ⟨0, by omega, rfl, rfl, by (repeat (first | exact Kept.refl _ | assumption | refine Kept.alloc ?_ _ | refine Kept.ext ?_ _ | refine Kept.drew ?_ | refine Kept.drewN ?_ _))⟩
      case round =>
        obtain ⟨j, hj, rfl, rfl, x', rfl⟩ := hrel
        by_cases hjt : j < m
        · have pj := BQ.out j hjt
          have gj := farJ_bd pk BQ.out fk j hj
          obtain ⟨gb, ofg, rfl, lg, g0, g1, g2⟩ := rows3 HQ.out hjt
          have LG : Lower gb w.heap.size := ⟨lg⟩
          clear lg
          have d0 := mul_sq 8192 67108864 (show -8192 ≤ P k 0 - Q j 0 ∧ P k 0 - Q j 0 ≤ 8192 by omega) (show -8192 ≤ P k 0 - Q j 0 ∧ P k 0 - Q j 0 ≤ 8192 by omega) rfl
          have d1 := mul_sq 8192 67108864 (show -8192 ≤ P k 1 - Q j 1 ∧ P k 1 - Q j 1 ≤ 8192 by omega) (show -8192 ≤ P k 1 - Q j 1 ∧ P k 1 - Q j 1 ≤ 8192 by omega) rfl
          have d2 := mul_sq 8192 67108864 (show -8192 ≤ P k 2 - Q j 2 ∧ P k 2 - Q j 2 ≤ 8192 by omega) (show -8192 ≤ P k 2 - Q j 2 ∧ P k 2 - Q j 2 ≤ 8192 by omega) rfl
          go_wp2_with (first | (go_at_call 316; refine (fvec_any _ _ _ _ _ _ _ (by omega)).mono ?_; rintro e w1 ⟨rfl, x, rfl⟩) | (go_at_call 318; refine (fdot_any _ _ _ _ _ _ _ (by omega)).mono ?_; rintro e w1 ⟨rfl, x, rfl⟩))
          go_roundw
          case rel => exact ⟨j + 1, by omega, by go_num, rfl, by (repeat (first | exact Kept.refl _ | assumption | refine Kept.alloc ?_ _ | refine Kept.ext ?_ _ | refine Kept.drew ?_ | refine Kept.drewN ?_ _))⟩
          case measure =>
            simp [intOf]
            omega
        · obtain rfl : j = m := by omega
          go_wp2_with fail
          go_roundw
          case rel => exact ⟨k + 1, by omega, by go_num, rfl, by (repeat (first | exact Kept.refl _ | assumption | refine Kept.alloc ?_ _ | refine Kept.ext ?_ _ | refine Kept.drew ?_ | refine Kept.drewN ?_ _))⟩
          case measure =>
            simp [intOf]
            omega
    · obtain rfl : k = n := by omega
      go_wp2_with fail
      go_ret
      exact ⟨rfl, by (repeat (first | exact Kept.refl _ | assumption | refine Kept.alloc ?_ _ | refine Kept.ext ?_ _ | refine Kept.drew ?_ | refine Kept.drewN ?_ _))⟩
end Go.Proofs.YtnbjealpcjfllaaGreatDoor

namespace Go.Proofs.YtnbjealpcjfllaaGreatDoor
set_option linter.unusedVariables false
set_option linter.unusedSimpArgs false
open Go.RowKit
theorem fcorners_any (p0 p1 p2 p3 p4 p5 p6 p7 p8 : Int) (w : World) :
    Calls Tryz.prog 289 #[.agg #[.int .i64 p0, .int .i64 p1, .int .i64 p2, .int .i64 p3, .int .i64 p4, .int .i64 p5, .int .i64 p6, .int .i64 p7, .int .i64 p8]] w fun e w' => e = .returned (.agg #[.int .i64 p0, .int .i64 p1, .int .i64 p2, .int .i64 p3, .int .i64 p4, .int .i64 p5, .int .i64 p6, .int .i64 p7, .int .i64 p8]) ∧ Kept w w' := by
  go_enter Tryz.func289, Tryz.ntmps289
  go_wp2
  refine bodyPost_ret (by simp only [results, Tryz.results289]; go_simp; rfl) rfl ?_
  exact ⟨rfl, by (repeat (first | exact Kept.refl _ | assumption | refine Kept.alloc ?_ _ | refine Kept.ext ?_ _ | refine Kept.drew ?_ | refine Kept.drewN ?_ _))⟩
end Go.Proofs.YtnbjealpcjfllaaGreatDoor

namespace Go.Proofs.YtnbjealpcjfllaaGreatDoor
set_option linter.unusedVariables false
set_option linter.unusedSimpArgs false
open Go.RowKit
theorem favg_any (lo hi c : Int) (w : World) :
    Calls Tryz.prog 293 #[.int .i64 lo, .int .i64 hi, .int .i64 c] w fun e w' => e = .returned (.agg #[.int .i64 (partS lo hi c).lo, .int .i64 (partS lo hi c).hi]) ∧ Kept w w' := by
  go_enter Tryz.func293, Tryz.ntmps293
  go_wp2_with (first | (go_at_call 322; refine (part_any _ _ _ _).mono ?_; rintro e w1 ⟨rfl, x, rfl⟩))
  refine bodyPost_ret (by simp only [results, Tryz.results293]; go_simp; rfl) rfl ?_
  exact ⟨rfl, by (repeat (first | exact Kept.refl _ | assumption | refine Kept.alloc ?_ _ | refine Kept.ext ?_ _ | refine Kept.drew ?_ | refine Kept.drewN ?_ _))⟩
end Go.Proofs.YtnbjealpcjfllaaGreatDoor

