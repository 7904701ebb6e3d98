/- Lists of lists of fractions that a call makes: an element appended to one of them in a region that draws its order. No conditions but those of each theorem. -/
import Derived.Test.YtoejdfpmmgldpaaFb
namespace Go.Proofs.Ytoejdfpmmgldpaa
set_option linter.unusedVariables false
set_option linter.unusedSimpArgs false
open Go.RowKit Go.Deep
/-- A matrix of the call's own: N rows, row i is the list V i of L i ints f i j. -/
structure OwnQ (W : World) (base g N : Nat) (V : Nat → Value) (L : Nat → Nat) (f : Nat → Nat → Nat → Int) (wr : World) : Prop where
  on : Kept W wr
  hb : W.heap.size ≤ base
  o : wr.ownsRow base 61 1 (.slice (some ⟨g, 0, none⟩) N N) N ((List.range N).map V)
  r : ∀ i, i < N → wr.ownsRow base 32 2 (V i) (L i) (rowC 2 (f i) (L i))
  d : ∀ i j, i < N → j < N → i ≠ j → (V i).ownBlock = none ∨ (V i).ownBlock ≠ (V j).ownBlock
section
variable {W wr wr' : World} {base g N : Nat} {V V' : Nat → Value} {L L' : Nat → Nat} {f f' : Nat → Nat → Nat → Int}
theorem OwnQ.next (h : OwnQ W base g N V L f wr) (hk : Kept wr wr') : OwnQ W base g N V L f wr' :=
  ⟨h.on.trans hk, h.hb, owns_kept h.o hk, fun i hi => owns_kept (h.r i hi) hk, h.d⟩
theorem OwnQ.congr (h : OwnQ W base g N V L f wr) (hV : ∀ i, i < N → V i = V' i) (hL : ∀ i, i < N → L i = L' i) (hf : ∀ i, i < N → ∀ j, j < L i → ∀ c, c < 2 → f i j c = f' i j c) : OwnQ W base g N V' L' f' wr := by
  refine ⟨h.on, h.hb, ?_, fun i hi => ?_, fun i j hi hj hij => ?_⟩
  · rw [← List.map_congr_left (fun i hi => hV i (List.mem_range.1 hi))]
    exact h.o
  · have := h.r i hi
    rw [hV i hi, hL i hi, rowC_congr (g := f' i) fun k hk c hc => hf i hi k (by rw [hL i hi]; exact hk) c hc] at this
    exact this
  · rw [← hV i hi, ← hV j hj]; exact h.d i j hi hj hij
theorem OwnQ.cellV (h : OwnQ W base g N V L f wr) {i : Nat} (hi : i < N) : wr.cell? ⟨g, i, none⟩ = some (V i) ∧ wr.frozen? ⟨g, i, none⟩ = false ∧ base ≤ g ∧ g < wr.heap.size := by
  refine ⟨?_, h.o.frozenAt i, (h.o.lt g rfl).1, ?_⟩
  · rw [h.o.cellAt i (by omega)]; simp [hi]
  · rcases h.o.2 with ⟨e, -⟩ | ⟨g', cap, cur, e, -, hg, -⟩
    · cases e
    · simp only [Value.slice.injEq, Option.some.injEq, Addr.mk.injEq] at e
      obtain ⟨⟨rfl, -⟩, -, -⟩ := e
      exact (Array.getElem?_eq_some_iff.1 hg).1
end
theorem own_litQ (X : World) (base : Nat) (x y : Int) (h : base ≤ X.heap.size) : (X.alloc (.cells #[.int .i64 x, .int .i64 y] 32)).ownsRow base 32 2 (.slice (some ⟨X.heap.size, 0, none⟩) 1 1) 1 [.int .i64 x, .int .i64 y] :=
  World.ownsRow_lit X #[.int .i64 x, .int .i64 y] 1 h (by unfold maxLen; omega) rfl
theorem OwnQ.made (w : World) {N : Nat} (hN : N ≤ 6) (f : Nat → Nat → Nat → Int) : OwnQ w w.heap.size w.heap.size N (fun _ => .slice none 0 0) (fun _ => 0) f (w.alloc (.cells (madeCells #[.slice none 0 0] N) 61)) := by
  refine ⟨by (repeat (first | exact Kept.refl _ | assumption | refine Kept.alloc ?_ _ | refine Kept.ext ?_ _ | refine Kept.drew ?_ | refine Kept.drewN ?_ _)), by omega, ?_, fun i hi => World.ownsRow_nil _ _ _ _, fun i j _ _ _ => .inl rfl⟩
  rw [← made_list]
  exact World.ownsRow_lit w _ N (by omega) (by unfold maxLen; omega) (by rw [size_madeCells, Nat.mul_one])
/-- Row j of a matrix of the call's own while an element is appended to it: load 5, list 10, append 11, store 13. -/
structure TqI (W : World) (base g N : Nat) (V : Nat → Value) (L : Nat → Nat) (f : Nat → Nat → Nat → Int) (j : Nat) (x y : Int) (S : Nat → Bool) (b : Nat → Value) (w' : World) : Prop where
  kept : Kept W w'
  pre : S 11 = false → OwnQ W base g N V L f w'
  new : S 10 = true → S 11 = false → w'.ownsRow base 32 2 (b 10) 1 [.int .i64 x, .int .i64 y]
  mid : S 11 = true → S 13 = false → w'.ownsRow base 61 1 (.slice (some ⟨g, 0, none⟩) N N) N ((List.range N).map V) ∧ (∀ i, i < N → i ≠ j → w'.ownsRow base 32 2 (V i) (L i) (rowC 2 (f i) (L i))) ∧
    w'.ownsRow base 32 2 (b 11) (L j + 1) (rowC 2 (fun q c => if q < L j then f j q c else pr2 x y q c) (L j + 1)) ∧ (∀ i, i < N → i ≠ j → ((b 11).ownBlock = none ∨ (b 11).ownBlock ≠ (V i).ownBlock) ∧ ((V i).ownBlock = none ∨ (V i).ownBlock ≠ (b 11).ownBlock)) ∧ (∀ i k, i < N → k < N → i ≠ k → (V i).ownBlock = none ∨ (V i).ownBlock ≠ (V k).ownBlock)
  aa5 : S 11 = true → S 5 = true ∧ S 10 = true
  aa13 : S 13 = true → S 11 = true
  fin : S 13 = true → OwnQ W base g N (fun i => if i = j then b 11 else V i) (fun i => if i = j then L j + 1 else L i) (fun i => if i = j then fun q c => if q < L j then f j q c else pr2 x y q c else f i) w'
section
variable {W w' w'' : World} {base g N j : Nat} {V : Nat → Value} {L : Nat → Nat} {f : Nat → Nat → Nat → Int} {x y : Int} {S : Nat → Bool} {b : Nat → Value}
theorem TqI.start (h : OwnQ W base g N V L f w') : TqI W base g N V L f j x y (fun _ => false) b w' :=
  ⟨h.on, fun _ => h, fun e => (by cases e), fun e => (by cases e), fun e => (by cases e), fun e => (by cases e), fun e => (by cases e)⟩
theorem TqI.on (h : TqI W base g N V L f j x y S b w') (hk : Kept w' w'') : TqI W base g N V L f j x y S b w'' :=
  ⟨h.kept.trans hk, fun e => (h.pre e).next hk, fun e e2 => owns_kept (h.new e e2) hk, fun e e2 => by
    obtain ⟨a1, a2, a3, a4, a5⟩ := h.mid e e2
    exact ⟨owns_kept a1 hk, fun i hi hij => owns_kept (a2 i hi hij) hk, owns_kept a3 hk, a4, a5⟩, h.aa5, h.aa13, fun e => (h.fin e).next hk⟩
theorem TqI.other (h : TqI W base g N V L f j x y S b w') {i : Nat} (hh5 : i ≠ 5) (hh10 : i ≠ 10) (hh11 : i ≠ 11) (hh13 : i ≠ 13) : TqI W base g N V L f j x y (doneAt S i) b w' := by
  have dd5 : doneAt S i 5 = S 5 := if_neg (Ne.symm hh5)
  have dd10 : doneAt S i 10 = S 10 := if_neg (Ne.symm hh10)
  have dd11 : doneAt S i 11 = S 11 := if_neg (Ne.symm hh11)
  have dd13 : doneAt S i 13 = S 13 := if_neg (Ne.symm hh13)
  exact ⟨h.kept, by rw [dd11]; exact h.pre, by rw [dd10, dd11]; exact h.new, by rw [dd11, dd13]; exact h.mid, by rw [dd11, dd5, dd10]; exact h.aa5, by rw [dd13, dd11]; exact h.aa13, by rw [dd13]; exact h.fin⟩
theorem TqI.not11 (h : TqI W base g N V L f j x y S b w') (hS : S 5 = false ∨ S 10 = false ∨ S 11 = false) : S 11 = false ∧ S 13 = false := by
  have hh11 : S 11 = false := by
    rcases hS with e | e | e
    · cases q : S 11 with
      | false => rfl
      | true => rw [(h.aa5 q).1] at e; cases e
    · cases q : S 11 with
      | false => rfl
      | true => rw [(h.aa5 q).2] at e; cases e
    · exact e
  refine ⟨hh11, ?_⟩
  cases q : S 13 with
  | false => rfl
  | true => rw [h.aa13 q] at hh11; cases hh11
theorem TqI.op5 (h : TqI W base g N V L f j x y S b w') {u : Value} : TqI W base g N V L f j x y (doneAt S 5) (tellAt b 5 u) w' := by
  have dd10 : doneAt S 5 10 = S 10 := if_neg (by decide)
  have dd11 : doneAt S 5 11 = S 11 := if_neg (by decide)
  have dd13 : doneAt S 5 13 = S 13 := if_neg (by decide)
  have tt10 : tellAt b 5 u 10 = b 10 := if_neg (by decide)
  have tt11 : tellAt b 5 u 11 = b 11 := if_neg (by decide)
  exact ⟨h.kept, by rw [dd11]; exact h.pre, by rw [dd10, dd11, tt10]; exact h.new, by rw [dd11, dd13, tt11]; exact h.mid, by rw [dd11, dd10]; exact fun e => ⟨if_pos rfl, (h.aa5 e).2⟩, by rw [dd13, dd11]; exact h.aa13, by rw [dd13, tt11]; exact h.fin⟩
theorem TqI.op10 (h : TqI W base g N V L f j x y S b w') (hS : S 10 = false) (hb : base ≤ w'.heap.size) : TqI W base g N V L f j x y (doneAt S 10) (tellAt b 10 (.slice (some ⟨w'.heap.size, 0, none⟩) 1 1)) (w'.alloc (.cells #[.int .i64 x, .int .i64 y] 32)) := by
  obtain ⟨hh11, hh13⟩ := h.not11 (.inr (.inl hS))
  have h' := h.on ((Kept.refl w').alloc (.cells #[.int .i64 x, .int .i64 y] 32))
  have dd5 : doneAt S 10 5 = S 5 := if_neg (by decide)
  have dd11 : doneAt S 10 11 = S 11 := if_neg (by decide)
  have dd13 : doneAt S 10 13 = S 13 := if_neg (by decide)
  refine ⟨h'.kept, by rw [dd11]; exact h'.pre, ?_, (by rw [dd11, hh11]; intro e; cases e), (by rw [dd11, hh11]; intro e; cases e), by rw [dd13, dd11]; exact h'.aa13, (by rw [dd13, hh13]; intro e; cases e)⟩
  intro _ _
  rw [show tellAt b 10 (.slice (some ⟨w'.heap.size, 0, none⟩) 1 1) 10 = .slice (some ⟨w'.heap.size, 0, none⟩) 1 1 from if_pos rfl]
  exact own_litQ w' base x y hb
theorem TqI.op11 (h : TqI W base g N V L f j x y S b w') (hj : j < N) (hb : W.heap.size ≤ base) (hh5 : S 5 = true ∧ S 10 = true) (hS : S 11 = false) {v' : Value} (hown : w''.ownsRow base 32 2 v' (L j + 1) (rowC 2 (fun q c => if q < L j then f j q c else pr2 x y q c) (L j + 1)))
    (hg : w'.grownBy w'' (V j).ownBlock) (hv : v'.ownBlock = (V j).ownBlock ∨ v'.ownBlock = some w'.heap.size) : TqI W base g N V L f j x y (doneAt S 11) (tellAt b 11 v') w'' := by
  obtain ⟨-, hh13⟩ := h.not11 (.inr (.inr hS))
  have dd10 : doneAt S 11 10 = S 10 := if_neg (by decide)
  have hO := h.pre hS
  have dd5 : doneAt S 11 5 = S 5 := if_neg (by decide)
  have dd11 : doneAt S 11 11 = true := if_pos rfl
  have dd13 : doneAt S 11 13 = S 13 := if_neg (by decide)
  have tt11 : tellAt b 11 v' 11 = v' := if_pos rfl
  have hrj := hO.r j hj
  refine ⟨kept_grown hO.on hrj hb hg, (by rw [dd11]; intro e; cases e), (by rw [dd11]; intro _ e; cases e), ?_, by rw [dd5, dd10]; exact fun _ => hh5, by rw [dd11]; exact fun _ => rfl, (by rw [dd13, hh13]; intro e; cases e)⟩
  intro _ _
  rw [tt11]
  refine ⟨hO.o.kept hg (own_ne2 hrj hO.o (by decide)), fun i hi hij => (hO.r i hi).kept hg (hO.d i j hi hj hij), hown, fun i hi hij => ?_, hO.d⟩
  rcases hv with e | e
  · rw [e]
    exact ⟨hO.d j i hj hi (Ne.symm hij), hO.d i j hi hj hij⟩
  · rw [e]
    have hne : (some w'.heap.size) ≠ (V i).ownBlock := fun q => by
      have := own_lt (b := w'.heap.size) (hO.r i hi) q.symm
      omega
    exact ⟨.inr hne, .inr (Ne.symm hne)⟩
theorem TqI.op13 (h : TqI W base g N V L f j x y S b w') (hj : j < N) (hb : W.heap.size ≤ base) (hh11 : S 11 = true) (hS : S 13 = false) {u : Value} : TqI W base g N V L f j x y (doneAt S 13) (tellAt b 13 u) (w'.setCell ⟨g, j, none⟩ (b 11)) := by
  obtain ⟨a1, a2, a3, a4, a5⟩ := h.mid hh11 hS
  obtain ⟨h1, h2⟩ := a1.stored j (b 11)
  have hbl := (a1.lt g rfl).1
  have dd5 : doneAt S 13 5 = S 5 := if_neg (by decide)
  have dd10 : doneAt S 13 10 = S 10 := if_neg (by decide)
  have dd11 : doneAt S 13 11 = S 11 := if_neg (by decide)
  have dd13 : doneAt S 13 13 = true := if_pos rfl
  have tt11 : tellAt b 13 u 11 = b 11 := if_neg (by decide)
  have hk : Kept W (w'.setCell ⟨g, j, none⟩ (b 11)) := kept_by h.kept (by omega) h2
  refine ⟨hk, (by rw [dd11, hh11]; intro e; cases e), (by rw [dd11, hh11]; intro _ e; cases e), (by rw [dd13]; intro _ e; cases e), by rw [dd11, dd5, dd10]; exact h.aa5, by rw [dd11]; exact fun _ => hh11, fun _ => ?_⟩
  rw [tt11]
  rw [set_map (f' := fun i => if i = j then b 11 else V i) (fun i _ => rfl)] at h1
  refine ⟨hk, hb, h1, fun i hi => ?_, fun i k hi hk' hik => ?_⟩
  · by_cases e : i = j
    · subst e
      rw [if_pos rfl, if_pos rfl]
      have e2 : rowC 2 (if i = i then fun q c => if q < L i then f i q c else pr2 x y q c else f i) (L i + 1) = rowC 2 (fun q c => if q < L i then f i q c else pr2 x y q c) (L i + 1) := rowC_congr fun q _ _ _ => by rw [if_pos rfl]
      rw [e2]
      exact a3.kept h2 (own_ne2 a1 a3 (by decide))
    · rw [if_neg e, if_neg e]
      have e2 : rowC 2 (if i = j then fun q c => if q < L j then f j q c else pr2 x y q c else f i) (L i) = rowC 2 (f i) (L i) := rowC_congr fun q _ _ _ => by rw [if_neg e]
      rw [e2]
      exact (a2 i hi e).kept h2 (own_ne2 a1 (a2 i hi e) (by decide))
  · by_cases e1 : i = j
    · rw [if_pos e1, if_neg (by omega)]
      exact (a4 k hk' (by omega)).1
    · rw [if_neg e1]
      by_cases e2 : k = j
      · rw [if_pos e2]; exact (a4 i hi e1).2
      · rw [if_neg e2]; exact a5 i k hi hk' hik
theorem TqI.cell (h : TqI W base g N V L f j x y S b w') (hj : j < N) (hS : S 13 = false) : w'.cell? ⟨g, j, none⟩ = some (V j) ∧ w'.frozen? ⟨g, j, none⟩ = false ∧ g < w'.heap.size := by
  have key : ∀ {w' : World}, w'.ownsRow base 61 1 (.slice (some ⟨g, 0, none⟩) N N) N ((List.range N).map V) → w'.cell? ⟨g, j, none⟩ = some (V j) ∧ w'.frozen? ⟨g, j, none⟩ = false ∧ g < w'.heap.size := by
    intro w' ho
    refine ⟨by rw [ho.cellAt j (by omega)]; simp [hj], ho.frozenAt j, ?_⟩
    rcases ho.2 with ⟨e, -⟩ | ⟨g', cap, cur, e, -, hg, -⟩
    · cases e
    · simp only [Value.slice.injEq, Option.some.injEq, Addr.mk.injEq] at e
      obtain ⟨⟨rfl, -⟩, -, -⟩ := e
      exact (Array.getElem?_eq_some_iff.1 hg).1
  cases hh11 : S 11 with
  | false => exact key (h.pre hh11).o
  | true => exact key (h.mid hh11 hS).1
end
end Go.Proofs.Ytoejdfpmmgldpaa
