/- Matrices that a call makes itself: rows put, elements stored, rows exchanged. No conditions but those of each theorem. -/
import Derived.Test.YtoejdfpmmgldpaaMat
import Derived.Test.YtoejdfpmmgldpaaCop
namespace Go.Proofs.Ytoejdfpmmgldpaa
set_option linter.unusedVariables false
set_option linter.unusedSimpArgs false
open Go.RowKit Go.Deep
/-- A matrix of the call's own: N rows, row i is the list V i of L i ints f i j. -/
structure OwnM (W : World) (base g N : Nat) (V : Nat → Value) (L : Nat → Nat) (f : Nat → Nat → Int) (wr : World) : Prop where
  on : Kept W wr
  hb : W.heap.size ≤ base
  o : wr.ownsRow base 23 1 (.slice (some ⟨g, 0, none⟩) N N) N ((List.range N).map V)
  r : ∀ i, i < N → wr.ownsRow base 3 1 (V i) (L i) (rowC 1 (fun k _ => f i k) (L i))
  d : ∀ i j, i < N → j < N → i ≠ j → (V i).ownBlock = none ∨ (V i).ownBlock ≠ (V j).ownBlock
theorem kept_by {W w w' : World} {g : Nat} (hk : Kept W w) (hb : W.heap.size ≤ g) (hg : w.grownBy w' (some g)) : Kept W w' := by
  refine Kept.of_below ?_
  have h1 := hk.below
  refine h1.grown hg h1.size ?_
  intro g' e
  cases e
  omega
section
variable {W wr wr' : World} {base g N : Nat} {V V' : Nat → Value} {L L' : Nat → Nat} {f f' : Nat → Nat → Int}
theorem OwnM.next (h : OwnM W base g N V L f wr) (hk : Kept wr wr') : OwnM W base g N V L f wr' :=
  ⟨h.on.trans hk, h.hb, owns_kept h.o hk, fun i hi => owns_kept (h.r i hi) hk, h.d⟩
theorem OwnM.congr (h : OwnM W base g N V L f wr) (hV : ∀ i, i < N → V i = V' i) (hL : ∀ i, i < N → L i = L' i) (hf : ∀ i, i < N → ∀ j, j < L i → f i j = f' i j) : OwnM W base g N V' L' f' wr := by
  refine ⟨h.on, h.hb, ?_, fun i hi => ?_, fun i j hi hj hij => ?_⟩
  · rw [← List.map_congr_left (fun i hi => hV i (List.mem_range.1 hi))]
    exact h.o
  · have := h.r i hi
    rw [hV i hi, hL i hi, rowC_congr (g := fun k _ => f' i k) fun k hk _ _ => hf i hi k (by rw [hL i hi]; exact hk)] at this
    exact this
  · rw [← hV i hi, ← hV j hj]; exact h.d i j hi hj hij
theorem OwnM.cellV (h : OwnM W base g N V L f wr) {i : Nat} (hi : i < N) : wr.cell? ⟨g, i, none⟩ = some (V i) ∧ wr.frozen? ⟨g, i, none⟩ = false ∧ base ≤ g ∧ g < wr.heap.size := by
  refine ⟨?_, h.o.frozenAt i, (h.o.lt g rfl).1, ?_⟩
  · rw [h.o.cellAt i (by omega)]; simp [hi]
  · rcases h.o.2 with ⟨e, -⟩ | ⟨g', cap, cur, e, -, hg, -⟩
    · cases e
    · simp only [Value.slice.injEq, Option.some.injEq, Addr.mk.injEq] at e
      obtain ⟨⟨rfl, -⟩, -, -⟩ := e
      exact (Array.getElem?_eq_some_iff.1 hg).1
theorem OwnM.cellE (h : OwnM W base g N V L f wr) {i j b n cap : Nat} (hi : i < N) (hj : j < L i) (hV : V i = .slice (some ⟨b, 0, none⟩) n cap) : wr.cell? ⟨b, j, none⟩ = some (.int .i64 (f i j)) ∧ wr.frozen? ⟨b, j, none⟩ = false ∧ base ≤ b ∧ b < wr.heap.size ∧ n = L i := by
  have hr := h.r i hi
  have hn : n = L i := by
    rcases hr.2 with ⟨e, -⟩ | ⟨g', cap', cur, e, -⟩
    · rw [hV] at e; cases e
    · rw [hV] at e
      simp only [Value.slice.injEq] at e
      exact e.2.1
  subst hn
  rw [hV] at hr
  refine ⟨?_, hr.frozenAt j, (hr.lt b rfl).1, ?_, rfl⟩
  · rw [hr.cellAt j (by omega)]
    have := rowC_get 1 (fun k _ => f i k) hj (show 0 < 1 by omega)
    rw [Nat.mul_one, Nat.add_zero] at this
    exact this
  · rcases hr.2 with ⟨e, -⟩ | ⟨g', cap', cur, e, -, hg, -⟩
    · cases e
    · simp only [Value.slice.injEq, Option.some.injEq, Addr.mk.injEq] at e
      obtain ⟨⟨rfl, -⟩, -, -⟩ := e
      exact (Array.getElem?_eq_some_iff.1 hg).1
/-- An element stored. -/
theorem OwnM.setE (h : OwnM W base g N V L f wr) {i j b cap : Nat} (hi : i < N) (hj : j < L i) (hV : V i = .slice (some ⟨b, 0, none⟩) (L i) cap) (z : Int) :
    OwnM W base g N V L (setF f i j z) (wr.setCell ⟨b, j, none⟩ (.int .i64 z)) := by
  have hr := h.r i hi
  rw [hV] at hr
  obtain ⟨h1, h2⟩ := own_set hr hj (show 0 < 1 by omega) z
  rw [Nat.mul_one, Nat.add_zero] at h1 h2
  have hbl := (hr.lt b rfl).1
  refine ⟨kept_by h.on (by have := h.hb; omega) h2, h.hb, ?_, fun k hk => ?_, h.d⟩
  · exact h.o.kept h2 (own_ne2 hr h.o (by decide))
  · by_cases e : k = i
    · subst e
      rw [hV]
      have e2 : rowC 1 (fun q _ => setF f k j z k q) (L k) = rowC 1 (setF (fun q _ => f k q) j 0 z) (L k) := rowC_congr fun q hq p hp => by
        obtain rfl : p = 0 := by omega
        unfold setF
        simp
      rw [e2]
      exact h1
    · have hk' := (h.r k hk).kept h2 (by
        have := h.d k i hk hi e
        rw [hV] at this
        exact this)
      rw [rowC_congr (g := fun q _ => f k q) (fun q hq p hp => by unfold setF; rw [if_neg (fun hh => e hh.1)])]
      exact hk'
/-- A row put: a new list of the call's own, that no other row has. -/
theorem OwnM.putR (h : OwnM W base g N V L f wr) {i l : Nat} {v : Value} {x : Nat → Int} (hi : i < N) (hv : wr.ownsRow base 3 1 v l (rowC 1 (fun k _ => x k) l)) (hne : ∀ j, j < N → j ≠ i → v.ownBlock = none ∨ v.ownBlock ≠ (V j).ownBlock) (hne2 : ∀ j, j < N → j ≠ i → (V j).ownBlock = none ∨ (V j).ownBlock ≠ v.ownBlock) :
    OwnM W base g N (fun k => if k = i then v else V k) (fun k => if k = i then l else L k) (fun k => if k = i then x else f k) (wr.setCell ⟨g, i, none⟩ v) := by
  obtain ⟨h1, h2⟩ := h.o.stored i v
  have hbl := (h.o.lt g rfl).1
  have hlen : ((List.range N).map V).set i v = (List.range N).map fun k => if k = i then v else V k := by
    apply List.ext_getElem?
    intro k
    rw [List.getElem?_set]
    by_cases hk : k < N
    · by_cases e : i = k
      · subst e; simp [hk]
      · rw [if_neg e]; simp [hk, Ne.symm e]
    · rw [List.getElem?_eq_none (by simp; omega), List.getElem?_eq_none (by simp; omega)]
      split
      · split
        · rename_i hh; simp at hh; omega
        · rfl
      · rfl
  rw [hlen] at h1
  refine ⟨kept_by h.on (by have := h.hb; omega) h2, h.hb, h1, fun k hk => ?_, fun j k hj hk hjk => ?_⟩
  · by_cases e : k = i
    · subst e
      rw [if_pos rfl, if_pos rfl]
      rw [rowC_congr (g := fun q _ => x q) (fun q hq p hp => by rw [if_pos rfl])]
      exact hv.kept h2 (own_ne2 h.o hv (by decide))
    · rw [if_neg e, if_neg e]
      rw [rowC_congr (g := fun q _ => f k q) (fun q hq p hp => by rw [if_neg e])]
      exact (h.r k hk).kept h2 (own_ne2 h.o (h.r k hk) (by decide))
  · by_cases e1 : j = i
    · subst e1
      rw [if_pos rfl, if_neg (Ne.symm hjk)]
      exact hne k hk (Ne.symm hjk)
    · rw [if_neg e1]
      by_cases e2 : k = i
      · subst e2; rw [if_pos rfl]; exact hne2 j hj e1
      · rw [if_neg e2]; exact h.d j k hj hk hjk
/-- It can be read as a matrix. -/
theorem OwnM.mat (h : OwnM W base g N V L f wr) {B : Nat → Option Addr} {m cp : Nat → Nat} (hV : ∀ i, i < N → V i = .slice (B i) (m i) (cp i)) (hL : ∀ i, i < N → L i = m i) (hcap : ∀ i, i < N → m i ≤ cp i ∧ cp i ≤ maxLen) (hI : ∀ i, i < N → ∀ j, j < m i → I64 (f i j)) :
    MatAt wr (some ⟨g, 0, none⟩) N B m cp f := by
  refine ⟨fun h0 => ⟨g, 0, rfl, (h.cellV h0).2.2.2, fun k hk => ?_⟩, hcap, fun k hk => ?_⟩
  · rw [Nat.zero_add, (h.cellV hk).1, hV k hk]
  · have hr := h.r k hk
    rw [hV k hk, hL k hk] at hr
    exact rows_of_owns hr (fun q hq p hp => hI k hk q hq)
end
end Go.Proofs.Ytoejdfpmmgldpaa
