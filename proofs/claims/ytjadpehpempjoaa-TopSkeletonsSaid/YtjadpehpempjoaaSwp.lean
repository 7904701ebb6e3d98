/- Eliminations without fractions, element by element: plain facts. No conditions but those of each theorem. Two rows of a matrix of the call's own exchanged, in a drawn order. No conditions but those of each theorem. -/
import Derived.Test.YtjadpehpempjoaaDet2
import Derived.Test.YtjadpehpempjoaaCop
import Derived.Test.YtjadpehpempjoaaCpy
namespace Go.Proofs.Ytjadpehpempjoaa
set_option linter.unusedVariables false
set_option linter.unusedSimpArgs false
theorem fb_le : ∀ q, q ≤ 6 → fb 100 q ≤ 720000000000000
  | 0, _ => by decide
  | 1, _ => by decide
  | 2, _ => by decide
  | 3, _ => by decide
  | 4, _ => by decide
  | 5, _ => by decide
  | 6, _ => by decide
  | n + 7, h => by omega
/-- All elements are small. -/
def Sml (n : Nat) (X : Nat → Nat → Int) : Prop := ∀ i, i < n → ∀ j, j < n → -100 ≤ X i j ∧ X i j ≤ 100
theorem D_small {n k : Nat} {X : Nat → Nat → Int} (h : Sml n X) (hk : k ≤ n) (hn : n ≤ 6) : -720000000000000 ≤ D k X ∧ D k X ≤ 720000000000000 := by
  have := D_bd (c := 100) (by decide) (n := k) (X := X) (fun i hi j hj => h i (by omega) j (by omega))
  have := fb_le k (by omega)
  omega
theorem Bk_small {n k i j : Nat} {X : Nat → Nat → Int} (h : Sml n X) (hi : k + i < n) (hj : k + j < n) (hn : n ≤ 6) : -720000000000000 ≤ Bk k X i j ∧ Bk k X i j ≤ 720000000000000 := by
  have := D_bd (c := 100) (by decide) (n := k + 1) (X := bord k X i j) (fun a ha b hb => by
    unfold bord
    refine h _ ?_ _ ?_
    · split <;> omega
    · split <;> omega)
  have := fb_le (k + 1) (by omega)
  unfold Bk
  omega
theorem Bk_0 (X : Nat → Nat → Int) (i j : Nat) : Bk 0 X i j = X i j := by
  unfold Bk
  rw [D_one]
  unfold bord
  simp
/-- The matrix while its rows behind row k are eliminated: those ahead of row i are, and row i ahead of column j. -/
def elimF (k : Nat) (X : Nat → Nat → Int) (i j : Nat) (Y : Nat → Nat → Int) : Nat → Nat → Int := fun a b => if k < b ∧ ((k < a ∧ a < i) ∨ (a = i ∧ b < j)) then Bk (k + 1) X (a - k - 1) (b - k - 1) else Y a b
theorem elim_start {k : Nat} {X Y : Nat → Nat → Int} (a b : Nat) : elimF k X (k + 1) (k + 1) Y a b = Y a b := if_neg (by omega)
theorem elim_set {k i j : Nat} {X Y : Nat → Nat → Int} (hi : k < i) (hj : k < j) (a b : Nat) : setF (elimF k X i j Y) i j (Bk (k + 1) X (i - k - 1) (j - k - 1)) a b = elimF k X i (j + 1) Y a b := by
  unfold setF elimF
  by_cases e : a = i ∧ b = j
  · rw [if_pos e, if_pos (by omega), e.1, e.2]
  · rw [if_neg e]
    by_cases q : k < b ∧ ((k < a ∧ a < i) ∨ (a = i ∧ b < j))
    · rw [if_pos q, if_pos (by omega)]
    · rw [if_neg q, if_neg (by omega)]
theorem elim_row {k i n : Nat} {X Y : Nat → Nat → Int} (hi : k < i) {a b : Nat} (hb : b < n) : elimF k X i n Y a b = elimF k X (i + 1) (k + 1) Y a b := by
  unfold elimF
  by_cases q : k < b ∧ ((k < a ∧ a < i) ∨ (a = i ∧ b < n))
  · rw [if_pos q, if_pos (by omega)]
  · rw [if_neg q, if_neg (by omega)]
theorem elim_end {k n : Nat} {X Y : Nat → Nat → Int} {a b : Nat} (ha : k < a) (han : a < n) (hb : k < b) : elimF k X n (k + 1) Y a b = Bk (k + 1) X (a - (k + 1)) (b - (k + 1)) := by
  unfold elimF
  rw [if_pos (by omega), show a - k - 1 = a - (k + 1) by omega, show b - k - 1 = b - (k + 1) by omega]
theorem elim_old {k i j : Nat} {X Y : Nat → Nat → Int} {a b : Nat} (h : ¬ (k < b ∧ ((k < a ∧ a < i) ∨ (a = i ∧ b < j)))) : elimF k X i j Y a b = Y a b := if_neg h
/-- One quotient of the elimination. -/
theorem elim_quo {k i j : Nat} {X Y : Nat → Nat → Int} (hX : ∀ q, q ≤ k → D q X ≠ 0) (hi : k < i) (hj : k < j) (h1 : Y i j = Bk k X (i - k) (j - k)) (h2 : Y k k = Bk k X 0 0) (h3 : Y i k = Bk k X (i - k) 0) (h4 : Y k j = Bk k X 0 (j - k)) :
    Y i j * Y k k - Y i k * Y k j = Bk (k + 1) X (i - k - 1) (j - k - 1) * D k X := by
  have := bar_ent hX (i - k - 1) (j - k - 1)
  rw [show i - k - 1 + 1 = i - k by omega, show j - k - 1 + 1 = j - k by omega] at this
  rw [h1, h2, h3, h4, Int.mul_comm (Bk k X (i - k) (j - k)), this, Int.mul_comm]
end Go.Proofs.Ytjadpehpempjoaa
namespace Go.Proofs.Ytjadpehpempjoaa
set_option linter.unusedVariables false
set_option linter.unusedSimpArgs false
open Go.RowKit Go.Deep
theorem grown_of_kept {w w' : World} {r : Option Nat} (h : Kept w w') : w.grownBy w' r := by
  have b := h.below
  exact ⟨b.os, b.tape, b.output, b.size, fun i hi _ => b.block i hi⟩
def swV (V : Nat → Value) (p k : Nat) (x y : Bool) (j : Nat) : Value := if j = p ∧ x = true then V k else if j = k ∧ y = true then V p else V j
/-- Loads 7 and 11, stores 13 and 15. -/
structure SwI (wr : World) (base g N p k : Nat) (V : Nat → Value) (L : Nat → Bool) (w' : World) : Prop where
  gr : wr.grownBy w' (some g)
  o : w'.ownsRow base 23 1 (.slice (some ⟨g, 0, none⟩) N N) N ((List.range N).map (swV V p k (L 13) (L 15)))
  a13 : L 13 = true → L 7 = true ∧ L 11 = true
  a15 : L 15 = true → L 13 = true
section
variable {W wr w' w'' : World} {base g N p k : Nat} {V : Nat → Value} {L : Nat → Bool} {b : Nat → Value} {Lf : Nat → Nat} {Y : Nat → Nat → Int}
theorem swV_none : swV V p k false false = V := by funext j; unfold swV; simp
theorem SwI.start (h : OwnM W base g N V Lf Y wr) : SwI wr base g N p k V (fun _ => false) wr.drew :=
  ⟨grown_of_kept ((Kept.refl _).drew), by rw [swV_none]; exact h.o.drew, fun e => (by cases e), fun e => (by cases e)⟩
theorem SwI.on (h : SwI wr base g N p k V L w') (hk : Kept w' w'') : SwI wr base g N p k V L w'' :=
  ⟨grown_trans h.gr (grown_of_kept hk), owns_kept h.o hk, h.a13, h.a15⟩
theorem SwI.other (h : SwI wr base g N p k V L w') {i : Nat} (h7 : i ≠ 7) (h11 : i ≠ 11) (h13 : i ≠ 13) (h15 : i ≠ 15) : SwI wr base g N p k V (doneAt L i) w' := by
  have d7 : doneAt L i 7 = L 7 := if_neg (Ne.symm h7)
  have d11 : doneAt L i 11 = L 11 := if_neg (Ne.symm h11)
  have d13 : doneAt L i 13 = L 13 := if_neg (Ne.symm h13)
  have d15 : doneAt L i 15 = L 15 := if_neg (Ne.symm h15)
  exact ⟨h.gr, by rw [d13, d15]; exact h.o, by rw [d13, d7, d11]; exact h.a13, by rw [d13, d15]; exact h.a15⟩
theorem SwI.load (h : SwI wr base g N p k V L w') {i : Nat} (hi : i = 7 ∨ i = 11) : SwI wr base g N p k V (doneAt L i) w' := by
  have d13 : doneAt L i 13 = L 13 := if_neg (by omega)
  have d15 : doneAt L i 15 = L 15 := if_neg (by omega)
  refine ⟨h.gr, by rw [d13, d15]; exact h.o, ?_, by rw [d13, d15]; exact h.a15⟩
  rw [d13]
  intro e
  obtain ⟨h1, h2⟩ := h.a13 e
  unfold doneAt
  constructor <;> split <;> first | rfl | assumption
theorem SwI.cell (h : SwI wr base g N p k V L w') {i : Nat} (hi : i < N) : w'.cell? ⟨g, i, none⟩ = some (swV V p k (L 13) (L 15) i) ∧ w'.frozen? ⟨g, i, none⟩ = false ∧ g < w'.heap.size := by
  refine ⟨?_, h.o.frozenAt i, ?_⟩
  · rw [h.o.cellAt i (by omega)]; simp [hi]
  · rcases h.o.2 with ⟨e, -⟩ | ⟨g', cap, cur, e, -, hg, -⟩
    · cases e
    · simp only [Value.slice.injEq, Option.some.injEq, Addr.mk.injEq] at e
      obtain ⟨⟨rfl, -⟩, -, -⟩ := e
      exact (Array.getElem?_eq_some_iff.1 hg).1
theorem SwI.before (h : SwI wr base g N p k V L w') (hL : L 7 = false ∨ L 11 = false ∨ L 13 = false) : L 13 = false ∧ L 15 = false := by
  have h13 : L 13 = false := by
    cases e : L 13 with
    | false => rfl
    | true =>
      have := h.a13 e
      rw [this.1, this.2, e] at hL
      simp at hL
  refine ⟨h13, ?_⟩
  cases e : L 15 with
  | false => rfl
  | true => rw [h.a15 e] at h13; cases h13
theorem set_map {α : Type} {f f' : Nat → α} {N i : Nat} {v : α} (h : ∀ j, j < N → f' j = if j = i then v else f j) : ((List.range N).map f).set i v = (List.range N).map f' := by
  apply List.ext_getElem?
  intro j
  rw [List.getElem?_set]
  by_cases hj : j < N
  · by_cases e : i = j
    · subst e; simp [hj, h i hj]
    · rw [if_neg e]; simp [hj, h j hj, Ne.symm e]
  · rw [List.getElem?_eq_none (by simp; omega), List.getElem?_eq_none (by simp; omega)]
    split
    · split
      · rename_i hh; simp at hh; omega
      · rfl
    · rfl
theorem SwI.op13 (h : SwI wr base g N p k V L w') (hpk : p ≠ k) (h7 : L 7 = true) (h11 : L 11 = true) (h13 : L 13 = false) : SwI wr base g N p k V (doneAt L 13) (w'.setCell ⟨g, p, none⟩ (V k)) := by
  obtain ⟨-, h15⟩ := h.before (.inr (.inr h13))
  obtain ⟨h1, h2⟩ := h.o.stored p (V k)
  have d7 : doneAt L 13 7 = L 7 := if_neg (by omega)
  have d11 : doneAt L 13 11 = L 11 := if_neg (by omega)
  have d13 : doneAt L 13 13 = true := if_pos rfl
  have d15 : doneAt L 13 15 = L 15 := if_neg (by omega)
  refine ⟨grown_trans h.gr h2, ?_, by rw [d7, d11]; exact fun _ => ⟨h7, h11⟩, fun _ => d13⟩
  rw [d13, d15, h15]
  rw [h13, h15] at h1
  rw [set_map (f' := swV V p k true false) (fun j _ => by unfold swV; by_cases e : j = p <;> simp [e])] at h1
  exact h1
theorem SwI.op15 (h : SwI wr base g N p k V L w') (hpk : p ≠ k) (h13 : L 13 = true) (h15 : L 15 = false) : SwI wr base g N p k V (doneAt L 15) (w'.setCell ⟨g, k, none⟩ (V p)) := by
  obtain ⟨h1, h2⟩ := h.o.stored k (V p)
  have d7 : doneAt L 15 7 = L 7 := if_neg (by omega)
  have d11 : doneAt L 15 11 = L 11 := if_neg (by omega)
  have d13 : doneAt L 15 13 = L 13 := if_neg (by omega)
  have d15 : doneAt L 15 15 = true := if_pos rfl
  refine ⟨grown_trans h.gr h2, ?_, by rw [d7, d11, d13]; exact h.a13, fun _ => by rw [d13]; exact h13⟩
  rw [d13, d15, h13]
  rw [h13, h15] at h1
  rw [set_map (f' := swV V p k true true) (fun j _ => by
    unfold swV
    by_cases e : j = k
    · subst e; simp [Ne.symm hpk]
    · simp [e])] at h1
  exact h1
/-- Both stored: the rows are exchanged. -/
theorem SwI.done (h : SwI wr base g N p k V L w') (hO : OwnM W base g N V Lf Y wr) (hp : p < N) (hk : k < N) (hpk : p ≠ k) (h13 : L 13 = true) (h15 : L 15 = true) (hL : ∀ i, i < N → ∀ j, j < N → Lf i = Lf j) :
    OwnM W base g N (swV V p k true true) Lf (fun a => if a = p then Y k else if a = k then Y p else Y a) w' := by
  have hbl := (hO.o.lt g rfl).1
  have ho := h.o
  rw [h13, h15] at ho
  have hr : ∀ i, i < N → w'.ownsRow base 3 1 (V i) (Lf i) (rowC 1 (fun q _ => Y i q) (Lf i)) := fun i hi => (hO.r i hi).kept h.gr (own_ne2 hO.o (hO.r i hi) (by decide))
  have hv : ∀ i, i < N → ∃ a, a < N ∧ swV V p k true true i = V a ∧ (fun a => if a = p then Y k else if a = k then Y p else Y a) i = Y a ∧ a = (if i = p then k else if i = k then p else i) := by
    intro i hi
    by_cases e1 : i = p
    · exact ⟨k, hk, by unfold swV; simp [e1], by simp [e1], by rw [if_pos e1]⟩
    · by_cases e2 : i = k
      · exact ⟨p, hp, by unfold swV; simp [e2, Ne.symm hpk], by simp [e2, Ne.symm hpk], by rw [if_neg e1, if_pos e2]⟩
      · exact ⟨i, hi, by unfold swV; simp [e1, e2], by simp [e1, e2], by rw [if_neg e1, if_neg e2]⟩
  refine ⟨kept_by hO.on (by have := hO.hb; omega) h.gr, hO.hb, ho, fun i hi => ?_, fun i j hi hj hij => ?_⟩
  · obtain ⟨a, ha, e1, e2, -⟩ := hv i hi
    rw [e1, hL i hi a ha, rowC_congr (g := fun q _ => Y a q) (fun q _ _ _ => by show (fun a => if a = p then Y k else if a = k then Y p else Y a) i q = _; rw [e2])]
    exact hr a ha
  · obtain ⟨a, ha, e1, -, e3⟩ := hv i hi
    obtain ⟨c, hc, e4, -, e6⟩ := hv j hj
    rw [e1, e4]
    refine hO.d a c ha hc ?_
    rw [e3, e6]
    split <;> split <;> (try split) <;> (try split) <;> omega
end
end Go.Proofs.Ytjadpehpempjoaa
