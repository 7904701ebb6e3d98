/- Arguments that are lists of lists of ints, opened; which matrices are valid. No conditions but those of each theorem. -/
import Derived.Test.YtjadpehpempjoaaOpen
import Derived.Test.YtjadpehpempjoaaAb
import Derived.ChangeSame
namespace Go.Proofs.Ytjadpehpempjoaa
set_option linter.unusedVariables false
set_option linter.unusedSimpArgs false
open Go.ChangeShapes Go.WideShapes Go.ChangeAt Go.RowKit Go.Deep
/-- A list of n rows can be read: row k has m k ints, f k j is int j of row k. -/
structure MatAt (w : World) (A : Option Addr) (n : Nat) (B : Nat → Option Addr) (m cp : Nat → Nat) (f : Nat → Nat → Int) : Prop where
  row : 0 < n → ∃ b off, A = some ⟨b, off, none⟩ ∧ b < w.heap.size ∧ ∀ k, k < n → w.cell? ⟨b, off + k, none⟩ = some (.slice (B k) (m k) (cp k))
  cap : ∀ k, k < n → m k ≤ cp k ∧ cp k ≤ maxLen
  el : ∀ k, k < n → RowsAt w (B k) (m k) 1 (fun j _ => f k j)
theorem MatAt.of {w w' : World} {A : Option Addr} {n : Nat} {B : Nat → Option Addr} {m cp : Nat → Nat} {f : Nat → Nat → Int} (h : MatAt w A n B m cp f) (hk : Kept w w') : MatAt w' A n B m cp f := by
  refine ⟨fun h0 => ?_, h.cap, fun k hk' => (h.el k hk').of hk⟩
  obtain ⟨b, off, rfl, hb, hc⟩ := h.row h0
  obtain ⟨x, rfl⟩ := hk
  refine ⟨b, off, rfl, by rw [ext_size]; exact Nat.lt_of_lt_of_le hb (adv_le _ _), fun k hk => ?_⟩
  have LB : Lower b w.heap.size := ⟨hb⟩
  rw [ext_cell]
  exact hc k hk
theorem rows1 {w : World} {A : Option Addr} {n k : Nat} {f : Nat → Nat → Int} (h : RowsAt w A n 1 f) (hk : k < n) :
    ∃ b off, A = some ⟨b, off, none⟩ ∧ b < w.heap.size ∧ w.cell? ⟨b, off + k, none⟩ = some (.int .i64 (f k 0)) ∧ I64 (f k 0) := by
  obtain ⟨b, off, rfl, hb, hc⟩ := h (by omega)
  have h0 := hc k hk 0 (by omega)
  rw [Nat.add_zero, Nat.mul_one] at h0
  exact ⟨b, off, rfl, hb, h0.1, h0.2⟩
theorem MatAt.at {w : World} {A : Option Addr} {n k : Nat} {B : Nat → Option Addr} {m cp : Nat → Nat} {f : Nat → Nat → Int} (h : MatAt w A n B m cp f) (hk : k < n) :
    ∃ b off, A = some ⟨b, off, none⟩ ∧ b < w.heap.size ∧ w.cell? ⟨b, off + k, none⟩ = some (.slice (B k) (m k) (cp k)) := by
  obtain ⟨b, off, rfl, hb, hc⟩ := h.row (by omega)
  exact ⟨b, off, rfl, hb, hc k hk⟩
section
variable {H : Type} {enc : TypeId × Value → H} {P : Program} {w : World} {base : Nat} {spare : Nat → Bool} {held : Bool}
theorem ints_cells {t e : TypeId} {fuel : Nat} {cs : List Value} {x : DataW H × List MemPlace}
    (ht : P.underlying t = some (.slice e)) (hC : P.cellsOf e = 1) (hall : ((List.range 1).all fun i => leafInt P 9 e i) = true)
    (hf : DataW.trod enc P w base spare held fuel t cs = some x) (hlt : ∀ y ∈ x.2, y.block < w.heap.size) :
    ∃ (A : Option Addr) (n cap : Nat) (f : Nat → Nat → Int), cs = [.slice A n cap] ∧ n ≤ cap ∧ cap ≤ maxLen ∧ RowsAt w A n 1 f := by
  rcases open_slice ht hf with ⟨h0, -⟩ | ⟨a, n, cap, m, fu, D, Pl, hcs, hb, hl, hm, hmm, hx, hi⟩
  · exact ⟨none, 0, 0, fun _ _ => 0, h0, by omega, by unfold maxLen; omega, fun h => absurd h (by omega)⟩
  · have hnm : n ≤ m := by rw [hmm]; split <;> omega
    have key : ∀ k, k < n → ∃ z, w.cell? (a.add k) = some (.int .i64 z) ∧ I64 z := by
      intro k hk
      obtain ⟨cs, hc, htr⟩ := hi k (by omega)
      have hlf : leafInt P 9 e 0 = true := List.all_eq_true.1 hall 0 (List.mem_range.2 (by omega))
      obtain ⟨z, hz, hI⟩ := leaf_int 9 e 0 fu cs _ hlf htr
      obtain ⟨-, hcl, hat⟩ := World.cells?_some hc
      rw [hC] at hat
      refine ⟨z, ?_, hI⟩
      have := hat 0 (by omega)
      rw [hz, Nat.mul_one] at this
      rw [← this]
      unfold Addr.add
      simp
    obtain ⟨g, hg⟩ := choose_lt (n := n) (p := fun k z => w.cell? (a.add k) = some (.int .i64 z) ∧ I64 z) key
    refine ⟨some a, n, cap, fun k _ => g k, hcs, hl, hm, fun hn => ?_⟩
    have hsp := World.cell?_spot (hg 0 hn).1
    obtain ⟨b, off, sp⟩ := a
    have hsp' : sp = none := by simpa [Addr.add] using hsp
    subst hsp'
    refine ⟨b, off, rfl, ?_, fun k hk j hj => ?_⟩
    · have : (MemPlace.cell b (off + 0)) ∈ x.2 := by
        rw [hx]
        apply List.mem_append_left
        unfold MemPlace.row
        rw [List.mem_map]
        refine ⟨0, List.mem_range.2 ?_, rfl⟩
        rw [hC]
        omega
      exact hlt _ this
    · obtain rfl : j = 0 := by omega
      have := hg k hk
      have e : (Addr.mk b off none).add k = ⟨b, off + k * 1 + 0, none⟩ := by
        unfold Addr.add
        by_cases h : k = 0
        · rw [if_pos h, h]; rfl
        · rw [if_neg h]; simp
      rw [e] at this
      exact this
theorem open_mat {r : Reach} {b0 : Nat} {t e e2 : TypeId} {v : Value} {d : DataW H} {p : List MemPlace}
    (ht : P.underlying t = some (.slice e)) (hC : P.cellsOf e = 1) (he : P.underlying e = some (.slice e2)) (hC2 : P.cellsOf e2 = 1) (hall : ((List.range 1).all fun i => leafInt P 9 e2 i) = true)
    (hv : Value.okWide P w r b0 t v) (h : DataW.Trod enc P w base spare held t v d p) (hlt : ∀ x ∈ p, x.block < w.heap.size) :
    ∃ (A : Option Addr) (n cap : Nat) (B : Nat → Option Addr) (m cp : Nat → Nat) (f : Nat → Nat → Int), v = .slice A n cap ∧ n ≤ cap ∧ cap ≤ maxLen ∧ MatAt w A n B m cp f := by
  obtain ⟨A, n, cap, rfl⟩ := okWide_slice ht hv
  obtain ⟨fuel, hf⟩ := h
  rcases open_slice1 ht hC hf with ⟨h0, -⟩ | ⟨a, len, cap', m, fu, V, D, Pl, hcs, hb, hl, hm, hmm, hx, hi⟩
  · simp only [Value.cells, List.cons.injEq, and_true, Value.slice.injEq] at h0
    obtain ⟨rfl, rfl, rfl⟩ := h0
    exact ⟨none, 0, 0, fun _ => none, fun _ => 0, fun _ => 0, fun _ _ => 0, rfl, by omega, by unfold maxLen; omega, fun h => absurd h (by omega), fun k hk => absurd hk (by omega), fun k hk => absurd hk (by omega)⟩
  · simp only [Value.cells, List.cons.injEq, and_true, Value.slice.injEq] at hcs
    obtain ⟨rfl, rfl, rfl⟩ := hcs
    have hnm : n ≤ m := by rw [hmm]; split <;> omega
    simp only [Prod.mk.injEq] at hx
    have key : ∀ k, ∃ q : Option Addr × Nat × Nat × (Nat → Nat → Int), k < n → V k = .slice q.1 q.2.1 q.2.2.1 ∧ q.2.1 ≤ q.2.2.1 ∧ q.2.2.1 ≤ maxLen ∧ RowsAt w q.1 q.2.1 1 q.2.2.2 := by
      intro k
      by_cases hk : k < n
      · obtain ⟨A', n', c', f', e1, e2', e3, e4⟩ := ints_cells he hC2 hall (hi k (by omega)).2 (fun y hy => hlt y (by
          rw [hx.2]
          refine List.mem_append_right _ (List.mem_flatMap.2 ⟨k, List.mem_range.2 (by omega), hy⟩)))
        simp only [List.cons.injEq, and_true] at e1
        exact ⟨⟨A', n', c', f'⟩, fun _ => ⟨e1, e2', e3, e4⟩⟩
      · exact ⟨⟨none, 0, 0, fun _ _ => 0⟩, fun h => absurd h hk⟩
    refine ⟨some a, n, cap, fun k => (Classical.choose (key k)).1, fun k => (Classical.choose (key k)).2.1, fun k => (Classical.choose (key k)).2.2.1, fun k j => (Classical.choose (key k)).2.2.2 j 0, rfl, hl, hm, fun hn => ?_, fun k hk => ?_, fun k hk => ?_⟩
    · have hsp := World.cell?_spot (hi 0 (by omega)).1
      obtain ⟨b, off, sp⟩ := a
      have hsp' : sp = none := by simpa [Addr.add] using hsp
      subst hsp'
      refine ⟨b, off, rfl, ?_, fun k hk => ?_⟩
      · have : (MemPlace.cell b (off + 0)) ∈ p := by
          rw [hx.2]
          apply List.mem_append_left
          unfold MemPlace.row
          rw [List.mem_map]
          exact ⟨0, List.mem_range.2 (by omega), rfl⟩
        exact hlt _ this
      · have h1 := (hi k (by omega)).1
        rw [(Classical.choose_spec (key k) hk).1] at h1
        have e : (Addr.mk b off none).add k = ⟨b, off + k, none⟩ := by
          unfold Addr.add
          by_cases h : k = 0
          · rw [if_pos h, h]; rfl
          · rw [if_neg h]
        rw [e] at h1
        exact h1
    · exact ⟨(Classical.choose_spec (key k) hk).2.1, (Classical.choose_spec (key k) hk).2.2.1⟩
    · intro h0
      obtain ⟨b, off, e1, hb', hc⟩ := (Classical.choose_spec (key k) hk).2.2.2 h0
      refine ⟨b, off, e1, hb', fun j hj q hq => ?_⟩
      obtain rfl : q = 0 := by omega
      exact hc j hj 0 hq
end
/-- A row that makes a matrix invalid. -/
def badE (f : Nat → Nat → Int) (i j : Nat) : Bool := !(decide (-100 ≤ f i j ∧ f i j ≤ 100))
def badRow (m : Nat → Nat) (f : Nat → Nat → Int) (i : Nat) : Bool := !(decide (1 ≤ m i ∧ m i ≤ 6)) || !(m i == m 0) || (List.range (m i)).any fun j => badE f i j
def valE (n : Nat) (m : Nat → Nat) (f : Nat → Nat → Int) : Int := if 1 ≤ n ∧ n ≤ 6 then (if (List.range n).any (badRow m f) = true then 1 else 0) else 4
theorem any_range {n : Nat} {p : Nat → Bool} : (List.range n).any p = true ↔ ∃ k, k < n ∧ p k = true := by
  rw [List.any_eq_true]
  constructor
  · rintro ⟨k, hk, h⟩; exact ⟨k, List.mem_range.1 hk, h⟩
  · rintro ⟨k, hk, h⟩; exact ⟨k, List.mem_range.2 hk, h⟩
theorem any_range_false {n : Nat} {p : Nat → Bool} : (List.range n).any p = false ↔ ∀ k, k < n → p k = false := by
  rw [List.any_eq_false]
  constructor
  · intro h k hk; simpa using h k (List.mem_range.2 hk)
  · intro h k hk; simpa using h k (List.mem_range.1 hk)
theorem valE_0 {n : Nat} {m : Nat → Nat} {f : Nat → Nat → Int} (h : valE n m f = 0) : (1 ≤ n ∧ n ≤ 6) ∧ (1 ≤ m 0 ∧ m 0 ≤ 6) ∧ (∀ k, k < n → m k = m 0) ∧ ∀ k, k < n → ∀ j, j < m 0 → -100 ≤ f k j ∧ f k j ≤ 100 := by
  unfold valE at h
  split at h
  · rename_i hn
    split at h
    · cases h
    · rename_i hb
      have hb' := any_range_false.1 (by simpa using hb)
      have key : ∀ k, k < n → (1 ≤ m k ∧ m k ≤ 6) ∧ m k = m 0 ∧ ∀ j, j < m k → -100 ≤ f k j ∧ f k j ≤ 100 := by
        intro k hk
        have := hb' k hk
        unfold badRow at this
        simp only [Bool.or_eq_false_iff, Bool.not_eq_false', decide_eq_true_eq, beq_iff_eq] at this
        refine ⟨this.1.1, this.1.2, fun j hj => ?_⟩
        have := any_range_false.1 this.2 j hj
        unfold badE at this
        simpa using this
      refine ⟨hn, (key 0 (by omega)).1, fun k hk => (key k hk).2.1, fun k hk j hj => (key k hk).2.2 j ?_⟩
      rw [(key k hk).2.1]
      exact hj
  · cases h
end Go.Proofs.Ytjadpehpempjoaa
