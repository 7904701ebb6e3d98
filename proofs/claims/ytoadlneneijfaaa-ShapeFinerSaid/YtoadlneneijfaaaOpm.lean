/- An argument that is a mesh, opened: its two lists. No conditions but those of each theorem. -/
import Derived.Test.YtoadlneneijfaaaOpen
import Derived.ChangeSame
namespace Go.Proofs.Ytoadlneneijfaaa
set_option linter.unusedVariables false
set_option linter.unusedSimpArgs false
open Go.ChangeShapes Go.WideShapes Go.ChangeAt Go.RowKit Go.Deep
section
variable {H : Type} {enc : TypeId × Value → H} {P : Program} {w : World} {base : Nat} {spare : Nat → Bool} {held : Bool}
theorem rows_cells {t e : TypeId} {fuel : Nat} {cs : List Value} {x : DataW H × List MemPlace} (c : Nat)
    (ht : P.underlying t = some (.slice e)) (hC : P.cellsOf e = c) (h0c : 0 < c) (hall : ((List.range c).all fun i => leafInt P 9 e i) = true)
    (hf : DataW.trod enc P w base spare held fuel t cs = some x) (hlt : ∀ y ∈ x.2, y.block < w.heap.size) :
    ∃ (A : Option Addr) (n cap : Nat) (f : Nat → Nat → Int), cs = [.slice A n cap] ∧ n ≤ cap ∧ cap ≤ maxLen ∧ RowsAt w A n c f := by
  rcases open_slice ht hf with ⟨h0, -⟩ | ⟨a, n, cap, m, fu, D, Pl, hcs, hb, hl, hm, hmm, hx, hi⟩
  · exact ⟨none, 0, 0, fun _ _ => 0, h0, by omega, by unfold maxLen; omega, fun h => absurd h (by omega)⟩
  · have hnm : n ≤ m := by rw [hmm]; split <;> omega
    have key : ∀ k, k < n → ∀ j, j < c → ∃ z, w.cell? (a.add (k * c + j)) = some (.int .i64 z) ∧ I64 z := by
      intro k hk j hj
      obtain ⟨cs, hc, htr⟩ := hi k (by omega)
      have hlf : leafInt P 9 e j = true := List.all_eq_true.1 hall j (List.mem_range.2 hj)
      obtain ⟨z, hz, hI⟩ := leaf_int 9 e j fu cs _ hlf htr
      obtain ⟨-, hcl, hat⟩ := World.cells?_some hc
      rw [hC] at hat
      refine ⟨z, ?_, hI⟩
      rw [← add_add, hat j hj, hz]
    have key2 : ∀ k, ∃ g : Nat → Int, k < n → ∀ j, j < c → w.cell? (a.add (k * c + j)) = some (.int .i64 (g j)) ∧ I64 (g j) := by
      intro k
      by_cases hk : k < n
      · obtain ⟨g, hg⟩ := choose_lt (n := c) (p := fun j z => w.cell? (a.add (k * c + j)) = some (.int .i64 z) ∧ I64 z) (key k hk)
        exact ⟨g, fun _ => hg⟩
      · exact ⟨fun _ => 0, fun h => absurd h hk⟩
    refine ⟨some a, n, cap, fun k => Classical.choose (key2 k), hcs, hl, hm, fun hn => ?_⟩
    have hc2 : ∀ k, k < n → ∀ j, j < c → w.cell? (a.add (k * c + j)) = some (.int .i64 (Classical.choose (key2 k) j)) ∧ I64 (Classical.choose (key2 k) j) := fun k hk => Classical.choose_spec (key2 k) hk
    have hsp := World.cell?_spot (hc2 0 hn 0 h0c).1
    obtain ⟨b, off, sp⟩ := a
    have hsp' : sp = none := by simpa [Addr.add] using hsp
    subst hsp'
    refine ⟨b, off, rfl, ?_, fun k hk j hj => ?_⟩
    · have : (MemPlace.cell b (off + 0)) ∈ x.2 := by
        rw [hx]
        apply List.mem_append_left
        unfold MemPlace.row
        rw [List.mem_map]
        refine ⟨0, List.mem_range.2 ?_, rfl⟩
        rw [hC]
        exact Nat.mul_pos (by omega) h0c
      exact hlt _ this
    · have := hc2 k hk j hj
      have e : (Addr.mk b off none).add (k * c + j) = ⟨b, off + k * c + j, none⟩ := by
        unfold Addr.add
        by_cases h : k * c + j = 0
        · rw [if_pos h]
          have : off + k * c + j = off := by omega
          rw [this]
        · rw [if_neg h]
          simp [Nat.add_assoc]
      rw [e] at this
      exact this
theorem open_mesh {r : Reach} {b0 : Nat} {v : Value} {d : DataW H} {p : List MemPlace} (f0 f1 : Field) (t e0 e1 : TypeId) (c0 c1 : Nat)
    (ht : P.underlying t = some (.struct #[f0, f1])) (ho : f0.offset = 0 ∧ f1.offset = 1 ∧ P.cellsOf f0.type = 1 ∧ P.cellsOf f1.type = 1 ∧ P.cellsOf t = 2)
    (h0 : P.underlying f0.type = some (.slice e0)) (hC0 : P.cellsOf e0 = c0) (hc0 : 0 < c0) (ha0 : ((List.range c0).all fun i => leafInt P 9 e0 i) = true)
    (h1 : P.underlying f1.type = some (.slice e1)) (hC1 : P.cellsOf e1 = c1) (hc1 : 0 < c1) (ha1 : ((List.range c1).all fun i => leafInt P 9 e1 i) = true)
    (hv : Value.okWide P w r b0 t v) (h : DataW.Trod enc P w base spare held t v d p) (hlt : ∀ x ∈ p, x.block < w.heap.size) :
    ∃ (A : Option Addr) (n cap : Nat) (f : Nat → Nat → Int) (B : Option Addr) (m cap2 : Nat) (g : Nat → Nat → Int), v = .agg #[.slice A n cap, .slice B m cap2] ∧ (n ≤ cap ∧ cap ≤ maxLen ∧ RowsAt w A n c0 f) ∧ (m ≤ cap2 ∧ cap2 ≤ maxLen ∧ RowsAt w B m c1 g) := by
  obtain ⟨o0, o1, k0, k1, k2⟩ := ho
  have hv' : ∃ cs : Array Value, v = .agg cs ∧ cs.size = 2 := by
    unfold Value.okWide at hv
    rw [ht] at hv
    simp only at hv
    obtain ⟨cs, rfl, h1, -⟩ := hv
    exact ⟨cs, rfl, by rw [h1, k2]⟩
  obtain ⟨cs, rfl, hs⟩ := hv'
  obtain ⟨fuel, hf⟩ := h
  obtain ⟨y0, y1, n, hx, hl, q0, q1⟩ := trod_struct2 ht hf
  simp only [Prod.mk.injEq] at hx
  obtain ⟨-, rfl⟩ := hx
  obtain ⟨c, c', rfl⟩ : ∃ c c', cs = #[c, c'] := by
    refine ⟨cs[0], cs[1], ?_⟩
    apply Array.ext
    · simp [hs]
    · intro i hi1 hi2
      rcases (show i = 0 ∨ i = 1 by omega) with rfl | rfl <;> rfl
  simp only [Value.cells, o0, o1, k0, k1, List.drop_zero, List.drop_succ_cons, List.take_succ_cons, List.take_zero] at q0 q1
  obtain ⟨A, n, cap, f, e, ha, hb, hc⟩ := rows_cells c0 h0 hC0 hc0 ha0 q0 (fun y hy => hlt y (List.mem_append_left _ hy))
  obtain ⟨B, m, cap2, g, e', ha', hb', hc'⟩ := rows_cells c1 h1 hC1 hc1 ha1 q1 (fun y hy => hlt y (List.mem_append_right _ hy))
  simp only [List.cons.injEq, and_true] at e e'
  subst e e'
  exact ⟨A, n, cap, f, B, m, cap2, g, rfl, ⟨ha, hb, hc⟩, ha', hb', hc'⟩
end
end Go.Proofs.Ytoadlneneijfaaa
