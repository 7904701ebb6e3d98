/- Arguments that are lists of structs and arrays whose cells are all of kind int, opened cell by cell. No conditions but those of each theorem. -/
import Derived.Test.YtoadlneneijfaaaBaseb
import Derived.Deep.Slices
namespace Go.Proofs.Ytoadlneneijfaaa
set_option linter.unusedVariables false
set_option linter.unusedSimpArgs false
open Go.ChangeShapes Go.WideShapes Go.ChangeAt Go.RowKit Go.Deep
/-- Cell i of a value of type t is of kind int. -/
def leafInt (P : Program) : Nat → TypeId → Nat → Bool
  | 0, _, _ => false
  | k + 1, t, i => match P.underlying t with
    | some (.int .i64) => i == 0
    | some (.struct fs) => fs.toList.any fun f => decide (f.offset ≤ i) && decide (i < f.offset + P.cellsOf f.type) && leafInt P k f.type (i - f.offset)
    | some (.array n e) => (List.range n).any fun j => decide (j * P.cellsOf e ≤ i) && decide (i < j * P.cellsOf e + P.cellsOf e) && leafInt P k e (i - j * P.cellsOf e)
    | _ => false
theorem take_drop_get {α : Type} {cs : List α} {o n i : Nat} (h1 : o ≤ i) (h2 : i < o + n) : ((cs.drop o).take n)[i - o]? = cs[i]? := by
  rw [List.getElem?_take, if_pos (by omega), List.getElem?_drop, show o + (i - o) = i by omega]
section
variable {H : Type} {enc : TypeId × Value → H} {P : Program} {w : World} {base : Nat} {spare : Nat → Bool} {held : Bool}
theorem leaf_int : ∀ (k : Nat) (t : TypeId) (i fuel : Nat) (cs : List Value) (x : DataW H × List MemPlace), leafInt P k t i = true → DataW.trod enc P w base spare held fuel t cs = some x → ∃ n, cs[i]? = some (.int .i64 n) ∧ I64 n := by
  intro k
  induction k with
  | zero => intro t i fuel cs x h; cases h
  | succ k ih =>
    intro t i fuel cs x h hx
    unfold leafInt at h
    split at h
    · rename_i ht
      obtain ⟨n, rfl, -, hw⟩ := DataW.trod_int ht hx
      simp only [beq_iff_eq] at h
      subst h
      refine ⟨n, rfl, ?_⟩
      simp only [Lit.wf, Bool.and_eq_true, decide_eq_true_eq] at hw
      exact hw
    · rename_i fs ht
      obtain ⟨xs, n, -, -, -, hlen, hf⟩ := DataW.trod_struct ht hx
      rw [List.any_eq_true] at h
      obtain ⟨f, hmem, hB⟩ := h
      simp only [Bool.and_eq_true, decide_eq_true_eq] at hB
      obtain ⟨⟨h1, h2⟩, h3⟩ := hB
      obtain ⟨j, hj⟩ := List.getElem?_of_mem hmem
      have hj' : fs[j]? = some f := by simpa using hj
      have hjl : j < fs.size := (Array.getElem?_eq_some_iff.1 hj').1
      have h4 := hf j f hj'
      rw [List.getElem?_eq_getElem (show j < xs.length by omega)] at h4
      have := ih f.type (i - f.offset) n _ _ h3 h4
      rw [take_drop_get h1 h2] at this
      exact this
    · rename_i n e ht
      cases fuel with
      | zero => simp [DataW.trod] at hx
      | succ m =>
        unfold DataW.trod at hx
        rw [ht] at hx
        simp only at hx
        split at hx
        · rename_i hc
          rw [Option.map_eq_some_iff] at hx
          obtain ⟨xs, hxs, -⟩ := hx
          rw [List.any_eq_true] at h
          obtain ⟨j, hmem, hB⟩ := h
          simp only [Bool.and_eq_true, decide_eq_true_eq] at hB
          obtain ⟨⟨h1, h2⟩, h3⟩ := hB
          have hj : j < n := List.mem_range.1 hmem
          have hg := mapM_some_get hxs j j (by simp [hj])
          have hl := mapM_some_length hxs
          simp only [List.length_range] at hl
          rw [List.getElem?_eq_getElem (show j < xs.length by omega)] at hg
          have := ih e (i - j * P.cellsOf e) m _ _ h3 hg
          rw [take_drop_get h1 h2] at this
          exact this
        · cases hx
    · cases h
/-- A list of n elements of c cells of kind int each can be read: f k j is cell j of element k. -/
def RowsAt (w : World) (A : Option Addr) (n c : Nat) (f : Nat → Nat → Int) : Prop :=
  0 < n → ∃ b off, A = some ⟨b, off, none⟩ ∧ b < w.heap.size ∧ ∀ k, k < n → ∀ j, j < c → w.cell? ⟨b, off + k * c + j, none⟩ = some (.int .i64 (f k j)) ∧ I64 (f k j)
theorem RowsAt.of {w w' : World} {A : Option Addr} {n c : Nat} {f : Nat → Nat → Int} (h : RowsAt w A n c f) (hk : Kept w w') : RowsAt w' A n c f := by
  intro h0
  obtain ⟨b, off, rfl, hb, hc⟩ := h h0
  obtain ⟨x, rfl⟩ := hk
  refine ⟨b, off, rfl, by rw [ext_size]; exact Nat.lt_of_lt_of_le hb (adv_le _ _), fun k hk j hj => ?_⟩
  have LB : Lower b w.heap.size := ⟨hb⟩
  rw [ext_cell]
  exact hc k hk j hj
theorem open_rows {r : Reach} {b0 : Nat} {t e : TypeId} {v : Value} {d : DataW H} {p : List MemPlace} (c : Nat)
    (ht : P.underlying t = some (.slice e)) (hC : P.cellsOf e = c) (h0c : 0 < c) (hall : ((List.range c).all fun i => leafInt P 9 e i) = true)
    (hv : Value.okWide P w r b0 t v) (h : DataW.Trod enc P w base spare held t v d p) (hlt : ∀ x ∈ p, x.block < w.heap.size) :
    ∃ (A : Option Addr) (n cap : Nat) (f : Nat → Nat → Int), v = .slice A n cap ∧ n ≤ cap ∧ cap ≤ maxLen ∧ RowsAt w A n c f := by
  obtain ⟨A, n, cap, rfl⟩ := okWide_slice ht hv
  obtain ⟨fuel, hf⟩ := h
  rcases open_slice ht hf with ⟨h0, -⟩ | ⟨a, len, cap', m, fu, D, Pl, hcs, hb, hl, hm, hmm, hx, hi⟩
  · simp only [Value.cells, List.cons.injEq, and_true, Value.slice.injEq] at h0
    obtain ⟨rfl, rfl, rfl⟩ := h0
    exact ⟨none, 0, 0, fun _ _ => 0, rfl, by omega, by unfold maxLen; omega, fun h => absurd h (by omega)⟩
  · simp only [Value.cells, List.cons.injEq, and_true, Value.slice.injEq] at hcs
    obtain ⟨rfl, rfl, rfl⟩ := hcs
    have hnm : n ≤ m := by rw [hmm]; split <;> omega
    have key : ∀ k, k < n → ∀ j, j < c → ∃ z, w.cell? (a.add (k * c + j)) = some (.int .i64 z) ∧ I64 z := by
      intro k hk j hj
      obtain ⟨cs, hc, htr⟩ := hi k (by omega)
      have hlf : leafInt P 9 e j = true := List.all_eq_true.1 hall j (List.mem_range.2 hj)
      obtain ⟨z, hz, hI⟩ := leaf_int 9 e j fu cs _ hlf htr
      obtain ⟨-, hcl, hat⟩ := World.cells?_some hc
      rw [hC] at hat
      refine ⟨z, ?_, hI⟩
      rw [← add_add, hat j hj, hz]
    have key2 : ∀ k, ∃ g : Nat → Int, k < n → ∀ j, j < c → w.cell? (a.add (k * c + j)) = some (.int .i64 (g j)) ∧ I64 (g j) := by
      intro k
      by_cases hk : k < n
      · obtain ⟨g, hg⟩ := choose_lt (n := c) (p := fun j z => w.cell? (a.add (k * c + j)) = some (.int .i64 z) ∧ I64 z) (key k hk)
        exact ⟨g, fun _ => hg⟩
      · exact ⟨fun _ => 0, fun h => absurd h hk⟩
    refine ⟨some a, n, cap, fun k => Classical.choose (key2 k), rfl, hl, hm, fun hn => ?_⟩
    have hc2 : ∀ k, k < n → ∀ j, j < c → w.cell? (a.add (k * c + j)) = some (.int .i64 (Classical.choose (key2 k) j)) ∧ I64 (Classical.choose (key2 k) j) := fun k hk => Classical.choose_spec (key2 k) hk
    have hsp := World.cell?_spot (hc2 0 hn 0 h0c).1
    obtain ⟨b, off, sp⟩ := a
    have hsp' : sp = none := by simpa [Addr.add] using hsp
    subst hsp'
    refine ⟨b, off, rfl, ?_, fun k hk j hj => ?_⟩
    · have : (MemPlace.cell b (off + 0)) ∈ p := by
        simp only [Prod.mk.injEq] at hx
        rw [hx.2]
        apply List.mem_append_left
        unfold MemPlace.row
        rw [List.mem_map]
        refine ⟨0, List.mem_range.2 ?_, rfl⟩
        rw [hC]
        exact Nat.mul_pos (by omega) h0c
      exact hlt _ this
    · have := hc2 k hk j hj
      have e : (Addr.mk b off none).add (k * c + j) = ⟨b, off + k * c + j, none⟩ := by
        unfold Addr.add
        by_cases h : k * c + j = 0
        · rw [if_pos h]
          have : off + k * c + j = off := by omega
          rw [this]
        · rw [if_neg h]
          simp [Nat.add_assoc]
      rw [e] at this
      exact this
end
end Go.Proofs.Ytoadlneneijfaaa
