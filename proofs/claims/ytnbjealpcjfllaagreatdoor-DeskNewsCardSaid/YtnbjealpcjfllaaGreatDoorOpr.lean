/- Arguments that are lists of structs and arrays whose cells are all of kind int, opened cell by cell. No conditions but those of each theorem. Lists that a function makes itself by append: what they hold. No conditions but those of each theorem. Maps that a call makes itself: what they hold, key by key. No conditions but those of each theorem. An argument that is a mesh, opened: its two lists. No conditions but those of each theorem. -/
import Derived.Test.YtnbjealpcjfllaaGreatDoorBas
import Derived.Deep.Slices
import Derived.Deep.AppendLies
import Derived.Maps.OwnOps
import Derived.Maps.Views
import Derived.DeepKeys4
import Derived.ChangeSame
namespace Go.Proofs.YtnbjealpcjfllaaGreatDoor
set_option linter.unusedVariables false
set_option linter.unusedSimpArgs false
open Go.ChangeShapes Go.WideShapes Go.ChangeAt Go.RowKit Go.Deep
/-- Cell i of a value of type t is of kind int. -/
def leafInt (P : Program) : Nat → TypeId → Nat → Bool
  | 0, _, _ => false
  | k + 1, t, i => match P.underlying t with
    | some (.int .i64) => i == 0
    | some (.struct fs) => fs.toList.any fun f => decide (f.offset ≤ i) && decide (i < f.offset + P.cellsOf f.type) && leafInt P k f.type (i - f.offset)
    | some (.array n e) => (List.range n).any fun j => decide (j * P.cellsOf e ≤ i) && decide (i < j * P.cellsOf e + P.cellsOf e) && leafInt P k e (i - j * P.cellsOf e)
    | _ => false
theorem take_drop_get {α : Type} {cs : List α} {o n i : Nat} (h1 : o ≤ i) (h2 : i < o + n) : ((cs.drop o).take n)[i - o]? = cs[i]? := by
  rw [List.getElem?_take, if_pos (by omega), List.getElem?_drop, show o + (i - o) = i by omega]
section
variable {H : Type} {enc : TypeId × Value → H} {P : Program} {w : World} {base : Nat} {spare : Nat → Bool} {held : Bool}
theorem leaf_int : ∀ (k : Nat) (t : TypeId) (i fuel : Nat) (cs : List Value) (x : DataW H × List MemPlace), leafInt P k t i = true → DataW.trod enc P w base spare held fuel t cs = some x → ∃ n, cs[i]? = some (.int .i64 n) ∧ I64 n := by
  intro k
  induction k with
  | zero => intro t i fuel cs x h; cases h
  | succ k ih =>
    intro t i fuel cs x h hx
    unfold leafInt at h
    split at h
    · rename_i ht
      obtain ⟨n, rfl, -, hw⟩ := DataW.trod_int ht hx
      simp only [beq_iff_eq] at h
      subst h
      refine ⟨n, rfl, ?_⟩
      simp only [Lit.wf, Bool.and_eq_true, decide_eq_true_eq] at hw
      exact hw
    · rename_i fs ht
      obtain ⟨xs, n, -, -, -, hlen, hf⟩ := DataW.trod_struct ht hx
      rw [List.any_eq_true] at h
      obtain ⟨f, hmem, hB⟩ := h
      simp only [Bool.and_eq_true, decide_eq_true_eq] at hB
      obtain ⟨⟨h1, h2⟩, h3⟩ := hB
      obtain ⟨j, hj⟩ := List.getElem?_of_mem hmem
      have hj' : fs[j]? = some f := by simpa using hj
      have hjl : j < fs.size := (Array.getElem?_eq_some_iff.1 hj').1
      have h4 := hf j f hj'
      rw [List.getElem?_eq_getElem (show j < xs.length by omega)] at h4
      have := ih f.type (i - f.offset) n _ _ h3 h4
      rw [take_drop_get h1 h2] at this
      exact this
    · rename_i n e ht
      cases fuel with
      | zero => simp [DataW.trod] at hx
      | succ m =>
        unfold DataW.trod at hx
        rw [ht] at hx
        simp only at hx
        split at hx
        · rename_i hc
          rw [Option.map_eq_some_iff] at hx
          obtain ⟨xs, hxs, -⟩ := hx
          rw [List.any_eq_true] at h
          obtain ⟨j, hmem, hB⟩ := h
          simp only [Bool.and_eq_true, decide_eq_true_eq] at hB
          obtain ⟨⟨h1, h2⟩, h3⟩ := hB
          have hj : j < n := List.mem_range.1 hmem
          have hg := mapM_some_get hxs j j (by simp [hj])
          have hl := mapM_some_length hxs
          simp only [List.length_range] at hl
          rw [List.getElem?_eq_getElem (show j < xs.length by omega)] at hg
          have := ih e (i - j * P.cellsOf e) m _ _ h3 hg
          rw [take_drop_get h1 h2] at this
          exact this
        · cases hx
    · cases h
/-- A list of n elements of c cells of kind int each can be read: f k j is cell j of element k. -/
def RowsAt (w : World) (A : Option Addr) (n c : Nat) (f : Nat → Nat → Int) : Prop :=
  0 < n → ∃ b off, A = some ⟨b, off, none⟩ ∧ b < w.heap.size ∧ ∀ k, k < n → ∀ j, j < c → w.cell? ⟨b, off + k * c + j, none⟩ = some (.int .i64 (f k j)) ∧ I64 (f k j)
theorem RowsAt.of {w w' : World} {A : Option Addr} {n c : Nat} {f : Nat → Nat → Int} (h : RowsAt w A n c f) (hk : Kept w w') : RowsAt w' A n c f := by
  intro h0
  obtain ⟨b, off, rfl, hb, hc⟩ := h h0
  obtain ⟨x, rfl⟩ := hk
  refine ⟨b, off, rfl, by rw [ext_size]; exact Nat.lt_of_lt_of_le hb (adv_le _ _), fun k hk j hj => ?_⟩
  have LB : Lower b w.heap.size := ⟨hb⟩
  rw [ext_cell]
  exact hc k hk j hj
theorem open_rows {r : Reach} {b0 : Nat} {t e : TypeId} {v : Value} {d : DataW H} {p : List MemPlace} (c : Nat)
    (ht : P.underlying t = some (.slice e)) (hC : P.cellsOf e = c) (h0c : 0 < c) (hall : ((List.range c).all fun i => leafInt P 9 e i) = true)
    (hv : Value.okWide P w r b0 t v) (h : DataW.Trod enc P w base spare held t v d p) (hlt : ∀ x ∈ p, x.block < w.heap.size) :
    ∃ (A : Option Addr) (n cap : Nat) (f : Nat → Nat → Int), v = .slice A n cap ∧ n ≤ cap ∧ cap ≤ maxLen ∧ RowsAt w A n c f := by
  obtain ⟨A, n, cap, rfl⟩ := okWide_slice ht hv
  obtain ⟨fuel, hf⟩ := h
  rcases open_slice ht hf with ⟨h0, -⟩ | ⟨a, len, cap', m, fu, D, Pl, hcs, hb, hl, hm, hmm, hx, hi⟩
  · simp only [Value.cells, List.cons.injEq, and_true, Value.slice.injEq] at h0
    obtain ⟨rfl, rfl, rfl⟩ := h0
    exact ⟨none, 0, 0, fun _ _ => 0, rfl, by omega, by unfold maxLen; omega, fun h => absurd h (by omega)⟩
  · simp only [Value.cells, List.cons.injEq, and_true, Value.slice.injEq] at hcs
    obtain ⟨rfl, rfl, rfl⟩ := hcs
    have hnm : n ≤ m := by rw [hmm]; split <;> omega
    have key : ∀ k, k < n → ∀ j, j < c → ∃ z, w.cell? (a.add (k * c + j)) = some (.int .i64 z) ∧ I64 z := by
      intro k hk j hj
      obtain ⟨cs, hc, htr⟩ := hi k (by omega)
      have hlf : leafInt P 9 e j = true := List.all_eq_true.1 hall j (List.mem_range.2 hj)
      obtain ⟨z, hz, hI⟩ := leaf_int 9 e j fu cs _ hlf htr
      obtain ⟨-, hcl, hat⟩ := World.cells?_some hc
      rw [hC] at hat
      refine ⟨z, ?_, hI⟩
      rw [← add_add, hat j hj, hz]
    have key2 : ∀ k, ∃ g : Nat → Int, k < n → ∀ j, j < c → w.cell? (a.add (k * c + j)) = some (.int .i64 (g j)) ∧ I64 (g j) := by
      intro k
      by_cases hk : k < n
      · obtain ⟨g, hg⟩ := choose_lt (n := c) (p := fun j z => w.cell? (a.add (k * c + j)) = some (.int .i64 z) ∧ I64 z) (key k hk)
        exact ⟨g, fun _ => hg⟩
      · exact ⟨fun _ => 0, fun h => absurd h hk⟩
    refine ⟨some a, n, cap, fun k => Classical.choose (key2 k), rfl, hl, hm, fun hn => ?_⟩
    have hc2 : ∀ k, k < n → ∀ j, j < c → w.cell? (a.add (k * c + j)) = some (.int .i64 (Classical.choose (key2 k) j)) ∧ I64 (Classical.choose (key2 k) j) := fun k hk => Classical.choose_spec (key2 k) hk
    have hsp := World.cell?_spot (hc2 0 hn 0 h0c).1
    obtain ⟨b, off, sp⟩ := a
    have hsp' : sp = none := by simpa [Addr.add] using hsp
    subst hsp'
    refine ⟨b, off, rfl, ?_, fun k hk j hj => ?_⟩
    · have : (MemPlace.cell b (off + 0)) ∈ p := by
        simp only [Prod.mk.injEq] at hx
        rw [hx.2]
        apply List.mem_append_left
        unfold MemPlace.row
        rw [List.mem_map]
        refine ⟨0, List.mem_range.2 ?_, rfl⟩
        rw [hC]
        exact Nat.mul_pos (by omega) h0c
      exact hlt _ this
    · have := hc2 k hk j hj
      have e : (Addr.mk b off none).add (k * c + j) = ⟨b, off + k * c + j, none⟩ := by
        unfold Addr.add
        by_cases h : k * c + j = 0
        · rw [if_pos h]
          have : off + k * c + j = off := by omega
          rw [this]
        · rw [if_neg h]
          simp [Nat.add_assoc]
      rw [e] at this
      exact this
end
end Go.Proofs.YtnbjealpcjfllaaGreatDoor
namespace Go.Proofs.YtnbjealpcjfllaaGreatDoor
set_option linter.unusedVariables false
set_option linter.unusedSimpArgs false
open Go.ChangeShapes Go.WideShapes Go.ChangeAt Go.RowKit
theorem owns_kept {w w' : World} {base size n : Nat} {e : TypeId} {v : Value} {xs : List Value} (h : w.ownsRow base e size v n xs) (hk : Kept w w') : w'.ownsRow base e size v n xs := by
  obtain ⟨x, rfl⟩ := hk
  refine ⟨h.1, ?_⟩
  rcases h.2 with h0 | ⟨g, cap, cur, hv, hb, hg, h1, h2, h3, h4⟩
  · exact .inl h0
  · refine .inr ⟨g, cap, cur, hv, hb, ?_, h1, h2, h3, h4⟩
    rw [ext_block _ _ _ (Array.getElem?_eq_some_iff.1 hg).1]
    exact hg
/-- What was appended to a row of the call's own is kept above what was there. -/
theorem kept_grown {W w w' : World} {base size n : Nat} {e : TypeId} {v : Value} {xs : List Value} (hk : Kept W w) (hown : w.ownsRow base e size v n xs) (hb : W.heap.size ≤ base) (hg : w.grownBy w' v.ownBlock) : Kept W w' := by
  refine Kept.of_below ?_
  have h1 := hk.below
  refine h1.grown hg h1.size ?_
  intro g hvg
  rcases hown.2 with ⟨rfl, -⟩ | ⟨g', cap, cur, rfl, hb', -⟩
  · cases hvg
  · simp only [Value.ownBlock, Option.some.injEq] at hvg
    omega
/-- The cells of the first k elements of c cells each. -/
def rowC (c : Nat) (f : Nat → Nat → Int) : Nat → List Value
  | 0 => []
  | k + 1 => rowC c f k ++ (List.range c).map fun j => Value.int .i64 (f k j)
theorem rowC_len (c : Nat) (f : Nat → Nat → Int) (k : Nat) : (rowC c f k).length = k * c := by
  induction k with
  | zero => simp [rowC]
  | succ k ih => simp [rowC, ih, Nat.add_mul]
theorem rowC_get (c : Nat) (f : Nat → Nat → Int) {n k j : Nat} (hk : k < n) (hj : j < c) : (rowC c f n)[k * c + j]? = some (.int .i64 (f k j)) := by
  induction n with
  | zero => omega
  | succ n ih =>
    unfold rowC
    by_cases e : k = n
    · subst e
      rw [List.getElem?_append_right (by rw [rowC_len]; omega), rowC_len, show k * c + j - k * c = j by omega]
      simp [hj]
    · have hlt : k * c + j < n * c := by
        have : (k + 1) * c ≤ n * c := Nat.mul_le_mul_right c (by omega)
        rw [Nat.add_mul] at this
        omega
      rw [List.getElem?_append_left (by rw [rowC_len]; exact hlt)]
      exact ih (by omega)
theorem rows_of_owns {w : World} {base n c cap : Nat} {e : TypeId} {A : Option Addr} {f : Nat → Nat → Int} (h : w.ownsRow base e c (.slice A n cap) n (rowC c f n)) (hI : ∀ k, k < n → ∀ j, j < c → I64 (f k j)) : RowsAt w A n c f := by
  intro h0
  rcases h.2 with ⟨-, hn⟩ | ⟨g, cap', cur, hv, hb, hg, h1, h2, h3, h4⟩
  · omega
  · simp only [Value.slice.injEq] at hv
    obtain ⟨rfl, -, rfl⟩ := hv
    refine ⟨g, 0, rfl, (Array.getElem?_eq_some_iff.1 hg).1, fun k hk j hj => ⟨?_, hI k hk j hj⟩⟩
    have hlt : k * c + j < n * c := by
      have : (k + 1) * c ≤ n * c := Nat.mul_le_mul_right c (by omega)
      rw [Nat.add_mul] at this
      omega
    have := rowC_get c f hk hj
    rw [← h4, List.getElem?_take, if_pos hlt] at this
    unfold World.cell?
    simp only [hg]
    simpa using this
end Go.Proofs.YtnbjealpcjfllaaGreatDoor
namespace Go.Proofs.YtnbjealpcjfllaaGreatDoor
set_option linter.unusedVariables false
set_option linter.unusedSimpArgs false
open Go.Maps Go.RowKit
theorem Kept.grown {w w' : World} (h : Kept w w') : w.grownBy w' none := by
  obtain ⟨x, rfl⟩ := h
  exact ⟨rfl, rfl, rfl, by simp [adv], fun k hk _ => ext_block _ _ _ hk⟩
theorem Kept.map_store {W w w' : World} {b : Nat} (hk : Kept W w) (hb : W.heap.size ≤ b) (hg : w.grownBy w' (some b)) : Kept W w' := by
  refine Kept.of_below (hk.below.grown hg hk.below.size ?_)
  intro g e
  simp only [Option.some.injEq] at e
  omega
section
variable {ι : Type} {P : Program} {k e : TypeId} {kv : ι → Value} {ok : ι → Prop}
/-- Block b is a map of at most n entries, whose element at key i is the int c i. -/
def MapI (P : Program) (k e : TypeId) (kv : ι → Value) (ok : ι → Prop) (w : World) (b n : Nat) (c : ι → Int) : Prop :=
  ∃ D : DataW Unit, w.ownsMap P k (plainElem P e) b n D ∧ Maps.IsMap D ∧ ∀ i kl, ok i → keyOf P k (kv i) = some kl → D.atKey kl (.lit (.int .i64 0)) = .lit (.int .i64 (c i))
/-- Block b is a map of at most n entries, whose element at key i is the bool c i. -/
def MapB (P : Program) (k e : TypeId) (kv : ι → Value) (ok : ι → Prop) (w : World) (b n : Nat) (c : ι → Bool) : Prop :=
  ∃ D : DataW Unit, w.ownsMap P k (plainElem P e) b n D ∧ Maps.IsMap D ∧ ∀ i kl, ok i → keyOf P k (kv i) = some kl → D.atKey kl (.lit (.bool false)) = .lit (.bool (c i))
theorem MapI.made (w : World) : MapI P k e kv ok (w.alloc (.map #[] 0)) w.heap.size 0 fun _ => 0 :=
  ⟨_, World.ownsMap_made w P k _, ⟨_, rfl⟩, fun _ _ _ _ => rfl⟩
theorem MapB.made (w : World) : MapB P k e kv ok (w.alloc (.map #[] 0)) w.heap.size 0 fun _ => false :=
  ⟨_, World.ownsMap_made w P k _, ⟨_, rfl⟩, fun _ _ _ _ => rfl⟩
theorem MapI.kept {w w' : World} {b n : Nat} {c : ι → Int} (h : MapI P k e kv ok w b n c) (hk : Kept w w') : MapI P k e kv ok w' b n c := by
  obtain ⟨D, h1, h2, h3⟩ := h
  exact ⟨D, h1.kept hk.grown (by simp), h2, h3⟩
theorem MapB.kept {w w' : World} {b n : Nat} {c : ι → Bool} (h : MapB P k e kv ok w b n c) (hk : Kept w w') : MapB P k e kv ok w' b n c := by
  obtain ⟨D, h1, h2, h3⟩ := h
  exact ⟨D, h1.kept hk.grown (by simp), h2, h3⟩
theorem MapI.mono {w : World} {b n m : Nat} {c : ι → Int} (h : MapI P k e kv ok w b n c) (hm : n ≤ m) : MapI P k e kv ok w b m c := by
  obtain ⟨D, h1, h2, h3⟩ := h
  exact ⟨D, h1.mono hm, h2, h3⟩
theorem MapB.mono {w : World} {b n m : Nat} {c : ι → Bool} (h : MapB P k e kv ok w b n c) (hm : n ≤ m) : MapB P k e kv ok w b m c := by
  obtain ⟨D, h1, h2, h3⟩ := h
  exact ⟨D, h1.mono hm, h2, h3⟩
theorem MapI.congr {w : World} {b n : Nat} {c c' : ι → Int} (h : MapI P k e kv ok w b n c) (hc : ∀ i, ok i → c i = c' i) : MapI P k e kv ok w b n c' := by
  obtain ⟨D, h1, h2, h3⟩ := h
  exact ⟨D, h1, h2, fun i kl hi hk => (h3 i kl hi hk).trans (by rw [hc i hi])⟩
theorem MapB.congr {w : World} {b n : Nat} {c c' : ι → Bool} (h : MapB P k e kv ok w b n c) (hc : ∀ i, ok i → c i = c' i) : MapB P k e kv ok w b n c' := by
  obtain ⟨D, h1, h2, h3⟩ := h
  exact ⟨D, h1, h2, fun i kl hi hk => (h3 i kl hi hk).trans (by rw [hc i hi])⟩
theorem MapI.lt {w : World} {b n : Nat} {c : ι → Int} (h : MapI P k e kv ok w b n c) : b < w.heap.size := by
  obtain ⟨D, h1, -⟩ := h
  exact h1.lt
theorem MapB.lt {w : World} {b n : Nat} {c : ι → Bool} (h : MapB P k e kv ok w b n c) : b < w.heap.size := by
  obtain ⟨D, h1, -⟩ := h
  exact h1.lt
theorem plain_bool_inv {v : Value} {x : Bool} {ps : List MemPlace} (he : P.underlying e = some .bool) (h : plainElem (H := Unit) P e v = some (.lit (.bool x), ps)) : v = .bool x := by
  unfold plainElem at h
  rw [he] at h
  cases v <;> simp at h
  rw [h.1]
theorem MapB.run_look {w : World} {t : TypeId} {b n : Nat} {c : ι → Bool} (K : Keyed P k) (ht : P.underlying t = some (.map k e)) (he : P.underlying e = some .bool) (hz : (zeroValue e).run P w = .ok (.bool false) w)
    (hM : MapB P k e kv ok w b n c) (i : ι) (hi : ok i) (hkey : ∃ kl, keyOf P k (kv i) = some kl) : (Instr.lookup t (.map (some b)) (kv i) false).run P w = .ok (.bool (c i)) w := by
  obtain ⟨D, h1, -, h3⟩ := hM
  obtain ⟨kl, hkl⟩ := hkey
  obtain ⟨v, ps, hrun, hv⟩ := h1.lookup K ht hz (plainElem_bool he false) hkl
  rw [h3 i kl hi hkl] at hv
  rw [hrun, plain_bool_inv he hv]
theorem MapI.run_look {w : World} {t : TypeId} {b n : Nat} {c : ι → Int} (K : Keyed P k) (ht : P.underlying t = some (.map k e)) (he : P.underlying e = some (.int .i64)) (hz : (zeroValue e).run P w = .ok (.int .i64 0) w)
    (hM : MapI P k e kv ok w b n c) (i : ι) (hi : ok i) (hkey : ∃ kl, keyOf P k (kv i) = some kl) : (Instr.lookup t (.map (some b)) (kv i) false).run P w = .ok (.int .i64 (c i)) w := by
  obtain ⟨D, h1, -, h3⟩ := hM
  obtain ⟨kl, hkl⟩ := hkey
  obtain ⟨x, hrun, hv, -⟩ := h1.lookup_int K ht he hz hkl
  rw [h3 i kl hi hkl] at hv
  injection hv with hv
  injection hv with _ hv
  rw [hrun, hv]
theorem wp_lookB (w : World) {ops : Array Oper} {rest : List Oper} {o : Oper} {a : Act} {Q : Exit → Act → World → Prop}
    (hg : Region.wanted o (yielded ops a.tmps) = true) (m x : Operand) (t : TypeId) (hop : o.op = Op.lookup t m x false)
    (K : Keyed P k) (ht : P.underlying t = some (.map k e)) (he : P.underlying e = some .bool) (hz : (zeroValue e).run P w = .ok (.bool false) w) (b n : Nat) (c : ι → Bool)
    (hM : MapB P k e kv ok w b n c) (i : ι) (hm : a.eval m = .map (some b)) (hx : a.eval x = kv i) (hi : ok i) (hkey : ∃ kl, keyOf P k (kv i) = some kl)
    (hK : wpList P ops Q rest (a.put o.dst (.bool (c i))) w) : wpList P ops Q (o :: rest) a w := by
  refine BigFrame.wpList_want hg fun K' hK' => ?_
  unfold Oper.wp
  simp [execOp, hop, hm, hx, hM.run_look K ht he hz i hi hkey, Result.andThen]
  exact hK' _ _ hK
theorem wp_lookI (w : World) {ops : Array Oper} {rest : List Oper} {o : Oper} {a : Act} {Q : Exit → Act → World → Prop}
    (hg : Region.wanted o (yielded ops a.tmps) = true) (m x : Operand) (t : TypeId) (hop : o.op = Op.lookup t m x false)
    (K : Keyed P k) (ht : P.underlying t = some (.map k e)) (he : P.underlying e = some (.int .i64)) (hz : (zeroValue e).run P w = .ok (.int .i64 0) w) (b n : Nat) (c : ι → Int)
    (hM : MapI P k e kv ok w b n c) (i : ι) (hm : a.eval m = .map (some b)) (hx : a.eval x = kv i) (hi : ok i) (hkey : ∃ kl, keyOf P k (kv i) = some kl)
    (hK : wpList P ops Q rest (a.put o.dst (.int .i64 (c i))) w) : wpList P ops Q (o :: rest) a w := by
  refine BigFrame.wpList_want hg fun K' hK' => ?_
  unfold Oper.wp
  simp [execOp, hop, hm, hx, hM.run_look K ht he hz i hi hkey, Result.andThen]
  exact hK' _ _ hK
theorem wp_putI [DecidableEq ι] (w : World) {ops : Array Oper} {rest : List Oper} {o : Oper} {a : Act} {Q : Exit → Act → World → Prop}
    (hg : o.guard = none) (m x v : Operand) (t : TypeId) (hop : o.op = Op.mapUpdate t m x v)
    (K : Keyed P k) (ht : P.underlying t = some (.map k e)) (he : P.underlying e = some (.int .i64)) (b n : Nat) (c : ι → Int)
    (hM : MapI P k e kv ok w b n c) (hn : n < maxLen) (i : ι) (z : Int) (hm : a.eval m = .map (some b)) (hx : a.eval x = kv i) (hv : a.eval v = .int .i64 z) (hz : I64 z) (hkey : ∃ kl, keyOf P k (kv i) = some kl) (hinj : ∀ j, kv j = kv i → j = i)
    (hK : ∀ w', MapI P k e kv ok w' b (n + 1) (fun j => if j = i then z else c j) → w.grownBy w' (some b) → wpList P ops Q rest (a.put o.dst undef) w') :
    wpList P ops Q (o :: rest) a w := by
  obtain ⟨D, h1, h2, h3⟩ := hM
  obtain ⟨kl, hkl⟩ := hkey
  refine wpList_mapUpdate_own w hg m x v t hop k e K ht (plainElem P e) b n D hm h1 hn _ _ kl hx hv hkl _ [] (plainElem_int he (by unfold I64 at hz; simp only [Lit.wf, Bool.and_eq_true, decide_eq_true_eq]; exact hz)) ?_
  intro w' h1' hg'
  refine hK w' ⟨_, h1', h2.put _ _, fun j kl' hj hkj => ?_⟩ hg'
  dsimp only
  by_cases hji : j = i
  · subst hji
    rw [if_pos rfl]
    rw [hkl] at hkj
    injection hkj with e1
    subst e1
    exact Maps.atKey_put_same h2 (K.key hkl) _ _
  · rw [if_neg hji, Maps.atKey_put_other (fun e1 => hji (hinj j (K.inj (hkj.trans (congrArg some e1)) hkl)))]
    exact h3 j kl' hj hkj
theorem wp_putB [DecidableEq ι] (w : World) {ops : Array Oper} {rest : List Oper} {o : Oper} {a : Act} {Q : Exit → Act → World → Prop}
    (hg : o.guard = none) (m x v : Operand) (t : TypeId) (hop : o.op = Op.mapUpdate t m x v)
    (K : Keyed P k) (ht : P.underlying t = some (.map k e)) (he : P.underlying e = some .bool) (b n : Nat) (c : ι → Bool)
    (hM : MapB P k e kv ok w b n c) (hn : n < maxLen) (i : ι) (z : Bool) (hm : a.eval m = .map (some b)) (hx : a.eval x = kv i) (hv : a.eval v = .bool z) (hkey : ∃ kl, keyOf P k (kv i) = some kl) (hinj : ∀ j, kv j = kv i → j = i)
    (hK : ∀ w', MapB P k e kv ok w' b (n + 1) (fun j => if j = i then z else c j) → w.grownBy w' (some b) → wpList P ops Q rest (a.put o.dst undef) w') :
    wpList P ops Q (o :: rest) a w := by
  obtain ⟨D, h1, h2, h3⟩ := hM
  obtain ⟨kl, hkl⟩ := hkey
  refine wpList_mapUpdate_own w hg m x v t hop k e K ht (plainElem P e) b n D hm h1 hn _ _ kl hx hv hkl _ [] (plainElem_bool he z) ?_
  intro w' h1' hg'
  refine hK w' ⟨_, h1', h2.put _ _, fun j kl' hj hkj => ?_⟩ hg'
  dsimp only
  by_cases hji : j = i
  · subst hji
    rw [if_pos rfl]
    rw [hkl] at hkj
    injection hkj with e1
    subst e1
    exact Maps.atKey_put_same h2 (K.key hkl) _ _
  · rw [if_neg hji, Maps.atKey_put_other (fun e1 => hji (hinj j (K.inj (hkj.trans (congrArg some e1)) hkl)))]
    exact h3 j kl' hj hkj
end
end Go.Proofs.YtnbjealpcjfllaaGreatDoor
namespace Go.Proofs.YtnbjealpcjfllaaGreatDoor
set_option linter.unusedVariables false
set_option linter.unusedSimpArgs false
open Go.ChangeShapes Go.WideShapes Go.ChangeAt Go.RowKit Go.Deep
section
variable {H : Type} {enc : TypeId × Value → H} {P : Program} {w : World} {base : Nat} {spare : Nat → Bool} {held : Bool}
theorem rows_cells {t e : TypeId} {fuel : Nat} {cs : List Value} {x : DataW H × List MemPlace} (c : Nat)
    (ht : P.underlying t = some (.slice e)) (hC : P.cellsOf e = c) (h0c : 0 < c) (hall : ((List.range c).all fun i => leafInt P 9 e i) = true)
    (hf : DataW.trod enc P w base spare held fuel t cs = some x) (hlt : ∀ y ∈ x.2, y.block < w.heap.size) :
    ∃ (A : Option Addr) (n cap : Nat) (f : Nat → Nat → Int), cs = [.slice A n cap] ∧ n ≤ cap ∧ cap ≤ maxLen ∧ RowsAt w A n c f := by
  rcases open_slice ht hf with ⟨h0, -⟩ | ⟨a, n, cap, m, fu, D, Pl, hcs, hb, hl, hm, hmm, hx, hi⟩
  · exact ⟨none, 0, 0, fun _ _ => 0, h0, by omega, by unfold maxLen; omega, fun h => absurd h (by omega)⟩
  · have hnm : n ≤ m := by rw [hmm]; split <;> omega
    have key : ∀ k, k < n → ∀ j, j < c → ∃ z, w.cell? (a.add (k * c + j)) = some (.int .i64 z) ∧ I64 z := by
      intro k hk j hj
      obtain ⟨cs, hc, htr⟩ := hi k (by omega)
      have hlf : leafInt P 9 e j = true := List.all_eq_true.1 hall j (List.mem_range.2 hj)
      obtain ⟨z, hz, hI⟩ := leaf_int 9 e j fu cs _ hlf htr
      obtain ⟨-, hcl, hat⟩ := World.cells?_some hc
      rw [hC] at hat
      refine ⟨z, ?_, hI⟩
      rw [← add_add, hat j hj, hz]
    have key2 : ∀ k, ∃ g : Nat → Int, k < n → ∀ j, j < c → w.cell? (a.add (k * c + j)) = some (.int .i64 (g j)) ∧ I64 (g j) := by
      intro k
      by_cases hk : k < n
      · obtain ⟨g, hg⟩ := choose_lt (n := c) (p := fun j z => w.cell? (a.add (k * c + j)) = some (.int .i64 z) ∧ I64 z) (key k hk)
        exact ⟨g, fun _ => hg⟩
      · exact ⟨fun _ => 0, fun h => absurd h hk⟩
    refine ⟨some a, n, cap, fun k => Classical.choose (key2 k), hcs, hl, hm, fun hn => ?_⟩
    have hc2 : ∀ k, k < n → ∀ j, j < c → w.cell? (a.add (k * c + j)) = some (.int .i64 (Classical.choose (key2 k) j)) ∧ I64 (Classical.choose (key2 k) j) := fun k hk => Classical.choose_spec (key2 k) hk
    have hsp := World.cell?_spot (hc2 0 hn 0 h0c).1
    obtain ⟨b, off, sp⟩ := a
    have hsp' : sp = none := by simpa [Addr.add] using hsp
    subst hsp'
    refine ⟨b, off, rfl, ?_, fun k hk j hj => ?_⟩
    · have : (MemPlace.cell b (off + 0)) ∈ x.2 := by
        rw [hx]
        apply List.mem_append_left
        unfold MemPlace.row
        rw [List.mem_map]
        refine ⟨0, List.mem_range.2 ?_, rfl⟩
        rw [hC]
        exact Nat.mul_pos (by omega) h0c
      exact hlt _ this
    · have := hc2 k hk j hj
      have e : (Addr.mk b off none).add (k * c + j) = ⟨b, off + k * c + j, none⟩ := by
        unfold Addr.add
        by_cases h : k * c + j = 0
        · rw [if_pos h]
          have : off + k * c + j = off := by omega
          rw [this]
        · rw [if_neg h]
          simp [Nat.add_assoc]
      rw [e] at this
      exact this
theorem open_mesh {r : Reach} {b0 : Nat} {v : Value} {d : DataW H} {p : List MemPlace} (f0 f1 : Field) (t e0 e1 : TypeId) (c0 c1 : Nat)
    (ht : P.underlying t = some (.struct #[f0, f1])) (ho : f0.offset = 0 ∧ f1.offset = 1 ∧ P.cellsOf f0.type = 1 ∧ P.cellsOf f1.type = 1 ∧ P.cellsOf t = 2)
    (h0 : P.underlying f0.type = some (.slice e0)) (hC0 : P.cellsOf e0 = c0) (hc0 : 0 < c0) (ha0 : ((List.range c0).all fun i => leafInt P 9 e0 i) = true)
    (h1 : P.underlying f1.type = some (.slice e1)) (hC1 : P.cellsOf e1 = c1) (hc1 : 0 < c1) (ha1 : ((List.range c1).all fun i => leafInt P 9 e1 i) = true)
    (hv : Value.okWide P w r b0 t v) (h : DataW.Trod enc P w base spare held t v d p) (hlt : ∀ x ∈ p, x.block < w.heap.size) :
    ∃ (A : Option Addr) (n cap : Nat) (f : Nat → Nat → Int) (B : Option Addr) (m cap2 : Nat) (g : Nat → Nat → Int), v = .agg #[.slice A n cap, .slice B m cap2] ∧ (n ≤ cap ∧ cap ≤ maxLen ∧ RowsAt w A n c0 f) ∧ (m ≤ cap2 ∧ cap2 ≤ maxLen ∧ RowsAt w B m c1 g) := by
  obtain ⟨o0, o1, k0, k1, k2⟩ := ho
  have hv' : ∃ cs : Array Value, v = .agg cs ∧ cs.size = 2 := by
    unfold Value.okWide at hv
    rw [ht] at hv
    simp only at hv
    obtain ⟨cs, rfl, h1, -⟩ := hv
    exact ⟨cs, rfl, by rw [h1, k2]⟩
  obtain ⟨cs, rfl, hs⟩ := hv'
  obtain ⟨fuel, hf⟩ := h
  obtain ⟨y0, y1, n, hx, hl, q0, q1⟩ := trod_struct2 ht hf
  simp only [Prod.mk.injEq] at hx
  obtain ⟨-, rfl⟩ := hx
  obtain ⟨c, c', rfl⟩ : ∃ c c', cs = #[c, c'] := by
    refine ⟨cs[0], cs[1], ?_⟩
    apply Array.ext
    · simp [hs]
    · intro i hi1 hi2
      rcases (show i = 0 ∨ i = 1 by omega) with rfl | rfl <;> rfl
  simp only [Value.cells, o0, o1, k0, k1, List.drop_zero, List.drop_succ_cons, List.take_succ_cons, List.take_zero] at q0 q1
  obtain ⟨A, n, cap, f, e, ha, hb, hc⟩ := rows_cells c0 h0 hC0 hc0 ha0 q0 (fun y hy => hlt y (List.mem_append_left _ hy))
  obtain ⟨B, m, cap2, g, e', ha', hb', hc'⟩ := rows_cells c1 h1 hC1 hc1 ha1 q1 (fun y hy => hlt y (List.mem_append_right _ hy))
  simp only [List.cons.injEq, and_true] at e e'
  subst e e'
  exact ⟨A, n, cap, f, B, m, cap2, g, rfl, ⟨ha, hb, hc⟩, ha', hb', hc'⟩
end
end Go.Proofs.YtnbjealpcjfllaaGreatDoor
