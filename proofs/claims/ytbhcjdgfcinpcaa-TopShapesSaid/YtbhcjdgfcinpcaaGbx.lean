/- Contracts: the box of a mesh, of the program and of the reference. Conditions: the lists' lengths are ints. -/
import Derived.Test.YtbhcjdgfcinpcaaGrc
import Derived.Test.YtbhcjdgfcinpcaaTell
namespace Go.Proofs.Ytbhcjdgfcinpcaa
set_option linter.unusedVariables false
set_option linter.unusedSimpArgs false
open Go.RowKit
def boxLo (P : Nat → Nat → Int) (j : Nat) : Nat → Int
  | 0 => P 0 j
  | k + 1 => min (boxLo P j k) (P k j)
def boxHi (P : Nat → Nat → Int) (j : Nat) : Nat → Int
  | 0 => P 0 j
  | k + 1 => max (boxHi P j k) (P k j)
def blo (n : Nat) (P : Nat → Nat → Int) (m : Nat) (F : Nat → Nat → Int) (j : Nat) : Int := if validE n P m F = 0 then boxLo P j n else 0
def bhi (n : Nat) (P : Nat → Nat → Int) (m : Nat) (F : Nat → Nat → Int) (j : Nat) : Int := if validE n P m F = 0 then boxHi P j n else 0
/-- A whole block is stored: the world goes on as one that is known there, and as before elsewhere. -/
theorem wp_putRow {P : Program} (w : World) {ops : Array Oper} {rest : List Oper} {o : Oper} {a : Act} {Q : Exit → Act → World → Prop} (hgd : o.guard = none) (ty : TypeId) (x y : Operand) (ho : o.op = .store ty x y)
    (g : Nat) {cs : Array Value} (hx : a.eval x = .pointer (some ⟨g, 0, none⟩)) (hy : a.eval y = .agg cs) {t : TypeId} {old : Array Value} (hg : w.heap[g]? = some (.cells old t (0, 0))) (hi : (P.info? ty).map (·.size) = some cs.size)
    (hold : old.size = cs.size) (h1 : cs.all (·.oneCell') = true)
    (h : ∀ w', w'.heap[g]? = some (.cells cs t (0, 0)) → w.grownBy w' (some g) → wpList P ops Q rest (a.put o.dst undef) w') : wpList P ops Q (o :: rest) a w :=
  wpList_store_row hgd ty x y ho g cs hx hy t old hg hi hold h1 (h _ (setRow_heap _ _ _ _ _ _ hg) (grown_setRow _ _ _))
theorem tells_put {P : Program} {K : Value → World → Prop} {w' : World} {ρ : Operand → Value} {o : Oper} (ty : TypeId) (px py : Operand) (ho : o.op = .store ty px py) (k : Nat) {c z : Array Value} {T : TypeId} (hp : ρ px = .pointer (some ⟨k, 0, none⟩)) (hy : ρ py = .agg c)
    (e3 : w'.heap[k]? = some (.cells z T (0, 0))) (hi : (P.info? ty).map (·.size) = some c.size) (hz : z.size = c.size) (h1 : c.all (·.oneCell') = true) (hK : K undef (w'.setRow k c)) : tellsUpon P K ((execOp ρ o).run P w') := by
  unfold execOp
  simp only [ho, hp, hy, Instr.storeAt, Instr.sureAddr, Sem.run_bind, Sem.run_pure, Result.andThen_ok, run_storeVar_row w' k T ty z c e3 hi hz h1]
  exact hK
theorem block_of {w w' : World} {g h : Nat} {o : Obj} (hg : w.grownBy w' (some g)) (hh : w.heap[h]? = some o) (hne : h ≠ g) : w'.heap[h]? = some o := by
  rw [hg.block h (Array.getElem?_eq_some_iff.1 hh).1 (fun e => hne (Option.some.inj e))]
  exact hh
/-- Two blocks, each stored in its turn. -/
structure TwoI (W : World) (g h i j : Nat) (T : TypeId) (z z' c c' : Array Value) (L : Nat → Bool) (b : Nat → Value) (w' : World) : Prop where
  kept : Kept W w'
  hg : w'.heap[g]? = some (.cells (if L i = true then c else z) T (0, 0))
  hh : w'.heap[h]? = some (.cells (if L j = true then c' else z') T (0, 0))
section
variable {W w' w'' : World} {g h i j : Nat} {T : TypeId} {z z' c c' : Array Value} {L : Nat → Bool} {b : Nat → Value}
theorem heap_kp {w w' : World} {b : Nat} {o : Obj} (h : w.heap[b]? = some o) (hk : Kept w w') : w'.heap[b]? = some o := by
  obtain ⟨x, rfl⟩ := hk
  rw [ext_block _ _ _ (Array.getElem?_eq_some_iff.1 h).1]
  exact h
theorem TwoI.on (hI : TwoI W g h i j T z z' c c' L b w') (hk : Kept w' w'') : TwoI W g h i j T z z' c c' L b w'' :=
  ⟨hI.kept.trans hk, heap_kp hI.hg hk, heap_kp hI.hh hk⟩
theorem TwoI.other (hI : TwoI W g h i j T z z' c c' L b w') {q : Nat} (h1 : q ≠ i) (h2 : q ≠ j) : TwoI W g h i j T z z' c c' (doneAt L q) b w' := by
  refine ⟨hI.kept, ?_, ?_⟩
  · rw [show doneAt L q i = L i from if_neg (Ne.symm h1)]; exact hI.hg
  · rw [show doneAt L q j = L j from if_neg (Ne.symm h2)]; exact hI.hh
theorem TwoI.one (hI : TwoI W g h i j T z z' c c' L b w') (hij : i ≠ j) (hgh : g ≠ h) (hW : W.heap.size ≤ g) (v : Value) : TwoI W g h i j T z z' c c' (doneAt L i) (tellAt b i v) (w'.setRow g c) := by
  refine ⟨hI.kept.map_store hW (grown_setRow _ _ _), ?_, ?_⟩
  · rw [show doneAt L i i = true from if_pos rfl]; exact setRow_heap _ _ _ _ _ _ hI.hg
  · rw [show doneAt L i j = L j from if_neg (Ne.symm hij)]; exact block_of (grown_setRow _ _ _) hI.hh (Ne.symm hgh)
theorem TwoI.two (hI : TwoI W g h i j T z z' c c' L b w') (hij : i ≠ j) (hgh : g ≠ h) (hW : W.heap.size ≤ h) (v : Value) : TwoI W g h i j T z z' c c' (doneAt L j) (tellAt b j v) (w'.setRow h c') := by
  refine ⟨hI.kept.map_store hW (grown_setRow _ _ _), ?_, ?_⟩
  · rw [show doneAt L j i = L i from if_neg hij]; exact block_of (grown_setRow _ _ _) hI.hg hgh
  · rw [show doneAt L j j = true from if_pos rfl]; exact setRow_heap _ _ _ _ _ _ hI.hh
end
/-- The state of the loop over the points. -/
def BoxI (W : World) (g h : Nat) (P : Nat → Nat → Int) (k : Nat) (wr : World) : Prop :=
  Kept W wr ∧ wr.heap[g]? = some (.cells #[.int .i64 (boxLo P 0 k), .int .i64 (boxLo P 1 k), .int .i64 (boxLo P 2 k)] 27 (0, 0)) ∧ wr.heap[h]? = some (.cells #[.int .i64 (boxHi P 0 k), .int .i64 (boxHi P 1 k), .int .i64 (boxHi P 2 k)] 27 (0, 0))
end Go.Proofs.Ytbhcjdgfcinpcaa
