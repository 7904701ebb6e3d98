/- Contract: groups of faces, of the program. Conditions: the surface is closed. -/
import Derived.Test.YtbhcjdgfcinpcaaGva
import Derived.Test.YtbhcjdgfcinpcaaGcl
namespace Go.Proofs.Ytbhcjdgfcinpcaa
set_option linter.unusedVariables false
set_option linter.unusedSimpArgs false
open Go.RowKit  Go.Maps
theorem putS {ops : Array Oper} {rest : List Oper} {o : Oper} {a : Act} {Q : Exit → Act → World → Prop} {w : World} {b n : Nat} {c : Int × Int → Int} {m x v : Operand} {p q z : Int} (hM : MapS w b n c) (hg : o.guard = none) (hop : o.op = Op.mapUpdate 78 m x v) (hn : n < maxLen) (hm : a.eval m = .map (some b)) (hx : a.eval x = .agg #[.int .i64 p, .int .i64 q]) (hv : a.eval v = .int .i64 z) (hz : I64 z) (hok : sideOk (p, q))
    (hK : ∀ w', MapS w' b (n + 1) (fun s => if s = (p, q) then z else c s) → w.grownBy w' (some b) → wpList Try.prog ops Q rest (a.put o.dst undef) w') : wpList Try.prog ops Q (o :: rest) a w :=
  wp_putI w hg m x v _ hop (Keyed.of_law lawSide) Try.underlying78 Try.underlying3 b n c hM hn (p, q) z hm hx hv hz (keyOf_side _ hok) (fun j e => sideV_inj _ _ e) hK
theorem infoInt : (Try.prog.info? 3).map (fun i => (i.zero, i.size, i.bytes)) = some (some (.int .i64 0), 1, 8) := by kernel_rfl
theorem cnB_le (p : Nat → Bool) : ∀ n, cnB p n ≤ n
  | 0 => Nat.le_refl _
  | n + 1 => by have := cnB_le p n; unfold cnB; split <;> omega
theorem rowU_by {w w' : World} {ub k g : Nat} {S : Nat → Bool} (h : RowU w ub k S) (hg : w.grownBy w' (some g)) (hne : ub ≠ g) : RowU w' ub k S := by
  have hb := hg.block ub h.lt (by simpa using hne)
  refine ⟨fun j hj => ?_, fun j hj => ?_, Nat.lt_of_lt_of_le h.lt hg.size⟩
  · have := h.cell j hj
    unfold World.cell? at this ⊢
    simp only [hb]
    exact this
  · have := h.froz j hj
    unfold World.frozen? at this ⊢
    simp only [hb]
    exact this
theorem kept_size2 {w w' : World} (h : Kept w w') : w.heap.size ≤ w'.heap.size := by
  obtain ⟨x, rfl⟩ := h
  rw [ext_size]
  exact adv_le _ _
theorem mapS_by {w w' : World} {b n g : Nat} {c : Int × Int → Int} (h : MapS w b n c) (hg : w.grownBy w' (some g)) (hne : b ≠ g) : MapS w' b n c := by
  obtain ⟨D, h1, h2, h3⟩ := h
  exact ⟨D, h1.kept hg (by simpa using hne), h2, h3⟩
/-- How many of the first k bools of block ub are false. -/
def unN (w : World) (ub k : Nat) : Nat := cnB (fun j => match w.cell? ⟨ub, j, none⟩ with | some (.bool false) => true | _ => false) k
theorem unN_of {w : World} {ub k : Nat} {S : Nat → Bool} (h : RowU w ub k S) : unN w ub k = cnB (fun j => !S j) k :=
  cnB_congr fun j hj => by
    rw [h.cell j hj]
    cases S j <;> rfl
def slLen : Value → Nat
  | .slice _ n _ => n
  | _ => 0
end Go.Proofs.Ytbhcjdgfcinpcaa
