/- Contracts: a mesh turned, scaled, moved, mirrored, of the reference. Conditions: the lists' lengths are ints. Contracts: a list of faces in new memory, and a mesh whose points are changed by a function value, of the program. Conditions: the lists are not long; what the function value returns. -/
import Derived.Test.YtejholcddinnfaaGreatDoorZa
import Derived.Test.YtejholcddinnfaaGreatDoorZe
import Derived.Lib.SliceRun
import Derived.Laws.ByValue
namespace Go.Proofs.YtejholcddinnfaaGreatDoor
set_option linter.unusedVariables false
set_option linter.unusedSimpArgs false
open Go.RowKit Go.Deep
end Go.Proofs.YtejholcddinnfaaGreatDoor

namespace Go.Proofs.YtejholcddinnfaaGreatDoor
set_option linter.unusedVariables false
set_option linter.unusedSimpArgs false
open Go.RowKit Go.Deep
theorem wpList_append_rows {P : Program} {w : World} {ops : Array Oper} {rest : List Oper} {op : Oper} {a : Act} {Q : Exit → Act → World → Prop} (hgd : op.guard = none) (s x : Operand) (t : TypeId)
    (ho : op.op = .call { callee := .builtin .append, args := #[s, x], argTypes := #[t, t] })
    (base : Nat) (e : TypeId) (i : TypeInfo) (z : Value) (c bytes : Nat) (ht : P.underlying t = some (.slice e)) (hi : P.info? e = some i) (hz : i.zero = some z)
    (hsize : i.size = c) (hby : i.bytes = bytes) (hzs : z.cells.size = c) (hc : 0 < c) (hbase : base ≤ w.heap.size)
    (v : Value) (n : Nat) (xs : List Value) (hs : a.eval s = v) (hown : w.ownsRow base e c v n xs)
    (A : Option Addr) (m cp : Nat) (f : Nat → Nat → Int) (hx : a.eval x = .slice A m cp) (hr : RowsAt w A m c f) (h63 : n + m ≤ maxLen) (hbytes : (n + m) * bytes ≤ 140737488355328)
    (h : ∀ A' cp' w', w'.ownsRow base e c (.slice A' (n + m) cp') (n + m) (xs ++ rowC c f m) → w.grownBy w' v.ownBlock → wpList P ops Q rest (a.put op.dst (.slice A' (n + m) cp')) w') : wpList P ops Q (op :: rest) a w := by
  refine wpList_plain hgd fun K hK => ?_
  obtain ⟨v', w', hrun, h2, h3, h9⟩ := run_append_rows (P := P) base t op.type e i z c bytes ht hi hz hsize hby hzs hc v n xs hown A m cp f hr h63 hbytes hbase
  obtain ⟨A', cp', rfl⟩ := own_slice2 h2
  unfold Oper.wp execOp
  simp only [ho, resolve, invoke, builtin, Sem.run_bind, Sem.run_pure, Result.andThen_ok, List.map_toArray, List.map_cons, List.map_nil, hs, hx, hrun]
  exact hK _ _ (h A' cp' w' h2 h3)
theorem clone_any (B : Option Addr) (m cap2 : Nat) (F : Nat → Nat → Int) (w : World) (hm : m ≤ 1000) (hF : RowsAt w B m 3 F) :
    Calls Tryz.prog 62 #[.slice B m cap2] w fun r w' => ∃ v, r = .returned v ∧ Kept w w' ∧ w'.ownsRow w.heap.size 106 3 v m (rowC 3 F m) := by
  have HF := Lib.hid hF
  have q22 : ∀ (w : World) (a : Option Addr) (n c n' c' : Nat), (binOp .eql 40 (.slice a n c) (.slice none n' c')).run Tryz.prog w = .ok (.bool a.isNone) w := fun w a n c n' c' => Lib.run_eql_slice_nil w _ _ a n c n' c' Tryz.underlying40
  obtain ⟨i1, hi, hz0, hz1, hz2⟩ := info_parts infoFace
  have HJ := Lib.hid (And.intro hi (And.intro hz0 (And.intro hz1 hz2)))
  clear hi hz0 hz1 hz2
  rcases B with _ | ad
  · have h0 : m = 0 := by
      rcases Nat.eq_zero_or_pos m with h | h
      · exact h
      · obtain ⟨b, off, h, -⟩ := hF h
        cases h
    subst h0
    clear hF HF
    go_enter Tryz.func62, Tryz.ntmps62
    go_wp2_with fail
    go_ret
    exact ⟨_, rfl, by (repeat (first | exact Kept.refl _ | assumption | refine Kept.alloc ?_ _ | refine Kept.ext ?_ _ | refine Kept.drew ?_ | refine Kept.drewN ?_ _)), World.ownsRow_nil _ _ _ _⟩
  · clear hF
    go_enter Tryz.func62, Tryz.ntmps62
    go_wp2_with (at_builtin; refine wpList_append_rows rfl _ _ 40 rfl w.heap.size 106 i1 _ 3 24 Tryz.underlying40 HJ.out.1 HJ.out.2.1 HJ.out.2.2.1 HJ.out.2.2.2 rfl (by omega) (by simp) _ 0 [] rfl (own_new _ _ (Nat.le_refl _)) (some ad) m cap2 F rfl (HF.out.of (by (repeat (first | exact Kept.refl _ | assumption | refine Kept.alloc ?_ _ | refine Kept.ext ?_ _ | refine Kept.drew ?_ | refine Kept.drewN ?_ _)))) (by unfold maxLen; omega) (by omega) ?_; intro A' cp' w' k1 k2; have K2 := Lib.hid k2; have K1 := Lib.hid k1; clear k1 k2)
    go_ret
    have k1 := K1.out
    simp only [Nat.zero_add, List.nil_append] at k1 ⊢
    exact ⟨_, rfl, kept_grown (W := w) (by (repeat (first | exact Kept.refl _ | assumption | refine Kept.alloc ?_ _ | refine Kept.ext ?_ _ | refine Kept.drew ?_ | refine Kept.drewN ?_ _))) (own_new (c := 3) _ _ (Nat.le_refl _)) (Nat.le_refl _) K2.out, k1⟩
end Go.Proofs.YtejholcddinnfaaGreatDoor

