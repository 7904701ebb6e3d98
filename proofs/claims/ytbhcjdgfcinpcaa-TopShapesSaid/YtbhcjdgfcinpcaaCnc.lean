/- Contracts: two lists of points in one list in new memory, of Go's library. Conditions: the lists are not long and not both empty. -/
import Derived.Test.YtbhcjdgfcinpcaaGch
import Derived.Lib.AppendZerosOnto
import Derived.Lib.SliceRun
import Derived.LoopN
namespace Go.Proofs.Ytbhcjdgfcinpcaa
set_option linter.unusedVariables false
set_option linter.unusedSimpArgs false
open Go.RowKit Go.Deep
theorem wpList_grow0 {P : Program} {w : World} {ops : Array Oper} {rest : List Oper} {op : Oper} {a : Act} {Q : Exit → Act → World → Prop} (hgd : op.guard = none) (s x : Operand) (t tn : TypeId)
    (ho : op.op = .call { callee := .builtin .append, args := #[s, x], argTypes := #[t, tn] })
    (e : TypeId) (i : TypeInfo) (z : Value) (c bytes : Nat) (ht : P.underlying t = some (.slice e)) (htn : P.underlying tn = some (.int .i64)) (hi : P.info? e = some i) (hz : i.zero = some z)
    (hsize : i.size = c) (hby : i.bytes = bytes) (hzs : z.cells.size = c) (hc : 0 < c)
    (hs : a.eval s = .slice none 0 0) (k : Nat) (hx : a.eval x = .int .i64 k) (h0 : 0 < k) (h63 : k ≤ 1000000) (hbytes : k * bytes ≤ 140737488355328)
    (h : ∀ A' cp' xs w', w'.ownsRow w.heap.size e c (.slice A' k cp') k xs → Kept w w' → wpList P ops Q rest (a.put op.dst (.slice A' k cp')) w') : wpList P ops Q (op :: rest) a w := by
  refine wpList_plain hgd fun K hK => ?_
  subst hsize hby
  have hrun := Lib.run_append_grow_zeros (P := P) w t tn op.type e i z .i64 .i64 ht htn hi hz none 0 0 [] (run_firstCells_none w.drew i.size 0 0 0) k h0 hc (by omega) (by omega) (by omega) (growslice_fits (by omega) (by simpa using hbytes))
  have hge := grownCap_ge w (0 + k) 0 e
  have hcm := grownCap_le_maxLen w (0 + k) 0 e (by unfold maxLen; omega)
  simp only [Nat.zero_add] at hrun hge hcm
  unfold Oper.wp execOp
  simp only [ho, resolve, invoke, builtin, Sem.run_bind, Sem.run_pure, Result.andThen_ok, List.map_toArray, List.map_cons, List.map_nil, hs, hx, hrun]
  refine hK _ _ (h _ _ _ _ ⟨?_, .inr ⟨w.heap.size, _, _, rfl, Nat.le_refl _, _root_.Go.heap_alloc_new w.drew _, hge, hcm, ?_, rfl⟩⟩ ((Kept.refl w).drew.alloc _))
  · simp only [List.length_take, Array.length_toList, Array.size_append, size_zeroCells, hzs, List.size_toArray, List.length_nil]
    have : k * i.size ≤ grownCap w k 0 e * i.size := Nat.mul_le_mul_right _ hge
    rw [Nat.min_eq_left]
    omega
  · simp only [Array.size_append, size_zeroCells, hzs, List.size_toArray, List.length_nil, Nat.zero_add]
    rw [← Nat.add_mul]
    congr 1
    omega
theorem own_cut0 {w : World} {base n cap c : Nat} {e : TypeId} {A : Option Addr} {xs : List Value} (h : w.ownsRow base e c (.slice A n cap) n xs) (hn : 0 < n) : w.ownsRow base e c (.slice A 0 cap) 0 [] := by
  rcases h.2 with ⟨-, h1⟩ | ⟨g, cap', cur, hv, hb, hg, h1, h2, h3, -⟩
  · omega
  · simp only [Value.slice.injEq] at hv
    obtain ⟨rfl, -, rfl⟩ := hv
    exact ⟨by simp, .inr ⟨g, cap, cur, rfl, hb, hg, by omega, h2, h3, by simp⟩⟩
theorem grow0_any (k : Nat) (z : Int) (w : World) (h0 : 0 < k) (hk : k ≤ 2000) (hz : z = k) :
    Calls Try.prog 68 #[.slice none 0 0, .int .i64 z] w fun r w' => ∃ v, r = .returned v ∧ Kept w w' ∧ w'.ownsRow w.heap.size 27 3 v 0 [] := by
  subst hz
  obtain ⟨i1, hi, hz0, hz1, hz2⟩ := info_parts infoPoint
  have HJ := Lib.hid (And.intro hi (And.intro hz0 (And.intro hz1 hz2)))
  clear hi hz0 hz1 hz2
  have g1 : decide ((k : Int) > 0) = true := decide_eq_true (by omega)
  go_enter Try.func68, Try.ntmps68
  go_wp2_with (at_builtin; refine wpList_grow0 rfl _ _ 22 3 rfl 27 i1 _ 3 24 Try.underlying22 Try.underlying3 HJ.out.1 HJ.out.2.1 HJ.out.2.2.1 HJ.out.2.2.2 rfl (by omega) rfl k rfl h0 (by omega) (by omega) ?_; intro A' cp' xs w' k1 k2; have K2 := Lib.hid k2; have K1 := Lib.hid k1; clear k1 k2)
  go_ret
  exact ⟨_, rfl, K2.out, own_cut0 K1.out h0⟩
set_option maxRecDepth 100000 in
set_option maxHeartbeats 8000000 in
theorem concat_any (A A2 : Option Addr) (n cap n2 cap2 g : Nat) (P P2 : Nat → Nat → Int) (w : World) (h0 : 0 < n + n2) (hn : n ≤ 1000 ∧ n2 ≤ 1000) (hP : RowsAt w A n 3 P) (hP2 : RowsAt w A2 n2 3 P2)
    (hg : w.heap[g]? = some (.cells #[.slice A n cap, .slice A2 n2 cap2] 22 (0, 0))) :
    Calls Try.prog 49 #[.slice (some ⟨g, 0, none⟩) 2 2] w fun r w' => ∃ v, r = .returned v ∧ Kept w w' ∧ w'.ownsRow w.heap.size 27 3 v (n + n2) (rowC 3 P n ++ rowC 3 P2 n2) := by
  obtain ⟨i1, hi, hz0, hz1, hz2⟩ := info_parts infoPoint
  have HJ := Lib.hid (And.intro hi (And.intro hz0 (And.intro hz1 hz2)))
  clear hi hz0 hz1 hz2
  have HP := Lib.hid hP
  have HP2 := Lib.hid hP2
  obtain ⟨c0, c1, -, -⟩ := cells2 hg
  have LG : Lower g w.heap.size := ⟨cell_lt c0⟩
  clear hP hP2 hg
  go_enter Try.func49, Try.ntmps49
  go_wp2_with fail
  refine wp_loop_rounds 3 ?_
  rw [rounds_succ]
  go_wp2_with fail
  rw [rounds_succ]
  go_wp2_with fail
  rw [rounds_succ]
  go_wp2_with fail
  refine (grow0_any (n + n2) _ _ h0 (by omega) (by omega)).mono ?_
  rintro r w1 ⟨v, rfl, hk, ho⟩
  obtain ⟨A0, cp0, rfl, hcp⟩ := own_sl ho
  have HK := Lib.hid (show Kept w w1 from (by (repeat (first | exact Kept.refl _ | assumption | refine Kept.alloc ?_ _ | refine Kept.ext ?_ _ | refine Kept.drew ?_ | refine Kept.drewN ?_ _)) : Kept w w).trans hk)
  have HO := Lib.hid (own_mono ho (show w.heap.size ≤ _ by simp))
  have d0 := kept_cell c0 HK.out
  have d1 := kept_cell c1 HK.out
  have LG1 : Lower g w1.heap.size := ⟨cell_lt d0⟩
  clear hk ho
  go_wp2_with fail
  refine wp_loop_rounds 3 ?_
  rw [rounds_succ]
  have HPX := HP
  go_wp2_with (at_builtin; refine wpList_append_rows rfl _ _ 22 rfl w.heap.size 27 i1 _ 3 24 Try.underlying22 HJ.out.1 HJ.out.2.1 HJ.out.2.2.1 HJ.out.2.2.2 rfl (by omega) (kept_le HK.out) (.slice A0 0 cp0) 0 [] rfl (owns_kept HO.out (by (repeat (first | exact Kept.refl _ | assumption | refine Kept.alloc ?_ _ | refine Kept.ext ?_ _ | refine Kept.drew ?_ | refine Kept.drewN ?_ _)))) A n cap P rfl (HPX.out.of (HK.out.trans (by (repeat (first | exact Kept.refl _ | assumption | refine Kept.alloc ?_ _ | refine Kept.ext ?_ _ | refine Kept.drew ?_ | refine Kept.drewN ?_ _))))) (by unfold maxLen; omega) (by omega) ?_; intro A' cp' w' k1 k2; have K2 := Lib.hid (kept_grown (W := w) (HK.out.trans (by (repeat (first | exact Kept.refl _ | assumption | refine Kept.alloc ?_ _ | refine Kept.ext ?_ _ | refine Kept.drew ?_ | refine Kept.drewN ?_ _)))) (owns_kept HO.out (by (repeat (first | exact Kept.refl _ | assumption | refine Kept.alloc ?_ _ | refine Kept.ext ?_ _ | refine Kept.drew ?_ | refine Kept.drewN ?_ _)))) (Nat.le_refl _) k2); have K1 := Lib.hid k1; clear k1 k2)
  clear HPX HO d0 d1 LG1
  have d1 := kept_cell c1 K2.out
  have LG1 : Lower g w'.heap.size := ⟨cell_lt d1⟩
  have HPX := HP2
  have HO := K1
  have HKo := HK
  have HK := K2
  have K1 := K1.out
  simp only [Nat.zero_add, List.nil_append] at K1 HO ⊢
  rw [rounds_succ]
  go_wp2_with (at_builtin; refine wpList_append_rows rfl _ _ 22 rfl w.heap.size 27 i1 _ 3 24 Try.underlying22 HJ.out.1 HJ.out.2.1 HJ.out.2.2.1 HJ.out.2.2.2 rfl (by omega) (kept_le HK.out) (.slice A' n cp') n (rowC 3 P n) rfl (owns_kept HO.out (by (repeat (first | exact Kept.refl _ | assumption | refine Kept.alloc ?_ _ | refine Kept.ext ?_ _ | refine Kept.drew ?_ | refine Kept.drewN ?_ _)))) A2 n2 cap2 P2 rfl (HPX.out.of (HK.out.trans (by (repeat (first | exact Kept.refl _ | assumption | refine Kept.alloc ?_ _ | refine Kept.ext ?_ _ | refine Kept.drew ?_ | refine Kept.drewN ?_ _))))) (by unfold maxLen; omega) (by omega) ?_; intro A3 cp3 w3 k1 k2; have K3 := Lib.hid (kept_grown (W := w) (HK.out.trans (by (repeat (first | exact Kept.refl _ | assumption | refine Kept.alloc ?_ _ | refine Kept.ext ?_ _ | refine Kept.drew ?_ | refine Kept.drewN ?_ _)))) (owns_kept HO.out (by (repeat (first | exact Kept.refl _ | assumption | refine Kept.alloc ?_ _ | refine Kept.ext ?_ _ | refine Kept.drew ?_ | refine Kept.drewN ?_ _)))) (Nat.le_refl _) k2); have K4 := Lib.hid k1; clear k1 k2)
  rw [rounds_succ]
  go_wp2_with fail
  go_ret
  exact ⟨_, rfl, K3.out, K4.out⟩
end Go.Proofs.Ytbhcjdgfcinpcaa
