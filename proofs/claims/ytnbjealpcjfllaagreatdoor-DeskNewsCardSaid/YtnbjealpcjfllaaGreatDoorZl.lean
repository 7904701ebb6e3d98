/- Contracts: points, proofs in new memory, a shape in new memory, of the program. Conditions: the lists lie in memory. Contract: a shape in new memory, of the program. Conditions: the lists lie in memory, they are not long. The parts of joinedFacts of DeskNews. -/
import Derived.Test.YtnbjealpcjfllaaGreatDoorZd
import Derived.Test.YtnbjealpcjfllaaGreatDoorZk
import Derived.Deep.Onto
import Derived.Deep.RegionWith
import Derived.Test.YtnbjealpcjfllaaGreatDoorCards
import Derived.Test.YtnbjealpcjfllaaGreatDoorTie
import Derived.SevenTiedAt
namespace Go.Proofs.YtnbjealpcjfllaaGreatDoor
set_option linter.unusedVariables false
set_option linter.unusedSimpArgs false
open Go.ChangeShapes Go.WideShapes Go.ChangeAt Go.RowKit Go.Deep
theorem cloneP_any (B : Option Addr) (m cap2 : Nat) (F : Nat → Nat → Int) (w : World) (hm : m ≤ 1000) (hF : RowsAt w B m 3 F) :
    Calls Tryz.prog 67 #[.slice B m cap2] w fun r w' => ∃ v, r = .returned v ∧ Kept w w' ∧ w'.ownsRow w.heap.size 136 3 v m (rowC 3 F m) := by
  have HF := Lib.hid hF
  have q22 : ∀ (w : World) (a : Option Addr) (n c n' c' : Nat), (binOp .eql 39 (.slice a n c) (.slice none n' c')).run Tryz.prog w = .ok (.bool a.isNone) w := fun w a n c n' c' => Lib.run_eql_slice_nil w _ _ a n c n' c' Tryz.underlying39
  obtain ⟨i1, hi, hz0, hz1, hz2⟩ := info_parts infoPoint
  have HJ := Lib.hid (And.intro hi (And.intro hz0 (And.intro hz1 hz2)))
  clear hi hz0 hz1 hz2
  rcases B with _ | ad
  · have h0 : m = 0 := by
      rcases Nat.eq_zero_or_pos m with h | h
      · exact h
      · obtain ⟨b, off, h, -⟩ := hF h
        cases h
    subst h0
    clear hF HF
    go_enter Tryz.func67, Tryz.ntmps67
    go_wp2_with fail
    go_ret
    exact ⟨_, rfl, by (repeat (first | exact Kept.refl _ | assumption | refine Kept.alloc ?_ _ | refine Kept.ext ?_ _ | refine Kept.drew ?_ | refine Kept.drewN ?_ _)), World.ownsRow_nil _ _ _ _⟩
  · clear hF
    go_enter Tryz.func67, Tryz.ntmps67
    go_wp2_with (at_builtin; refine wpList_append_rows rfl _ _ 39 rfl w.heap.size 136 i1 _ 3 24 Tryz.underlying39 HJ.out.1 HJ.out.2.1 HJ.out.2.2.1 HJ.out.2.2.2 rfl (by omega) (by simp) _ 0 [] rfl (own_new _ _ (Nat.le_refl _)) (some ad) m cap2 F rfl (HF.out.of (by (repeat (first | exact Kept.refl _ | assumption | refine Kept.alloc ?_ _ | refine Kept.ext ?_ _ | refine Kept.drew ?_ | refine Kept.drewN ?_ _)))) (by unfold maxLen; omega) (by omega) ?_; intro A' cp' w' k1 k2; have K2 := Lib.hid k2; have K1 := Lib.hid k1; clear k1 k2)
    go_ret
    have k1 := K1.out
    simp only [Nat.zero_add, List.nil_append] at k1 ⊢
    exact ⟨_, rfl, kept_grown (W := w) (by (repeat (first | exact Kept.refl _ | assumption | refine Kept.alloc ?_ _ | refine Kept.ext ?_ _ | refine Kept.drew ?_ | refine Kept.drewN ?_ _))) (own_new (c := 3) _ _ (Nat.le_refl _)) (Nat.le_refl _) K2.out, k1⟩
theorem wpList_append_cells {P : Program} {w : World} {ops : Array Oper} {rest : List Oper} {op : Oper} {a : Act} {Q : Exit → Act → World → Prop} (hgd : op.guard = none) (s x : Operand) (t : TypeId)
    (ho : op.op = .call { callee := .builtin .append, args := #[s, x], argTypes := #[t, t] })
    (base : Nat) (e : TypeId) (i : TypeInfo) (z : Value) (c bytes : Nat) (ht : P.underlying t = some (.slice e)) (hi : P.info? e = some i) (hz : i.zero = some z)
    (hsize : i.size = c) (hby : i.bytes = bytes) (hzs : z.cells.size = c) (hc : 0 < c) (hbase : base ≤ w.heap.size)
    (v : Value) (n : Nat) (xs : List Value) (hs : a.eval s = v) (hown : w.ownsRow base e c v n xs)
    (ad : Addr) (m cp : Nat) (news : List Value) (hx : a.eval x = .slice (some ad) m cp) (hl : news.length = m * c) (hnews : ∀ j u, news[j]? = some u → w.cell? (ad.add j) = some u) (h1 : ∀ u ∈ news, u.oneCell' = true) (h63 : n + m ≤ maxLen) (hbytes : (n + m) * bytes ≤ 140737488355328)
    (h : ∀ A' cp' w', w'.ownsRow base e c (.slice A' (n + m) cp') (n + m) (xs ++ news) → w.grownBy w' v.ownBlock → wpList P ops Q rest (a.put op.dst (.slice A' (n + m) cp')) w') : wpList P ops Q (op :: rest) a w := by
  refine wpList_plain hgd fun K hK => ?_
  obtain ⟨v', w', hrun, h2, h3, h9⟩ := run_append_own (P := P) w base t op.type e i z c bytes ht hi hz hsize hby hzs hc v n xs hown ad m cp news hl hnews h1 h63 hbytes hbase
  obtain ⟨A', cp', rfl⟩ := own_slice2 h2
  unfold Oper.wp execOp
  simp only [ho, resolve, invoke, builtin, Sem.run_bind, Sem.run_pure, Result.andThen_ok, List.map_toArray, List.map_cons, List.map_nil, hs, hx, hrun]
  exact hK _ _ (h A' cp' w' h2 h3)
theorem infoCq : (Tryz.prog.info? 92).map (fun i => (i.zero, i.size, i.bytes)) = some (some (.agg #[.slice none 0 0, .int .i64 0, .int .i64 0, .int .i64 0]), 4, 48) := by kernel_rfl
theorem ctC_one (C : List CtV) : ∀ u ∈ ctC C, u.oneCell' = true := fun u hu => by
  unfold ctC at hu
  obtain ⟨c, -, hc⟩ := List.mem_flatMap.1 hu
  simp only [CtV.cells, List.mem_cons, List.not_mem_nil, or_false] at hc
  rcases hc with rfl | rfl | rfl | rfl <;> rfl
theorem cts_cells {w : World} {ad : Addr} {C : List CtV} (h : CtsAt w (some ad) C) : ∀ j u, (ctC C)[j]? = some u → w.cell? (ad.add j) = some u := fun j u hu => by
  have hj := (List.getElem?_eq_some_iff.1 hu).1
  rw [ctC_len] at hj
  obtain ⟨b, off, e, hb, hc⟩ := h (by omega)
  cases e
  have hk : j / 4 < C.length := by omega
  have h1 := hc (j / 4) hk (j % 4) (by omega)
  have h2 := ctC_at C (j / 4) (j % 4) hk (by omega)
  rw [show j / 4 * 4 + j % 4 = j by omega] at h2
  have e0 : ((Addr.mk b off none).add j) = ⟨b, off + j, none⟩ := by simp [Addr.add]
  rw [e0, show off + j = off + j / 4 * 4 + j % 4 by omega, h1, ← h2]
  exact hu
theorem cloneC_any (QA : Option Addr) (C : List CtV) (cap : Nat) (w : World) (hm : C.length ≤ 1000) (hC : CtsAt w QA C) :
    Calls Tryz.prog 69 #[.slice QA C.length cap] w fun r w' => ∃ v, r = .returned v ∧ Kept w w' ∧ w'.ownsRow w.heap.size 92 4 v C.length (ctC C) := by
  have HC := Lib.hid hC
  obtain ⟨m, hmm⟩ : ∃ m, C.length = m := ⟨_, rfl⟩
  have hcl := ctC_len C
  rw [hmm] at hm hcl ⊢
  have q22 : ∀ (w : World) (a : Option Addr) (n c n' c' : Nat), (binOp .eql 45 (.slice a n c) (.slice none n' c')).run Tryz.prog w = .ok (.bool a.isNone) w := fun w a n c n' c' => Lib.run_eql_slice_nil w _ _ a n c n' c' Tryz.underlying45
  obtain ⟨i1, hi, hz0, hz1, hz2⟩ := info_parts infoCq
  have HJ := Lib.hid (And.intro hi (And.intro hz0 (And.intro hz1 hz2)))
  have HCL := Lib.hid hcl
  have HMM := Lib.hid hmm
  clear hi hz0 hz1 hz2 hC hcl hmm
  rcases QA with _ | ad
  · have h0 : m = 0 := by
      rcases Nat.eq_zero_or_pos m with h | h
      · exact h
      · obtain ⟨b, off, h, -⟩ := HC.out (by rw [HMM.out]; exact h)
        cases h
    have hn : C = [] := List.length_eq_zero_iff.1 (by rw [HMM.out, h0])
    subst h0
    subst hn
    clear HC HCL HMM
    go_enter Tryz.func69, Tryz.ntmps69
    go_wp2_with fail
    go_ret
    exact ⟨_, rfl, by (repeat (first | exact Kept.refl _ | assumption | refine Kept.alloc ?_ _ | refine Kept.ext ?_ _ | refine Kept.drew ?_ | refine Kept.drewN ?_ _)), World.ownsRow_nil _ _ _ _⟩
  · go_enter Tryz.func69, Tryz.ntmps69
    go_wp2_with (at_builtin; refine wpList_append_cells rfl _ _ 45 rfl w.heap.size 92 i1 _ 4 48 Tryz.underlying45 HJ.out.1 HJ.out.2.1 HJ.out.2.2.1 HJ.out.2.2.2 rfl (by omega) (by simp) _ 0 [] rfl (own_new _ _ (Nat.le_refl _)) ad m cap (ctC C) rfl HCL.out (cts_cells (HC.out.of (by (repeat (first | exact Kept.refl _ | assumption | refine Kept.alloc ?_ _ | refine Kept.ext ?_ _ | refine Kept.drew ?_ | refine Kept.drewN ?_ _))))) (ctC_one C) (by unfold maxLen; omega) (by omega) ?_; intro A' cp' w' k1 k2; have K2 := Lib.hid k2; have K1 := Lib.hid k1; clear k1 k2)
    go_ret
    have k1 := K1.out
    simp only [Nat.zero_add, List.nil_append] at k1 ⊢
    exact ⟨_, rfl, kept_grown (W := w) (by (repeat (first | exact Kept.refl _ | assumption | refine Kept.alloc ?_ _ | refine Kept.ext ?_ _ | refine Kept.drew ?_ | refine Kept.drewN ?_ _))) (own_new (c := 4) _ _ (Nat.le_refl _)) (Nat.le_refl _) K2.out, k1⟩
end Go.Proofs.YtnbjealpcjfllaaGreatDoor

namespace Go.Proofs.YtnbjealpcjfllaaGreatDoor
set_option linter.unusedVariables false
set_option linter.unusedSimpArgs false
open Go.ChangeShapes Go.WideShapes Go.ChangeAt Go.RowKit Go.Deep
theorem rows_i64 {w : World} {A : Option Addr} {n c : Nat} {f : Nat → Nat → Int} (h : RowsAt w A n c f) : ∀ k, k < n → ∀ j, j < c → I64 (f k j) := fun k hk j hj => by
  obtain ⟨b, off, e, hb, hc⟩ := h (by omega)
  exact (hc k hk j hj).2
theorem rows_late {X X' : World} {A : Option Addr} {n c l : Nat} {f : Nat → Nat → Int} (h : RowsAt X A n c f) (hb : ∀ a, A = some a → l ≤ a.block) (hl : Late l X X') : RowsAt X' A n c f := fun h0 => by
  obtain ⟨b, off, e, hlt, hc⟩ := h h0
  have hb := hb _ e
  refine ⟨b, off, e, by rw [hl.size]; exact hlt, fun k hk j hj => ⟨?_, (hc k hk j hj).2⟩⟩
  have := (hc k hk j hj).1
  unfold World.cell? at *
  rw [hl.late b hb]
  exact this
theorem cell_blk9 {w : World} {b o : Nat} {cs : Array Value} {T : TypeId} {v : Value} (h : w.heap[b]? = some (.cells cs T (0, 0))) (hv : cs[o]? = some v) : w.cell? ⟨b, o, none⟩ = some v := by
  unfold World.cell?
  simp [h, hv]
theorem ctC_set : ∀ (C : List CtV) (i j : Nat) (h : i < C.length) (c' : CtV) (x : Value), j < 4 → c'.cells = (C[i]).cells.set j x → (ctC C).set (i * 4 + j) x = ctC (C.set i c')
  | c :: C, 0, j, h, c', x, hj, e => by
    show (c.cells ++ ctC C).set (0 * 4 + j) x = c'.cells ++ ctC C
    have e : c'.cells = c.cells.set j x := e
    rw [e, show 0 * 4 + j = j by omega, List.set_append_left _ _ (show j < c.cells.length from hj)]
  | c :: C, i + 1, j, h, c', x, hj, e => by
    show (c.cells ++ ctC C).set ((i + 1) * 4 + j) x = c.cells ++ ctC (C.set i c')
    rw [List.set_append_right _ _ (show c.cells.length ≤ _ from (by show 4 ≤ _; omega)), show (i + 1) * 4 + j - c.cells.length = i * 4 + j by show _ - 4 = _; omega]
    rw [ctC_set C i j (by simpa using h) c' x hj (by simpa using e)]
theorem new_at9 {o : Obj} {n : Nat} (X : World) (h : X.heap.size = n) : (X.alloc o).heap[n]? = some o := by
  rw [← h]
  exact heap_alloc_new X o
/-- What the proofs of a copy are, the first k of which are new. -/
def CpI (wr : World) (S : Nat → Prop) (C C' : List CtV) (fs : Nat → Nat → Nat → Int) (k : Nat) : Prop :=
  C'.length = C.length ∧ ∀ j (h : j < C'.length) (h' : j < C.length), (C'[j]).n = (C[j]).n ∧ (C'[j]).d = (C[j]).d ∧ (C'[j]).lo = (C[j]).lo ∧ (C'[j]).hi = (C[j]).hi ∧ RowsAt wr (C'[j]).A (C[j]).n 1 (fs j) ∧ (0 < (C[j]).n → Off S (C'[j]).A) ∧ (k ≤ j → C'[j] = C[j])
set_option maxRecDepth 100000 in
set_option maxHeartbeats 8000000 in
theorem dcopied_any (nm : List UInt8) (pA fA qA : Option Addr) (n pc m fc qc : Nat) (P F : Nat → Nat → Int) (lo hi : Int) (C : List CtV) (fs : Nat → Nat → Nat → Int) (w : World) (hn : n ≤ 1000 ∧ m ≤ 1000 ∧ C.length ≤ 1000) (hP : RowsAt w pA n 3 P) (hF : RowsAt w fA m 3 F) (hC : CtsAt w qA C) (hch : ∀ k (h : k < C.length), (C[k]).n ≤ 1000 ∧ RowsAt w (C[k]).A (C[k]).n 1 (fs k)) :
    Calls Tryz.prog 36 #[.agg #[.string ⟨nm.toArray⟩, .slice pA n pc, .slice fA m fc, .int .i64 lo, .int .i64 hi, .slice qA C.length qc]] w fun r w' => ∃ A1 c1 A2 c2 A3 c3 C', r = .returned (.agg #[.string ⟨nm.toArray⟩, .slice A1 n c1, .slice A2 m c2, .int .i64 lo, .int .i64 hi, .slice A3 C.length c3]) ∧ Kept w w' ∧ RowsAt w' A1 n 3 P ∧ RowsAt w' A2 m 3 F ∧ CtsAt w' A3 C' ∧ C'.length = C.length ∧ ∀ k (h : k < C'.length) (h' : k < C.length), (C'[k]).n = (C[k]).n ∧ (C'[k]).d = (C[k]).d ∧ (C'[k]).lo = (C[k]).lo ∧ (C'[k]).hi = (C[k]).hi ∧ RowsAt w' (C'[k]).A (C[k]).n 1 (fs k) := by
  have q1 : ∀ w', Kept w w' → Calls Tryz.prog 67 #[.slice pA n pc] w' (fun r w'' => ∃ A c, r = .returned (.slice A n c) ∧ Kept w' w'' ∧ w''.ownsRow w'.heap.size 136 3 (.slice A n c) n (rowC 3 P n)) := fun w' hk => (cloneP_any pA n pc P w' hn.1 (hP.of hk)).mono fun r w'' ⟨v, h1, h2, h3⟩ => by
    obtain ⟨A, c, rfl⟩ := own_slice2 h3
    exact ⟨A, c, h1, h2, h3⟩
  have q2 : ∀ w', Kept w w' → Calls Tryz.prog 68 #[.slice fA m fc] w' (fun r w'' => ∃ A c, r = .returned (.slice A m c) ∧ Kept w' w'' ∧ w''.ownsRow w'.heap.size 138 3 (.slice A m c) m (rowC 3 F m)) := fun w' hk => (clone_any fA m fc F w' hn.2.1 (hF.of hk)).mono fun r w'' ⟨v, h1, h2, h3⟩ => by
    obtain ⟨A, c, rfl⟩ := own_slice2 h3
    exact ⟨A, c, h1, h2, h3⟩
  have q3 : ∀ w', Kept w w' → Calls Tryz.prog 69 #[.slice qA C.length qc] w' (fun r w'' => ∃ A c, r = .returned (.slice A C.length c) ∧ Kept w' w'' ∧ w''.ownsRow w'.heap.size 92 4 (.slice A C.length c) C.length (ctC C)) := fun w' hk => (cloneC_any qA C qc w' hn.2.2 (hC.of hk)).mono fun r w'' ⟨v, h1, h2, h3⟩ => by
    obtain ⟨A, c, rfl⟩ := own_slice2 h3
    exact ⟨A, c, h1, h2, h3⟩
  have Q1 := Lib.hid q1
  have Q2 := Lib.hid q2
  have Q3 := Lib.hid q3
  have HCH := Lib.hid hch
  have IP := Lib.hid (rows_i64 hP)
  have IF := Lib.hid (rows_i64 hF)
  clear q1 q2 q3 hP hF hC hch
  go_enter Tryz.func36, Tryz.ntmps36
  go_wp2_with fail
  go_region_with ((first | (go_at_call 67; (with_reducible refine (Q1.out _ (by (repeat (first | exact Kept.refl _ | assumption | refine Kept.alloc ?_ _ | refine Kept.ext ?_ _ | refine Kept.drew ?_ | refine Kept.drewN ?_ _)))).mono ?_); rintro e w1 ⟨A1, c1, rfl, ⟨y1, rfl⟩, ho⟩; have HO1 := Lib.hid ho; clear ho) | (go_at_call 68; (with_reducible refine (Q2.out _ (by (repeat (first | exact Kept.refl _ | assumption | refine Kept.alloc ?_ _ | refine Kept.ext ?_ _ | refine Kept.drew ?_ | refine Kept.drewN ?_ _)))).mono ?_); rintro e w1 ⟨A2, c2, rfl, ⟨y2, rfl⟩, ho⟩; have HO2 := Lib.hid ho; clear ho) | fail))
  all_goals (
    go_wp2_with (go_at_call 69; (with_reducible refine (Q3.out _ (by (repeat (first | exact Kept.refl _ | assumption | refine Kept.alloc ?_ _ | refine Kept.ext ?_ _ | refine Kept.drew ?_ | refine Kept.drewN ?_ _)))).mono ?_); rintro e w1 ⟨A3, c3, rfl, ⟨y3, rfl⟩, ho⟩; have HO3 := Lib.hid ho; clear ho)
    refine wp_gen (fun W8 hW8 => ?_)
    have k8 : Kept w W8 := by rw [hW8]; (repeat (first | exact Kept.refl _ | assumption | refine Kept.alloc ?_ _ | refine Kept.ext ?_ _ | refine Kept.drew ?_ | refine Kept.drewN ?_ _))
    have hbox : W8.heap[w.heap.size]? = some (.cells #[.string ⟨nm.toArray⟩, .slice A1 n c1, .slice A2 m c2, .int .i64 lo, .int .i64 hi, .slice A3 C.length c3] 47 (0, 0)) := by rw [hW8]; exact fr_kept (heap_alloc_new w _) (by (repeat (first | exact Kept.refl _ | assumption | refine Kept.alloc ?_ _ | refine Kept.ext ?_ _ | refine Kept.drew ?_ | refine Kept.drewN ?_ _)))
    have hzz : W8.heap[w.heap.size + 1]? = some (.cells #[.string ⟨#[]⟩, .slice none 0 0, .slice none 0 0, .int .i64 0, .int .i64 0, .slice none 0 0] 47 (0, 0)) := by
      rw [hW8]
      exact fr_kept (new_at9 (w.alloc (.cells #[.string ⟨nm.toArray⟩, .slice A1 n c1, .slice A2 m c2, .int .i64 lo, .int .i64 hi, .slice A3 C.length c3] 47)) (by simp)) (by (repeat (first | exact Kept.refl _ | assumption | refine Kept.alloc ?_ _ | refine Kept.ext ?_ _ | refine Kept.drew ?_ | refine Kept.drewN ?_ _)))
    have L0 := ((Late.base (W := w.alloc (.cells #[.string ⟨nm.toArray⟩, .slice pA n pc, .slice fA m fc, .int .i64 lo, .int .i64 hi, .slice qA C.length qc] 47)) (W' := w.alloc (.cells #[.string ⟨nm.toArray⟩, .slice A1 n c1, .slice A2 m c2, .int .i64 lo, .int .i64 hi, .slice A3 C.length c3] 47)) (by simp)).alloc (.cells #[.string ⟨#[]⟩, .slice none 0 0, .slice none 0 0, .int .i64 0, .int .i64 0, .slice none 0 0] 47))
    have L1 := ((Late.base (W := w.alloc (.cells #[.string ⟨nm.toArray⟩, .slice A1 n c1, .slice A2 m c2, .int .i64 lo, .int .i64 hi, .slice qA C.length qc] 47)) (W' := w.alloc (.cells #[.string ⟨nm.toArray⟩, .slice A1 n c1, .slice A2 m c2, .int .i64 lo, .int .i64 hi, .slice A3 C.length c3] 47)) (by simp)).alloc (.cells #[.string ⟨#[]⟩, .slice none 0 0, .slice none 0 0, .int .i64 0, .int .i64 0, .slice none 0 0] 47))
    have hA1 : RowsAt W8 A1 n 3 P := by
      rw [hW8]
      exact (rows_late (rows_of_owns HO1.out IP.out) (fun a e => by
        have h9 : ((w.alloc (.cells #[.string ⟨nm.toArray⟩, .slice pA n pc, .slice fA m fc, .int .i64 lo, .int .i64 hi, .slice qA C.length qc] 47)).alloc (.cells #[.string ⟨#[]⟩, .slice none 0 0, .slice none 0 0, .int .i64 0, .int .i64 0, .slice none 0 0] 47)).heap.size ≤ a.block := (HO1.out.lt a.block (by rw [e]; rfl)).1
        simp only [World.size_alloc] at h9 ⊢
        omega) (L0.ext y1)).of (by (repeat (first | exact Kept.refl _ | assumption | refine Kept.alloc ?_ _ | refine Kept.ext ?_ _ | refine Kept.drew ?_ | refine Kept.drewN ?_ _)))
    have hA2 : RowsAt W8 A2 m 3 F := by
      rw [hW8]
      exact (rows_late (rows_of_owns HO2.out IF.out) (fun a e => by
        have h9 : (ext ((w.alloc (.cells #[.string ⟨nm.toArray⟩, .slice pA n pc, .slice fA m fc, .int .i64 lo, .int .i64 hi, .slice qA C.length qc] 47)).alloc (.cells #[.string ⟨#[]⟩, .slice none 0 0, .slice none 0 0, .int .i64 0, .int .i64 0, .slice none 0 0] 47)) y1).heap.size ≤ a.block := (HO2.out.lt a.block (by rw [e]; rfl)).1
        simp only [ext_size, World.size_alloc, adv] at h9 ⊢
        omega) ((L0.ext y1).ext y2)).of (by (repeat (first | exact Kept.refl _ | assumption | refine Kept.alloc ?_ _ | refine Kept.ext ?_ _ | refine Kept.drew ?_ | refine Kept.drewN ?_ _)))
    obtain ⟨b8, hb8⟩ : ∃ x, (ext (ext ((w.alloc (.cells #[.string ⟨nm.toArray⟩, .slice A1 n c1, .slice A2 m c2, .int .i64 lo, .int .i64 hi, .slice qA C.length qc] 47)).alloc (.cells #[.string ⟨#[]⟩, .slice none 0 0, .slice none 0 0, .int .i64 0, .int .i64 0, .slice none 0 0] 47)) y1) y2).heap.size = x := ⟨_, rfl⟩
    have hb3 : w.heap.size + 1 + 1 ≤ b8 := by
      rw [← hb8]
      simp only [ext_size, World.size_alloc, adv]
      omega
    have n1 : ∀ a, A1 = some a → w.heap.size + 1 < a.block ∧ a.block < b8 := fun a e => by
      have h8 : ((w.alloc (.cells #[.string ⟨nm.toArray⟩, .slice pA n pc, .slice fA m fc, .int .i64 lo, .int .i64 hi, .slice qA C.length qc] 47)).alloc (.cells #[.string ⟨#[]⟩, .slice none 0 0, .slice none 0 0, .int .i64 0, .int .i64 0, .slice none 0 0] 47)).heap.size ≤ a.block := (HO1.out.lt a.block (by rw [e]; rfl)).1
      have h9 : a.block < (ext ((w.alloc (.cells #[.string ⟨nm.toArray⟩, .slice pA n pc, .slice fA m fc, .int .i64 lo, .int .i64 hi, .slice qA C.length qc] 47)).alloc (.cells #[.string ⟨#[]⟩, .slice none 0 0, .slice none 0 0, .int .i64 0, .int .i64 0, .slice none 0 0] 47)) y1).heap.size := (HO1.out.lt a.block (by rw [e]; rfl)).2
      rw [← hb8]
      simp only [ext_size, World.size_alloc, adv] at h8 h9 ⊢
      omega
    have n2 : ∀ a, A2 = some a → w.heap.size + 1 < a.block ∧ a.block < b8 := fun a e => by
      have h8 : (ext ((w.alloc (.cells #[.string ⟨nm.toArray⟩, .slice pA n pc, .slice fA m fc, .int .i64 lo, .int .i64 hi, .slice qA C.length qc] 47)).alloc (.cells #[.string ⟨#[]⟩, .slice none 0 0, .slice none 0 0, .int .i64 0, .int .i64 0, .slice none 0 0] 47)) y1).heap.size ≤ a.block := (HO2.out.lt a.block (by rw [e]; rfl)).1
      have h9 : a.block < (ext (ext ((w.alloc (.cells #[.string ⟨nm.toArray⟩, .slice pA n pc, .slice fA m fc, .int .i64 lo, .int .i64 hi, .slice qA C.length qc] 47)).alloc (.cells #[.string ⟨#[]⟩, .slice none 0 0, .slice none 0 0, .int .i64 0, .int .i64 0, .slice none 0 0] 47)) y1) y2).heap.size := (HO2.out.lt a.block (by rw [e]; rfl)).2
      rw [← hb8]
      simp only [ext_size, World.size_alloc, adv] at h8 h9 ⊢
      omega
    have hO3 : W8.ownsRow b8 92 4 (.slice A3 C.length c3) C.length (ctC C) := by
      rw [hW8, ← hb8]
      exact (((L1.ext y1).ext y2).ext y3).owns HO3.out (by simp only [ext_size, World.size_alloc, adv]; omega)
    obtain ⟨S3, hS3⟩ : ∃ S : Nat → Prop, S = fun q => (Value.slice A3 C.length c3).ownBlock = some q := ⟨_, rfl⟩
    have hSb : ∀ q, S3 q → b8 ≤ q := fun q e => by rw [hS3] at e; exact (hO3.lt q e).1
    have hch8 : CpI W8 (fun q => S3 q ∨ q = w.heap.size + 1) C C fs 0 := ⟨rfl, fun j h h' => ⟨rfl, rfl, rfl, rfl, (HCH.out j h').2.of k8, fun h0 a ea hs => by
      obtain ⟨b5, o5, e5, l5, -⟩ := (HCH.out j h').2 h0
      rw [ea] at e5
      cases e5
      have h6 : b5 < w.heap.size := l5
      rcases hs with hs | hs
      · have h7 : b8 ≤ b5 := hSb _ hs
        omega
      · have h7 : b5 = w.heap.size + 1 := hs
        omega, fun _ => rfl⟩⟩
    have HS3 := Lib.hid hS3
    have HSB := Lib.hid hSb
    have HN1 := Lib.hid n1
    have HN2 := Lib.hid n2
    have K8 := Lib.hid k8
    have HBOX := Lib.hid hbox
    have HZZ := Lib.hid hzz
    have HA1 := Lib.hid hA1
    have HA2 := Lib.hid hA2
    have HO8 := Lib.hid hO3
    have HC8 := Lib.hid hch8
    clear k8 hbox hzz L0 L1 hA1 hA2 hO3 hch8 hW8 HO1 HO2 HO3 Q1 Q2 Q3 hS3 hSb n1 n2 hb8
    go_loopw [3, 21] (fun v3 i wr => ∃ (k : Nat) (C' : List CtV), k ≤ C.length ∧ i = .int .i64 k ∧ KB S3 W8 wr ∧ wr.ownsRow b8 92 4 (.slice A3 C.length c3) C.length (ctC C') ∧ CpI wr (fun q => S3 q ∨ q = w.heap.size + 1) C C' fs k) (fun _ i _ => C.length - (intOf i).toNat)
    case atStart => exact ⟨0, C, Nat.zero_le _, rfl, KB.refl _ _, HO8.out, HC8.out⟩
    case round =>
      obtain ⟨k, C', hk, rfl, hkb, how, hcp⟩ := hrel
      have hbx := hkb.at HBOX.out (fun e => by have := HSB.out _ e; omega)
      have x5 : wr.cell? ⟨w.heap.size, 5, none⟩ = some (.slice A3 C.length c3) := cell_blk9 hbx rfl
      have LX : Lower w.heap.size wr.heap.size := ⟨cell_lt x5⟩
      have HKB := Lib.hid hkb
      have HOW := Lib.hid how
      have HCP := Lib.hid hcp
      have HBX := Lib.hid hbx
      by_cases hlt : k < C.length
      · have hk' : k < C'.length := by rw [hcp.1]; exact hlt
        obtain ⟨p1, p2, p3, p4, p5, p6, p7⟩ := hcp.2 k hk' hlt
        obtain ⟨g3, cc3, e3, -, -⟩ := how.form (by omega)
        simp only [Value.slice.injEq] at e3
        obtain ⟨rfl, -, rfl⟩ := e3
        obtain ⟨b3, o3, e3, l3, z0, z1, z2, z3⟩ := (owns_cts (by rw [hcp.1]; exact how)).at hk'
        cases e3
        obtain ⟨x, hx⟩ : ∃ x, C'[k] = x := ⟨_, rfl⟩
        rw [hx] at z0 p1 p2 p3 p4 p5 p6 p7
        rw [Nat.zero_add] at z0
        have hxn := (HCH.out k hlt).1
        have q4 : ∀ w', Kept wr w' → Calls Tryz.prog 70 #[.slice x.A x.n x.cap] w' (fun r w'' => ∃ A c, r = .returned (.slice A x.n c) ∧ Kept w' w'' ∧ w''.ownsRow w'.heap.size 3 1 (.slice A x.n c) x.n (rowC 1 (fs k) x.n)) := fun w' hk => (cloneI_any x.A x.n x.cap (fs k) w' (by omega) (by rw [p1]; exact p5.of hk)).mono fun r w'' ⟨v, h1, h2, h3⟩ => by
          obtain ⟨A, c, rfl⟩ := own_slice2 h3
          exact ⟨A, c, h1, h2, h3⟩
        have Q4 := Lib.hid q4
        have L3 : Lower g3 wr.heap.size := ⟨l3⟩
        have f3 : wr.frozen? ⟨g3, k * 4, none⟩ = false := how.frozenAt _
        have HP5 := Lib.hid p5
        have HPX := Lib.hid (And.intro p1 (And.intro p2 (And.intro p3 p4)))
        have HX := Lib.hid hx
        have hng : ∃ q, q = w.heap.size ∧ q ≠ g3 := ⟨_, rfl, by have := (how.lt g3 rfl).1; omega⟩
        have hng1 : w.heap.size ≠ g3 := by have := (how.lt g3 rfl).1; omega
        have hng2 : g3 ≠ w.heap.size := fun e => hng1 e.symm
        clear q4 hkb how hcp hbx z1 z2 z3 p1 p2 p3 p4 p5 p6 p7 hx hng
        go_wp2_with fail
        go_region_with ((go_at_call 70; (with_reducible refine (Q4.out _ (by (repeat (first | exact Kept.refl _ | assumption | refine Kept.alloc ?_ _ | refine Kept.ext ?_ _ | refine Kept.drew ?_ | refine Kept.drewN ?_ _)))).mono ?_); rintro e w1 ⟨A4, c4, rfl, ⟨y4, rfl⟩, ho⟩; have HO4 := Lib.hid ho; clear ho))
        all_goals (
          go_wp2_with fail
          go_roundw
          case rel =>
            have kbn : KB S3 wr (ext (wr.setCell ⟨g3, k * 4, none⟩ (.slice A4 x.n c4)) y4) := ((KB.refl S3 wr).setCell (p := ⟨g3, k * 4, none⟩) (fun _ => by rw [HS3.out]; rfl) _).ext y4
            have hst := owns_kept (HOW.out.stored (k * 4) (.slice A4 x.n c4)).1 (⟨y4, rfl⟩ : Kept _ (ext (wr.setCell ⟨g3, k * 4, none⟩ (.slice A4 x.n c4)) y4))
            have hkl : k < C'.length := by rw [HCP.out.1]; exact hlt
            rw [show k * 4 = k * 4 + 0 by omega, ctC_set C' k 0 hkl { x with A := A4, cap := c4 } _ (by omega) (by rw [HX.out]; rfl)] at hst
            have hA4 : ∀ a, A4 = some a → wr.heap.size ≤ a.block := fun a e => (HO4.out.lt a.block (by rw [e]; rfl)).1
            have hr4 : RowsAt (ext (wr.setCell ⟨g3, k * 4, none⟩ (.slice A4 x.n c4)) y4) A4 x.n 1 (fs k) := by
              refine rows_late (rows_of_owns HO4.out fun q hq j hj => ?_) hA4 ((Late.base (W := wr) (W' := wr.setCell ⟨g3, k * 4, none⟩ (.slice A4 x.n c4)) (by simp [World.setCell])).ext y4)
              have := rows_i64 HP5.out q (by rw [← HPX.out.1]; exact hq) j hj
              exact this
            obtain ⟨p1, p2, p3, p4⟩ := HPX.out
            refine ⟨k + 1, C'.set k { x with A := A4, cap := c4 }, by omega, by go_num, HKB.out.trans kbn, by rw [show k * 4 = k * 4 + 0 by omega]; exact hst, by rw [List.length_set]; exact HCP.out.1, fun j a b => ?_⟩
            rw [List.length_set] at a
            by_cases hjk : k = j
            · subst hjk
              rw [List.getElem_set_self]
              refine ⟨p1, p2, p3, p4, by rw [← p1]; exact hr4, fun h0 q hq hs => ?_, fun h => absurd h (by omega)⟩
              have h5 := hA4 q hq
              have h6 := (HOW.out.lt g3 rfl)
              rcases hs with hs | hs
              · rw [HS3.out] at hs
                have : g3 = q.block := Option.some.inj hs
                omega
              · have h7 : q.block = w.heap.size + 1 := hs
                have h8 := HBX.out
                omega
            · obtain ⟨o1, o2, o3', o4, o5, o6, o7⟩ := HCP.out.2 j a b
              rw [List.getElem_set_ne hjk]
              exact ⟨o1, o2, o3', o4, kbn.rows o5 (fun h0 q hq hs => o6 h0 q hq (.inl hs)), o6, fun h => o7 (by omega)⟩
          case measure => simp [intOf]; omega)
      · obtain rfl : k = C.length := by omega
        have hzw := hkb.at HZZ.out (fun e => by have := HSB.out _ e; omega)
        have x0 : wr.cell? ⟨w.heap.size, 0, none⟩ = some (.string ⟨nm.toArray⟩) := cell_blk9 hbx rfl
        have x1 : wr.cell? ⟨w.heap.size, 1, none⟩ = some (.slice A1 n c1) := cell_blk9 hbx rfl
        have x2 : wr.cell? ⟨w.heap.size, 2, none⟩ = some (.slice A2 m c2) := cell_blk9 hbx rfl
        have x3 : wr.cell? ⟨w.heap.size, 3, none⟩ = some (.int .i64 lo) := cell_blk9 hbx rfl
        have x4 : wr.cell? ⟨w.heap.size, 4, none⟩ = some (.int .i64 hi) := cell_blk9 hbx rfl
        have hrow := setRow_heap _ _ _ #[.string ⟨nm.toArray⟩, .slice A1 n c1, .slice A2 m c2, .int .i64 lo, .int .i64 hi, .slice A3 C.length c3] _ _ hzw
        have r0 := cell_blk9 (o := 0) hrow rfl
        have r1 := cell_blk9 (o := 1) hrow rfl
        have r2 := cell_blk9 (o := 2) hrow rfl
        have r3 := cell_blk9 (o := 3) hrow rfl
        have r4 := cell_blk9 (o := 4) hrow rfl
        have r5 := cell_blk9 (o := 5) hrow rfl
        have HZW := Lib.hid hzw
        clear hkb how hcp hbx hzw hrow
        go_wp2_with (refine wpList_store_row rfl 47 (.tmp 2) (.tmp 37) rfl (w.heap.size + 1) #[.string ⟨nm.toArray⟩, .slice A1 n c1, .slice A2 m c2, .int .i64 lo, .int .i64 hi, .slice A3 C.length c3] rfl rfl _ _ HZW.out (by kernel_rfl) rfl (by simp [Value.oneCell']) ?_)
        refine bodyPost_ret (by simp only [results, Tryz.results36]; go_simp; rfl) rfl ?_
        have ks : KB (fun q => q = w.heap.size + 1) wr (wr.setRow (w.heap.size + 1) #[.string ⟨nm.toArray⟩, .slice A1 n c1, .slice A2 m c2, .int .i64 lo, .int .i64 hi, .slice A3 C.length c3]) := (KB.refl _ wr).grown (grown_setRow _ _ _) (fun q e _ => by first | exact (Option.some.inj e).symm | exact Option.some.inj e)
        have kwr : Kept w wr := KB.kept_new K8.out HKB.out (fun q hq e => by have := HSB.out q e; omega)
        have h1 : RowsAt wr A1 n 3 P := HKB.out.rows HA1.out (fun _ q e hs => by have h8 := HSB.out _ hs; have h9 := HN1.out q e; omega)
        have h2 : RowsAt wr A2 m 3 F := HKB.out.rows HA2.out (fun _ q e hs => by have h8 := HSB.out _ hs; have h9 := HN2.out q e; omega)
        have how2 := ks.owns HOW.out (fun q e hs => by have h8 := (HOW.out.lt q e).1; omega)
        refine ⟨A1, c1, A2, c2, A3, c3, C', rfl, row_kept2 kwr (Nat.le_succ _), ks.rows h1 (fun _ q e hs => by have h9 := (HN1.out q e).1; have h10 : q.block = w.heap.size + 1 := hs; omega), ks.rows h2 (fun _ q e hs => by have h9 := (HN2.out q e).1; have h10 : q.block = w.heap.size + 1 := hs; omega), owns_cts (by rw [HCP.out.1]; exact how2), HCP.out.1, fun j a b => ?_⟩
        obtain ⟨o1, o2, o3', o4, o5, o6, o7⟩ := HCP.out.2 j a b
        exact ⟨o1, o2, o3', o4, ks.rows o5 (fun h0 q hq hs => o6 h0 q hq (.inr hs))⟩)
end Go.Proofs.YtnbjealpcjfllaaGreatDoor

namespace Go.Proofs.YtnbjealpcjfllaaGreatDoor
set_option linter.unusedVariables false
set_option linter.unusedSimpArgs false
set_option linter.unusedVariables false
set_option linter.unusedSimpArgs false
open Go.ChangeShapes Go.WideShapes Go.ChangeAt Go.RowKit Go.Deep Go.MuLone
theorem jDeskNews9 : (Rows.deskNewsRow.inPlace == Tryz.prog.inPlace 4) = true := by kernel_rfl
theorem jDeskNews10 : (Rows.deskNewsRow.unfollowed == Tryz.prog.unfollowed 4) = true := by kernel_rfl
theorem jDeskNews11 : (Rows.deskNewsRow.recurses == Tryz.prog.recurses 4) = true := by kernel_rfl
theorem jDeskNews12 : (Rows.deskNewsRow.named == Tryz.prog.varsNamed 4) = true := by kernel_rfl
end Go.Proofs.YtnbjealpcjfllaaGreatDoor

