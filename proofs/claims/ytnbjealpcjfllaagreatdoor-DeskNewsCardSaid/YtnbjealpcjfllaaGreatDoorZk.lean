/- Contracts: a mesh turned, scaled, moved, mirrored, of the reference. Conditions: the lists' lengths are ints. Contracts: a list of faces in new memory, and a mesh whose points are changed by a function value, of the program. Conditions: the lists are not long; what the function value returns. Contracts: a copy of charges, a certificate, of the program. Conditions: the lists are not long. A desk in memory whose shape has one proof more, or another span. Conditions: those of each theorem. Contract: a certificate that cannot be made, of the program. Conditions: the lists are not long. -/
import Derived.Test.YtnbjealpcjfllaaGreatDoorZa
import Derived.Test.YtnbjealpcjfllaaGreatDoorZe
import Derived.Lib.SliceRun
import Derived.Laws.ByValue
import Derived.Test.YtnbjealpcjfllaaGreatDoorZi
import Derived.Test.YtnbjealpcjfllaaGreatDoorKb
import Derived.Test.YtnbjealpcjfllaaGreatDoorZb
namespace Go.Proofs.YtnbjealpcjfllaaGreatDoor
set_option linter.unusedVariables false
set_option linter.unusedSimpArgs false
open Go.RowKit Go.Deep
end Go.Proofs.YtnbjealpcjfllaaGreatDoor

namespace Go.Proofs.YtnbjealpcjfllaaGreatDoor
set_option linter.unusedVariables false
set_option linter.unusedSimpArgs false
open Go.RowKit Go.Deep
theorem wpList_append_rows {P : Program} {w : World} {ops : Array Oper} {rest : List Oper} {op : Oper} {a : Act} {Q : Exit → Act → World → Prop} (hgd : op.guard = none) (s x : Operand) (t : TypeId)
    (ho : op.op = .call { callee := .builtin .append, args := #[s, x], argTypes := #[t, t] })
    (base : Nat) (e : TypeId) (i : TypeInfo) (z : Value) (c bytes : Nat) (ht : P.underlying t = some (.slice e)) (hi : P.info? e = some i) (hz : i.zero = some z)
    (hsize : i.size = c) (hby : i.bytes = bytes) (hzs : z.cells.size = c) (hc : 0 < c) (hbase : base ≤ w.heap.size)
    (v : Value) (n : Nat) (xs : List Value) (hs : a.eval s = v) (hown : w.ownsRow base e c v n xs)
    (A : Option Addr) (m cp : Nat) (f : Nat → Nat → Int) (hx : a.eval x = .slice A m cp) (hr : RowsAt w A m c f) (h63 : n + m ≤ maxLen) (hbytes : (n + m) * bytes ≤ 140737488355328)
    (h : ∀ A' cp' w', w'.ownsRow base e c (.slice A' (n + m) cp') (n + m) (xs ++ rowC c f m) → w.grownBy w' v.ownBlock → wpList P ops Q rest (a.put op.dst (.slice A' (n + m) cp')) w') : wpList P ops Q (op :: rest) a w := by
  refine wpList_plain hgd fun K hK => ?_
  obtain ⟨v', w', hrun, h2, h3, h9⟩ := run_append_rows (P := P) base t op.type e i z c bytes ht hi hz hsize hby hzs hc v n xs hown A m cp f hr h63 hbytes hbase
  obtain ⟨A', cp', rfl⟩ := own_slice2 h2
  unfold Oper.wp execOp
  simp only [ho, resolve, invoke, builtin, Sem.run_bind, Sem.run_pure, Result.andThen_ok, List.map_toArray, List.map_cons, List.map_nil, hs, hx, hrun]
  exact hK _ _ (h A' cp' w' h2 h3)
theorem clone_any (B : Option Addr) (m cap2 : Nat) (F : Nat → Nat → Int) (w : World) (hm : m ≤ 1000) (hF : RowsAt w B m 3 F) :
    Calls Tryz.prog 68 #[.slice B m cap2] w fun r w' => ∃ v, r = .returned v ∧ Kept w w' ∧ w'.ownsRow w.heap.size 138 3 v m (rowC 3 F m) := by
  have HF := Lib.hid hF
  have q22 : ∀ (w : World) (a : Option Addr) (n c n' c' : Nat), (binOp .eql 40 (.slice a n c) (.slice none n' c')).run Tryz.prog w = .ok (.bool a.isNone) w := fun w a n c n' c' => Lib.run_eql_slice_nil w _ _ a n c n' c' Tryz.underlying40
  obtain ⟨i1, hi, hz0, hz1, hz2⟩ := info_parts infoFace
  have HJ := Lib.hid (And.intro hi (And.intro hz0 (And.intro hz1 hz2)))
  clear hi hz0 hz1 hz2
  rcases B with _ | ad
  · have h0 : m = 0 := by
      rcases Nat.eq_zero_or_pos m with h | h
      · exact h
      · obtain ⟨b, off, h, -⟩ := hF h
        cases h
    subst h0
    clear hF HF
    go_enter Tryz.func68, Tryz.ntmps68
    go_wp2_with fail
    go_ret
    exact ⟨_, rfl, by (repeat (first | exact Kept.refl _ | assumption | refine Kept.alloc ?_ _ | refine Kept.ext ?_ _ | refine Kept.drew ?_ | refine Kept.drewN ?_ _)), World.ownsRow_nil _ _ _ _⟩
  · clear hF
    go_enter Tryz.func68, Tryz.ntmps68
    go_wp2_with (at_builtin; refine wpList_append_rows rfl _ _ 40 rfl w.heap.size 138 i1 _ 3 24 Tryz.underlying40 HJ.out.1 HJ.out.2.1 HJ.out.2.2.1 HJ.out.2.2.2 rfl (by omega) (by simp) _ 0 [] rfl (own_new _ _ (Nat.le_refl _)) (some ad) m cap2 F rfl (HF.out.of (by (repeat (first | exact Kept.refl _ | assumption | refine Kept.alloc ?_ _ | refine Kept.ext ?_ _ | refine Kept.drew ?_ | refine Kept.drewN ?_ _)))) (by unfold maxLen; omega) (by omega) ?_; intro A' cp' w' k1 k2; have K2 := Lib.hid k2; have K1 := Lib.hid k1; clear k1 k2)
    go_ret
    have k1 := K1.out
    simp only [Nat.zero_add, List.nil_append] at k1 ⊢
    exact ⟨_, rfl, kept_grown (W := w) (by (repeat (first | exact Kept.refl _ | assumption | refine Kept.alloc ?_ _ | refine Kept.ext ?_ _ | refine Kept.drew ?_ | refine Kept.drewN ?_ _))) (own_new (c := 3) _ _ (Nat.le_refl _)) (Nat.le_refl _) K2.out, k1⟩
end Go.Proofs.YtnbjealpcjfllaaGreatDoor

namespace Go.Proofs.YtnbjealpcjfllaaGreatDoor
set_option linter.unusedVariables false
set_option linter.unusedSimpArgs false
open Go.RowKit Go.Deep
theorem Late.alloc {lo : Nat} {W W' : World} (h : Late lo W W') (o : Obj) : Late lo (W.alloc o) (W'.alloc o) := by
  refine ⟨by rw [World.size_alloc, World.size_alloc, h.size], fun k hk => ?_⟩
  show (W'.heap.push _)[k]? = (W.heap.push _)[k]?
  rw [Array.getElem?_push, Array.getElem?_push, h.size, h.late k hk]
theorem Late.drew {lo : Nat} {W W' : World} (h : Late lo W W') : Late lo W.drew W'.drew := ⟨h.size, h.late⟩
theorem Late.owns {lo base size n : Nat} {W W' : World} {e : TypeId} {v : Value} {xs : List Value} (hl : Late lo W W') (h : W.ownsRow base e size v n xs) (hb : lo ≤ base) : W'.ownsRow base e size v n xs :=
  owns_same h fun k hk => hl.late k (Nat.le_trans hb (h.lt k hk).1)
theorem cloneI_any (B : Option Addr) (m cap2 : Nat) (F : Nat → Nat → Int) (w : World) (hm : m ≤ 1000) (hF : RowsAt w B m 1 F) :
    Calls Tryz.prog 70 #[.slice B m cap2] w fun r w' => ∃ v, r = .returned v ∧ Kept w w' ∧ w'.ownsRow w.heap.size 3 1 v m (rowC 1 F m) := by
  have HF := Lib.hid hF
  have q22 : ∀ (w : World) (a : Option Addr) (n c n' c' : Nat), (binOp .eql 90 (.slice a n c) (.slice none n' c')).run Tryz.prog w = .ok (.bool a.isNone) w := fun w a n c n' c' => Lib.run_eql_slice_nil w _ _ a n c n' c' Tryz.underlying90
  obtain ⟨i1, hi, hz0, hz1, hz2⟩ := info_parts info_inh
  have HJ := Lib.hid (And.intro hi (And.intro hz0 (And.intro hz1 hz2)))
  clear hi hz0 hz1 hz2
  rcases B with _ | ad
  · have h0 : m = 0 := by
      rcases Nat.eq_zero_or_pos m with h | h
      · exact h
      · obtain ⟨b, off, h, -⟩ := hF h
        cases h
    subst h0
    clear hF HF
    go_enter Tryz.func70, Tryz.ntmps70
    go_wp2_with fail
    go_ret
    exact ⟨_, rfl, by (repeat (first | exact Kept.refl _ | assumption | refine Kept.alloc ?_ _ | refine Kept.ext ?_ _ | refine Kept.drew ?_ | refine Kept.drewN ?_ _)), World.ownsRow_nil _ _ _ _⟩
  · clear hF
    go_enter Tryz.func70, Tryz.ntmps70
    go_wp2_with (at_builtin; refine wpList_append_rows rfl _ _ 90 rfl w.heap.size 3 i1 _ 1 8 Tryz.underlying90 HJ.out.1 HJ.out.2.1 HJ.out.2.2.1 HJ.out.2.2.2 rfl (by omega) (by simp) _ 0 [] rfl (own_new _ _ (Nat.le_refl _)) (some ad) m cap2 F rfl (HF.out.of (by (repeat (first | exact Kept.refl _ | assumption | refine Kept.alloc ?_ _ | refine Kept.ext ?_ _ | refine Kept.drew ?_ | refine Kept.drewN ?_ _)))) (by unfold maxLen; omega) (by omega) ?_; intro A' cp' w' k1 k2; have K2 := Lib.hid k2; have K1 := Lib.hid k1; clear k1 k2)
    go_ret
    have k1 := K1.out
    simp only [Nat.zero_add, List.nil_append] at k1 ⊢
    exact ⟨_, rfl, kept_grown (W := w) (by (repeat (first | exact Kept.refl _ | assumption | refine Kept.alloc ?_ _ | refine Kept.ext ?_ _ | refine Kept.drew ?_ | refine Kept.drewN ?_ _))) (own_new (c := 1) _ _ (Nat.le_refl _)) (Nat.le_refl _) K2.out, k1⟩
set_option maxRecDepth 100000 in
set_option maxHeartbeats 4000000 in
theorem hProve_ok (A B : Option Addr) (n cap m cap2 : Nat) (P F : Nat → Nat → Int) (C : Option Addr) (l cap3 : Nat) (f : Nat → Nat → Int) (d : Int) (w : World) (hn : n ≤ 9223372036854775807 ∧ m ≤ 9223372036854775807) (hl : l ≤ 1000) (hP : RowsAt w A n 3 P) (hF : RowsAt w B m 3 F) (hC : RowsAt w C l 1 f)
    (he : (bndS n P m F l (fun k => f k 0) d).e = 0) :
    Calls Tryz.prog 172 #[.agg #[.slice A n cap, .slice B m cap2], .slice C l cap3, .int .i64 d] w fun e w' => ∃ v, e = .returned (.tuple #[.agg #[v, .int .i64 d, .int .i64 (bndS n P m F l (fun k => f k 0) d).lo, .int .i64 (bndS n P m F l (fun k => f k 0) d).hi], .int .i64 0]) ∧ Kept w w' ∧ w'.ownsRow w.heap.size 3 1 v l (rowC 1 f l) := by
  have q : ∀ w', Kept w w' → _ := fun w' hk => hBounds_any A B n cap m cap2 P F C l cap3 f d w' hn (by omega) (hP.of hk) (hF.of hk) (hC.of hk)
  have q2 : ∀ w', Kept w w' → Calls Tryz.prog 70 #[.slice C l cap3] w' (fun r w'' => ∃ A' cp', r = .returned (.slice A' l cp') ∧ Kept w' w'' ∧ w''.ownsRow w'.heap.size 3 1 (.slice A' l cp') l (rowC 1 f l)) := fun w' hk => (cloneI_any C l cap3 f w' hl (hC.of hk)).mono fun r w'' ⟨v, h1, h2, h3⟩ => by
    obtain ⟨A', cp', rfl⟩ := own_slice2 h3
    exact ⟨A', cp', h1, h2, h3⟩
  rw [he] at q
  obtain ⟨lo, hlo⟩ : ∃ x, (bndS n P m F l (fun k => f k 0) d).lo = x := ⟨_, rfl⟩
  obtain ⟨hi, hhi⟩ : ∃ x, (bndS n P m F l (fun k => f k 0) d).hi = x := ⟨_, rfl⟩
  rw [hlo, hhi] at q ⊢
  have H := Lib.hid q
  have H2 := Lib.hid q2
  clear q q2 he hlo hhi hP hF hC hn hl
  go_enter Tryz.func172, Tryz.ntmps172
  go_wp2_with (go_at_call 124; (with_reducible refine (H.out _ (by (repeat (first | exact Kept.refl _ | assumption | refine Kept.alloc ?_ _ | refine Kept.ext ?_ _ | refine Kept.drew ?_ | refine Kept.drewN ?_ _)))).mono ?_); rintro e w1 ⟨rfl, y1, rfl⟩)
  go_region_held3 (fun w' => w'.cell? ⟨adv (w.heap.size + 1 + 1) y1.obs.size, 0, none⟩ = some (.int .i64 lo) ∧ w'.cell? ⟨adv (w.heap.size + 1 + 1) y1.obs.size, 1, none⟩ = some (.int .i64 hi)) ((refine ⟨?_, ?_⟩ <;> go_simp)) ((go_at_call 70; (with_reducible refine (H2.out _ (by (repeat (first | exact Kept.refl _ | assumption | refine Kept.alloc ?_ _ | refine Kept.ext ?_ _ | refine Kept.drew ?_ | refine Kept.drewN ?_ _)))).mono ?_); rintro e w2 ⟨A', cp', rfl, ⟨y2, rfl⟩, ho⟩; have HO := Lib.hid ho; clear ho))
  all_goals (
    go_wp2_with fail
    refine bodyPost_ret (by simp only [results, Tryz.results172]; go_simp; rfl) rfl ?_
    refine ⟨_, rfl, by (repeat (first | exact Kept.refl _ | assumption | refine Kept.alloc ?_ _ | refine Kept.ext ?_ _ | refine Kept.drew ?_ | refine Kept.drewN ?_ _)), ?_⟩
    have hl := Late.base (W := ((w.alloc (.cells #[.slice A n cap, .slice B m cap2] 42)).alloc (.cells #[.slice none 0 0, .int .i64 0, .int .i64 0, .int .i64 0] 92))) (W' := ((w.alloc (.cells #[.slice A n cap, .slice B m cap2] 42)).alloc (.cells #[.slice A' l cp', .int .i64 d, .int .i64 lo, .int .i64 hi] 92))) (by simp)
    exact own_lower ((((hl.ext y1).alloc (.cells #[.int .i64 lo, .int .i64 hi] 44)).ext y2).owns HO.out (by go_simp; simp [adv]; omega)) (by go_simp; simp [adv]; omega))
end Go.Proofs.YtnbjealpcjfllaaGreatDoor

namespace Go.Proofs.YtnbjealpcjfllaaGreatDoor
set_option linter.unusedVariables false
set_option linter.unusedSimpArgs false
open Go.RowKit
theorem shC_set : ∀ (V : List ShV) (i j : Nat) (h : i < V.length) (v' : ShV) (x : Value), j < 6 → v'.cells.toList = (V[i]).cells.toList.set j x → (shC V).set (i * 6 + j) x = shC (V.set i v')
  | c :: V, 0, j, h, v', x, hj, e => by
    show (c.cells.toList ++ shC V).set (0 * 6 + j) x = v'.cells.toList ++ shC V
    have e : v'.cells.toList = c.cells.toList.set j x := e
    rw [e, show 0 * 6 + j = j by omega, List.set_append_left _ _ (show j < c.cells.toList.length from hj)]
  | c :: V, i + 1, j, h, v', x, hj, e => by
    show (c.cells.toList ++ shC V).set ((i + 1) * 6 + j) x = c.cells.toList ++ shC (V.set i v')
    rw [List.set_append_right _ _ (show c.cells.toList.length ≤ _ from (by show 6 ≤ _; omega)), show (i + 1) * 6 + j - c.cells.toList.length = i * 6 + j by show _ - 6 = _; omega]
    rw [shC_set V i j (by simpa using h) v' x hj (by simpa using e)]
theorem own_nn {w : World} {b : Nat} {e : TypeId} {c g n m cap : Nat} {xs : List Value} (h : w.ownsRow b e c (.slice (some ⟨g, 0, none⟩) n cap) m xs) : n = m := by
  rcases h.2 with ⟨q, -⟩ | ⟨g', c', cur, q, -⟩
  · cases q
  · simp only [Value.slice.injEq] at q
    exact q.2.1
section
variable {w w' : World} {lo db sb scap n : Nat} {st : Int} {D : Dsk} {ov : Value} {V : List ShV}
theorem DeskAt.addProof (h : DeskAt w lo st db D (.slice (some ⟨sb, 0, none⟩) n scap) ov V) {i : Nat} (hi : i < V.length) (hi' : i < D.shapes.length) {C : List CtV} (hC : CsOk w lo (own db (.slice (some ⟨sb, 0, none⟩) n scap) ov V) V[i] (D.shapes[i]).prs C) {w1 : World} {g cap : Nat} {ct : CtV} {p : Crp}
    (k1 : KB (fun k => (V[i]).qv.ownBlock = some k) w w1) (hn : (V[i]).qv.ownBlock = some g ∨ w.heap.size ≤ g)
    (h1 : w1.ownsRow lo 92 4 (.slice (some ⟨g, 0, none⟩) (C.length + 1) cap) (C.length + 1) (ctC C ++ ct.cells)) (hc : CtOk w (own db (.slice (some ⟨sb, 0, none⟩) n scap) ov V) ct p) (few : (D.shapes[i]).prs.length < 16) :
    (DeskAt (w1.setCell ⟨sb, i * 6 + 5, none⟩ (.slice (some ⟨g, 0, none⟩) (C.length + 1) cap)) lo st db { D with shapes := D.shapes.set i { D.shapes[i] with prs := (D.shapes[i]).prs ++ [p] } } (.slice (some ⟨sb, 0, none⟩) n scap) ov (V.set i { V[i] with qA := some ⟨g, 0, none⟩, qn := C.length + 1, qc := cap }) ∧
    KB (own db (.slice (some ⟨sb, 0, none⟩) n scap) ov V) w (w1.setCell ⟨sb, i * 6 + 5, none⟩ (.slice (some ⟨g, 0, none⟩) (C.length + 1) cap)) ∧
    ∀ k, k < w.heap.size → own db (.slice (some ⟨sb, 0, none⟩) n scap) ov (V.set i { V[i] with qA := some ⟨g, 0, none⟩, qn := C.length + 1, qc := cap }) k → own db (.slice (some ⟨sb, 0, none⟩) n scap) ov V k) ∧
    (w1.setCell ⟨sb, i * 6 + 5, none⟩ (.slice (some ⟨g, 0, none⟩) (C.length + 1) cap)).ownsRow lo 92 4 (.slice (some ⟨g, 0, none⟩) (C.length + 1) cap) (C.length + 1) (ctC C ++ ct.cells) := by
  have hsv : (Value.slice (some ⟨sb, 0, none⟩) n scap).ownBlock = some sb := rfl
  have hnV : n = V.length := own_nn h.sh
  subst hnV
  have hsb1 : w1.ownsRow lo 47 6 (.slice (some ⟨sb, 0, none⟩) V.length scap) V.length (shC V) := k1.owns h.sh fun q e1 e2 => (h.ne_sv e1).2.2 _ (List.getElem_mem hi) e2
  have hgs : ∀ q, (Value.slice (some ⟨g, 0, none⟩) (C.length + 1) cap).ownBlock = some q → ¬ q = sb := fun q e1 e2 => by
    subst e2
    obtain ⟨c1, t1⟩ := owns_ty h1 e1
    obtain ⟨c2, t2⟩ := owns_ty hsb1 hsv
    rw [t1] at t2
    injection t2 with t2
    injection t2 with _ t2 _
    exact absurd t2 (by decide)
  have hown : (w1.setCell ⟨sb, i * 6 + 5, none⟩ (.slice (some ⟨g, 0, none⟩) (C.length + 1) cap)).ownsRow lo 92 4 (.slice (some ⟨g, 0, none⟩) (C.length + 1) cap) (C.length + 1) (ctC C ++ ct.cells) := (kb_cell w1 sb _ _).owns h1 hgs
  have k2 : KB (fun k => (Value.slice (some ⟨sb, 0, none⟩) V.length scap).ownBlock = some k ∨ (V[i]).qv.ownBlock = some k) w (w1.setCell ⟨sb, i * 6 + 5, none⟩ (.slice (some ⟨g, 0, none⟩) (C.length + 1) cap)) := (k1.mono fun _ _ q => .inr q).setCell (p := ⟨sb, i * 6 + 5, none⟩) (fun _ => .inl rfl) _
  have hs := h.each i hi hi'
  refine ⟨h.putShape hi (N := fun k => (V[i]).qv.ownBlock = some k) k2 (fun _ _ q => q) ?_ (fun ho => ?_) (fun k e => ?_), hown⟩
  · have := (hsb1.stored (i * 6 + 5) (.slice (some ⟨g, 0, none⟩) (C.length + 1) cap)).1
    rw [shC_set V i 5 hi { V[i] with qA := some ⟨g, 0, none⟩, qn := C.length + 1, qc := cap } _ (by omega) rfl] at this
    exact this
  · have hS : ∀ k, k < w.heap.size → ((Value.slice (some ⟨sb, 0, none⟩) V.length scap).ownBlock = some k ∨ (V[i]).qv.ownBlock = some k) → own db (.slice (some ⟨sb, 0, none⟩) V.length scap) ov V k := by
      rintro k _ (q | q)
      · exact .inr (.inl q)
      · exact .inr (.inr (.inr ⟨_, List.getElem_mem hi, q⟩))
    refine ⟨hs.name, hs.nl, hs.n, hs.m, hs.slo, hs.shi, hs.val, rows_kb hs.p hs.poff k2 hS, rows_off hs.p hs.poff ho, rows_kb hs.f hs.foff k2 hS, rows_off hs.f hs.foff ho, by simp; omega, C ++ [ct], ?_, by simp [hC.len], fun k a b => ?_⟩
    · rw [List.length_append, ctC_cat]
      have e : ctC C ++ ctC [ct] = ctC C ++ ct.cells := by simp [ctC]
      rw [e]
      exact hown
    · by_cases hk : k < C.length
      · have hk2 : k < (D.shapes[i]).prs.length := hC.len ▸ hk
        rw [List.getElem_append_left hk, List.getElem_append_left hk2]
        exact (hC.each k hk hk2).kb k2 hS ho
      · have a' : k = C.length := by simp at a; omega
        subst a'
        have e1 : (C ++ [ct])[C.length] = ct := by simp
        have e2 : ((D.shapes[i]).prs ++ [p])[C.length]'b = p := by simp [hC.len]
        rw [e1, e2]
        exact hc.kb k2 hS ho
  · have e : some g = some k := e
    injection e with e
    subst e
    exact hn
theorem DeskAt.putSpan (h : DeskAt w lo st db D (.slice (some ⟨sb, 0, none⟩) n scap) ov V) {i : Nat} (hi : i < V.length) (hi' : i < D.shapes.length) (a b : Int) :
    DeskAt ((w.setCell ⟨sb, i * 6 + 3, none⟩ (.int .i64 a)).setCell ⟨sb, i * 6 + 4, none⟩ (.int .i64 b)) lo st db { D with shapes := D.shapes.set i { D.shapes[i] with lo := a, hi := b } } (.slice (some ⟨sb, 0, none⟩) n scap) ov (V.set i { V[i] with lo := a, hi := b }) ∧
    KB (own db (.slice (some ⟨sb, 0, none⟩) n scap) ov V) w ((w.setCell ⟨sb, i * 6 + 3, none⟩ (.int .i64 a)).setCell ⟨sb, i * 6 + 4, none⟩ (.int .i64 b)) ∧
    ∀ k, k < w.heap.size → own db (.slice (some ⟨sb, 0, none⟩) n scap) ov (V.set i { V[i] with lo := a, hi := b }) k → own db (.slice (some ⟨sb, 0, none⟩) n scap) ov V k := by
  have hnV : n = V.length := own_nn h.sh
  subst hnV
  have k2 : KB (fun k => (Value.slice (some ⟨sb, 0, none⟩) V.length scap).ownBlock = some k ∨ False) w ((w.setCell ⟨sb, i * 6 + 3, none⟩ (.int .i64 a)).setCell ⟨sb, i * 6 + 4, none⟩ (.int .i64 b)) := ((KB.refl _ w).setCell (p := ⟨sb, i * 6 + 3, none⟩) (fun _ => .inl rfl) _).setCell (p := ⟨sb, i * 6 + 4, none⟩) (fun _ => .inl rfl) _
  have hs := h.each i hi hi'
  refine h.putShape hi (N := fun _ => False) k2 (fun _ _ q => q.elim) ?_ (fun ho => ?_) (fun k e => .inl e)
  · have h1 := (h.sh.stored (i * 6 + 3) (.int .i64 a)).1
    have h2 := (h1.stored (i * 6 + 4) (.int .i64 b)).1
    rw [shC_set V i 3 hi { V[i] with lo := a } _ (by omega) rfl, shC_set _ i 4 (by simpa using hi) { V[i] with lo := a, hi := b } _ (by omega) (by rw [List.getElem_set_self]; rfl), List.set_set] at h2
    exact h2
  · have hS : ∀ k, k < w.heap.size → ((Value.slice (some ⟨sb, 0, none⟩) V.length scap).ownBlock = some k ∨ False) → own db (.slice (some ⟨sb, 0, none⟩) V.length scap) ov V k := by
      rintro k _ (q | q)
      · exact .inr (.inl q)
      · exact q.elim
    obtain ⟨C, hC⟩ := hs.q
    have hcs := hC.kb k2 hS ho fun k e1 e2 => by
      rcases e2 with e2 | e2
      · exact (h.ne_qv (List.getElem_mem hi) e1).2.1 e2
      · exact e2
    exact ⟨hs.name, hs.nl, hs.n, hs.m, rfl, rfl, hs.val, rows_kb hs.p hs.poff k2 hS, rows_off hs.p hs.poff ho, rows_kb hs.f hs.foff k2 hS, rows_off hs.f hs.foff ho, hs.few, C, hcs.own, hcs.len, hcs.each⟩
end
end Go.Proofs.YtnbjealpcjfllaaGreatDoor

namespace Go.Proofs.YtnbjealpcjfllaaGreatDoor
set_option linter.unusedVariables false
set_option linter.unusedSimpArgs false
open Go.RowKit Go.Deep
set_option maxRecDepth 100000 in
set_option maxHeartbeats 4000000 in
theorem hProve_no (A B : Option Addr) (n cap m cap2 : Nat) (P F : Nat → Nat → Int) (C : Option Addr) (l cap3 : Nat) (f : Nat → Nat → Int) (d : Int) (w : World) (hn : n ≤ 9223372036854775807 ∧ m ≤ 9223372036854775807) (hl : l ≤ 9223372036854775807) (hP : RowsAt w A n 3 P) (hF : RowsAt w B m 3 F) (hC : RowsAt w C l 1 f)
    (he : ¬ (bndS n P m F l (fun k => f k 0) d).e = 0) :
    Calls Tryz.prog 172 #[.agg #[.slice A n cap, .slice B m cap2], .slice C l cap3, .int .i64 d] w fun e w' => e = .returned (.tuple #[.agg #[.slice none 0 0, .int .i64 0, .int .i64 0, .int .i64 0], .int .i64 (bndS n P m F l (fun k => f k 0) d).e]) ∧ Kept w w' := by
  have q : ∀ w', Kept w w' → _ := fun w' hk => hBounds_any A B n cap m cap2 P F C l cap3 f d w' hn hl (hP.of hk) (hF.of hk) (hC.of hk)
  obtain ⟨lo, hlo⟩ : ∃ x, (bndS n P m F l (fun k => f k 0) d).lo = x := ⟨_, rfl⟩
  obtain ⟨hi, hhi⟩ : ∃ x, (bndS n P m F l (fun k => f k 0) d).hi = x := ⟨_, rfl⟩
  obtain ⟨be, hbe⟩ : ∃ x, (bndS n P m F l (fun k => f k 0) d).e = x := ⟨_, rfl⟩
  rw [hlo, hhi, hbe] at q
  rw [hbe] at he ⊢
  have gf : (be == 0) = false ∧ (be != 0) = true := by simpa using he
  obtain ⟨g1, g2⟩ := gf
  have H := Lib.hid q
  clear q hlo hhi hbe hP hF hC hn hl
  go_enter Tryz.func172, Tryz.ntmps172
  go_wp2_with (go_at_call 124; (with_reducible refine (H.out _ (by (repeat (first | exact Kept.refl _ | assumption | refine Kept.alloc ?_ _ | refine Kept.ext ?_ _ | refine Kept.drew ?_ | refine Kept.drewN ?_ _)))).mono ?_); rintro e w1 ⟨rfl, y1, rfl⟩)
  refine bodyPost_ret (by simp only [results, Tryz.results172]; go_simp; rfl) rfl ?_
  exact ⟨rfl, by (repeat (first | exact Kept.refl _ | assumption | refine Kept.alloc ?_ _ | refine Kept.ext ?_ _ | refine Kept.drew ?_ | refine Kept.drewN ?_ _))⟩
end Go.Proofs.YtnbjealpcjfllaaGreatDoor

