/- Contract: the closure that gathers the terms of a far field. Conditions: those of each theorem. Contract: the terms of a far field added up, of the program. Conditions: those of each theorem. -/
import Derived.Test.YtodmdicegkjicaaZg
import Derived.Test.YtodmdicegkjicaaZf
import Derived.Deep.DeepCutAuto
namespace Go.Proofs.Ytodmdicegkjicaa
set_option linter.unusedVariables false
set_option linter.unusedSimpArgs false
open Go.ChangeShapes Go.WideShapes Go.ChangeAt Go.RowKit Go.Deep
theorem setCell_neM {w : World} {b o g : Nat} {u : Value} (h : g ≠ b) : (w.setCell ⟨b, o, none⟩ u).heap[g]? = w.heap[g]? := by
  unfold World.setCell
  rw [Array.getElem?_modify, if_neg (Ne.symm h)]
theorem box_setM {w : World} {g : Nat} {T : TypeId} {a u : Value} (h : w.heap[g]? = some (.cells #[a] T (0, 0))) : (w.setCell ⟨g, 0, none⟩ u).heap[g]? = some (.cells #[u] T (0, 0)) := by
  unfold World.setCell
  rw [Array.getElem?_modify, if_pos rfl, h]
  rfl
theorem box_atM {V : World} {g : Nat} {T : TypeId} {a : Value} (h : V.heap[g]? = some (.cells #[a] T (0, 0))) : V.cell? ⟨g, 0, none⟩ = some a ∧ V.frozen? ⟨g, 0, none⟩ = false ∧ g < V.heap.size := by
  have := (Array.getElem?_eq_some_iff.1 h).1
  refine ⟨?_, ?_, this⟩
  · unfold World.cell?; simp [h]
  · unfold World.frozen?; simp [h]
theorem own_setM {w : World} {b base size n : Nat} {e : TypeId} {v u : Value} {xs : List Value} (hb : b < base) (ho : w.ownsRow base e size v n xs) : (w.setCell ⟨b, 0, none⟩ u).ownsRow base e size v n xs := by
  refine ⟨ho.1, ?_⟩
  rcases ho.2 with h0 | ⟨g, cap, cur, hv, hg, hr, h1, h2, h3, h4⟩
  · exact .inl h0
  · refine .inr ⟨g, cap, cur, hv, hg, ?_, h1, h2, h3, h4⟩
    rw [setCell_neM (by omega)]
    exact hr
theorem own_sliceM {w : World} {base size n : Nat} {e : TypeId} {v : Value} {xs : List Value} (h : w.ownsRow base e size v n xs) : ∃ A cp, v = .slice A n cp := by
  rcases h.2 with ⟨rfl, rfl⟩ | ⟨g, cap, cur, rfl, -⟩
  · exact ⟨_, _, rfl⟩
  · exact ⟨_, _, rfl⟩
/-- The first error. -/
def fstE (E e : Int) : Int := if E = 0 then e else E
/-- What a function value that gathers spans holds: the moments, the vector, the list, the first error. -/
structure AdI (W : World) (base b3 b4 b9 b10 : Nat) (ms us : Array Value) (L : Nat) (F : Nat → Nat → Int) (E : Int) (wr : World) : Prop where
  kept : Kept W wr
  lo : W.heap.size ≤ b9 ∧ W.heap.size ≤ b10
  ne : b3 < base ∧ b4 < base ∧ b9 < base ∧ b10 < base ∧ b3 ≠ b9 ∧ b3 ≠ b10 ∧ b4 ≠ b9 ∧ b4 ≠ b10 ∧ b9 ≠ b10
  hb : base ≤ wr.heap.size
  m : wr.heap[b3]? = some (.cells ms 31 (0, 0))
  u : wr.heap[b4]? = some (.cells us 24 (0, 0))
  l : ∃ v, wr.heap[b9]? = some (.cells #[v] 37 (0, 0)) ∧ wr.ownsRow base 39 2 v L (rowC 2 F L)
  f : wr.heap[b10]? = some (.cells #[.int .i64 E] 32 (0, 0))
theorem AdI.on {W : World} {base b3 b4 b9 b10 : Nat} {ms us : Array Value} {L : Nat} {F : Nat → Nat → Int} {E : Int} {wr w' : World} (h : AdI W base b3 b4 b9 b10 ms us L F E wr) (hk : Kept wr w') : AdI W base b3 b4 b9 b10 ms us L F E w' := by
  obtain ⟨v, h1, h2⟩ := h.l
  exact ⟨h.kept.trans hk, h.lo, h.ne, Nat.le_trans h.hb (fr_le hk), fr_kept h.m hk, fr_kept h.u hk, ⟨v, fr_kept h1 hk, owns_kept h2 hk⟩, fr_kept h.f hk⟩
theorem cells_atM {V : World} {g : Nat} {T : TypeId} {cs : Array Value} (h : V.heap[g]? = some (.cells cs T (0, 0))) (k : Nat) (hk : k < cs.size) : V.cell? ⟨g, k, none⟩ = some cs[k] := by
  unfold World.cell?
  simp [h, hk]
theorem lt_atM {V : World} {g : Nat} {o : Obj} (h : V.heap[g]? = some o) : g < V.heap.size := (Array.getElem?_eq_some_iff.1 h).1
/-- Two spans' bounds behind one another. -/
def pushF (F : Nat → Nat → Int) (L : Nat) (lo hi : Int) : Nat → Nat → Int := fun k j => if k < L then F k j else if j = 0 then lo else hi
theorem push_row {F : Nat → Nat → Int} {L : Nat} {lo hi : Int} : rowC 2 F L ++ rowC 2 (fun _ j => if j = 0 then lo else hi) 1 = rowC 2 (pushF F L lo hi) (L + 1) := by
  have h1 : rowC 2 F L = rowC 2 (pushF F L lo hi) L := rowC_congr fun k hk j _ => (if_pos hk).symm
  rw [h1]
  show _ ++ ([] ++ (List.range 2).map fun j => Value.int .i64 (if j = 0 then lo else hi)) = _ ++ (List.range 2).map fun j => Value.int .i64 (pushF F L lo hi L j)
  congr 1
  simp [pushF, List.range_succ]
theorem rows_lit2 (X : World) (g : Nat) (p q : Int) (hg : X.heap.size = g) (hp : I64 p) (hq : I64 q) : RowsAt (X.alloc (.cells #[.int .i64 p, .int .i64 q] 39)) (some ⟨g, 0, none⟩) 1 2 (fun _ j => if j = 0 then p else q) := by
  subst hg
  refine rows_of_owns (base := 0) (cap := 1) (e := 39) ⟨rfl, .inr ⟨X.heap.size, 1, _, rfl, Nat.zero_le _, heap_alloc_new X _, Nat.le_refl _, by unfold maxLen; omega, rfl, rfl⟩⟩ (fun k _ j _ => ?_)
  split
  · exact hp
  · exact hq
theorem wpList_appM {P : Program} {w : World} {ops : Array Oper} {rest : List Oper} {op : Oper} {a : Act} {Q : Exit → Act → World → Prop} (hgd : op.guard = none) (s x : Operand) (t e : TypeId) (c bytes : Nat)
    (ho : op.op = .call { callee := .builtin .append, args := #[s, x], argTypes := #[t, t] })
    (base : Nat) (i : TypeInfo) (z : Value) (ht : P.underlying t = some (.slice e)) (hi : P.info? e = some i) (hz : i.zero = some z)
    (hsize : i.size = c) (hby : i.bytes = bytes) (hzs : z.cells.size = c) (hc : 0 < c) (hb6 : bytes ≤ 1000) (hbase : base ≤ w.heap.size)
    (v : Value) (n : Nat) (xs : List Value) (hs : a.eval s = v) (hown : w.ownsRow base e c v n xs)
    (A : Option Addr) (m cp : Nat) (f : Nat → Nat → Int) (hx : a.eval x = .slice A m cp) (hr : RowsAt w A m c f) (N : Nat) (hN : n + m = N) (ys : List Value) (hys : xs ++ rowC c f m = ys) (h9 : N ≤ 1000)
    (h : ∀ A' cp' w', w'.ownsRow base e c (.slice A' N cp') N ys → w.grownBy w' v.ownBlock → wpList P ops Q rest (a.put op.dst (.slice A' N cp')) w') : wpList P ops Q (op :: rest) a w := by
  subst hN
  subst hys
  refine wpList_plain hgd fun K hK => ?_
  have hbb : (n + m) * bytes ≤ 1000 * 1000 := Nat.mul_le_mul h9 hb6
  obtain ⟨v', w', hrun, h2, h3, -⟩ := run_append_rows (P := P) base t op.type e i z c bytes ht hi hz hsize hby hzs hc v n xs hown A m cp f hr (by unfold maxLen; omega) (by omega) hbase
  obtain ⟨A', cp', rfl⟩ := own_sliceM h2
  unfold Oper.wp execOp
  simp only [ho, resolve, invoke, builtin, Sem.run_bind, Sem.run_pure, Result.andThen_ok, List.map_toArray, List.map_cons, List.map_nil, hs, hx, hrun]
  exact hK _ _ (h A' cp' w' h2 h3)
theorem info_Sp : (Try.prog.info? 39).map (fun i => (i.zero, i.size, i.bytes)) = some (some (.agg #[.int .i64 0, .int .i64 0]), 2, 16) := by kernel_rfl
theorem own_neM {w : World} {b base size n : Nat} {e : TypeId} {v : Value} {xs : List Value} (h : w.ownsRow base e size v n xs) (hb : b < base) : some b ≠ v.ownBlock := fun q => by
  have := h.lt b q.symm
  omega
/-- Results that are right or too large. -/
def good (r : R) : Prop := (r.e = 0 ∧ validB r.lo r.hi = true) ∨ r = ⟨0, 0, 4⟩
theorem good_res (a b : Int) : good (resultS a b) := by
  unfold good resultS
  split
  · rename_i h; exact .inl ⟨rfl, h⟩
  · exact .inr rfl
theorem good_I {r : R} (h : good r) : I64 r.lo ∧ I64 r.hi := by
  rcases h with ⟨-, h⟩ | rfl
  · have := valid_bd h
    unfold I64; omega
  · unfold I64; decide
theorem good_inv {n : Int} (h : 1 ≤ n ∧ n ≤ 1048576) : validB (inverseS n 1).lo (inverseS n 1).hi = true := by
  have e : inverseS n 1 = invS (1 * 1 * 1099511627776) n := if_pos (by omega)
  obtain ⟨-, -, k0, k1, -⟩ := inv_bd (t := 1 * 1 * 1099511627776) (n := n) (by omega)
  rw [e]
  unfold invS
  split
  · have hv : validB (sqrtS (1 * 1 * 1099511627776 / n)) (sqrtS (1 * 1 * 1099511627776 / n)) = true := decide_eq_true (by omega)
    unfold resultS
    rw [if_pos hv]
    exact hv
  · have hv : validB (sqrtS (1 * 1 * 1099511627776 / n)) (sqrtS (1 * 1 * 1099511627776 / n) + 1) = true := decide_eq_true (by omega)
    unfold resultS
    rw [if_pos hv]
    exact hv
theorem good_over {num den n : Int} (h : 1 ≤ n ∧ n ≤ 1048576) : good (overS num den n) := by
  unfold overS
  split
  · rename_i hq
    have hv : validB (qmS num den).lo (qmS num den).hi = true := by
      rcases good_res ((num * 1048576).fdiv den) (-((-(num * 1048576)).fdiv den)) with ⟨-, hv⟩ | hv
      · exact hv
      · unfold qmS at hq; rw [hv] at hq; cases hq
    unfold mulS
    rw [hv, good_inv h]
    exact good_res _ _
  · exact .inr rfl
theorem good_term {m0 m1 m2 m3 m4 m5 m6 m7 m8 m9 m10 u0 u1 u2 k : Int} (h : okM ⟨m0, m1, m2, m3, m4, m5, m6, m7, m8, m9, m10⟩ = true) (hb : inB u0 u1 u2 384 = true) (h0 : ¬ (u0 = 0 ∧ u1 = 0 ∧ u2 = 0)) : good (termS ⟨m0, m1, m2, m3, m4, m5, m6, m7, m8, m9, m10⟩ u0 u1 u2 k) := by
  have hn := nS_bd hb h0
  have hn2 : 1 ≤ nS u0 u1 u2 ∧ nS u0 u1 u2 ≤ 1048576 := by omega
  unfold termS
  split
  · have q := okM_bd h
    simp only at q
    unfold scaleS
    rw [good_inv hn2, show wholeB m0 = true from decide_eq_true (by omega)]
    exact good_res _ _
  · split
    · exact good_over hn2
    · exact good_over hn2
set_option maxRecDepth 100000 in
set_option maxHeartbeats 8000000 in
theorem mclo_any (W : World) (base b3 b4 b9 b10 : Nat) (m0 m1 m2 m3 m4 m5 m6 m7 m8 m9 m10 u0 u1 u2 j : Int) (L : Nat) (F : Nat → Nat → Int) (E : Int) (wr : World) (hL : L ≤ 10)
    (h : okM ⟨m0, m1, m2, m3, m4, m5, m6, m7, m8, m9, m10⟩ = true) (hb : inB u0 u1 u2 384 = true) (h0 : ¬ (u0 = 0 ∧ u1 = 0 ∧ u2 = 0)) (hk : frB j 0 2 = true)
    (hI : AdI W base b3 b4 b9 b10 #[.int .i64 m0, .int .i64 m1, .int .i64 m2, .int .i64 m3, .int .i64 m4, .int .i64 m5, .int .i64 m6, .int .i64 m7, .int .i64 m8, .int .i64 m9, .int .i64 m10] #[.int .i64 u0, .int .i64 u1, .int .i64 u2] L F E wr) :
    Calls Try.prog 42 #[.int .i64 j, .pointer (some ⟨b3, 0, none⟩), .pointer (some ⟨b4, 0, none⟩), .pointer (some ⟨b9, 0, none⟩), .pointer (some ⟨b10, 0, none⟩)] wr fun e w' => e = .returned (.tuple #[]) ∧
      AdI W base b3 b4 b9 b10 #[.int .i64 m0, .int .i64 m1, .int .i64 m2, .int .i64 m3, .int .i64 m4, .int .i64 m5, .int .i64 m6, .int .i64 m7, .int .i64 m8, .int .i64 m9, .int .i64 m10] #[.int .i64 u0, .int .i64 u1, .int .i64 u2] (L + 1) (pushF F L (termS ⟨m0, m1, m2, m3, m4, m5, m6, m7, m8, m9, m10⟩ u0 u1 u2 j).lo (termS ⟨m0, m1, m2, m3, m4, m5, m6, m7, m8, m9, m10⟩ u0 u1 u2 j).hi) (fstE E (termS ⟨m0, m1, m2, m3, m4, m5, m6, m7, m8, m9, m10⟩ u0 u1 u2 j).e) w' := by
  obtain ⟨ti, hti, hte⟩ := Option.map_eq_some_iff.1 info_Sp
  simp only [Prod.mk.injEq] at hte
  have HT := Lib.hid hti
  have HTE := Lib.hid hte
  have ht : ∀ w, _ := fun w => mterm_any m0 m1 m2 m3 m4 m5 m6 m7 m8 m9 m10 u0 u1 u2 j w h hb h0 hk
  have hg := good_I (good_term (k := j) h hb h0)
  obtain ⟨x, hx⟩ : ∃ x, termS ⟨m0, m1, m2, m3, m4, m5, m6, m7, m8, m9, m10⟩ u0 u1 u2 j = x := ⟨_, rfl⟩
  rw [hx] at ht hg ⊢
  obtain ⟨p, hp⟩ : ∃ y, x.lo = y := ⟨_, rfl⟩
  obtain ⟨q, hq⟩ : ∃ y, x.hi = y := ⟨_, rfl⟩
  obtain ⟨er, her⟩ : ∃ y, x.e = y := ⟨_, rfl⟩
  rw [hp, hq] at hg
  rw [hp, hq, her] at ht ⊢
  have HTM := Lib.hid ht
  obtain ⟨hgp, hgq⟩ := hg
  obtain ⟨v, hl1, hl2⟩ := hI.l
  obtain ⟨LA, lc, rfl⟩ := own_sliceM hl2
  have z0 := cells_atM hI.m 0 (by simp)
  have z1 := cells_atM hI.m 1 (by simp)
  have z2 := cells_atM hI.m 2 (by simp)
  have z3 := cells_atM hI.m 3 (by simp)
  have z4 := cells_atM hI.m 4 (by simp)
  have z5 := cells_atM hI.m 5 (by simp)
  have z6 := cells_atM hI.m 6 (by simp)
  have z7 := cells_atM hI.m 7 (by simp)
  have z8 := cells_atM hI.m 8 (by simp)
  have z9 := cells_atM hI.m 9 (by simp)
  have z10 := cells_atM hI.m 10 (by simp)
  have y0 := cells_atM hI.u 0 (by simp)
  have y1 := cells_atM hI.u 1 (by simp)
  have y2 := cells_atM hI.u 2 (by simp)
  simp only [List.getElem_toArray, List.getElem_cons_zero, List.getElem_cons_succ] at z0 z1 z2 z3 z4 z5 z6 z7 z8 z9 z10 y0 y1 y2
  obtain ⟨l0, l1, l2⟩ := box_atM hl1
  have L3 : Lower b3 wr.heap.size := ⟨lt_atM hI.m⟩
  have L4 : Lower b4 wr.heap.size := ⟨lt_atM hI.u⟩
  have L9 : Lower b9 wr.heap.size := ⟨l2⟩
  have HI := Lib.hid hI
  have HO := Lib.hid hl2
  have HL1 := Lib.hid hl1
  clear ht hx hp hq her hI hl1 hl2 h hb h0 hk hti hte
  have HWB := Lib.hid (show W.heap.size ≤ base by have := HI.out.lo.1; have := HI.out.ne.2.2.1; omega)
  by_cases hE : E = 0
  · have g1 : (E == 0) = true := by simpa using hE
    rw [show fstE E er = er from if_pos hE]
    clear hE
    go_enter Try.func42, Try.ntmps42
    go_wp2_with (first | (go_at_call 43; refine (HTM.out _).mono ?_; rintro e w9 ⟨rfl, x1, rfl⟩) | (at_builtin; refine wpList_appM rfl (.tmp 15) (.tmp 17) 37 39 2 16 rfl base ti _ Try.underlying37 HT.out HTE.out.1 HTE.out.2.1 HTE.out.2.2 rfl (by decide) (by decide) (Nat.le_trans HI.out.hb (fr_le (by (repeat (first | exact Kept.refl _ | assumption | refine Kept.alloc ?_ _ | refine Kept.ext ?_ _ | refine Kept.drew ?_ | refine Kept.drewN ?_ _))))) _ L _ rfl (owns_kept HO.out (by (repeat (first | exact Kept.refl _ | assumption | refine Kept.alloc ?_ _ | refine Kept.ext ?_ _ | refine Kept.drew ?_ | refine Kept.drewN ?_ _)))) _ 1 1 _ rfl (rows_lit2 _ _ p q (by go_simp) hgp hgq) (L + 1) rfl _ push_row (by omega) ?_; intro A1 cp1 w1 k1 k2; have e9 : w1.heap[b9]? = some (.cells #[.slice LA L lc] 37 (0, 0)) := (k2.block b9 (lt_atM (fr_kept HL1.out (by (repeat (first | exact Kept.refl _ | assumption | refine Kept.alloc ?_ _ | refine Kept.ext ?_ _ | refine Kept.drew ?_ | refine Kept.drewN ?_ _))))) (own_neM HO.out HI.out.ne.2.2.1)).trans (fr_kept HL1.out (by (repeat (first | exact Kept.refl _ | assumption | refine Kept.alloc ?_ _ | refine Kept.ext ?_ _ | refine Kept.drew ?_ | refine Kept.drewN ?_ _)))); have e10 : w1.heap[b10]? = some (.cells #[.int .i64 E] 32 (0, 0)) := (k2.block b10 (lt_atM (fr_kept HI.out.f (by (repeat (first | exact Kept.refl _ | assumption | refine Kept.alloc ?_ _ | refine Kept.ext ?_ _ | refine Kept.drew ?_ | refine Kept.drewN ?_ _))))) (own_neM HO.out HI.out.ne.2.2.2.1)).trans (fr_kept HI.out.f (by (repeat (first | exact Kept.refl _ | assumption | refine Kept.alloc ?_ _ | refine Kept.ext ?_ _ | refine Kept.drew ?_ | refine Kept.drewN ?_ _)))); have E3 := Lib.hid ((k2.block b3 (lt_atM (fr_kept HI.out.m (by (repeat (first | exact Kept.refl _ | assumption | refine Kept.alloc ?_ _ | refine Kept.ext ?_ _ | refine Kept.drew ?_ | refine Kept.drewN ?_ _))))) (own_neM HO.out HI.out.ne.1)).trans (fr_kept HI.out.m (by (repeat (first | exact Kept.refl _ | assumption | refine Kept.alloc ?_ _ | refine Kept.ext ?_ _ | refine Kept.drew ?_ | refine Kept.drewN ?_ _))))); have E4 := Lib.hid ((k2.block b4 (lt_atM (fr_kept HI.out.u (by (repeat (first | exact Kept.refl _ | assumption | refine Kept.alloc ?_ _ | refine Kept.ext ?_ _ | refine Kept.drew ?_ | refine Kept.drewN ?_ _))))) (own_neM HO.out HI.out.ne.2.1)).trans (fr_kept HI.out.u (by (repeat (first | exact Kept.refl _ | assumption | refine Kept.alloc ?_ _ | refine Kept.ext ?_ _ | refine Kept.drew ?_ | refine Kept.drewN ?_ _))))); have KW := Lib.hid (kept_grown (W := W) (HI.out.kept.trans (by (repeat (first | exact Kept.refl _ | assumption | refine Kept.alloc ?_ _ | refine Kept.ext ?_ _ | refine Kept.drew ?_ | refine Kept.drewN ?_ _)))) (owns_kept HO.out (by (repeat (first | exact Kept.refl _ | assumption | refine Kept.alloc ?_ _ | refine Kept.ext ?_ _ | refine Kept.drew ?_ | refine Kept.drewN ?_ _)))) HWB.out k2); have HB1 := Lib.hid (Nat.le_trans HI.out.hb (Nat.le_trans (fr_le (by (repeat (first | exact Kept.refl _ | assumption | refine Kept.alloc ?_ _ | refine Kept.ext ?_ _ | refine Kept.drew ?_ | refine Kept.drewN ?_ _)))) k2.size)); have K1 := Lib.hid k1; clear k1 k2; obtain ⟨r0, r1, r2⟩ := box_atM e9; have L9b : Lower b9 w1.heap.size := ⟨r2⟩; have L10b : Lower b10 w1.heap.size := ⟨lt_atM e10⟩; have e11 : (w1.setCell ⟨b9, 0, none⟩ (.slice A1 (L + 1) cp1)).heap[b10]? = some (.cells #[.int .i64 E] 32 (0, 0)) := (setCell_neM (Ne.symm HI.out.ne.2.2.2.2.2.2.2.2)).trans e10; obtain ⟨r3, r4, r5⟩ := box_atM e11; have E9 := Lib.hid e9; have E11 := Lib.hid e11; clear e9 e10 e11))
    refine bodyPost_end (by simp only [results, Try.results42]; go_simp; rfl) rfl ?_
    obtain ⟨n1, n2, n3, n4, n5, n6, n7, n8, n9⟩ := HI.out.ne
    refine ⟨rfl, (KW.out.setCell HI.out.lo.1 _).setCell HI.out.lo.2 _, HI.out.lo, HI.out.ne, ?_, ?_, ?_, ⟨_, ?_, own_setM n4 (own_setM n3 K1.out)⟩, box_setM E11.out⟩
    · rw [World.size_setCell, World.size_setCell]; exact HB1.out
    · rw [setCell_neM n6, setCell_neM n5]; exact E3.out
    · rw [setCell_neM n8, setCell_neM n7]; exact E4.out
    · rw [setCell_neM n9]; exact box_setM E9.out
  · have g1 : (E == 0) = false := by simpa using hE
    have g2 : decide (E = 0) = false := decide_eq_false hE
    rw [show fstE E er = E from if_neg hE]
    clear hE
    go_enter Try.func42, Try.ntmps42
    go_wp2_with (first | (go_at_call 43; refine (HTM.out _).mono ?_; rintro e w9 ⟨rfl, x1, rfl⟩) | (at_builtin; refine wpList_appM rfl (.tmp 15) (.tmp 17) 37 39 2 16 rfl base ti _ Try.underlying37 HT.out HTE.out.1 HTE.out.2.1 HTE.out.2.2 rfl (by decide) (by decide) (Nat.le_trans HI.out.hb (fr_le (by (repeat (first | exact Kept.refl _ | assumption | refine Kept.alloc ?_ _ | refine Kept.ext ?_ _ | refine Kept.drew ?_ | refine Kept.drewN ?_ _))))) _ L _ rfl (owns_kept HO.out (by (repeat (first | exact Kept.refl _ | assumption | refine Kept.alloc ?_ _ | refine Kept.ext ?_ _ | refine Kept.drew ?_ | refine Kept.drewN ?_ _)))) _ 1 1 _ rfl (rows_lit2 _ _ p q (by go_simp) hgp hgq) (L + 1) rfl _ push_row (by omega) ?_; intro A1 cp1 w1 k1 k2; have e9 : w1.heap[b9]? = some (.cells #[.slice LA L lc] 37 (0, 0)) := (k2.block b9 (lt_atM (fr_kept HL1.out (by (repeat (first | exact Kept.refl _ | assumption | refine Kept.alloc ?_ _ | refine Kept.ext ?_ _ | refine Kept.drew ?_ | refine Kept.drewN ?_ _))))) (own_neM HO.out HI.out.ne.2.2.1)).trans (fr_kept HL1.out (by (repeat (first | exact Kept.refl _ | assumption | refine Kept.alloc ?_ _ | refine Kept.ext ?_ _ | refine Kept.drew ?_ | refine Kept.drewN ?_ _)))); have e10 : w1.heap[b10]? = some (.cells #[.int .i64 E] 32 (0, 0)) := (k2.block b10 (lt_atM (fr_kept HI.out.f (by (repeat (first | exact Kept.refl _ | assumption | refine Kept.alloc ?_ _ | refine Kept.ext ?_ _ | refine Kept.drew ?_ | refine Kept.drewN ?_ _))))) (own_neM HO.out HI.out.ne.2.2.2.1)).trans (fr_kept HI.out.f (by (repeat (first | exact Kept.refl _ | assumption | refine Kept.alloc ?_ _ | refine Kept.ext ?_ _ | refine Kept.drew ?_ | refine Kept.drewN ?_ _)))); have E3 := Lib.hid ((k2.block b3 (lt_atM (fr_kept HI.out.m (by (repeat (first | exact Kept.refl _ | assumption | refine Kept.alloc ?_ _ | refine Kept.ext ?_ _ | refine Kept.drew ?_ | refine Kept.drewN ?_ _))))) (own_neM HO.out HI.out.ne.1)).trans (fr_kept HI.out.m (by (repeat (first | exact Kept.refl _ | assumption | refine Kept.alloc ?_ _ | refine Kept.ext ?_ _ | refine Kept.drew ?_ | refine Kept.drewN ?_ _))))); have E4 := Lib.hid ((k2.block b4 (lt_atM (fr_kept HI.out.u (by (repeat (first | exact Kept.refl _ | assumption | refine Kept.alloc ?_ _ | refine Kept.ext ?_ _ | refine Kept.drew ?_ | refine Kept.drewN ?_ _))))) (own_neM HO.out HI.out.ne.2.1)).trans (fr_kept HI.out.u (by (repeat (first | exact Kept.refl _ | assumption | refine Kept.alloc ?_ _ | refine Kept.ext ?_ _ | refine Kept.drew ?_ | refine Kept.drewN ?_ _))))); have KW := Lib.hid (kept_grown (W := W) (HI.out.kept.trans (by (repeat (first | exact Kept.refl _ | assumption | refine Kept.alloc ?_ _ | refine Kept.ext ?_ _ | refine Kept.drew ?_ | refine Kept.drewN ?_ _)))) (owns_kept HO.out (by (repeat (first | exact Kept.refl _ | assumption | refine Kept.alloc ?_ _ | refine Kept.ext ?_ _ | refine Kept.drew ?_ | refine Kept.drewN ?_ _)))) HWB.out k2); have HB1 := Lib.hid (Nat.le_trans HI.out.hb (Nat.le_trans (fr_le (by (repeat (first | exact Kept.refl _ | assumption | refine Kept.alloc ?_ _ | refine Kept.ext ?_ _ | refine Kept.drew ?_ | refine Kept.drewN ?_ _)))) k2.size)); have K1 := Lib.hid k1; clear k1 k2; obtain ⟨r0, r1, r2⟩ := box_atM e9; have L9b : Lower b9 w1.heap.size := ⟨r2⟩; have L10b : Lower b10 w1.heap.size := ⟨lt_atM e10⟩; have e11 : (w1.setCell ⟨b9, 0, none⟩ (.slice A1 (L + 1) cp1)).heap[b10]? = some (.cells #[.int .i64 E] 32 (0, 0)) := (setCell_neM (Ne.symm HI.out.ne.2.2.2.2.2.2.2.2)).trans e10; obtain ⟨r3, r4, r5⟩ := box_atM e11; have E9 := Lib.hid e9; have E11 := Lib.hid e11; clear e9 e10 e11))
    refine bodyPost_end (by simp only [results, Try.results42]; go_simp; rfl) rfl ?_
    obtain ⟨n1, n2, n3, n4, n5, n6, n7, n8, n9⟩ := HI.out.ne
    refine ⟨rfl, KW.out.setCell HI.out.lo.1 _, HI.out.lo, HI.out.ne, ?_, ?_, ?_, ⟨_, box_setM E9.out, own_setM n3 K1.out⟩, E11.out⟩
    · rw [World.size_setCell]; exact HB1.out
    · rw [setCell_neM n5]; exact E3.out
    · rw [setCell_neM n7]; exact E4.out
end Go.Proofs.Ytodmdicegkjicaa
namespace Go.Proofs.Ytodmdicegkjicaa
set_option linter.unusedVariables false
set_option linter.unusedSimpArgs false
open Go.ChangeShapes Go.WideShapes Go.ChangeAt Go.RowKit Go.Deep
def v1 (a : R) : R := if a.e = 0 then resultS a.lo a.hi else ⟨0, 0, 4⟩
def v2 (a b : R) : R := if a.e = 0 ∧ b.e = 0 then resultS (a.lo + b.lo) (a.hi + b.hi) else ⟨0, 0, 4⟩
def v3 (a b c : R) : R := if a.e = 0 ∧ b.e = 0 ∧ c.e = 0 then resultS (a.lo + b.lo + c.lo) (a.hi + b.hi + c.hi) else ⟨0, 0, 4⟩
/-- The terms up to an order, added up. -/
def valV (m : Mo) (u0 u1 u2 k : Int) : R := if k = 0 then v1 (termS m u0 u1 u2 0) else if k = 1 then v2 (termS m u0 u1 u2 0) (termS m u0 u1 u2 1) else v3 (termS m u0 u1 u2 0) (termS m u0 u1 u2 1) (termS m u0 u1 u2 2)
def ValS (m : Mo) (u0 u1 u2 k : Int) : R := if rdyS m u0 u1 u2 k = 0 then valV m u0 u1 u2 k else ⟨0, 0, rdyS m u0 u1 u2 k⟩
theorem good_e {r : R} (h : good r) : r.e = 0 ∨ r.e = 4 := by
  rcases h with ⟨h, -⟩ | rfl
  · exact .inl h
  · exact .inr rfl
theorem good_v {r : R} (h : good r) (he : r.e = 0) : validB r.lo r.hi = true := by
  rcases h with ⟨-, h⟩ | rfl
  · exact h
  · cases he
theorem sums_ok {n : Nat} {lo hi : Nat → Int} (hn : n ≤ 10000) (h : allV n lo hi = true) : sumsS n lo hi = resultS (sumF n lo) (sumF n hi) := by
  have e : totS n lo hi = ⟨sumF n lo, sumF n hi, 0⟩ := by
    unfold totS
    rw [if_neg (by omega), if_pos h]
  unfold sumsS
  rw [e, if_pos rfl]
theorem spans_of {w : World} {A : Option Addr} {n : Nat} {F : Nat → Nat → Int} (h : RowsAt w A n 2 F) : SpansAt w A n (fun k => F k 0) (fun k => F k 1) := fun h0 => by
  obtain ⟨b, off, hA, hb, hc⟩ := h h0
  exact ⟨b, off, hA, hb, fun k hk => ⟨(hc k hk 0 (by omega)).1, (hc k hk 1 (by omega)).1⟩⟩
/-- Three spans behind one another. -/
def F3 (a b c : R) : Nat → Nat → Int := pushF (pushF (pushF (fun _ _ => 0) 0 a.lo a.hi) 1 b.lo b.hi) 2 c.lo c.hi
def F2 (a b : R) : Nat → Nat → Int := pushF (pushF (fun _ _ => 0) 0 a.lo a.hi) 1 b.lo b.hi
def F1 (a : R) : Nat → Nat → Int := pushF (fun _ _ => 0) 0 a.lo a.hi
theorem sums1 {a : R} (ha : good a) (h : a.e = 0) : sumsS 1 (fun k => F1 a k 0) (fun k => F1 a k 1) = v1 a := by
  rw [sums_ok (by omega) (by simp [allV_succ, allV_zero, F1, pushF, good_v ha h])]
  unfold v1
  rw [if_pos h]
  simp [sumF, F1, pushF]
theorem sums2 {a b : R} (ha : good a) (hb : good b) (h : a.e = 0) (k : b.e = 0) : sumsS 2 (fun k => F2 b a k 0) (fun k => F2 b a k 1) = v2 a b ∧ sumsS 2 (fun k => F2 a b k 0) (fun k => F2 a b k 1) = v2 a b := by
  constructor
  · rw [sums_ok (by omega) (by simp [allV_succ, allV_zero, F2, pushF, good_v ha h, good_v hb k])]
    unfold v2
    rw [if_pos ⟨h, k⟩]
    simp [sumF, F2, pushF, Int.add_comm]
  · rw [sums_ok (by omega) (by simp [allV_succ, allV_zero, F2, pushF, good_v ha h, good_v hb k])]
    unfold v2
    rw [if_pos ⟨h, k⟩]
    simp [sumF, F2, pushF]
theorem sums3 {a b c : R} (ha : good a) (hb : good b) (hc : good c) (h : a.e = 0) (k : b.e = 0) (l : c.e = 0) : sumsS 3 (fun k => F3 c b a k 0) (fun k => F3 c b a k 1) = v3 a b c ∧ sumsS 3 (fun k => F3 a b c k 0) (fun k => F3 a b c k 1) = v3 a b c := by
  constructor
  · rw [sums_ok (by omega) (by simp [allV_succ, allV_zero, F3, pushF, good_v ha h, good_v hb k, good_v hc l])]
    unfold v3
    rw [if_pos ⟨h, k, l⟩]
    simp only [sumF, F3, pushF]
    simp
    congr 1 <;> omega
  · rw [sums_ok (by omega) (by simp [allV_succ, allV_zero, F3, pushF, good_v ha h, good_v hb k, good_v hc l])]
    unfold v3
    rw [if_pos ⟨h, k, l⟩]
    simp [sumF, F3, pushF]
theorem push_I {F : Nat → Nat → Int} {L : Nat} {r : R} (hF : ∀ k, k < L → ∀ j, j < 2 → I64 (F k j)) (hr : good r) : ∀ k, k < L + 1 → ∀ j, j < 2 → I64 (pushF F L r.lo r.hi k j) := fun k hk j hj => by
  unfold pushF
  split
  · exact hF k (by assumption) j hj
  · split
    · exact (good_I hr).1
    · exact (good_I hr).2
set_option maxRecDepth 100000 in
set_option maxHeartbeats 8000000 in
theorem mval0_any (m0 m1 m2 m3 m4 m5 m6 m7 m8 m9 m10 u0 u1 u2 : Int) (w : World) (h1 : okM ⟨m0, m1, m2, m3, m4, m5, m6, m7, m8, m9, m10⟩ = true) (h2 : inB u0 u1 u2 384 = true) (h4 : ¬ (u0 = 0 ∧ u1 = 0 ∧ u2 = 0)) :
    Calls Try.prog 24 #[.agg #[.int .i64 m0, .int .i64 m1, .int .i64 m2, .int .i64 m3, .int .i64 m4, .int .i64 m5, .int .i64 m6, .int .i64 m7, .int .i64 m8, .int .i64 m9, .int .i64 m10], .agg #[.int .i64 u0, .int .i64 u1, .int .i64 u2], .int .i64 0] w fun e w' => e = .returned (.tuple #[.agg #[.int .i64 (valV ⟨m0, m1, m2, m3, m4, m5, m6, m7, m8, m9, m10⟩ u0 u1 u2 0).lo, .int .i64 (valV ⟨m0, m1, m2, m3, m4, m5, m6, m7, m8, m9, m10⟩ u0 u1 u2 0).hi], .int .i64 (valV ⟨m0, m1, m2, m3, m4, m5, m6, m7, m8, m9, m10⟩ u0 u1 u2 0).e]) ∧ Kept w w' := by
  have hrd : rdyS ⟨m0, m1, m2, m3, m4, m5, m6, m7, m8, m9, m10⟩ u0 u1 u2 0 = 0 := by
    unfold rdyS vecS
    rw [h1, h2]
    simp [frB, h4]
  have g0 := good_term (k := 0) h1 h2 h4
  have g1 := good_term (k := 1) h1 h2 h4
  have g2 := good_term (k := 2) h1 h2 h4
  have hc0 : ∀ (W : World) (base b3 b4 b9 b10 L : Nat) (F : Nat → Nat → Int) (E : Int) (wr : World), L ≤ 10 → AdI W base b3 b4 b9 b10 #[.int .i64 m0, .int .i64 m1, .int .i64 m2, .int .i64 m3, .int .i64 m4, .int .i64 m5, .int .i64 m6, .int .i64 m7, .int .i64 m8, .int .i64 m9, .int .i64 m10] #[.int .i64 u0, .int .i64 u1, .int .i64 u2] L F E wr → _ := fun W base b3 b4 b9 b10 L F E wr hL hI => mclo_any W base b3 b4 b9 b10 m0 m1 m2 m3 m4 m5 m6 m7 m8 m9 m10 u0 u1 u2 0 L F E wr hL h1 h2 h4 (by decide) hI
  have hc1 : ∀ (W : World) (base b3 b4 b9 b10 L : Nat) (F : Nat → Nat → Int) (E : Int) (wr : World), L ≤ 10 → AdI W base b3 b4 b9 b10 #[.int .i64 m0, .int .i64 m1, .int .i64 m2, .int .i64 m3, .int .i64 m4, .int .i64 m5, .int .i64 m6, .int .i64 m7, .int .i64 m8, .int .i64 m9, .int .i64 m10] #[.int .i64 u0, .int .i64 u1, .int .i64 u2] L F E wr → _ := fun W base b3 b4 b9 b10 L F E wr hL hI => mclo_any W base b3 b4 b9 b10 m0 m1 m2 m3 m4 m5 m6 m7 m8 m9 m10 u0 u1 u2 1 L F E wr hL h1 h2 h4 (by decide) hI
  have hc2 : ∀ (W : World) (base b3 b4 b9 b10 L : Nat) (F : Nat → Nat → Int) (E : Int) (wr : World), L ≤ 10 → AdI W base b3 b4 b9 b10 #[.int .i64 m0, .int .i64 m1, .int .i64 m2, .int .i64 m3, .int .i64 m4, .int .i64 m5, .int .i64 m6, .int .i64 m7, .int .i64 m8, .int .i64 m9, .int .i64 m10] #[.int .i64 u0, .int .i64 u1, .int .i64 u2] L F E wr → _ := fun W base b3 b4 b9 b10 L F E wr hL hI => mclo_any W base b3 b4 b9 b10 m0 m1 m2 m3 m4 m5 m6 m7 m8 m9 m10 u0 u1 u2 2 L F E wr hL h1 h2 h4 (by decide) hI
  have ev : valV ⟨m0, m1, m2, m3, m4, m5, m6, m7, m8, m9, m10⟩ u0 u1 u2 0 = v1 (termS ⟨m0, m1, m2, m3, m4, m5, m6, m7, m8, m9, m10⟩ u0 u1 u2 0) := rfl
  rw [ev]
  obtain ⟨a0, ha0⟩ : ∃ a, (termS ⟨m0, m1, m2, m3, m4, m5, m6, m7, m8, m9, m10⟩ u0 u1 u2 0) = a := ⟨_, rfl⟩
  obtain ⟨a1, ha1⟩ : ∃ a, (termS ⟨m0, m1, m2, m3, m4, m5, m6, m7, m8, m9, m10⟩ u0 u1 u2 1) = a := ⟨_, rfl⟩
  obtain ⟨a2, ha2⟩ : ∃ a, (termS ⟨m0, m1, m2, m3, m4, m5, m6, m7, m8, m9, m10⟩ u0 u1 u2 2) = a := ⟨_, rfl⟩
  rw [ha0] at hc0 g0
  rw [ha1] at hc1 g1
  rw [ha2] at hc2 g2
  simp only [ha0, ha1, ha2]
  obtain ⟨V, hV⟩ : ∃ V, v1 a0 = V := ⟨_, rfl⟩
  rw [hV]
  have HV := Lib.hid hV
  have HC0 := Lib.hid hc0
  have HC1 := Lib.hid hc1
  have HC2 := Lib.hid hc2
  have HRD := Lib.hid hrd
  have HG := Lib.hid (And.intro g0 (And.intro g1 g2))
  clear h1 h2 h4 hrd g0 g1 g2 ev hc0 hc1 hc2 ha0 ha1 ha2 hV
  go_enter Try.func24, Try.ntmps24
  go_upto_region 7 with (go_at_call 41; refine (mrdy_any _ _ _ _ _ _ _ _ _ _ _ _ _ _ _ _).mono ?_; rintro e w1 ⟨rfl, x1, rfl⟩; rw [HRD.out])
  refine wp_gen (fun Q hQ => ?_)
  obtain ⟨b9, hb9⟩ : ∃ b, (ext (((w.alloc (.cells #[.int .i64 m0, .int .i64 m1, .int .i64 m2, .int .i64 m3, .int .i64 m4, .int .i64 m5, .int .i64 m6, .int .i64 m7, .int .i64 m8, .int .i64 m9, .int .i64 m10] 31)).alloc (.cells #[.int .i64 u0, .int .i64 u1, .int .i64 u2] 24)).alloc (.cells #[.int .i64 0, .int .i64 0] 39)) x1).heap.size = b := ⟨_, rfl⟩
  have hA0 : AdI (ext (((w.alloc (.cells #[.int .i64 m0, .int .i64 m1, .int .i64 m2, .int .i64 m3, .int .i64 m4, .int .i64 m5, .int .i64 m6, .int .i64 m7, .int .i64 m8, .int .i64 m9, .int .i64 m10] 31)).alloc (.cells #[.int .i64 u0, .int .i64 u1, .int .i64 u2] 24)).alloc (.cells #[.int .i64 0, .int .i64 0] 39)) x1) (b9 + 1 + 1) w.heap.size (w.heap.size + 1) b9 (b9 + 1) #[.int .i64 m0, .int .i64 m1, .int .i64 m2, .int .i64 m3, .int .i64 m4, .int .i64 m5, .int .i64 m6, .int .i64 m7, .int .i64 m8, .int .i64 m9, .int .i64 m10] #[.int .i64 u0, .int .i64 u1, .int .i64 u2] 0 (fun _ _ => 0) 0 Q := by
    have hb : w.heap.size + 1 + 1 + 1 ≤ b9 := by
      rw [← hb9, ext_size, World.size_alloc, World.size_alloc, World.size_alloc]
      exact adv_le _ _
    have hkq : Kept (ext (((w.alloc (.cells #[.int .i64 m0, .int .i64 m1, .int .i64 m2, .int .i64 m3, .int .i64 m4, .int .i64 m5, .int .i64 m6, .int .i64 m7, .int .i64 m8, .int .i64 m9, .int .i64 m10] 31)).alloc (.cells #[.int .i64 u0, .int .i64 u1, .int .i64 u2] 24)).alloc (.cells #[.int .i64 0, .int .i64 0] 39)) x1) Q := by rw [hQ]; (repeat (first | exact Kept.refl _ | assumption | refine Kept.alloc ?_ _ | refine Kept.ext ?_ _ | refine Kept.drew ?_ | refine Kept.drewN ?_ _))
    refine ⟨hkq, ⟨by omega, by omega⟩, ⟨by omega, by omega, by omega, by omega, by omega, by omega, by omega, by omega, by omega⟩, ?_, ?_, ?_, ⟨.slice none 0 0, ?_, World.ownsRow_nil _ _ _ _⟩, ?_⟩
    · rw [hQ, ← hb9]
      simp only [World.size_alloc]
      omega
    · refine fr_kept (w := w.alloc (.cells #[.int .i64 m0, .int .i64 m1, .int .i64 m2, .int .i64 m3, .int .i64 m4, .int .i64 m5, .int .i64 m6, .int .i64 m7, .int .i64 m8, .int .i64 m9, .int .i64 m10] 31)) (heap_alloc_new w _) ?_
      rw [hQ]; (repeat (first | exact Kept.refl _ | assumption | refine Kept.alloc ?_ _ | refine Kept.ext ?_ _ | refine Kept.drew ?_ | refine Kept.drewN ?_ _))
    · refine fr_kept (w := (w.alloc (.cells #[.int .i64 m0, .int .i64 m1, .int .i64 m2, .int .i64 m3, .int .i64 m4, .int .i64 m5, .int .i64 m6, .int .i64 m7, .int .i64 m8, .int .i64 m9, .int .i64 m10] 31)).alloc (.cells #[.int .i64 u0, .int .i64 u1, .int .i64 u2] 24)) (alloc_at2 (w.alloc (.cells #[.int .i64 m0, .int .i64 m1, .int .i64 m2, .int .i64 m3, .int .i64 m4, .int .i64 m5, .int .i64 m6, .int .i64 m7, .int .i64 m8, .int .i64 m9, .int .i64 m10] 31)) (.cells #[.int .i64 u0, .int .i64 u1, .int .i64 u2] 24) (w.heap.size + 1)) ?_
      rw [hQ]; (repeat (first | exact Kept.refl _ | assumption | refine Kept.alloc ?_ _ | refine Kept.ext ?_ _ | refine Kept.drew ?_ | refine Kept.drewN ?_ _))
    · refine fr_kept (w := (ext (((w.alloc (.cells #[.int .i64 m0, .int .i64 m1, .int .i64 m2, .int .i64 m3, .int .i64 m4, .int .i64 m5, .int .i64 m6, .int .i64 m7, .int .i64 m8, .int .i64 m9, .int .i64 m10] 31)).alloc (.cells #[.int .i64 u0, .int .i64 u1, .int .i64 u2] 24)).alloc (.cells #[.int .i64 0, .int .i64 0] 39)) x1).alloc (.cells #[.slice none 0 0] 37)) ?_ ?_
      · rw [← hb9]; exact heap_alloc_new _ _
      · rw [hQ]; (repeat (first | exact Kept.refl _ | assumption | refine Kept.alloc ?_ _ | refine Kept.ext ?_ _ | refine Kept.drew ?_ | refine Kept.drewN ?_ _))
    · rw [hQ, ← hb9]
      have := heap_alloc_new ((ext (((w.alloc (.cells #[.int .i64 m0, .int .i64 m1, .int .i64 m2, .int .i64 m3, .int .i64 m4, .int .i64 m5, .int .i64 m6, .int .i64 m7, .int .i64 m8, .int .i64 m9, .int .i64 m10] 31)).alloc (.cells #[.int .i64 u0, .int .i64 u1, .int .i64 u2] 24)).alloc (.cells #[.int .i64 0, .int .i64 0] 39)) x1).alloc (.cells #[.slice none 0 0] 37)) (.cells #[.int .i64 0] 32)
      rwa [World.size_alloc] at this
  have hb9' : adv (w.heap.size + 1 + 1 + 1) x1.obs.size = b9 := by rw [← hb9, ext_size, World.size_alloc, World.size_alloc, World.size_alloc]
  rw [hb9']
  have HA0 := Lib.hid hA0
  clear hQ hA0 hb9 hb9'
  go_upto_region 13 with (first | (go_at_call 42; (with_reducible refine (HC0.out (ext (((w.alloc (.cells #[.int .i64 m0, .int .i64 m1, .int .i64 m2, .int .i64 m3, .int .i64 m4, .int .i64 m5, .int .i64 m6, .int .i64 m7, .int .i64 m8, .int .i64 m9, .int .i64 m10] 31)).alloc (.cells #[.int .i64 u0, .int .i64 u1, .int .i64 u2] 24)).alloc (.cells #[.int .i64 0, .int .i64 0] 39)) x1) (b9 + 1 + 1) w.heap.size (w.heap.size + 1) b9 (b9 + 1) 0 (fun _ _ => 0) (0) _ (by decide) HA0.out).mono ?_); rintro e w1 ⟨rfl, hA⟩; have HA1 := Lib.hid hA; clear hA))
  have hA := HA1.out
  obtain ⟨ga0, ga1, ga2⟩ := HG.out
  clear HA0 HA1 HG
  have hA : AdI (ext (((w.alloc (.cells #[.int .i64 m0, .int .i64 m1, .int .i64 m2, .int .i64 m3, .int .i64 m4, .int .i64 m5, .int .i64 m6, .int .i64 m7, .int .i64 m8, .int .i64 m9, .int .i64 m10] 31)).alloc (.cells #[.int .i64 u0, .int .i64 u1, .int .i64 u2] 24)).alloc (.cells #[.int .i64 0, .int .i64 0] 39)) x1) (b9 + 1 + 1) w.heap.size (w.heap.size + 1) b9 (b9 + 1) #[.int .i64 m0, .int .i64 m1, .int .i64 m2, .int .i64 m3, .int .i64 m4, .int .i64 m5, .int .i64 m6, .int .i64 m7, .int .i64 m8, .int .i64 m9, .int .i64 m10] #[.int .i64 u0, .int .i64 u1, .int .i64 u2] 1 (pushF (fun _ _ => 0) 0 a0.lo a0.hi) (fstE (0) a0.e) w1 := hA
  obtain ⟨v, l1, l2⟩ := hA.l
  obtain ⟨A, cp, rfl⟩ := own_sliceM l2
  have hr : RowsAt w1 A 1 2 (pushF (fun _ _ => 0) 0 a0.lo a0.hi) := rows_of_owns l2 (push_I (fun _ h => absurd h (by omega)) ga0)
  obtain ⟨f0, f1, f2⟩ := box_atM hA.f
  obtain ⟨l3, l4, l5⟩ := box_atM l1
  have hEf : ((fstE (0) a0.e) = 0 ∧ a0.e = 0) ∨ ((fstE (0) a0.e) = 4 ∧ v1 a0 = ⟨0, 0, 4⟩) := by
    rcases good_e ga0 with e0 | e0 <;> simp [e0, fstE, v1, v2, v3]
  obtain ⟨y, rfl⟩ := hA.kept
  rcases hEf with ⟨hE, e0⟩ | ⟨hE, hV⟩
  · rw [hE] at f0
    have hsum : ∀ w', Kept (ext (ext (((w.alloc (.cells #[.int .i64 m0, .int .i64 m1, .int .i64 m2, .int .i64 m3, .int .i64 m4, .int .i64 m5, .int .i64 m6, .int .i64 m7, .int .i64 m8, .int .i64 m9, .int .i64 m10] 31)).alloc (.cells #[.int .i64 u0, .int .i64 u1, .int .i64 u2] 24)).alloc (.cells #[.int .i64 0, .int .i64 0] 39)) x1) y) w' → Calls Try.prog 23 #[.slice A 1 cp] w' fun e w'' => e = .returned (.tuple #[.agg #[.int .i64 (v1 a0).lo, .int .i64 (v1 a0).hi], .int .i64 (v1 a0).e]) ∧ Kept w' w'' := fun w' hk => by
      have := ssum_any A 1 cp (fun k => (pushF (fun _ _ => 0) 0 a0.lo a0.hi) k 0) (fun k => (pushF (fun _ _ => 0) 0 a0.lo a0.hi) k 1) w' (by omega) (spans_of (hr.of hk))
      rwa [show sumsS 1 (fun k => (pushF (fun _ _ => 0) 0 a0.lo a0.hi) k 0) (fun k => (pushF (fun _ _ => 0) 0 a0.lo a0.hi) k 1) = v1 a0 from sums1 ga0 e0] at this
    rw [HV.out] at hsum
    have HS := Lib.hid hsum
    clear hsum hA l1 l2 hr hE ga0 ga1 ga2 e0 f1 f2 l4 l5
    go_wp2_with (go_at_call 23; refine (HS.out _ (by (repeat (first | exact Kept.refl _ | assumption | refine Kept.alloc ?_ _ | refine Kept.ext ?_ _ | refine Kept.drew ?_ | refine Kept.drewN ?_ _)))).mono ?_; rintro e w8 ⟨rfl, x2, rfl⟩)
    refine bodyPost_ret (by simp only [results, Try.results24]; go_simp; rfl) rfl ?_
    exact ⟨rfl, by (repeat (first | exact Kept.refl _ | assumption | refine Kept.alloc ?_ _ | refine Kept.ext ?_ _ | refine Kept.drew ?_ | refine Kept.drewN ?_ _))⟩
  · rw [hE] at f0
    have H9 := Lib.hid (HV.out.symm.trans hV)
    have f9 : b9 + 1 < adv (adv (w.heap.size + 1 + 1 + 1) x1.obs.size) y.obs.size := by
      rw [ext_size, ext_size, World.size_alloc, World.size_alloc, World.size_alloc] at f2
      exact f2
    have Lf : Lower (b9 + 1) (adv (adv (w.heap.size + 1 + 1 + 1) x1.obs.size) y.obs.size) := ⟨f9⟩
    clear hV hA l1 l2 hr hE ga0 ga1 ga2 f1 f2 f9 l3 l4 l5
    have f8 : (ext (ext (((w.alloc (.cells #[.int .i64 m0, .int .i64 m1, .int .i64 m2, .int .i64 m3, .int .i64 m4, .int .i64 m5, .int .i64 m6, .int .i64 m7, .int .i64 m8, .int .i64 m9, .int .i64 m10] 31)).alloc (.cells #[.int .i64 u0, .int .i64 u1, .int .i64 u2] 24)).alloc (.cells #[.int .i64 0, .int .i64 0] 39)) x1) ⟨y.draws + 1, y.obs⟩).cell? ⟨b9 + 1, 0, none⟩ = some (.int .i64 4) := f0
    go_wp2_with fail
    go_region
    all_goals
      go_wp2_with fail
      refine bodyPost_ret (by simp only [results, Try.results24]; go_simp; rfl) rfl ?_
      exact ⟨by rw [H9.out], by (repeat (first | exact Kept.refl _ | assumption | refine Kept.alloc ?_ _ | refine Kept.ext ?_ _ | refine Kept.drew ?_ | refine Kept.drewN ?_ _))⟩
set_option maxRecDepth 100000 in
set_option maxHeartbeats 8000000 in
theorem mval1_any (m0 m1 m2 m3 m4 m5 m6 m7 m8 m9 m10 u0 u1 u2 : Int) (w : World) (h1 : okM ⟨m0, m1, m2, m3, m4, m5, m6, m7, m8, m9, m10⟩ = true) (h2 : inB u0 u1 u2 384 = true) (h4 : ¬ (u0 = 0 ∧ u1 = 0 ∧ u2 = 0)) :
    Calls Try.prog 24 #[.agg #[.int .i64 m0, .int .i64 m1, .int .i64 m2, .int .i64 m3, .int .i64 m4, .int .i64 m5, .int .i64 m6, .int .i64 m7, .int .i64 m8, .int .i64 m9, .int .i64 m10], .agg #[.int .i64 u0, .int .i64 u1, .int .i64 u2], .int .i64 1] w fun e w' => e = .returned (.tuple #[.agg #[.int .i64 (valV ⟨m0, m1, m2, m3, m4, m5, m6, m7, m8, m9, m10⟩ u0 u1 u2 1).lo, .int .i64 (valV ⟨m0, m1, m2, m3, m4, m5, m6, m7, m8, m9, m10⟩ u0 u1 u2 1).hi], .int .i64 (valV ⟨m0, m1, m2, m3, m4, m5, m6, m7, m8, m9, m10⟩ u0 u1 u2 1).e]) ∧ Kept w w' := by
  have hrd : rdyS ⟨m0, m1, m2, m3, m4, m5, m6, m7, m8, m9, m10⟩ u0 u1 u2 1 = 0 := by
    unfold rdyS vecS
    rw [h1, h2]
    simp [frB, h4]
  have g0 := good_term (k := 0) h1 h2 h4
  have g1 := good_term (k := 1) h1 h2 h4
  have g2 := good_term (k := 2) h1 h2 h4
  have hc0 : ∀ (W : World) (base b3 b4 b9 b10 L : Nat) (F : Nat → Nat → Int) (E : Int) (wr : World), L ≤ 10 → AdI W base b3 b4 b9 b10 #[.int .i64 m0, .int .i64 m1, .int .i64 m2, .int .i64 m3, .int .i64 m4, .int .i64 m5, .int .i64 m6, .int .i64 m7, .int .i64 m8, .int .i64 m9, .int .i64 m10] #[.int .i64 u0, .int .i64 u1, .int .i64 u2] L F E wr → _ := fun W base b3 b4 b9 b10 L F E wr hL hI => mclo_any W base b3 b4 b9 b10 m0 m1 m2 m3 m4 m5 m6 m7 m8 m9 m10 u0 u1 u2 0 L F E wr hL h1 h2 h4 (by decide) hI
  have hc1 : ∀ (W : World) (base b3 b4 b9 b10 L : Nat) (F : Nat → Nat → Int) (E : Int) (wr : World), L ≤ 10 → AdI W base b3 b4 b9 b10 #[.int .i64 m0, .int .i64 m1, .int .i64 m2, .int .i64 m3, .int .i64 m4, .int .i64 m5, .int .i64 m6, .int .i64 m7, .int .i64 m8, .int .i64 m9, .int .i64 m10] #[.int .i64 u0, .int .i64 u1, .int .i64 u2] L F E wr → _ := fun W base b3 b4 b9 b10 L F E wr hL hI => mclo_any W base b3 b4 b9 b10 m0 m1 m2 m3 m4 m5 m6 m7 m8 m9 m10 u0 u1 u2 1 L F E wr hL h1 h2 h4 (by decide) hI
  have hc2 : ∀ (W : World) (base b3 b4 b9 b10 L : Nat) (F : Nat → Nat → Int) (E : Int) (wr : World), L ≤ 10 → AdI W base b3 b4 b9 b10 #[.int .i64 m0, .int .i64 m1, .int .i64 m2, .int .i64 m3, .int .i64 m4, .int .i64 m5, .int .i64 m6, .int .i64 m7, .int .i64 m8, .int .i64 m9, .int .i64 m10] #[.int .i64 u0, .int .i64 u1, .int .i64 u2] L F E wr → _ := fun W base b3 b4 b9 b10 L F E wr hL hI => mclo_any W base b3 b4 b9 b10 m0 m1 m2 m3 m4 m5 m6 m7 m8 m9 m10 u0 u1 u2 2 L F E wr hL h1 h2 h4 (by decide) hI
  have ev : valV ⟨m0, m1, m2, m3, m4, m5, m6, m7, m8, m9, m10⟩ u0 u1 u2 1 = v2 (termS ⟨m0, m1, m2, m3, m4, m5, m6, m7, m8, m9, m10⟩ u0 u1 u2 0) (termS ⟨m0, m1, m2, m3, m4, m5, m6, m7, m8, m9, m10⟩ u0 u1 u2 1) := rfl
  rw [ev]
  obtain ⟨a0, ha0⟩ : ∃ a, (termS ⟨m0, m1, m2, m3, m4, m5, m6, m7, m8, m9, m10⟩ u0 u1 u2 0) = a := ⟨_, rfl⟩
  obtain ⟨a1, ha1⟩ : ∃ a, (termS ⟨m0, m1, m2, m3, m4, m5, m6, m7, m8, m9, m10⟩ u0 u1 u2 1) = a := ⟨_, rfl⟩
  obtain ⟨a2, ha2⟩ : ∃ a, (termS ⟨m0, m1, m2, m3, m4, m5, m6, m7, m8, m9, m10⟩ u0 u1 u2 2) = a := ⟨_, rfl⟩
  rw [ha0] at hc0 g0
  rw [ha1] at hc1 g1
  rw [ha2] at hc2 g2
  simp only [ha0, ha1, ha2]
  obtain ⟨V, hV⟩ : ∃ V, v2 a0 a1 = V := ⟨_, rfl⟩
  rw [hV]
  have HV := Lib.hid hV
  have HC0 := Lib.hid hc0
  have HC1 := Lib.hid hc1
  have HC2 := Lib.hid hc2
  have HRD := Lib.hid hrd
  have HG := Lib.hid (And.intro g0 (And.intro g1 g2))
  clear h1 h2 h4 hrd g0 g1 g2 ev hc0 hc1 hc2 ha0 ha1 ha2 hV
  go_enter Try.func24, Try.ntmps24
  go_upto_region 7 with (go_at_call 41; refine (mrdy_any _ _ _ _ _ _ _ _ _ _ _ _ _ _ _ _).mono ?_; rintro e w1 ⟨rfl, x1, rfl⟩; rw [HRD.out])
  refine wp_gen (fun Q hQ => ?_)
  obtain ⟨b9, hb9⟩ : ∃ b, (ext (((w.alloc (.cells #[.int .i64 m0, .int .i64 m1, .int .i64 m2, .int .i64 m3, .int .i64 m4, .int .i64 m5, .int .i64 m6, .int .i64 m7, .int .i64 m8, .int .i64 m9, .int .i64 m10] 31)).alloc (.cells #[.int .i64 u0, .int .i64 u1, .int .i64 u2] 24)).alloc (.cells #[.int .i64 0, .int .i64 0] 39)) x1).heap.size = b := ⟨_, rfl⟩
  have hA0 : AdI (ext (((w.alloc (.cells #[.int .i64 m0, .int .i64 m1, .int .i64 m2, .int .i64 m3, .int .i64 m4, .int .i64 m5, .int .i64 m6, .int .i64 m7, .int .i64 m8, .int .i64 m9, .int .i64 m10] 31)).alloc (.cells #[.int .i64 u0, .int .i64 u1, .int .i64 u2] 24)).alloc (.cells #[.int .i64 0, .int .i64 0] 39)) x1) (b9 + 1 + 1) w.heap.size (w.heap.size + 1) b9 (b9 + 1) #[.int .i64 m0, .int .i64 m1, .int .i64 m2, .int .i64 m3, .int .i64 m4, .int .i64 m5, .int .i64 m6, .int .i64 m7, .int .i64 m8, .int .i64 m9, .int .i64 m10] #[.int .i64 u0, .int .i64 u1, .int .i64 u2] 0 (fun _ _ => 0) 0 Q := by
    have hb : w.heap.size + 1 + 1 + 1 ≤ b9 := by
      rw [← hb9, ext_size, World.size_alloc, World.size_alloc, World.size_alloc]
      exact adv_le _ _
    have hkq : Kept (ext (((w.alloc (.cells #[.int .i64 m0, .int .i64 m1, .int .i64 m2, .int .i64 m3, .int .i64 m4, .int .i64 m5, .int .i64 m6, .int .i64 m7, .int .i64 m8, .int .i64 m9, .int .i64 m10] 31)).alloc (.cells #[.int .i64 u0, .int .i64 u1, .int .i64 u2] 24)).alloc (.cells #[.int .i64 0, .int .i64 0] 39)) x1) Q := by rw [hQ]; (repeat (first | exact Kept.refl _ | assumption | refine Kept.alloc ?_ _ | refine Kept.ext ?_ _ | refine Kept.drew ?_ | refine Kept.drewN ?_ _))
    refine ⟨hkq, ⟨by omega, by omega⟩, ⟨by omega, by omega, by omega, by omega, by omega, by omega, by omega, by omega, by omega⟩, ?_, ?_, ?_, ⟨.slice none 0 0, ?_, World.ownsRow_nil _ _ _ _⟩, ?_⟩
    · rw [hQ, ← hb9]
      simp only [World.size_alloc]
      omega
    · refine fr_kept (w := w.alloc (.cells #[.int .i64 m0, .int .i64 m1, .int .i64 m2, .int .i64 m3, .int .i64 m4, .int .i64 m5, .int .i64 m6, .int .i64 m7, .int .i64 m8, .int .i64 m9, .int .i64 m10] 31)) (heap_alloc_new w _) ?_
      rw [hQ]; (repeat (first | exact Kept.refl _ | assumption | refine Kept.alloc ?_ _ | refine Kept.ext ?_ _ | refine Kept.drew ?_ | refine Kept.drewN ?_ _))
    · refine fr_kept (w := (w.alloc (.cells #[.int .i64 m0, .int .i64 m1, .int .i64 m2, .int .i64 m3, .int .i64 m4, .int .i64 m5, .int .i64 m6, .int .i64 m7, .int .i64 m8, .int .i64 m9, .int .i64 m10] 31)).alloc (.cells #[.int .i64 u0, .int .i64 u1, .int .i64 u2] 24)) (alloc_at2 (w.alloc (.cells #[.int .i64 m0, .int .i64 m1, .int .i64 m2, .int .i64 m3, .int .i64 m4, .int .i64 m5, .int .i64 m6, .int .i64 m7, .int .i64 m8, .int .i64 m9, .int .i64 m10] 31)) (.cells #[.int .i64 u0, .int .i64 u1, .int .i64 u2] 24) (w.heap.size + 1)) ?_
      rw [hQ]; (repeat (first | exact Kept.refl _ | assumption | refine Kept.alloc ?_ _ | refine Kept.ext ?_ _ | refine Kept.drew ?_ | refine Kept.drewN ?_ _))
    · refine fr_kept (w := (ext (((w.alloc (.cells #[.int .i64 m0, .int .i64 m1, .int .i64 m2, .int .i64 m3, .int .i64 m4, .int .i64 m5, .int .i64 m6, .int .i64 m7, .int .i64 m8, .int .i64 m9, .int .i64 m10] 31)).alloc (.cells #[.int .i64 u0, .int .i64 u1, .int .i64 u2] 24)).alloc (.cells #[.int .i64 0, .int .i64 0] 39)) x1).alloc (.cells #[.slice none 0 0] 37)) ?_ ?_
      · rw [← hb9]; exact heap_alloc_new _ _
      · rw [hQ]; (repeat (first | exact Kept.refl _ | assumption | refine Kept.alloc ?_ _ | refine Kept.ext ?_ _ | refine Kept.drew ?_ | refine Kept.drewN ?_ _))
    · rw [hQ, ← hb9]
      have := heap_alloc_new ((ext (((w.alloc (.cells #[.int .i64 m0, .int .i64 m1, .int .i64 m2, .int .i64 m3, .int .i64 m4, .int .i64 m5, .int .i64 m6, .int .i64 m7, .int .i64 m8, .int .i64 m9, .int .i64 m10] 31)).alloc (.cells #[.int .i64 u0, .int .i64 u1, .int .i64 u2] 24)).alloc (.cells #[.int .i64 0, .int .i64 0] 39)) x1).alloc (.cells #[.slice none 0 0] 37)) (.cells #[.int .i64 0] 32)
      rwa [World.size_alloc] at this
  have hb9' : adv (w.heap.size + 1 + 1 + 1) x1.obs.size = b9 := by rw [← hb9, ext_size, World.size_alloc, World.size_alloc, World.size_alloc]
  rw [hb9']
  have HA0 := Lib.hid hA0
  clear hQ hA0 hb9 hb9'
  go_upto_region 13 with (first | (go_at_call 42; (with_reducible refine (HC0.out (ext (((w.alloc (.cells #[.int .i64 m0, .int .i64 m1, .int .i64 m2, .int .i64 m3, .int .i64 m4, .int .i64 m5, .int .i64 m6, .int .i64 m7, .int .i64 m8, .int .i64 m9, .int .i64 m10] 31)).alloc (.cells #[.int .i64 u0, .int .i64 u1, .int .i64 u2] 24)).alloc (.cells #[.int .i64 0, .int .i64 0] 39)) x1) (b9 + 1 + 1) w.heap.size (w.heap.size + 1) b9 (b9 + 1) 1 (pushF (fun _ _ => 0) 0 a1.lo a1.hi) (fstE (0) a1.e) _ (by decide) HA1.out).mono ?_); rintro e w2 ⟨rfl, hA⟩; have HA2 := Lib.hid hA; clear hA) | (go_at_call 42; (with_reducible refine (HC1.out (ext (((w.alloc (.cells #[.int .i64 m0, .int .i64 m1, .int .i64 m2, .int .i64 m3, .int .i64 m4, .int .i64 m5, .int .i64 m6, .int .i64 m7, .int .i64 m8, .int .i64 m9, .int .i64 m10] 31)).alloc (.cells #[.int .i64 u0, .int .i64 u1, .int .i64 u2] 24)).alloc (.cells #[.int .i64 0, .int .i64 0] 39)) x1) (b9 + 1 + 1) w.heap.size (w.heap.size + 1) b9 (b9 + 1) 0 (fun _ _ => 0) (0) _ (by decide) HA0.out).mono ?_); rintro e w1 ⟨rfl, hA⟩; have HA1 := Lib.hid hA; clear hA))
  have hA := HA2.out
  obtain ⟨ga0, ga1, ga2⟩ := HG.out
  clear HA0 HA1 HA2 HG
  have hA : AdI (ext (((w.alloc (.cells #[.int .i64 m0, .int .i64 m1, .int .i64 m2, .int .i64 m3, .int .i64 m4, .int .i64 m5, .int .i64 m6, .int .i64 m7, .int .i64 m8, .int .i64 m9, .int .i64 m10] 31)).alloc (.cells #[.int .i64 u0, .int .i64 u1, .int .i64 u2] 24)).alloc (.cells #[.int .i64 0, .int .i64 0] 39)) x1) (b9 + 1 + 1) w.heap.size (w.heap.size + 1) b9 (b9 + 1) #[.int .i64 m0, .int .i64 m1, .int .i64 m2, .int .i64 m3, .int .i64 m4, .int .i64 m5, .int .i64 m6, .int .i64 m7, .int .i64 m8, .int .i64 m9, .int .i64 m10] #[.int .i64 u0, .int .i64 u1, .int .i64 u2] 2 (pushF (pushF (fun _ _ => 0) 0 a1.lo a1.hi) 1 a0.lo a0.hi) (fstE (fstE (0) a1.e) a0.e) w2 := hA
  obtain ⟨v, l1, l2⟩ := hA.l
  obtain ⟨A, cp, rfl⟩ := own_sliceM l2
  have hr : RowsAt w2 A 2 2 (pushF (pushF (fun _ _ => 0) 0 a1.lo a1.hi) 1 a0.lo a0.hi) := rows_of_owns l2 (push_I (push_I (fun _ h => absurd h (by omega)) ga1) ga0)
  obtain ⟨f0, f1, f2⟩ := box_atM hA.f
  obtain ⟨l3, l4, l5⟩ := box_atM l1
  have hEf : ((fstE (fstE (0) a1.e) a0.e) = 0 ∧ a0.e = 0 ∧ a1.e = 0) ∨ ((fstE (fstE (0) a1.e) a0.e) = 4 ∧ v2 a0 a1 = ⟨0, 0, 4⟩) := by
    rcases good_e ga0 with e0 | e0 <;> rcases good_e ga1 with e1 | e1 <;> simp [e0, e1, fstE, v1, v2, v3]
  obtain ⟨y, rfl⟩ := hA.kept
  rcases hEf with ⟨hE, ⟨e0, e1⟩⟩ | ⟨hE, hV⟩
  · rw [hE] at f0
    have hsum : ∀ w', Kept (ext (ext (((w.alloc (.cells #[.int .i64 m0, .int .i64 m1, .int .i64 m2, .int .i64 m3, .int .i64 m4, .int .i64 m5, .int .i64 m6, .int .i64 m7, .int .i64 m8, .int .i64 m9, .int .i64 m10] 31)).alloc (.cells #[.int .i64 u0, .int .i64 u1, .int .i64 u2] 24)).alloc (.cells #[.int .i64 0, .int .i64 0] 39)) x1) y) w' → Calls Try.prog 23 #[.slice A 2 cp] w' fun e w'' => e = .returned (.tuple #[.agg #[.int .i64 (v2 a0 a1).lo, .int .i64 (v2 a0 a1).hi], .int .i64 (v2 a0 a1).e]) ∧ Kept w' w'' := fun w' hk => by
      have := ssum_any A 2 cp (fun k => (pushF (pushF (fun _ _ => 0) 0 a1.lo a1.hi) 1 a0.lo a0.hi) k 0) (fun k => (pushF (pushF (fun _ _ => 0) 0 a1.lo a1.hi) 1 a0.lo a0.hi) k 1) w' (by omega) (spans_of (hr.of hk))
      rwa [show sumsS 2 (fun k => (pushF (pushF (fun _ _ => 0) 0 a1.lo a1.hi) 1 a0.lo a0.hi) k 0) (fun k => (pushF (pushF (fun _ _ => 0) 0 a1.lo a1.hi) 1 a0.lo a0.hi) k 1) = v2 a0 a1 from (sums2 ga0 ga1 e0 e1).1] at this
    rw [HV.out] at hsum
    have HS := Lib.hid hsum
    clear hsum hA l1 l2 hr hE ga0 ga1 ga2 e0 e1 f1 f2 l4 l5
    go_wp2_with (go_at_call 23; refine (HS.out _ (by (repeat (first | exact Kept.refl _ | assumption | refine Kept.alloc ?_ _ | refine Kept.ext ?_ _ | refine Kept.drew ?_ | refine Kept.drewN ?_ _)))).mono ?_; rintro e w8 ⟨rfl, x2, rfl⟩)
    refine bodyPost_ret (by simp only [results, Try.results24]; go_simp; rfl) rfl ?_
    exact ⟨rfl, by (repeat (first | exact Kept.refl _ | assumption | refine Kept.alloc ?_ _ | refine Kept.ext ?_ _ | refine Kept.drew ?_ | refine Kept.drewN ?_ _))⟩
  · rw [hE] at f0
    have H9 := Lib.hid (HV.out.symm.trans hV)
    have f9 : b9 + 1 < adv (adv (w.heap.size + 1 + 1 + 1) x1.obs.size) y.obs.size := by
      rw [ext_size, ext_size, World.size_alloc, World.size_alloc, World.size_alloc] at f2
      exact f2
    have Lf : Lower (b9 + 1) (adv (adv (w.heap.size + 1 + 1 + 1) x1.obs.size) y.obs.size) := ⟨f9⟩
    clear hV hA l1 l2 hr hE ga0 ga1 ga2 f1 f2 f9 l3 l4 l5
    have f8 : (ext (ext (((w.alloc (.cells #[.int .i64 m0, .int .i64 m1, .int .i64 m2, .int .i64 m3, .int .i64 m4, .int .i64 m5, .int .i64 m6, .int .i64 m7, .int .i64 m8, .int .i64 m9, .int .i64 m10] 31)).alloc (.cells #[.int .i64 u0, .int .i64 u1, .int .i64 u2] 24)).alloc (.cells #[.int .i64 0, .int .i64 0] 39)) x1) ⟨y.draws + 1, y.obs⟩).cell? ⟨b9 + 1, 0, none⟩ = some (.int .i64 4) := f0
    go_wp2_with fail
    go_region
    all_goals
      go_wp2_with fail
      refine bodyPost_ret (by simp only [results, Try.results24]; go_simp; rfl) rfl ?_
      exact ⟨by rw [H9.out], by (repeat (first | exact Kept.refl _ | assumption | refine Kept.alloc ?_ _ | refine Kept.ext ?_ _ | refine Kept.drew ?_ | refine Kept.drewN ?_ _))⟩
set_option maxRecDepth 100000 in
set_option maxHeartbeats 8000000 in
theorem mval2_any (m0 m1 m2 m3 m4 m5 m6 m7 m8 m9 m10 u0 u1 u2 : Int) (w : World) (h1 : okM ⟨m0, m1, m2, m3, m4, m5, m6, m7, m8, m9, m10⟩ = true) (h2 : inB u0 u1 u2 384 = true) (h4 : ¬ (u0 = 0 ∧ u1 = 0 ∧ u2 = 0)) :
    Calls Try.prog 24 #[.agg #[.int .i64 m0, .int .i64 m1, .int .i64 m2, .int .i64 m3, .int .i64 m4, .int .i64 m5, .int .i64 m6, .int .i64 m7, .int .i64 m8, .int .i64 m9, .int .i64 m10], .agg #[.int .i64 u0, .int .i64 u1, .int .i64 u2], .int .i64 2] w fun e w' => e = .returned (.tuple #[.agg #[.int .i64 (valV ⟨m0, m1, m2, m3, m4, m5, m6, m7, m8, m9, m10⟩ u0 u1 u2 2).lo, .int .i64 (valV ⟨m0, m1, m2, m3, m4, m5, m6, m7, m8, m9, m10⟩ u0 u1 u2 2).hi], .int .i64 (valV ⟨m0, m1, m2, m3, m4, m5, m6, m7, m8, m9, m10⟩ u0 u1 u2 2).e]) ∧ Kept w w' := by
  have hrd : rdyS ⟨m0, m1, m2, m3, m4, m5, m6, m7, m8, m9, m10⟩ u0 u1 u2 2 = 0 := by
    unfold rdyS vecS
    rw [h1, h2]
    simp [frB, h4]
  have g0 := good_term (k := 0) h1 h2 h4
  have g1 := good_term (k := 1) h1 h2 h4
  have g2 := good_term (k := 2) h1 h2 h4
  have hc0 : ∀ (W : World) (base b3 b4 b9 b10 L : Nat) (F : Nat → Nat → Int) (E : Int) (wr : World), L ≤ 10 → AdI W base b3 b4 b9 b10 #[.int .i64 m0, .int .i64 m1, .int .i64 m2, .int .i64 m3, .int .i64 m4, .int .i64 m5, .int .i64 m6, .int .i64 m7, .int .i64 m8, .int .i64 m9, .int .i64 m10] #[.int .i64 u0, .int .i64 u1, .int .i64 u2] L F E wr → _ := fun W base b3 b4 b9 b10 L F E wr hL hI => mclo_any W base b3 b4 b9 b10 m0 m1 m2 m3 m4 m5 m6 m7 m8 m9 m10 u0 u1 u2 0 L F E wr hL h1 h2 h4 (by decide) hI
  have hc1 : ∀ (W : World) (base b3 b4 b9 b10 L : Nat) (F : Nat → Nat → Int) (E : Int) (wr : World), L ≤ 10 → AdI W base b3 b4 b9 b10 #[.int .i64 m0, .int .i64 m1, .int .i64 m2, .int .i64 m3, .int .i64 m4, .int .i64 m5, .int .i64 m6, .int .i64 m7, .int .i64 m8, .int .i64 m9, .int .i64 m10] #[.int .i64 u0, .int .i64 u1, .int .i64 u2] L F E wr → _ := fun W base b3 b4 b9 b10 L F E wr hL hI => mclo_any W base b3 b4 b9 b10 m0 m1 m2 m3 m4 m5 m6 m7 m8 m9 m10 u0 u1 u2 1 L F E wr hL h1 h2 h4 (by decide) hI
  have hc2 : ∀ (W : World) (base b3 b4 b9 b10 L : Nat) (F : Nat → Nat → Int) (E : Int) (wr : World), L ≤ 10 → AdI W base b3 b4 b9 b10 #[.int .i64 m0, .int .i64 m1, .int .i64 m2, .int .i64 m3, .int .i64 m4, .int .i64 m5, .int .i64 m6, .int .i64 m7, .int .i64 m8, .int .i64 m9, .int .i64 m10] #[.int .i64 u0, .int .i64 u1, .int .i64 u2] L F E wr → _ := fun W base b3 b4 b9 b10 L F E wr hL hI => mclo_any W base b3 b4 b9 b10 m0 m1 m2 m3 m4 m5 m6 m7 m8 m9 m10 u0 u1 u2 2 L F E wr hL h1 h2 h4 (by decide) hI
  have ev : valV ⟨m0, m1, m2, m3, m4, m5, m6, m7, m8, m9, m10⟩ u0 u1 u2 2 = v3 (termS ⟨m0, m1, m2, m3, m4, m5, m6, m7, m8, m9, m10⟩ u0 u1 u2 0) (termS ⟨m0, m1, m2, m3, m4, m5, m6, m7, m8, m9, m10⟩ u0 u1 u2 1) (termS ⟨m0, m1, m2, m3, m4, m5, m6, m7, m8, m9, m10⟩ u0 u1 u2 2) := rfl
  rw [ev]
  obtain ⟨a0, ha0⟩ : ∃ a, (termS ⟨m0, m1, m2, m3, m4, m5, m6, m7, m8, m9, m10⟩ u0 u1 u2 0) = a := ⟨_, rfl⟩
  obtain ⟨a1, ha1⟩ : ∃ a, (termS ⟨m0, m1, m2, m3, m4, m5, m6, m7, m8, m9, m10⟩ u0 u1 u2 1) = a := ⟨_, rfl⟩
  obtain ⟨a2, ha2⟩ : ∃ a, (termS ⟨m0, m1, m2, m3, m4, m5, m6, m7, m8, m9, m10⟩ u0 u1 u2 2) = a := ⟨_, rfl⟩
  rw [ha0] at hc0 g0
  rw [ha1] at hc1 g1
  rw [ha2] at hc2 g2
  simp only [ha0, ha1, ha2]
  obtain ⟨V, hV⟩ : ∃ V, v3 a0 a1 a2 = V := ⟨_, rfl⟩
  rw [hV]
  have HV := Lib.hid hV
  have HC0 := Lib.hid hc0
  have HC1 := Lib.hid hc1
  have HC2 := Lib.hid hc2
  have HRD := Lib.hid hrd
  have HG := Lib.hid (And.intro g0 (And.intro g1 g2))
  clear h1 h2 h4 hrd g0 g1 g2 ev hc0 hc1 hc2 ha0 ha1 ha2 hV
  go_enter Try.func24, Try.ntmps24
  go_upto_region 7 with (go_at_call 41; refine (mrdy_any _ _ _ _ _ _ _ _ _ _ _ _ _ _ _ _).mono ?_; rintro e w1 ⟨rfl, x1, rfl⟩; rw [HRD.out])
  refine wp_gen (fun Q hQ => ?_)
  obtain ⟨b9, hb9⟩ : ∃ b, (ext (((w.alloc (.cells #[.int .i64 m0, .int .i64 m1, .int .i64 m2, .int .i64 m3, .int .i64 m4, .int .i64 m5, .int .i64 m6, .int .i64 m7, .int .i64 m8, .int .i64 m9, .int .i64 m10] 31)).alloc (.cells #[.int .i64 u0, .int .i64 u1, .int .i64 u2] 24)).alloc (.cells #[.int .i64 0, .int .i64 0] 39)) x1).heap.size = b := ⟨_, rfl⟩
  have hA0 : AdI (ext (((w.alloc (.cells #[.int .i64 m0, .int .i64 m1, .int .i64 m2, .int .i64 m3, .int .i64 m4, .int .i64 m5, .int .i64 m6, .int .i64 m7, .int .i64 m8, .int .i64 m9, .int .i64 m10] 31)).alloc (.cells #[.int .i64 u0, .int .i64 u1, .int .i64 u2] 24)).alloc (.cells #[.int .i64 0, .int .i64 0] 39)) x1) (b9 + 1 + 1) w.heap.size (w.heap.size + 1) b9 (b9 + 1) #[.int .i64 m0, .int .i64 m1, .int .i64 m2, .int .i64 m3, .int .i64 m4, .int .i64 m5, .int .i64 m6, .int .i64 m7, .int .i64 m8, .int .i64 m9, .int .i64 m10] #[.int .i64 u0, .int .i64 u1, .int .i64 u2] 0 (fun _ _ => 0) 0 Q := by
    have hb : w.heap.size + 1 + 1 + 1 ≤ b9 := by
      rw [← hb9, ext_size, World.size_alloc, World.size_alloc, World.size_alloc]
      exact adv_le _ _
    have hkq : Kept (ext (((w.alloc (.cells #[.int .i64 m0, .int .i64 m1, .int .i64 m2, .int .i64 m3, .int .i64 m4, .int .i64 m5, .int .i64 m6, .int .i64 m7, .int .i64 m8, .int .i64 m9, .int .i64 m10] 31)).alloc (.cells #[.int .i64 u0, .int .i64 u1, .int .i64 u2] 24)).alloc (.cells #[.int .i64 0, .int .i64 0] 39)) x1) Q := by rw [hQ]; (repeat (first | exact Kept.refl _ | assumption | refine Kept.alloc ?_ _ | refine Kept.ext ?_ _ | refine Kept.drew ?_ | refine Kept.drewN ?_ _))
    refine ⟨hkq, ⟨by omega, by omega⟩, ⟨by omega, by omega, by omega, by omega, by omega, by omega, by omega, by omega, by omega⟩, ?_, ?_, ?_, ⟨.slice none 0 0, ?_, World.ownsRow_nil _ _ _ _⟩, ?_⟩
    · rw [hQ, ← hb9]
      simp only [World.size_alloc]
      omega
    · refine fr_kept (w := w.alloc (.cells #[.int .i64 m0, .int .i64 m1, .int .i64 m2, .int .i64 m3, .int .i64 m4, .int .i64 m5, .int .i64 m6, .int .i64 m7, .int .i64 m8, .int .i64 m9, .int .i64 m10] 31)) (heap_alloc_new w _) ?_
      rw [hQ]; (repeat (first | exact Kept.refl _ | assumption | refine Kept.alloc ?_ _ | refine Kept.ext ?_ _ | refine Kept.drew ?_ | refine Kept.drewN ?_ _))
    · refine fr_kept (w := (w.alloc (.cells #[.int .i64 m0, .int .i64 m1, .int .i64 m2, .int .i64 m3, .int .i64 m4, .int .i64 m5, .int .i64 m6, .int .i64 m7, .int .i64 m8, .int .i64 m9, .int .i64 m10] 31)).alloc (.cells #[.int .i64 u0, .int .i64 u1, .int .i64 u2] 24)) (alloc_at2 (w.alloc (.cells #[.int .i64 m0, .int .i64 m1, .int .i64 m2, .int .i64 m3, .int .i64 m4, .int .i64 m5, .int .i64 m6, .int .i64 m7, .int .i64 m8, .int .i64 m9, .int .i64 m10] 31)) (.cells #[.int .i64 u0, .int .i64 u1, .int .i64 u2] 24) (w.heap.size + 1)) ?_
      rw [hQ]; (repeat (first | exact Kept.refl _ | assumption | refine Kept.alloc ?_ _ | refine Kept.ext ?_ _ | refine Kept.drew ?_ | refine Kept.drewN ?_ _))
    · refine fr_kept (w := (ext (((w.alloc (.cells #[.int .i64 m0, .int .i64 m1, .int .i64 m2, .int .i64 m3, .int .i64 m4, .int .i64 m5, .int .i64 m6, .int .i64 m7, .int .i64 m8, .int .i64 m9, .int .i64 m10] 31)).alloc (.cells #[.int .i64 u0, .int .i64 u1, .int .i64 u2] 24)).alloc (.cells #[.int .i64 0, .int .i64 0] 39)) x1).alloc (.cells #[.slice none 0 0] 37)) ?_ ?_
      · rw [← hb9]; exact heap_alloc_new _ _
      · rw [hQ]; (repeat (first | exact Kept.refl _ | assumption | refine Kept.alloc ?_ _ | refine Kept.ext ?_ _ | refine Kept.drew ?_ | refine Kept.drewN ?_ _))
    · rw [hQ, ← hb9]
      have := heap_alloc_new ((ext (((w.alloc (.cells #[.int .i64 m0, .int .i64 m1, .int .i64 m2, .int .i64 m3, .int .i64 m4, .int .i64 m5, .int .i64 m6, .int .i64 m7, .int .i64 m8, .int .i64 m9, .int .i64 m10] 31)).alloc (.cells #[.int .i64 u0, .int .i64 u1, .int .i64 u2] 24)).alloc (.cells #[.int .i64 0, .int .i64 0] 39)) x1).alloc (.cells #[.slice none 0 0] 37)) (.cells #[.int .i64 0] 32)
      rwa [World.size_alloc] at this
  have hb9' : adv (w.heap.size + 1 + 1 + 1) x1.obs.size = b9 := by rw [← hb9, ext_size, World.size_alloc, World.size_alloc, World.size_alloc]
  rw [hb9']
  have HA0 := Lib.hid hA0
  clear hQ hA0 hb9 hb9'
  go_upto_region 13 with (first | (go_at_call 42; (with_reducible refine (HC0.out (ext (((w.alloc (.cells #[.int .i64 m0, .int .i64 m1, .int .i64 m2, .int .i64 m3, .int .i64 m4, .int .i64 m5, .int .i64 m6, .int .i64 m7, .int .i64 m8, .int .i64 m9, .int .i64 m10] 31)).alloc (.cells #[.int .i64 u0, .int .i64 u1, .int .i64 u2] 24)).alloc (.cells #[.int .i64 0, .int .i64 0] 39)) x1) (b9 + 1 + 1) w.heap.size (w.heap.size + 1) b9 (b9 + 1) 2 (pushF (pushF (fun _ _ => 0) 0 a2.lo a2.hi) 1 a1.lo a1.hi) (fstE (fstE (0) a2.e) a1.e) _ (by decide) HA2.out).mono ?_); rintro e w3 ⟨rfl, hA⟩; have HA3 := Lib.hid hA; clear hA) | (go_at_call 42; (with_reducible refine (HC1.out (ext (((w.alloc (.cells #[.int .i64 m0, .int .i64 m1, .int .i64 m2, .int .i64 m3, .int .i64 m4, .int .i64 m5, .int .i64 m6, .int .i64 m7, .int .i64 m8, .int .i64 m9, .int .i64 m10] 31)).alloc (.cells #[.int .i64 u0, .int .i64 u1, .int .i64 u2] 24)).alloc (.cells #[.int .i64 0, .int .i64 0] 39)) x1) (b9 + 1 + 1) w.heap.size (w.heap.size + 1) b9 (b9 + 1) 1 (pushF (fun _ _ => 0) 0 a2.lo a2.hi) (fstE (0) a2.e) _ (by decide) HA1.out).mono ?_); rintro e w2 ⟨rfl, hA⟩; have HA2 := Lib.hid hA; clear hA) | (go_at_call 42; (with_reducible refine (HC2.out (ext (((w.alloc (.cells #[.int .i64 m0, .int .i64 m1, .int .i64 m2, .int .i64 m3, .int .i64 m4, .int .i64 m5, .int .i64 m6, .int .i64 m7, .int .i64 m8, .int .i64 m9, .int .i64 m10] 31)).alloc (.cells #[.int .i64 u0, .int .i64 u1, .int .i64 u2] 24)).alloc (.cells #[.int .i64 0, .int .i64 0] 39)) x1) (b9 + 1 + 1) w.heap.size (w.heap.size + 1) b9 (b9 + 1) 0 (fun _ _ => 0) (0) _ (by decide) HA0.out).mono ?_); rintro e w1 ⟨rfl, hA⟩; have HA1 := Lib.hid hA; clear hA))
  have hA := HA3.out
  obtain ⟨ga0, ga1, ga2⟩ := HG.out
  clear HA0 HA1 HA2 HA3 HG
  have hA : AdI (ext (((w.alloc (.cells #[.int .i64 m0, .int .i64 m1, .int .i64 m2, .int .i64 m3, .int .i64 m4, .int .i64 m5, .int .i64 m6, .int .i64 m7, .int .i64 m8, .int .i64 m9, .int .i64 m10] 31)).alloc (.cells #[.int .i64 u0, .int .i64 u1, .int .i64 u2] 24)).alloc (.cells #[.int .i64 0, .int .i64 0] 39)) x1) (b9 + 1 + 1) w.heap.size (w.heap.size + 1) b9 (b9 + 1) #[.int .i64 m0, .int .i64 m1, .int .i64 m2, .int .i64 m3, .int .i64 m4, .int .i64 m5, .int .i64 m6, .int .i64 m7, .int .i64 m8, .int .i64 m9, .int .i64 m10] #[.int .i64 u0, .int .i64 u1, .int .i64 u2] 3 (pushF (pushF (pushF (fun _ _ => 0) 0 a2.lo a2.hi) 1 a1.lo a1.hi) 2 a0.lo a0.hi) (fstE (fstE (fstE (0) a2.e) a1.e) a0.e) w3 := hA
  obtain ⟨v, l1, l2⟩ := hA.l
  obtain ⟨A, cp, rfl⟩ := own_sliceM l2
  have hr : RowsAt w3 A 3 2 (pushF (pushF (pushF (fun _ _ => 0) 0 a2.lo a2.hi) 1 a1.lo a1.hi) 2 a0.lo a0.hi) := rows_of_owns l2 (push_I (push_I (push_I (fun _ h => absurd h (by omega)) ga2) ga1) ga0)
  obtain ⟨f0, f1, f2⟩ := box_atM hA.f
  obtain ⟨l3, l4, l5⟩ := box_atM l1
  have hEf : ((fstE (fstE (fstE (0) a2.e) a1.e) a0.e) = 0 ∧ a0.e = 0 ∧ a1.e = 0 ∧ a2.e = 0) ∨ ((fstE (fstE (fstE (0) a2.e) a1.e) a0.e) = 4 ∧ v3 a0 a1 a2 = ⟨0, 0, 4⟩) := by
    rcases good_e ga0 with e0 | e0 <;> rcases good_e ga1 with e1 | e1 <;> rcases good_e ga2 with e2 | e2 <;> simp [e0, e1, e2, fstE, v1, v2, v3]
  obtain ⟨y, rfl⟩ := hA.kept
  rcases hEf with ⟨hE, ⟨e0, e1, e2⟩⟩ | ⟨hE, hV⟩
  · rw [hE] at f0
    have hsum : ∀ w', Kept (ext (ext (((w.alloc (.cells #[.int .i64 m0, .int .i64 m1, .int .i64 m2, .int .i64 m3, .int .i64 m4, .int .i64 m5, .int .i64 m6, .int .i64 m7, .int .i64 m8, .int .i64 m9, .int .i64 m10] 31)).alloc (.cells #[.int .i64 u0, .int .i64 u1, .int .i64 u2] 24)).alloc (.cells #[.int .i64 0, .int .i64 0] 39)) x1) y) w' → Calls Try.prog 23 #[.slice A 3 cp] w' fun e w'' => e = .returned (.tuple #[.agg #[.int .i64 (v3 a0 a1 a2).lo, .int .i64 (v3 a0 a1 a2).hi], .int .i64 (v3 a0 a1 a2).e]) ∧ Kept w' w'' := fun w' hk => by
      have := ssum_any A 3 cp (fun k => (pushF (pushF (pushF (fun _ _ => 0) 0 a2.lo a2.hi) 1 a1.lo a1.hi) 2 a0.lo a0.hi) k 0) (fun k => (pushF (pushF (pushF (fun _ _ => 0) 0 a2.lo a2.hi) 1 a1.lo a1.hi) 2 a0.lo a0.hi) k 1) w' (by omega) (spans_of (hr.of hk))
      rwa [show sumsS 3 (fun k => (pushF (pushF (pushF (fun _ _ => 0) 0 a2.lo a2.hi) 1 a1.lo a1.hi) 2 a0.lo a0.hi) k 0) (fun k => (pushF (pushF (pushF (fun _ _ => 0) 0 a2.lo a2.hi) 1 a1.lo a1.hi) 2 a0.lo a0.hi) k 1) = v3 a0 a1 a2 from (sums3 ga0 ga1 ga2 e0 e1 e2).1] at this
    rw [HV.out] at hsum
    have HS := Lib.hid hsum
    clear hsum hA l1 l2 hr hE ga0 ga1 ga2 e0 e1 e2 f1 f2 l4 l5
    go_wp2_with (go_at_call 23; refine (HS.out _ (by (repeat (first | exact Kept.refl _ | assumption | refine Kept.alloc ?_ _ | refine Kept.ext ?_ _ | refine Kept.drew ?_ | refine Kept.drewN ?_ _)))).mono ?_; rintro e w8 ⟨rfl, x2, rfl⟩)
    refine bodyPost_ret (by simp only [results, Try.results24]; go_simp; rfl) rfl ?_
    exact ⟨rfl, by (repeat (first | exact Kept.refl _ | assumption | refine Kept.alloc ?_ _ | refine Kept.ext ?_ _ | refine Kept.drew ?_ | refine Kept.drewN ?_ _))⟩
  · rw [hE] at f0
    have H9 := Lib.hid (HV.out.symm.trans hV)
    have f9 : b9 + 1 < adv (adv (w.heap.size + 1 + 1 + 1) x1.obs.size) y.obs.size := by
      rw [ext_size, ext_size, World.size_alloc, World.size_alloc, World.size_alloc] at f2
      exact f2
    have Lf : Lower (b9 + 1) (adv (adv (w.heap.size + 1 + 1 + 1) x1.obs.size) y.obs.size) := ⟨f9⟩
    clear hV hA l1 l2 hr hE ga0 ga1 ga2 f1 f2 f9 l3 l4 l5
    have f8 : (ext (ext (((w.alloc (.cells #[.int .i64 m0, .int .i64 m1, .int .i64 m2, .int .i64 m3, .int .i64 m4, .int .i64 m5, .int .i64 m6, .int .i64 m7, .int .i64 m8, .int .i64 m9, .int .i64 m10] 31)).alloc (.cells #[.int .i64 u0, .int .i64 u1, .int .i64 u2] 24)).alloc (.cells #[.int .i64 0, .int .i64 0] 39)) x1) ⟨y.draws + 1, y.obs⟩).cell? ⟨b9 + 1, 0, none⟩ = some (.int .i64 4) := f0
    go_wp2_with fail
    go_region
    all_goals
      go_wp2_with fail
      refine bodyPost_ret (by simp only [results, Try.results24]; go_simp; rfl) rfl ?_
      exact ⟨by rw [H9.out], by (repeat (first | exact Kept.refl _ | assumption | refine Kept.alloc ?_ _ | refine Kept.ext ?_ _ | refine Kept.drew ?_ | refine Kept.drewN ?_ _))⟩
set_option maxRecDepth 100000 in
set_option maxHeartbeats 4000000 in
theorem mValue_any (m0 m1 m2 m3 m4 m5 m6 m7 m8 m9 m10 u0 u1 u2 k : Int) (w : World) :
    Calls Try.prog 24 #[.agg #[.int .i64 m0, .int .i64 m1, .int .i64 m2, .int .i64 m3, .int .i64 m4, .int .i64 m5, .int .i64 m6, .int .i64 m7, .int .i64 m8, .int .i64 m9, .int .i64 m10], .agg #[.int .i64 u0, .int .i64 u1, .int .i64 u2], .int .i64 k] w fun e w' => e = .returned (.tuple #[.agg #[.int .i64 (ValS ⟨m0, m1, m2, m3, m4, m5, m6, m7, m8, m9, m10⟩ u0 u1 u2 k).lo, .int .i64 (ValS ⟨m0, m1, m2, m3, m4, m5, m6, m7, m8, m9, m10⟩ u0 u1 u2 k).hi], .int .i64 (ValS ⟨m0, m1, m2, m3, m4, m5, m6, m7, m8, m9, m10⟩ u0 u1 u2 k).e]) ∧ Kept w w' := by
  by_cases h : rdyS ⟨m0, m1, m2, m3, m4, m5, m6, m7, m8, m9, m10⟩ u0 u1 u2 k = 0
  · rw [show ValS ⟨m0, m1, m2, m3, m4, m5, m6, m7, m8, m9, m10⟩ u0 u1 u2 k = valV ⟨m0, m1, m2, m3, m4, m5, m6, m7, m8, m9, m10⟩ u0 u1 u2 k from if_pos h]
    obtain ⟨h1, h2, h3, h4⟩ := rdy_0 h
    obtain ⟨k1, k2⟩ := frB_true h3
    rcases (show k = 0 ∨ k = 1 ∨ k = 2 by omega) with rfl | rfl | rfl
    · exact mval0_any _ _ _ _ _ _ _ _ _ _ _ _ _ _ w h1 h2 h4
    · exact mval1_any _ _ _ _ _ _ _ _ _ _ _ _ _ _ w h1 h2 h4
    · exact mval2_any _ _ _ _ _ _ _ _ _ _ _ _ _ _ w h1 h2 h4
  · rw [show ValS ⟨m0, m1, m2, m3, m4, m5, m6, m7, m8, m9, m10⟩ u0 u1 u2 k = ⟨0, 0, rdyS ⟨m0, m1, m2, m3, m4, m5, m6, m7, m8, m9, m10⟩ u0 u1 u2 k⟩ from if_neg h]
    obtain ⟨x, hx⟩ : ∃ x, rdyS ⟨m0, m1, m2, m3, m4, m5, m6, m7, m8, m9, m10⟩ u0 u1 u2 k = x := ⟨_, rfl⟩
    rw [hx] at h ⊢
    have H := Lib.hid hx
    have g1 : (x == 0) = false := by simpa using h
    have g2 : decide (x = 0) = false := by simpa using h
    clear h hx
    go_enter Try.func24, Try.ntmps24
    go_wp2_with (go_at_call 41; refine (mrdy_any _ _ _ _ _ _ _ _ _ _ _ _ _ _ _ _).mono ?_; rintro e w1 ⟨rfl, x1, rfl⟩; rw [H.out])
    refine bodyPost_ret (by simp only [results, Try.results24]; go_simp; rfl) rfl ?_
    exact ⟨rfl, by (repeat (first | exact Kept.refl _ | assumption | refine Kept.alloc ?_ _ | refine Kept.ext ?_ _ | refine Kept.drew ?_ | refine Kept.drewN ?_ _))⟩
end Go.Proofs.Ytodmdicegkjicaa

