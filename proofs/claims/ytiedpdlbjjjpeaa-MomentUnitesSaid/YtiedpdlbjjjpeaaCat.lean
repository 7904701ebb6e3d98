/- A list appended to a list of the call's own, and the moments of both. No conditions but those of each theorem. -/
import Derived.Test.YtiedpdlbjjjpeaaOwn
import Derived.Maps.AppendAt
import Derived.Deep.DrawnRows
namespace Go.Proofs.Ytiedpdlbjjjpeaa
set_option linter.unusedVariables false
set_option linter.unusedSimpArgs false
open Go.ChangeShapes Go.WideShapes Go.ChangeAt Go.RowKit
theorem alloc_at2 (w : World) (o : Obj) (n : Nat) [h : SizeIs w n] : (w.alloc o).heap[n]? = some o := by
  have e := h.eq
  subst e
  exact heap_alloc_new w o
theorem own_slice2 {w : World} {base size n : Nat} {e : TypeId} {v : Value} {xs : List Value} (h : w.ownsRow base e size v n xs) : ∃ A cp, v = .slice A n cp := by
  rcases h.2 with ⟨rfl, rfl⟩ | ⟨g, cap, cur, rfl, -⟩
  · exact ⟨_, _, rfl⟩
  · exact ⟨_, _, rfl⟩
theorem rowC_one {c : Nat} {f : Nat → Nat → Int} {n : Nat} : ∀ u ∈ rowC c f n, u.oneCell' = true := by
  induction n with
  | zero => simp [rowC]
  | succ n ih =>
    intro u hu
    unfold rowC at hu
    rw [List.mem_append] at hu
    rcases hu with hu | hu
    · exact ih u hu
    · simp only [List.mem_map] at hu
      obtain ⟨j, -, rfl⟩ := hu
      rfl
theorem rowC_cut {c : Nat} {f : Nat → Nat → Int} {n j : Nat} {u : Value} (hc : 0 < c) (h : (rowC c f n)[j]? = some u) : j / c < n ∧ j % c < c ∧ u = .int .i64 (f (j / c) (j % c)) := by
  have hl : j < n * c := by
    have := (List.getElem?_eq_some_iff.1 h).1
    rwa [rowC_len] at this
  have h1 : j / c < n := (Nat.div_lt_iff_lt_mul hc).2 hl
  have h2 : j % c < c := Nat.mod_lt _ hc
  have h3 := rowC_get c f h1 h2
  rw [show j / c * c + j % c = j by rw [Nat.mul_comm]; exact Nat.div_add_mod j c] at h3
  rw [h] at h3
  exact ⟨h1, h2, Option.some.inj h3⟩
/-- The same run of an append whose source is a list that can be read. -/
theorem run_append_rows {P : Program} {w : World} (base : Nat) (t ty e : TypeId) (i : TypeInfo) (z : Value) (c bytes : Nat) (ht : P.underlying t = some (.slice e)) (hi : P.info? e = some i) (hz : i.zero = some z)
    (hsize : i.size = c) (hby : i.bytes = bytes) (hzs : z.cells.size = c) (hc : 0 < c) (v : Value) (n : Nat) (xs : List Value) (hown : w.ownsRow base e c v n xs)
    (A : Option Addr) (m cp : Nat) (f : Nat → Nat → Int) (hr : RowsAt w A m c f) (h63 : n + m ≤ maxLen) (hbytes : (n + m) * bytes ≤ 140737488355328) (hbase : base ≤ w.heap.size) :
    ∃ v' w', (Builtin.append_ #[t, t] ty #[v, .slice A m cp]).run P w = .ok v' w' ∧ w'.ownsRow base e c v' (n + m) (xs ++ rowC c f m) ∧ w.grownBy w' v.ownBlock ∧ (v'.ownBlock = v.ownBlock ∨ v'.ownBlock = some w.heap.size) := by
  rcases A with _ | ad
  · have hm : m = 0 := by
      rcases Nat.eq_zero_or_pos m with h0 | h0
      · exact h0
      · obtain ⟨b, off, h, -⟩ := hr h0
        cases h
    subst hm
    refine ⟨v, w, ?_, by simpa [rowC] using hown, World.grownBy.refl w _, .inl rfl⟩
    rcases hown.2 with ⟨rfl, rfl⟩ | ⟨g, cap, cur, rfl, -, -, hnc, -⟩
    · simp [Builtin.append_, run_underlying ht, sizeOf, typeInfo, hi, Builtin.lenOf, Builtin.firstCells]
    · simp [Builtin.append_, run_underlying ht, sizeOf, typeInfo, hi, Builtin.lenOf, Builtin.firstCells, hnc, storeCells]
  · have hcells : ∀ j u, (rowC c f m)[j]? = some u → w.cell? (ad.add j) = some u := by
      intro j u hu
      obtain ⟨h1, h2, rfl⟩ := rowC_cut hc hu
      obtain ⟨b, off, h, -, hcell⟩ := hr (Nat.lt_of_le_of_lt (Nat.zero_le _) h1)
      injection h with h
      subst h
      have := (hcell _ h1 _ h2).1
      rw [show off + j / c * c + j % c = off + j by rw [Nat.add_assoc, Nat.mul_comm, Nat.div_add_mod]] at this
      have e : (Addr.mk b off none).add j = ⟨b, off + j, none⟩ := by
        unfold Addr.add
        by_cases h0 : j = 0
        · subst h0; simp
        · rw [if_neg h0]
      rw [e]
      exact this
    obtain ⟨v', w', h1, h2, h3, -, h4⟩ := run_append_own_at (P := P) w base t ty e i z c bytes ht hi hz hsize hby hzs hc v n xs hown ad m cp (rowC c f m) (rowC_len c f m) hcells rowC_one h63 hbytes hbase
    exact ⟨v', w', h1, h2, h3, h4⟩
theorem step_rows {P : Program} {w WB : World} {ops : Array Oper} {o : Oper} {a : Act} {K : Act → World → Prop} {Q : Exit → Act → World → Prop} {E : Prop} (hgd : o.guard = none) (s x : Operand) (t : TypeId)
    (ho : o.op = .call { callee := .builtin .append, args := #[s, x], argTypes := #[t, t] }) (hk : Kept WB w)
    (base : Nat) (e : TypeId) (i : TypeInfo) (z : Value) (c bytes : Nat) (ht : P.underlying t = some (.slice e)) (hi : P.info? e = some i) (hz : i.zero = some z)
    (hsize : i.size = c) (hby : i.bytes = bytes) (hzs : z.cells.size = c) (hc : 0 < c) (hWB : WB.heap.size ≤ base) (hbase : base ≤ w.heap.size)
    (v : Value) (n : Nat) (xs : List Value) (hs : a.eval s = v) (hown : w.ownsRow base e c v n xs)
    (A : Option Addr) (m cp : Nat) (f : Nat → Nat → Int) (hx : a.eval x = .slice A m cp) (hr : RowsAt w A m c f) (h63 : n + m ≤ maxLen) (hbytes : (n + m) * bytes ≤ 140737488355328)
    (h : ∀ A' cp' y, (ext WB y).ownsRow base e c (.slice A' (n + m) cp') (n + m) (xs ++ rowC c f m) → K (a.put o.dst (.slice A' (n + m) cp')) (ext WB y)) :
    if Region.wanted o (yielded ops a.tmps) = true then Oper.wp P o a w K Q else E := by
  have hw : Region.wanted o (yielded ops a.tmps) = true := by simp [Region.wanted, hgd]
  rw [if_pos hw]
  obtain ⟨v', w', hrun, h2, h3, h9⟩ := run_append_rows (P := P) base t o.type e i z c bytes ht hi hz hsize hby hzs hc v n xs hown A m cp f hr h63 hbytes hbase
  obtain ⟨y, rfl⟩ := kept_grown hk hown hWB h3
  obtain ⟨A', cp', rfl⟩ := own_slice2 h2
  unfold Oper.wp execOp
  simp only [ho, resolve, invoke, builtin, Sem.run_bind, Sem.run_pure, Result.andThen_ok, List.map_toArray, List.map_cons, List.map_nil, hs, hx, hrun]
  exact h A' cp' y h2
theorem step_rows2 {P : Program} {w WB : World} {ops : Array Oper} {o : Oper} {a : Act} {K : Act → World → Prop} {Q : Exit → Act → World → Prop} {E : Prop} (hgd : o.guard = none) (s x : Operand) (t : TypeId)
    (ho : o.op = .call { callee := .builtin .append, args := #[s, x], argTypes := #[t, t] }) (hk : Kept WB w)
    (base : Nat) (e : TypeId) (i : TypeInfo) (z : Value) (c bytes : Nat) (ht : P.underlying t = some (.slice e)) (hi : P.info? e = some i) (hz : i.zero = some z)
    (hsize : i.size = c) (hby : i.bytes = bytes) (hzs : z.cells.size = c) (hc : 0 < c) (hWB : WB.heap.size ≤ base) (hbase : base ≤ w.heap.size)
    (v : Value) (n : Nat) (xs : List Value) (hs : a.eval s = v) (hown : w.ownsRow base e c v n xs)
    (A : Option Addr) (m cp : Nat) (f : Nat → Nat → Int) (hx : a.eval x = .slice A m cp) (hr : RowsAt w A m c f) (h63 : n + m ≤ maxLen) (hbytes : (n + m) * bytes ≤ 140737488355328)
    (h : ∀ A' cp' y, (∀ b, b < w.heap.size → some b ≠ v.ownBlock → (ext WB y).heap[b]? = w.heap[b]? ∧ some b ≠ (Value.slice A' (n + m) cp').ownBlock) → (ext WB y).ownsRow base e c (.slice A' (n + m) cp') (n + m) (xs ++ rowC c f m) → K (a.put o.dst (.slice A' (n + m) cp')) (ext WB y)) :
    if Region.wanted o (yielded ops a.tmps) = true then Oper.wp P o a w K Q else E := by
  have hw : Region.wanted o (yielded ops a.tmps) = true := by simp [Region.wanted, hgd]
  rw [if_pos hw]
  obtain ⟨v', w', hrun, h2, h3, h9⟩ := run_append_rows (P := P) base t o.type e i z c bytes ht hi hz hsize hby hzs hc v n xs hown A m cp f hr h63 hbytes hbase
  obtain ⟨y, rfl⟩ := kept_grown hk hown hWB h3
  have hz : ∀ b, b < w.heap.size → some b ≠ v.ownBlock → (ext WB y).heap[b]? = w.heap[b]? ∧ some b ≠ v'.ownBlock := fun b hb hne => by
    refine ⟨h3.block b hb hne, ?_⟩
    rcases h9 with h9 | h9
    · rw [h9]; exact hne
    · rw [h9]; intro q; injection q with q; omega
  obtain ⟨A', cp', rfl⟩ := own_slice2 h2
  unfold Oper.wp execOp
  simp only [ho, resolve, invoke, builtin, Sem.run_bind, Sem.run_pure, Result.andThen_ok, List.map_toArray, List.map_cons, List.map_nil, hs, hx, hrun]
  exact h A' cp' y hz h2
theorem heap_kept {w w' : World} {b : Nat} {o : Obj} (h : w.heap[b]? = some o) (hk : Kept w w') : w'.heap[b]? = some o := by
  obtain ⟨x, rfl⟩ := hk
  rw [ext_block _ _ _ (Array.getElem?_eq_some_iff.1 h).1]
  exact h
/-- A block above what was there, by its number. -/
theorem late_block {WB : World} {y : More} {n b : Nat} {cs : Array Value} {T : TypeId} [hs : SizeIs WB n] (h : (ext WB y).heap[b]? = some (.cells cs T (0, 0))) (hb : n ≤ b) :
    ∃ i, b = adv n i ∧ (ext WB y).heap[adv n i]? = some (.cells cs T (0, 0)) ∧ Lower i y.obs.size ∧ (∀ j, y.cell i j = cs[j]?) ∧ (∀ j, y.froz i j = false) := by
  have e : b = adv n (b - n) := by unfold adv; omega
  rw [e] at h
  have h' := h
  rw [ext_at] at h
  refine ⟨b - n, e, h', ⟨(Array.getElem?_eq_some_iff.1 h).1⟩, fun j => ?_, fun j => ?_⟩
  · unfold More.cell; rw [h]
  · unfold More.froz; rw [h]; simp
/-- The one list behind the other. -/
def catF (n : Nat) (f g : Nat → Nat → Int) : Nat → Nat → Int := fun k => if k < n then f k else g (k - n)
theorem rowC_le {c : Nat} {f g : Nat → Nat → Int} {n : Nat} (h : ∀ k, k < n → f k = g k) : rowC c f n = rowC c g n := by
  induction n with
  | zero => rfl
  | succ n ih => unfold rowC; rw [ih (fun k hk => h k (by omega)), h n (by omega)]
theorem rowC_succ (c : Nat) (f : Nat → Nat → Int) (n : Nat) : rowC c f (n + 1) = rowC c f n ++ (List.range c).map fun j => Value.int .i64 (f n j) := rfl
theorem rowC_cat (c n m : Nat) (f g : Nat → Nat → Int) : rowC c (catF n f g) (n + m) = rowC c f n ++ rowC c g m := by
  induction m with
  | zero =>
    simp only [Nat.add_zero, rowC, List.append_nil]
    exact rowC_le fun k hk => by unfold catF; rw [if_pos hk]
  | succ m ih =>
    rw [show n + (m + 1) = (n + m) + 1 by omega, rowC_succ, rowC_succ c g, ih, List.append_assoc, show catF n f g (n + m) = g m by unfold catF; rw [if_neg (by omega), show n + m - n = m by omega]]
theorem momF_le {f g : Nat → Nat → Int} {c0 c1 c2 : Int} {n : Nat} (h : ∀ k, k < n → f k = g k) : momF f c0 c1 c2 n = momF g c0 c1 c2 n := by
  induction n with
  | zero => rfl
  | succ n ih => unfold momF; rw [ih (fun k hk => h k (by omega)), h n (by omega)]
theorem firstE_leF {f g : Nat → Nat → Int} {n : Nat} (h : ∀ k, k < n → f k = g k) : firstE f n = firstE g n := by
  induction n with
  | zero => rfl
  | succ n ih => unfold firstE; rw [ih (fun k hk => h k (by omega)), h n (by omega)]
theorem sum_add (a b : Mo) (q a0 a1 a2 a3 a4 a5 a6 a7 a8 : Int) : sumM a (addA b q a0 a1 a2 a3 a4 a5 a6 a7 a8) = addA (sumM a b) q a0 a1 a2 a3 a4 a5 a6 a7 a8 := by
  unfold sumM addA
  simp only [Mo.mk.injEq]
  refine ⟨?_, ?_, ?_, ?_, ?_, ?_, ?_, ?_, ?_, ?_, ?_⟩ <;> omega
theorem momF_cat (n m : Nat) (f g : Nat → Nat → Int) (c0 c1 c2 : Int) : momF (catF n f g) c0 c1 c2 (n + m) = sumM (momF f c0 c1 c2 n) (momF g c0 c1 c2 m) := by
  induction m with
  | zero =>
    rw [Nat.add_zero, momF_le (g := f) (fun k hk => by unfold catF; rw [if_pos hk])]
    simp [sumM, momF, moZ]
  | succ m ih =>
    rw [show n + (m + 1) = (n + m) + 1 by omega]
    rw [show momF (catF n f g) c0 c1 c2 (n + m + 1) = addA (momF (catF n f g) c0 c1 c2 (n + m)) (catF n f g (n + m) 9) (catF n f g (n + m) 0 - c0) (catF n f g (n + m) 1 - c1) (catF n f g (n + m) 2 - c2) (catF n f g (n + m) 3 - c0) (catF n f g (n + m) 4 - c1) (catF n f g (n + m) 5 - c2) (catF n f g (n + m) 6 - c0) (catF n f g (n + m) 7 - c1) (catF n f g (n + m) 8 - c2) from rfl]
    rw [show momF g c0 c1 c2 (m + 1) = addA (momF g c0 c1 c2 m) (g m 9) (g m 0 - c0) (g m 1 - c1) (g m 2 - c2) (g m 3 - c0) (g m 4 - c1) (g m 5 - c2) (g m 6 - c0) (g m 7 - c1) (g m 8 - c2) from rfl]
    rw [ih, sum_add, show catF n f g (n + m) = g m by unfold catF; rw [if_neg (by omega), show n + m - n = m by omega]]
theorem firstE_cat {n m : Nat} {f g : Nat → Nat → Int} (h1 : firstE f n = 0) (h2 : firstE g m = 0) : firstE (catF n f g) (n + m) = 0 := by
  induction m with
  | zero =>
    rw [Nat.add_zero, firstE_leF (g := f) (fun k hk => by unfold catF; rw [if_pos hk])]
    exact h1
  | succ m ih =>
    have h3 := chE_at (show m < m + 1 by omega) h2
    have h4 := ih (firstE_le (by omega) h2)
    rw [show n + (m + 1) = (n + m) + 1 by omega]
    unfold firstE
    rw [if_pos h4, show catF n f g (n + m) = g m by unfold catF; rw [if_neg (by omega), show n + m - n = m by omega]]
    exact h3
theorem momF_ok3 {f : Nat → Nat → Int} {c0 c1 c2 : Int} {n : Nat} (hn : n ≤ 96) (h : firstE f n = 0) (hc : inB c0 c1 c2 64 = true) : okM (momF f c0 c1 c2 n) = true := by
  have b := momF_bd h hc (Nat.le_refl n)
  unfold MoB at b
  exact okM_mk (by omega)
theorem unites {n m : Nat} {f g : Nat → Nat → Int} {c0 c1 c2 : Int} (hnm : n + m ≤ 96) (h1 : givE n f c0 c1 c2 = 0) (h2 : givE m g c0 c1 c2 = 0) :
    ofM (n + m) (catF n f g) c0 c1 c2 = ⟨sumM (momF f c0 c1 c2 n) (momF g c0 c1 c2 m), 0⟩ ∧ addM (momF f c0 c1 c2 n) (momF g c0 c1 c2 m) = ⟨sumM (momF f c0 c1 c2 n) (momF g c0 c1 c2 m), 0⟩ := by
  obtain ⟨n0, n1, n2⟩ := givE_ok h1
  obtain ⟨m0, m1, -⟩ := givE_ok h2
  have fc := firstE_cat n1 m1
  have k := momF_ok3 hnm fc n2
  rw [momF_cat] at k
  constructor
  · unfold ofM
    rw [if_pos (by simp [givE, vchS, fc, n2, show ¬ 96 < n + m by omega]), momF_cat]
  · unfold addM
    rw [if_pos (by rw [momF_ok3 n0 n1 n2, momF_ok3 m0 m1 n2]; rfl)]
    unfold toldM
    rw [if_pos k]
theorem catF_I {n m : Nat} {f g : Nat → Nat → Int} (h1 : firstE f n = 0) (h2 : firstE g m = 0) : ∀ k, k < n + m → ∀ j, j < 10 → I64 (catF n f g k j) := by
  have h := firstE_cat h1 h2
  intro k hk j hj
  have b := chE_bd (chE_at hk h)
  rcases (show j = 0 ∨ j = 1 ∨ j = 2 ∨ j = 3 ∨ j = 4 ∨ j = 5 ∨ j = 6 ∨ j = 7 ∨ j = 8 ∨ j = 9 by omega) with rfl | rfl | rfl | rfl | rfl | rfl | rfl | rfl | rfl | rfl <;> (unfold I64; omega)
end Go.Proofs.Ytiedpdlbjjjpeaa
