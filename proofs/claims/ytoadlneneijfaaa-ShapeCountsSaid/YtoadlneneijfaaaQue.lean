/- A list of the call's own that is a queue: taken from its head, appended to. No conditions but those of each theorem. -/
import Derived.Test.YtoadlneneijfaaaBase
import Derived.Laws.AppendOwn
import Derived.Maps.AppendAt
import Derived.Tactics
namespace Go.Proofs.Ytoadlneneijfaaa
set_option linter.unusedVariables false
set_option linter.unusedSimpArgs false
open Go.RowKit
/-- v is a queue of one-cell values, its row from place o on. -/
def ownsQ (w : World) (base : Nat) (e : TypeId) (v : Value) (n : Nat) (xs : List Value) : Prop :=
  xs.length = n ∧ ∃ g o cap cur, v = .slice (some ⟨g, o, none⟩) n cap ∧ base ≤ g ∧ w.heap[g]? = some (.cells cur e (0, 0)) ∧ n ≤ cap ∧ o + cap ≤ maxLen ∧ o + cap ≤ cur.size ∧ (cur.toList.drop o).take n = xs
section
variable {P : Program} (w : World)
theorem run_append_room_q (t ty e : TypeId) (i : TypeInfo) (ht : P.underlying t = some (.slice e)) (hi : P.info? e = some i) (hs : i.size = 1)
    (g o sLen sCap : Nat) (cur : Array Value) (hg : w.heap[g]? = some (.cells cur e (0, 0)))
    (a : Addr) (c : Nat) (u : Value) (hu : w.cell? a = some u) (h1 : u.oneCell' = true)
    (hroom : sLen + 1 ≤ sCap) (hfit : o + sLen + 1 ≤ cur.size) :
    (Builtin.append_ #[t, t] ty #[.slice (some ⟨g, o, none⟩) sLen sCap, .slice (some a) 1 c]).run P w =
      .ok (.slice (some ⟨g, o, none⟩) (sLen + 1) sCap) (w.setRow g (cur.toList.take (o + sLen) ++ [u] ++ cur.toList.drop (o + sLen + 1)).toArray) := by
  have hf := run_firstCells_some (P := P) w i.size 1 a 1 c [u] (by rw [hs]; rfl) (fun j v hv => by
    cases j with
    | zero =>
      simp only [List.getElem?_cons_zero, Option.some.injEq] at hv
      subst hv
      have : a.add 0 = a := by cases a; rfl
      rw [this]
      exact hu
    | succ j => simp at hv)
  have hst := run_storeCells_at P g (o + sLen) e [u] 0 cur w hg (by simpa using hfit) (by intro x hx; simp only [List.mem_singleton] at hx; subst hx; exact h1)
  simp only [Nat.add_zero] at hst
  rw [hs] at hf
  simp [Builtin.append_, run_underlying ht, sizeOf, typeInfo, hi, Builtin.lenOf, hroom, hf, Addr.add_lit, hst, hs]
theorem run_append_q (base : Nat) (t ty e : TypeId) (i : TypeInfo) (z : Value) (bytes : Nat) (ht : P.underlying t = some (.slice e)) (hi : P.info? e = some i) (hz : i.zero = some z)
    (hsize : i.size = 1) (hby : i.bytes = bytes) (hzs : z.cells.size = 1) (v : Value) (n : Nat) (xs : List Value) (hown : ownsQ w base e v n xs)
    (a : Addr) (c : Nat) (u : Value) (hu : w.cell? a = some u) (h1 : u.oneCell' = true) (h63 : n + 1 ≤ maxLen) (hbytes : (n + 1) * bytes ≤ 140737488355328) (hbase : base ≤ w.heap.size) :
    ∃ v' w', (Builtin.append_ #[t, t] ty #[v, .slice (some a) 1 c]).run P w = .ok v' w' ∧ ownsQ w' base e v' (n + 1) (xs ++ [u]) ∧ w.grownBy w' v.ownBlock ∧ (v'.ownBlock = v.ownBlock ∨ v'.ownBlock = some w.heap.size) := by
  subst hby
  obtain ⟨hl, g, o, cap, cur, rfl, hbg, hg, hnc, hcm, hcs, htake⟩ := hown
  by_cases hroom : n + 1 ≤ cap
  · have hr := run_append_room_q (P := P) w t ty e i ht hi hsize g o n cap cur hg a c u hu h1 hroom (by omega)
    refine ⟨_, _, hr, ⟨by simp [hl], g, o, cap, _, rfl, hbg, setRow_heap w g cur _ e _ hg, hroom, hcm, ?_, ?_⟩, ⟨rfl, rfl, rfl, by simp, fun k _ hk => setRow_other w g k _ (fun e => hk (by simp [Value.ownBlock, e]))⟩, Or.inl rfl⟩
    · simp only [List.size_toArray, List.length_append, List.length_take, List.length_drop, Array.length_toList, List.length_singleton]
      omega
    · rw [← htake]
      apply List.ext_getElem?
      intro j
      simp only [List.getElem?_take, List.getElem?_drop, List.getElem?_append, List.length_take, List.length_drop, Array.length_toList, List.length_append, List.length_singleton]
      by_cases q1 : j < n
      · rw [if_pos (by omega), if_pos (by omega), if_pos (by omega), if_pos (by omega), if_pos (by omega), if_pos (by omega)]
      · by_cases q2 : j = n
        · subst q2
          rw [if_pos (by omega), if_pos (by omega), if_neg (by omega), if_neg (by omega)]
          congr 1
          omega
        · rw [if_neg (by omega), if_neg (by omega), List.getElem?_eq_none (by simp; omega)]
  · have holds : ∀ j x, xs[j]? = some x → w.cell? ((⟨g, o, none⟩ : Addr).add j) = some x := fun j x hx => by
      rw [← htake, List.getElem?_take] at hx
      split at hx
      · rw [List.getElem?_drop] at hx
        rw [Addr.add_lit]
        unfold World.cell?
        simp only [hg]
        simpa using hx
      · cases hx
    have hr := run_append_grow (P := P) w t ty e i z ht hi hz ⟨g, o, none⟩ n cap xs (by rw [hl, hsize]; omega) holds a 1 c [u] (by rw [hsize]; rfl) (fun j x hx => by
      cases j with
      | zero =>
        simp only [List.getElem?_cons_zero, Option.some.injEq] at hx
        subst hx
        have : a.add 0 = a := by cases a; rfl
        rw [this]
        exact hu
      | succ j => simp at hx) (by omega) (by unfold maxLen at h63; omega) (growslice_fits (by omega) hbytes)
    have hge := grownCap_ge w (n + 1) cap e
    have hcm2 : grownCap w (n + 1) cap e ≤ maxLen := grownCap_le_maxLen w (n + 1) cap e h63
    refine ⟨_, _, hr, ⟨by simp [hl], w.heap.size, 0, _, _, rfl, hbase, heap_alloc_new w.drew _, hge, by omega, ?_, ?_⟩, ⟨rfl, rfl, rfl, by simp, fun k hk _ => _root_.Go.heap_alloc_old w.drew _ hk⟩, Or.inr rfl⟩
    · simp only [Array.size_append, List.size_toArray, size_zeroCells, hzs, hl, List.length_singleton]
      omega
    · simp only [Array.toList_append, List.drop_zero]
      rw [show n + 1 = (xs ++ [u]).length by simp [hl]]
      exact List.take_left
theorem wpList_append_q {ops : Array Oper} {rest : List Oper} {o : Oper} {a : Act} {Q : Exit → Act → World → Prop} (hgd : o.guard = none) (s x : Operand) (t : TypeId)
    (ho : o.op = .call { callee := .builtin .append, args := #[s, x], argTypes := #[t, t] })
    (base : Nat) (e : TypeId) (i : TypeInfo) (z : Value) (bytes : Nat) (ht : P.underlying t = some (.slice e)) (hi : P.info? e = some i) (hz : i.zero = some z)
    (hsize : i.size = 1) (hby : i.bytes = bytes) (hzs : z.cells.size = 1)
    (v : Value) (n : Nat) (xs : List Value) (hs : a.eval s = v) (hown : ownsQ w base e v n xs)
    (ad : Addr) (c : Nat) (u : Value) (hx : a.eval x = .slice (some ad) 1 c) (hu : w.cell? ad = some u) (h1 : u.oneCell' = true)
    (h63 : n + 1 ≤ maxLen) (hbytes : (n + 1) * bytes ≤ 140737488355328) (hbase : base ≤ w.heap.size)
    (h : ∀ v' w', ownsQ w' base e v' (n + 1) (xs ++ [u]) → w.grownBy w' v.ownBlock → (v'.ownBlock = v.ownBlock ∨ v'.ownBlock = some w.heap.size) → wpList P ops Q rest (a.put o.dst v') w') :
    wpList P ops Q (o :: rest) a w := by
  refine wpList_plain hgd fun K hK => ?_
  obtain ⟨v', w', hr, h2, h3, h5⟩ := run_append_q (P := P) w base t o.type e i z bytes ht hi hz hsize hby hzs v n xs hown ad c u hu h1 h63 hbytes hbase
  unfold Oper.wp execOp
  simp only [ho, resolve, invoke, builtin, Sem.run_bind, Sem.run_pure, Result.andThen_ok, List.map_toArray, List.map_cons, List.map_nil, hs, hx, hr]
  exact hK _ _ (h v' w' h2 h3 h5)
end
section
variable {w w' : World} {base n : Nat} {e : TypeId} {v : Value} {xs : List Value}
theorem ownsQ.form (h : ownsQ w base e v n xs) : ∃ g o cap, v = .slice (some ⟨g, o, none⟩) n cap ∧ base ≤ g ∧ g < w.heap.size ∧ n ≤ cap ∧ cap ≤ maxLen := by
  obtain ⟨h1, g, o, cap, cur, rfl, h2, h3, h4, h5, h6, h7⟩ := h
  exact ⟨g, o, cap, rfl, h2, (Array.getElem?_eq_some_iff.1 h3).1, h4, by omega⟩
theorem ownsQ.at {g o cap : Nat} (h : ownsQ w base e (.slice (some ⟨g, o, none⟩) n cap) n xs) {j : Nat} (hj : j < n) : w.cell? ⟨g, o + j, none⟩ = xs[j]? := by
  obtain ⟨h1, g', o', cap', cur, e1, h2, h3, h4, h5, h6, h7⟩ := h
  simp only [Value.slice.injEq, Option.some.injEq, Addr.mk.injEq, and_true, true_and] at e1
  obtain ⟨⟨rfl, rfl⟩, rfl⟩ := e1
  unfold World.cell?
  simp only [h3]
  rw [← h7, List.getElem?_take, if_pos hj, List.getElem?_drop]
  simp
theorem ownsQ.pop {g o cap : Nat} {x : Value} (h : ownsQ w base e (.slice (some ⟨g, o, none⟩) (n + 1) cap) (n + 1) (x :: xs)) : ownsQ w base e (.slice (some ⟨g, o + 1, none⟩) n (cap - 1)) n xs := by
  obtain ⟨h1, g', o', cap', cur, e1, h2, h3, h4, h5, h6, h7⟩ := h
  simp only [Value.slice.injEq, Option.some.injEq, Addr.mk.injEq, and_true, true_and] at e1
  obtain ⟨⟨rfl, rfl⟩, rfl⟩ := e1
  refine ⟨by simpa using h1, g, o + 1, cap - 1, cur, rfl, h2, h3, by omega, by omega, by omega, ?_⟩
  have h8 : cap ≤ (cur.toList.drop o).length := by rw [List.length_drop, Array.length_toList]; omega
  rw [← List.drop_drop]
  cases hc : cur.toList.drop o with
  | nil => rw [hc] at h8; simp at h8; omega
  | cons y r =>
    rw [hc, List.take_succ_cons] at h7
    simp only [List.cons.injEq] at h7
    simpa using h7.2
theorem ownsQ.pop1 {g o : Nat} {x : Value} (h : ownsQ w base e (.slice (some ⟨g, o, none⟩) (n + 1) 1) (n + 1) (x :: xs)) : ownsQ w base e (.slice (some ⟨g, o, none⟩) n 0) n xs := by
  obtain ⟨h1, g', o', cap', cur, e1, h2, h3, h4, h5, h6, h7⟩ := h
  simp only [Value.slice.injEq, Option.some.injEq, Addr.mk.injEq, and_true, true_and] at e1
  obtain ⟨⟨rfl, rfl⟩, rfl⟩ := e1
  obtain rfl : n = 0 := by omega
  obtain rfl : xs = [] := by cases xs with
    | nil => rfl
    | cons a l => simp at h1
  exact ⟨rfl, g, o, 0, cur, rfl, h2, h3, by omega, by omega, by omega, by simp⟩
theorem ownsQ.kept {row : Option Nat} (h : ownsQ w base e v n xs) (hg : w.grownBy w' row) (hne : v.ownBlock ≠ row) : ownsQ w' base e v n xs := by
  obtain ⟨h1, g, o, cap, cur, rfl, h2, h3, h4, h5, h6, h7⟩ := h
  exact ⟨h1, g, o, cap, cur, rfl, h2, by rw [hg.block g (Array.getElem?_eq_some_iff.1 h3).1 hne]; exact h3, h4, h5, h6, h7⟩
theorem ownsQ.on (h : ownsQ w base e v n xs) (hk : Kept w w') : ownsQ w' base e v n xs := by
  obtain ⟨h1, g, o, cap, cur, rfl, h2, h3, h4, h5, h6, h7⟩ := h
  obtain ⟨x, rfl⟩ := hk
  exact ⟨h1, g, o, cap, cur, rfl, h2, by rw [ext_block _ _ _ (Array.getElem?_eq_some_iff.1 h3).1]; exact h3, h4, h5, h6, h7⟩
theorem ownsQ.ne {b : Nat} {T : TypeId} {cs : Array Value} (h : ownsQ w base e v n xs) (hb : w.heap[b]? = some (.cells cs T (0, 0))) (hT : T ≠ e) : v.ownBlock ≠ some b := by
  obtain ⟨h1, g, o, cap, cur, rfl, h2, h3, h4, h5, h6, h7⟩ := h
  intro q
  simp only [Value.ownBlock, Option.some.injEq] at q
  subst q
  rw [h3] at hb
  simp only [Option.some.injEq, Obj.cells.injEq] at hb
  exact hT hb.2.1.symm
theorem ownsQ.one (w : World) (x : Value) (hb : base ≤ w.heap.size) : ownsQ (w.alloc (.cells #[x] e)) base e (.slice (some ⟨w.heap.size, 0, none⟩) 1 1) 1 [x] :=
  ⟨rfl, w.heap.size, 0, 1, #[x], rfl, hb, heap_alloc_new w _, Nat.le_refl _, by unfold maxLen; omega, Nat.le_refl _, rfl⟩
end
end Go.Proofs.Ytoadlneneijfaaa
