/- Lists that a function owns: another list appended, elements stored into. No conditions but those of each theorem. -/
import Derived.Test.YtnbjealpcjfllaaGreatDoorOpr
import Derived.Test.YtnbjealpcjfllaaGreatDoorTell
import Derived.Maps.AppendAt
import Derived.Deep.DrawnRows
import Derived.Deep.MidRow
import Derived.Laws.OwnMore
namespace Go.Proofs.YtnbjealpcjfllaaGreatDoor
set_option linter.unusedVariables false
set_option linter.unusedSimpArgs false
open Go.ChangeShapes Go.WideShapes Go.ChangeAt Go.RowKit
theorem alloc_at2 (w : World) (o : Obj) (n : Nat) [h : SizeIs w n] : (w.alloc o).heap[n]? = some o := by
  have e := h.eq
  subst e
  exact heap_alloc_new w o
theorem own_slice2 {w : World} {base size n : Nat} {e : TypeId} {v : Value} {xs : List Value} (h : w.ownsRow base e size v n xs) : ∃ A cp, v = .slice A n cp := by
  rcases h.2 with ⟨rfl, rfl⟩ | ⟨g, cap, cur, rfl, -⟩
  · exact ⟨_, _, rfl⟩
  · exact ⟨_, _, rfl⟩
theorem rowC_one {c : Nat} {f : Nat → Nat → Int} {n : Nat} : ∀ u ∈ rowC c f n, u.oneCell' = true := by
  induction n with
  | zero => simp [rowC]
  | succ n ih =>
    intro u hu
    unfold rowC at hu
    rw [List.mem_append] at hu
    rcases hu with hu | hu
    · exact ih u hu
    · simp only [List.mem_map] at hu
      obtain ⟨j, -, rfl⟩ := hu
      rfl
theorem rowC_cut {c : Nat} {f : Nat → Nat → Int} {n j : Nat} {u : Value} (hc : 0 < c) (h : (rowC c f n)[j]? = some u) : j / c < n ∧ j % c < c ∧ u = .int .i64 (f (j / c) (j % c)) := by
  have hl : j < n * c := by
    have := (List.getElem?_eq_some_iff.1 h).1
    rwa [rowC_len] at this
  have h1 : j / c < n := (Nat.div_lt_iff_lt_mul hc).2 hl
  have h2 : j % c < c := Nat.mod_lt _ hc
  have h3 := rowC_get c f h1 h2
  rw [show j / c * c + j % c = j by rw [Nat.mul_comm]; exact Nat.div_add_mod j c] at h3
  rw [h] at h3
  exact ⟨h1, h2, Option.some.inj h3⟩
/-- The same run of an append whose source is a list that can be read. -/
theorem run_append_rows {P : Program} {w : World} (base : Nat) (t ty e : TypeId) (i : TypeInfo) (z : Value) (c bytes : Nat) (ht : P.underlying t = some (.slice e)) (hi : P.info? e = some i) (hz : i.zero = some z)
    (hsize : i.size = c) (hby : i.bytes = bytes) (hzs : z.cells.size = c) (hc : 0 < c) (v : Value) (n : Nat) (xs : List Value) (hown : w.ownsRow base e c v n xs)
    (A : Option Addr) (m cp : Nat) (f : Nat → Nat → Int) (hr : RowsAt w A m c f) (h63 : n + m ≤ maxLen) (hbytes : (n + m) * bytes ≤ 140737488355328) (hbase : base ≤ w.heap.size) :
    ∃ v' w', (Builtin.append_ #[t, t] ty #[v, .slice A m cp]).run P w = .ok v' w' ∧ w'.ownsRow base e c v' (n + m) (xs ++ rowC c f m) ∧ w.grownBy w' v.ownBlock ∧ (v'.ownBlock = v.ownBlock ∨ v'.ownBlock = some w.heap.size) := by
  rcases A with _ | ad
  · have hm : m = 0 := by
      rcases Nat.eq_zero_or_pos m with h0 | h0
      · exact h0
      · obtain ⟨b, off, h, -⟩ := hr h0
        cases h
    subst hm
    refine ⟨v, w, ?_, by simpa [rowC] using hown, World.grownBy.refl w _, .inl rfl⟩
    rcases hown.2 with ⟨rfl, rfl⟩ | ⟨g, cap, cur, rfl, -, -, hnc, -⟩
    · simp [Builtin.append_, run_underlying ht, sizeOf, typeInfo, hi, Builtin.lenOf, Builtin.firstCells]
    · simp [Builtin.append_, run_underlying ht, sizeOf, typeInfo, hi, Builtin.lenOf, Builtin.firstCells, hnc, storeCells]
  · have hcells : ∀ j u, (rowC c f m)[j]? = some u → w.cell? (ad.add j) = some u := by
      intro j u hu
      obtain ⟨h1, h2, rfl⟩ := rowC_cut hc hu
      obtain ⟨b, off, h, -, hcell⟩ := hr (Nat.lt_of_le_of_lt (Nat.zero_le _) h1)
      injection h with h
      subst h
      have := (hcell _ h1 _ h2).1
      rw [show off + j / c * c + j % c = off + j by rw [Nat.add_assoc, Nat.mul_comm, Nat.div_add_mod]] at this
      have e : (Addr.mk b off none).add j = ⟨b, off + j, none⟩ := by
        unfold Addr.add
        by_cases h0 : j = 0
        · subst h0; simp
        · rw [if_neg h0]
      rw [e]
      exact this
    obtain ⟨v', w', h1, h2, h3, -, h4⟩ := run_append_own_at (P := P) w base t ty e i z c bytes ht hi hz hsize hby hzs hc v n xs hown ad m cp (rowC c f m) (rowC_len c f m) hcells rowC_one h63 hbytes hbase
    exact ⟨v', w', h1, h2, h3, h4⟩
theorem own_new (X : World) (base : Nat) {e : TypeId} {c : Nat} (h : base ≤ X.heap.size) : (X.alloc (.cells #[] e)).ownsRow base e c (.slice (some ⟨X.heap.size, 0, none⟩) 0 0) 0 [] :=
  ⟨by simp, .inr ⟨_, 0, #[], rfl, h, heap_alloc_new X _, by omega, by unfold maxLen; omega, by simp, by simp⟩⟩
theorem own_lt {w : World} {base size n b : Nat} {e : TypeId} {v : Value} {xs : List Value} (h : w.ownsRow base e size v n xs) (hb : v.ownBlock = some b) : b < w.heap.size := by
  rcases h.2 with ⟨rfl, rfl⟩ | ⟨g', cap, cur, rfl, -, hc, -⟩
  · cases hb
  · have hl := (Array.getElem?_eq_some_iff.1 hc).1
    simp only [Value.ownBlock, Option.some.injEq] at hb
    omega
theorem kept_le {w w' : World} (h : Kept w w') : w.heap.size ≤ w'.heap.size := by
  obtain ⟨x, rfl⟩ := h
  rw [ext_size]
  exact adv_le _ _
/-- An append of a list that can be read to a list of the call's own, at any time. -/
theorem tells_append {P : Program} {K : Value → World → Prop} {w' : World} {ρ : Operand → Value} {o : Oper} (s x : Operand) (t : TypeId)
    (ho : o.op = .call { callee := .builtin .append, args := #[s, x], argTypes := #[t, t] })
    (base : Nat) (e : TypeId) (i : TypeInfo) (z : Value) (c bytes : Nat) (ht : P.underlying t = some (.slice e)) (hi : P.info? e = some i) (hz : i.zero = some z)
    (hsize : i.size = c) (hby : i.bytes = bytes) (hzs : z.cells.size = c) (hc : 0 < c) (hbase : base ≤ w'.heap.size)
    (v : Value) (n : Nat) (xs : List Value) (hs : ρ s = v) (hown : w'.ownsRow base e c v n xs)
    (A : Option Addr) (m cp : Nat) (f : Nat → Nat → Int) (hx : ρ x = .slice A m cp) (hr : RowsAt w' A m c f) (h63 : n + m ≤ maxLen) (hbytes : (n + m) * bytes ≤ 140737488355328)
    (h : ∀ v' w'', w''.ownsRow base e c v' (n + m) (xs ++ rowC c f m) → w'.grownBy w'' v.ownBlock → (v'.ownBlock = v.ownBlock ∨ v'.ownBlock = some w'.heap.size) → K v' w'') : tellsUpon P K ((execOp ρ o).run P w') := by
  obtain ⟨v', w'', hrun, h2, h3, h9⟩ := run_append_rows (P := P) base t o.type e i z c bytes ht hi hz hsize hby hzs hc v n xs hown A m cp f hr h63 hbytes hbase
  unfold execOp
  simp only [ho, resolve, invoke, builtin, Sem.run_bind, Sem.run_pure, Result.andThen_ok, List.map_toArray, List.map_cons, List.map_nil, hs, hx, hrun]
  exact h v' w'' h2 h3 h9
theorem rowC_congr {c : Nat} {f g : Nat → Nat → Int} : ∀ {n : Nat}, (∀ k, k < n → ∀ j, j < c → f k j = g k j) → rowC c f n = rowC c g n
  | 0, _ => rfl
  | n + 1, h => by
    unfold rowC
    rw [rowC_congr fun k hk j hj => h k (by omega) j hj]
    congr 1
    exact List.map_congr_left fun j hj => by rw [h n (by omega) j (List.mem_range.1 hj)]
/-- The list with cell j of element k another. -/
def setF (f : Nat → Nat → Int) (k j : Nat) (z : Int) : Nat → Nat → Int := fun a b => if a = k ∧ b = j then z else f a b
theorem rowC_set {c n k j : Nat} (f : Nat → Nat → Int) (z : Int) (hk : k < n) (hj : j < c) : (rowC c f n).set (k * c + j) (.int .i64 z) = rowC c (setF f k j z) n := by
  apply List.ext_getElem?
  intro i
  by_cases hi : i < n * c
  · have hc : 0 < c := by omega
    have h1 : i / c < n := (Nat.div_lt_iff_lt_mul hc).2 hi
    have h2 : i % c < c := Nat.mod_lt _ hc
    have h3 : i / c * c + i % c = i := by rw [Nat.mul_comm]; exact Nat.div_add_mod i c
    have g1 := rowC_get c f h1 h2
    have g2 := rowC_get c (setF f k j z) h1 h2
    rw [h3] at g1 g2
    rw [g2, List.getElem?_set]
    by_cases e : k * c + j = i
    · have e1 : i / c = k := by
        rw [← e, Nat.mul_comm, Nat.mul_add_div hc, Nat.div_eq_of_lt hj, Nat.add_zero]
      have e2 : i % c = j := by
        rw [← e, Nat.mul_comm, Nat.mul_add_mod, Nat.mod_eq_of_lt hj]
      rw [if_pos e, e1, e2, rowC_len, if_pos (by omega)]
      simp [setF]
    · rw [if_neg e, g1]
      have : ¬ (i / c = k ∧ i % c = j) := fun q => e (by rw [← q.1, ← q.2, h3])
      simp only [setF, if_neg this]
  · rw [List.getElem?_eq_none (by rw [List.length_set, rowC_len]; omega), List.getElem?_eq_none (by rw [rowC_len]; omega)]
section
variable {w w' : World} {base g n cap c : Nat} {e : TypeId} {f : Nat → Nat → Int}
/-- One cell stored. -/
theorem own_set (h : w.ownsRow base e c (.slice (some ⟨g, 0, none⟩) n cap) n (rowC c f n)) {k j : Nat} (hk : k < n) (hj : j < c) (z : Int) :
    (w.setCell ⟨g, k * c + j, none⟩ (.int .i64 z)).ownsRow base e c (.slice (some ⟨g, 0, none⟩) n cap) n (rowC c (setF f k j z) n) ∧ w.grownBy (w.setCell ⟨g, k * c + j, none⟩ (.int .i64 z)) (some g) := by
  have := h.stored (k * c + j) (.int .i64 z)
  rw [rowC_set f z hk hj] at this
  exact this
theorem grown_trans {w1 w2 w3 : World} {r : Option Nat} (h : w1.grownBy w2 r) (k : w2.grownBy w3 r) : w1.grownBy w3 r :=
  ⟨k.os.trans h.os, k.tape.trans h.tape, k.output.trans h.output, Nat.le_trans h.size k.size, fun i hi hr => (k.block i (Nat.lt_of_lt_of_le hi h.size) hr).trans (h.block i hi hr)⟩
/-- The list with element k another. -/
def putF (f : Nat → Nat → Int) (k : Nat) (z0 z1 z2 : Int) : Nat → Nat → Int := fun a b => if a = k then (if b = 0 then z0 else if b = 1 then z1 else z2) else f a b
/-- Three cells stored. -/
theorem own_put (h : w.ownsRow base e 3 (.slice (some ⟨g, 0, none⟩) n cap) n (rowC 3 f n)) {k : Nat} (hk : k < n) (z0 z1 z2 : Int) :
    (w.setCells g (k * 3) [.int .i64 z0, .int .i64 z1, .int .i64 z2]).ownsRow base e 3 (.slice (some ⟨g, 0, none⟩) n cap) n (rowC 3 (putF f k z0 z1 z2) n) ∧ w.grownBy (w.setCells g (k * 3) [.int .i64 z0, .int .i64 z1, .int .i64 z2]) (some g) := by
  have a := own_set h hk (show 0 < 3 by omega) z0
  have b := own_set a.1 hk (show 1 < 3 by omega) z1
  have d := own_set b.1 hk (show 2 < 3 by omega) z2
  have e1 : rowC 3 (setF (setF (setF f k 0 z0) k 1 z1) k 2 z2) n = rowC 3 (putF f k z0 z1 z2) n := by
    refine rowC_congr fun i hi j hj => ?_
    unfold setF putF
    by_cases q : i = k
    · subst q
      rcases (show j = 0 ∨ j = 1 ∨ j = 2 by omega) with rfl | rfl | rfl <;> simp
    · simp [q]
  rw [e1] at d
  exact ⟨d.1, grown_trans a.2 (grown_trans b.2 d.2)⟩
theorem own_there {xs : List Value} (h : w.ownsRow base e c (.slice (some ⟨g, 0, none⟩) n cap) n xs) {k : Nat} (hk : k < n) : w.there g (k * c) c := by
  intro j hj
  have hl : k * c + j < n * c := by
    have : (k + 1) * c ≤ n * c := Nat.mul_le_mul_right c (by omega)
    rw [Nat.add_mul, Nat.one_mul] at this
    omega
  rw [h.cellAt _ hl, h.frozenAt]
  refine ⟨?_, rfl⟩
  rw [List.getElem?_eq_getElem (by rw [h.1]; exact hl)]
  rfl
theorem own_ne {T : TypeId} {cs : Array Value} {fr : Nat × Nat} {size k : Nat} {v : Value} {xs : List Value} (h : w.ownsRow base e size v n xs) (hk : w.heap[k]? = some (.cells cs T fr)) (hT : T ≠ e) : some k ≠ v.ownBlock := by
  rcases h.2 with ⟨rfl, -⟩ | ⟨g', cp, cur, rfl, -, hg, -⟩
  · intro q; cases q
  · intro q
    simp only [Value.ownBlock, Option.some.injEq] at q
    subst q
    rw [hk] at hg
    simp only [Option.some.injEq, Obj.cells.injEq] at hg
    exact hT hg.2.1
theorem own_ne2 {e2 : TypeId} {c2 m : Nat} {v v2 : Value} {xs ys : List Value} {base2 : Nat} (h : w.ownsRow base e c v n xs) (h2 : w.ownsRow base2 e2 c2 v2 m ys) (hT : e ≠ e2) : v2.ownBlock = none ∨ v2.ownBlock ≠ v.ownBlock := by
  rcases h2.2 with ⟨rfl, -⟩ | ⟨g', cp, cur, rfl, -, hg, -⟩
  · exact .inl rfl
  · exact .inr (own_ne h hg (fun q => hT q.symm))
theorem own_keepsB {k : Nat} {v : Value} {xs : List Value} {T : TypeId} {cs : Array Value} (h : w.ownsRow base e c v n xs) (hg : w.grownBy w' v.ownBlock) (hk : w.heap[k]? = some (.cells cs T (0, 0))) (hT : T ≠ e) : w'.heap[k]? = some (.cells cs T (0, 0)) := by
  rw [hg.block k (Array.getElem?_eq_some_iff.1 hk).1 (own_ne h hk hT)]
  exact hk
end
end Go.Proofs.YtnbjealpcjfllaaGreatDoor
