/- A drawn region that makes a map, looks a text up in it, and stores what it finds. No conditions but those of each theorem. -/
import Derived.Test.YtnbjealpcjfllaaGreatDoorJe
import Derived.Test.YtnbjealpcjfllaaGreatDoorMef
namespace Go.Proofs.YtnbjealpcjfllaaGreatDoor
set_option linter.unusedVariables false
set_option linter.unusedSimpArgs false
open Go.Maps Go.RowKit Go.Deep
theorem MapF.heap {w w' : World} {b n : Nat} {c : List UInt8 → Option Fm} (h : MapF w b n c) (he : w'.heap[b]? = w.heap[b]?) : MapF w' b n c := by
  obtain ⟨D, ⟨es, clock, hb, hr⟩, h2, h3⟩ := h
  exact ⟨D, ⟨es, clock, he.trans hb, hr⟩, h2, h3⟩
theorem MapF.ne {w : World} {b n g : Nat} {c : List UInt8 → Option Fm} {cs : Array Value} {T : TypeId} {f : Nat × Nat} (h : MapF w b n c) (hg : w.heap[g]? = some (.cells cs T f)) : b ≠ g := by
  rintro rfl
  obtain ⟨D, ⟨es, clock, hb, -⟩, -, -⟩ := h
  rw [hb] at hg
  cases hg
theorem FI.other2 {W w' : World} {x : Fr} {L : Nat → Bool} {b : Nat → Value} {i : Nat} (v : Value) (h : FI W [x] L b w') (ha : i ≠ x.a) (hs : i ≠ x.s) : FI W [x] (doneAt L i) (tellAt b i v) w' := by
  have e1 : doneAt L i x.a = L x.a := if_neg (Ne.symm ha)
  have e2 : doneAt L i x.s = L x.s := if_neg (Ne.symm hs)
  have e3 : tellAt b i v x.a = b x.a := if_neg (Ne.symm ha)
  have one : ∀ (j : Nat) (y : Fr), [x][j]? = some y → j = 0 ∧ x = y := fun j y hy => by
    cases j with
    | zero => exact ⟨rfl, by simpa using hy⟩
    | succ j => simp at hy
  refine ⟨h.kept, fun j y hy h1 => ?_, fun j y hy h1 => ?_, fun j k y z hy hz hne _ _ => ?_⟩
  · obtain ⟨rfl, rfl⟩ := one j y hy
    rw [e2] at h1
    rw [e1]
    exact h.o 0 x rfl h1
  · obtain ⟨rfl, rfl⟩ := one j y hy
    rw [e1] at h1
    rw [e3, e2]
    exact h.p 0 x rfl h1
  · exact absurd ((one j y hy).1.trans (one k z hz).1.symm) hne
/-- The region while it runs: operation 0 makes the map, x is the block that is allotted and filled. -/
structure PI (W : World) (x : Fr) (L : Nat → Bool) (b : Nat → Value) (w' : World) : Prop where
  fi : FI W [x] L b w'
  m : L 0 = true → ∃ m, b 0 = .map (some m) ∧ MapF w' m 13 formB
section
variable {W w' w'' : World} {x : Fr} {L : Nat → Bool} {b : Nat → Value}
theorem PI.start (b : Nat → Value) : PI W x (fun _ => false) b W.drew := ⟨FI.start b, fun h => by cases h⟩
theorem PI.quiet (h : PI W x L b w') (hk : Kept w' w'') {sp : List Tk} (hF : frsB sp [x] = true) {i : Nat} (hi : spAt sp i = false) (h0 : i ≠ 0) : PI W x (doneAt L i) b w'' := by
  refine ⟨(h.fi.on hk).other hF hi, fun q => ?_⟩
  have e : doneAt L i 0 = L 0 := if_neg (Ne.symm h0)
  obtain ⟨m, e1, e2⟩ := h.m (e ▸ q)
  exact ⟨m, e1, e2.kept hk⟩
theorem PI.made (h : PI W x L b w') (hk : Kept w' w'') (ha : 0 ≠ x.a) (hs : 0 ≠ x.s) {m : Nat} (hm : MapF w'' m 13 formB) : PI W x (doneAt L 0) (tellAt b 0 (.map (some m))) w'' :=
  ⟨(h.fi.on hk).other2 _ ha hs, fun _ => ⟨m, if_pos rfl, hm⟩⟩
theorem PI.look (h : PI W x L b w') {i : Nat} (v : Value) (ha : i ≠ x.a) (hs : i ≠ x.s) (h0 : i ≠ 0) : PI W x (doneAt L i) (tellAt b i v) w' := by
  refine ⟨h.fi.other2 _ ha hs, fun q => ?_⟩
  have e : doneAt L i 0 = L 0 := if_neg (Ne.symm h0)
  obtain ⟨m, e1, e2⟩ := h.m (e ▸ q)
  exact ⟨m, (if_neg (Ne.symm h0)).trans e1, e2⟩
theorem PI.alloc (h : PI W x L b w') {sp : List Tk} (hF : frsB sp [x] = true) (hL : L x.a = false) (h0 : x.a ≠ 0) : PI W x (doneAt L x.a) (tellAt b x.a (.pointer (some ⟨w'.heap.size, 0, none⟩))) (w'.alloc (.cells x.z x.T)) := by
  refine ⟨h.fi.alloc hF (j := 0) rfl hL, fun q => ?_⟩
  have e : doneAt L x.a 0 = L 0 := if_neg (Ne.symm h0)
  obtain ⟨m, e1, e2⟩ := h.m (e ▸ q)
  exact ⟨m, (if_neg (Ne.symm h0)).trans e1, e2.kept ((Kept.refl _).alloc _)⟩
theorem PI.store (h : PI W x L b w') {sp : List Tk} (hF : frsB sp [x] = true) (ha : L x.a = true) {k : Nat} (hk : b x.a = .pointer (some ⟨k, 0, none⟩)) (v : Value) (h0 : x.s ≠ 0) (hL : L x.s = false) : PI W x (doneAt L x.s) (tellAt b x.s v) (w'.setRow k x.c) := by
  refine ⟨h.fi.store hF (j := 0) rfl ha hk v, fun q => ?_⟩
  have e : doneAt L x.s 0 = L 0 := if_neg (Ne.symm h0)
  obtain ⟨m, e1, e2⟩ := h.m (e ▸ q)
  refine ⟨m, (if_neg (Ne.symm h0)).trans e1, e2.heap ?_⟩
  obtain ⟨k', f1, f2, f3⟩ := h.fi.p 0 x rfl ha
  obtain rfl : k' = k := by
    have := f1.symm.trans hk
    simpa using this
  exact setRow_other _ _ _ _ (e2.ne f3)
variable {P : Program}
theorem PI.tells_alloc (h : PI W x L b w') {sp : List Tk} (hF : frsB sp [x] = true) (hL : L x.a = false) (h0 : x.a ≠ 0) {r : Result Next}
    (hr : r = .ok (.value (.pointer (some ⟨w'.heap.size, 0, none⟩))) (w'.alloc (.cells x.z x.T))) : tellsUpon P (fun v w'' => v = Tk.s.val v ∧ PI W x (doneAt L x.a) (tellAt b x.a v) w'') r := by
  subst hr
  exact ⟨rfl, h.alloc hF hL h0⟩
theorem PI.tells_store (h : PI W x L b w') {sp : List Tk} (hF : frsB sp [x] = true) (hL : L x.s = false) (ha : L x.a = true) (h0 : x.s ≠ 0) {ρ : Operand → Value} {o : Oper} (ty : TypeId) (px py : Operand)
    (ho : o.op = .store ty px py) (hp : ρ px = b x.a) (hy : ρ py = .agg x.c) (hi : (P.info? ty).map (·.size) = some x.c.size) (hz : x.z.size = x.c.size) (h1 : x.c.all (·.oneCell') = true) :
    tellsUpon P (fun v w'' => v = Tk.s.val v ∧ PI W x (doneAt L x.s) (tellAt b x.s v) w'') ((execOp ρ o).run P w') := by
  obtain ⟨k, e1, e2, e3⟩ := h.fi.p 0 x rfl ha
  rw [hL] at e3
  simp only [Bool.false_eq_true, if_false] at e3
  unfold execOp
  simp only [ho, hp.trans e1, hy, Instr.storeAt, Instr.sureAddr, Sem.run_bind, Sem.run_pure, Result.andThen_ok, run_storeVar_row w' k x.T ty x.z x.c e3 hi hz h1]
  exact ⟨rfl, h.store hF ha e1 _ h0 hL⟩
theorem PI.tells_look (h : PI W x L b w') (h0 : L 0 = true) {i : Nat} (ha : i ≠ x.a) (hs : i ≠ x.s) (hi0 : i ≠ 0) {ρ : Operand → Value} {o : Oper} (m k : Operand) (ho : o.op = Op.lookup 182 m k true) (j : List UInt8) (hj : j.length ≤ maxLen) (hm : ρ m = b 0) (hk : ρ k = strV j)
    (hz : ∀ w', (zeroValue 120).run Tryz.prog w' = .ok (fmV (0, 0, 0, false)) w') :
    tellsUpon Tryz.prog (fun v w'' => v = (Tk.k (.tuple #[fmV ((formB j).getD (0, 0, 0, false)), .bool (formB j).isSome])).val v ∧ PI W x (doneAt L i) (tellAt b i v) w'') ((execOp ρ o).run Tryz.prog w') := by
  obtain ⟨q, e1, e2⟩ := h.m h0
  unfold execOp
  simp only [ho, hm.trans e1, hk, Sem.run_bind, e2.run_look j hj (hz _), Result.andThen_ok, Sem.run_pure]
  exact ⟨rfl, h.look _ ha hs hi0⟩
end
end Go.Proofs.YtnbjealpcjfllaaGreatDoor
