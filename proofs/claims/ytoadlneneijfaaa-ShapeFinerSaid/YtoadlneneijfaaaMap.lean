/- Maps that a call makes itself: what they hold, key by key. No conditions but those of each theorem. -/
import Derived.Test.YtoadlneneijfaaaRow
import Derived.Maps.OwnOps
import Derived.Maps.Views
import Derived.DeepKeys4
namespace Go.Proofs.Ytoadlneneijfaaa
set_option linter.unusedVariables false
set_option linter.unusedSimpArgs false
open Go.Maps Go.RowKit
theorem Kept.grown {w w' : World} (h : Kept w w') : w.grownBy w' none := by
  obtain ⟨x, rfl⟩ := h
  exact ⟨rfl, rfl, rfl, by simp [adv], fun k hk _ => ext_block _ _ _ hk⟩
theorem Kept.map_store {W w w' : World} {b : Nat} (hk : Kept W w) (hb : W.heap.size ≤ b) (hg : w.grownBy w' (some b)) : Kept W w' := by
  refine Kept.of_below (hk.below.grown hg hk.below.size ?_)
  intro g e
  simp only [Option.some.injEq] at e
  omega
section
variable {ι : Type} {P : Program} {k e : TypeId} {kv : ι → Value} {ok : ι → Prop}
/-- Block b is a map of at most n entries, whose element at key i is the int c i. -/
def MapI (P : Program) (k e : TypeId) (kv : ι → Value) (ok : ι → Prop) (w : World) (b n : Nat) (c : ι → Int) : Prop :=
  ∃ D : DataW Unit, w.ownsMap P k (plainElem P e) b n D ∧ Maps.IsMap D ∧ ∀ i kl, ok i → keyOf P k (kv i) = some kl → D.atKey kl (.lit (.int .i64 0)) = .lit (.int .i64 (c i))
/-- Block b is a map of at most n entries, whose element at key i is the bool c i. -/
def MapB (P : Program) (k e : TypeId) (kv : ι → Value) (ok : ι → Prop) (w : World) (b n : Nat) (c : ι → Bool) : Prop :=
  ∃ D : DataW Unit, w.ownsMap P k (plainElem P e) b n D ∧ Maps.IsMap D ∧ ∀ i kl, ok i → keyOf P k (kv i) = some kl → D.atKey kl (.lit (.bool false)) = .lit (.bool (c i))
theorem MapI.made (w : World) : MapI P k e kv ok (w.alloc (.map #[] 0)) w.heap.size 0 fun _ => 0 :=
  ⟨_, World.ownsMap_made w P k _, ⟨_, rfl⟩, fun _ _ _ _ => rfl⟩
theorem MapB.made (w : World) : MapB P k e kv ok (w.alloc (.map #[] 0)) w.heap.size 0 fun _ => false :=
  ⟨_, World.ownsMap_made w P k _, ⟨_, rfl⟩, fun _ _ _ _ => rfl⟩
theorem MapI.kept {w w' : World} {b n : Nat} {c : ι → Int} (h : MapI P k e kv ok w b n c) (hk : Kept w w') : MapI P k e kv ok w' b n c := by
  obtain ⟨D, h1, h2, h3⟩ := h
  exact ⟨D, h1.kept hk.grown (by simp), h2, h3⟩
theorem MapB.kept {w w' : World} {b n : Nat} {c : ι → Bool} (h : MapB P k e kv ok w b n c) (hk : Kept w w') : MapB P k e kv ok w' b n c := by
  obtain ⟨D, h1, h2, h3⟩ := h
  exact ⟨D, h1.kept hk.grown (by simp), h2, h3⟩
theorem MapI.mono {w : World} {b n m : Nat} {c : ι → Int} (h : MapI P k e kv ok w b n c) (hm : n ≤ m) : MapI P k e kv ok w b m c := by
  obtain ⟨D, h1, h2, h3⟩ := h
  exact ⟨D, h1.mono hm, h2, h3⟩
theorem MapB.mono {w : World} {b n m : Nat} {c : ι → Bool} (h : MapB P k e kv ok w b n c) (hm : n ≤ m) : MapB P k e kv ok w b m c := by
  obtain ⟨D, h1, h2, h3⟩ := h
  exact ⟨D, h1.mono hm, h2, h3⟩
theorem MapI.congr {w : World} {b n : Nat} {c c' : ι → Int} (h : MapI P k e kv ok w b n c) (hc : ∀ i, ok i → c i = c' i) : MapI P k e kv ok w b n c' := by
  obtain ⟨D, h1, h2, h3⟩ := h
  exact ⟨D, h1, h2, fun i kl hi hk => (h3 i kl hi hk).trans (by rw [hc i hi])⟩
theorem MapB.congr {w : World} {b n : Nat} {c c' : ι → Bool} (h : MapB P k e kv ok w b n c) (hc : ∀ i, ok i → c i = c' i) : MapB P k e kv ok w b n c' := by
  obtain ⟨D, h1, h2, h3⟩ := h
  exact ⟨D, h1, h2, fun i kl hi hk => (h3 i kl hi hk).trans (by rw [hc i hi])⟩
theorem MapI.lt {w : World} {b n : Nat} {c : ι → Int} (h : MapI P k e kv ok w b n c) : b < w.heap.size := by
  obtain ⟨D, h1, -⟩ := h
  exact h1.lt
theorem MapB.lt {w : World} {b n : Nat} {c : ι → Bool} (h : MapB P k e kv ok w b n c) : b < w.heap.size := by
  obtain ⟨D, h1, -⟩ := h
  exact h1.lt
theorem plain_bool_inv {v : Value} {x : Bool} {ps : List MemPlace} (he : P.underlying e = some .bool) (h : plainElem (H := Unit) P e v = some (.lit (.bool x), ps)) : v = .bool x := by
  unfold plainElem at h
  rw [he] at h
  cases v <;> simp at h
  rw [h.1]
theorem MapB.run_look {w : World} {t : TypeId} {b n : Nat} {c : ι → Bool} (K : Keyed P k) (ht : P.underlying t = some (.map k e)) (he : P.underlying e = some .bool) (hz : (zeroValue e).run P w = .ok (.bool false) w)
    (hM : MapB P k e kv ok w b n c) (i : ι) (hi : ok i) (hkey : ∃ kl, keyOf P k (kv i) = some kl) : (Instr.lookup t (.map (some b)) (kv i) false).run P w = .ok (.bool (c i)) w := by
  obtain ⟨D, h1, -, h3⟩ := hM
  obtain ⟨kl, hkl⟩ := hkey
  obtain ⟨v, ps, hrun, hv⟩ := h1.lookup K ht hz (plainElem_bool he false) hkl
  rw [h3 i kl hi hkl] at hv
  rw [hrun, plain_bool_inv he hv]
theorem MapI.run_look {w : World} {t : TypeId} {b n : Nat} {c : ι → Int} (K : Keyed P k) (ht : P.underlying t = some (.map k e)) (he : P.underlying e = some (.int .i64)) (hz : (zeroValue e).run P w = .ok (.int .i64 0) w)
    (hM : MapI P k e kv ok w b n c) (i : ι) (hi : ok i) (hkey : ∃ kl, keyOf P k (kv i) = some kl) : (Instr.lookup t (.map (some b)) (kv i) false).run P w = .ok (.int .i64 (c i)) w := by
  obtain ⟨D, h1, -, h3⟩ := hM
  obtain ⟨kl, hkl⟩ := hkey
  obtain ⟨x, hrun, hv, -⟩ := h1.lookup_int K ht he hz hkl
  rw [h3 i kl hi hkl] at hv
  injection hv with hv
  injection hv with _ hv
  rw [hrun, hv]
theorem wp_lookB (w : World) {ops : Array Oper} {rest : List Oper} {o : Oper} {a : Act} {Q : Exit → Act → World → Prop}
    (hg : Region.wanted o (yielded ops a.tmps) = true) (m x : Operand) (t : TypeId) (hop : o.op = Op.lookup t m x false)
    (K : Keyed P k) (ht : P.underlying t = some (.map k e)) (he : P.underlying e = some .bool) (hz : (zeroValue e).run P w = .ok (.bool false) w) (b n : Nat) (c : ι → Bool)
    (hM : MapB P k e kv ok w b n c) (i : ι) (hm : a.eval m = .map (some b)) (hx : a.eval x = kv i) (hi : ok i) (hkey : ∃ kl, keyOf P k (kv i) = some kl)
    (hK : wpList P ops Q rest (a.put o.dst (.bool (c i))) w) : wpList P ops Q (o :: rest) a w := by
  refine BigFrame.wpList_want hg fun K' hK' => ?_
  unfold Oper.wp
  simp [execOp, hop, hm, hx, hM.run_look K ht he hz i hi hkey, Result.andThen]
  exact hK' _ _ hK
theorem wp_lookI (w : World) {ops : Array Oper} {rest : List Oper} {o : Oper} {a : Act} {Q : Exit → Act → World → Prop}
    (hg : Region.wanted o (yielded ops a.tmps) = true) (m x : Operand) (t : TypeId) (hop : o.op = Op.lookup t m x false)
    (K : Keyed P k) (ht : P.underlying t = some (.map k e)) (he : P.underlying e = some (.int .i64)) (hz : (zeroValue e).run P w = .ok (.int .i64 0) w) (b n : Nat) (c : ι → Int)
    (hM : MapI P k e kv ok w b n c) (i : ι) (hm : a.eval m = .map (some b)) (hx : a.eval x = kv i) (hi : ok i) (hkey : ∃ kl, keyOf P k (kv i) = some kl)
    (hK : wpList P ops Q rest (a.put o.dst (.int .i64 (c i))) w) : wpList P ops Q (o :: rest) a w := by
  refine BigFrame.wpList_want hg fun K' hK' => ?_
  unfold Oper.wp
  simp [execOp, hop, hm, hx, hM.run_look K ht he hz i hi hkey, Result.andThen]
  exact hK' _ _ hK
theorem wp_putI [DecidableEq ι] (w : World) {ops : Array Oper} {rest : List Oper} {o : Oper} {a : Act} {Q : Exit → Act → World → Prop}
    (hg : o.guard = none) (m x v : Operand) (t : TypeId) (hop : o.op = Op.mapUpdate t m x v)
    (K : Keyed P k) (ht : P.underlying t = some (.map k e)) (he : P.underlying e = some (.int .i64)) (b n : Nat) (c : ι → Int)
    (hM : MapI P k e kv ok w b n c) (hn : n < maxLen) (i : ι) (z : Int) (hm : a.eval m = .map (some b)) (hx : a.eval x = kv i) (hv : a.eval v = .int .i64 z) (hz : I64 z) (hkey : ∃ kl, keyOf P k (kv i) = some kl) (hinj : ∀ j, kv j = kv i → j = i)
    (hK : ∀ w', MapI P k e kv ok w' b (n + 1) (fun j => if j = i then z else c j) → w.grownBy w' (some b) → wpList P ops Q rest (a.put o.dst undef) w') :
    wpList P ops Q (o :: rest) a w := by
  obtain ⟨D, h1, h2, h3⟩ := hM
  obtain ⟨kl, hkl⟩ := hkey
  refine wpList_mapUpdate_own w hg m x v t hop k e K ht (plainElem P e) b n D hm h1 hn _ _ kl hx hv hkl _ [] (plainElem_int he (by unfold I64 at hz; simp only [Lit.wf, Bool.and_eq_true, decide_eq_true_eq]; exact hz)) ?_
  intro w' h1' hg'
  refine hK w' ⟨_, h1', h2.put _ _, fun j kl' hj hkj => ?_⟩ hg'
  dsimp only
  by_cases hji : j = i
  · subst hji
    rw [if_pos rfl]
    rw [hkl] at hkj
    injection hkj with e1
    subst e1
    exact Maps.atKey_put_same h2 (K.key hkl) _ _
  · rw [if_neg hji, Maps.atKey_put_other (fun e1 => hji (hinj j (K.inj (hkj.trans (congrArg some e1)) hkl)))]
    exact h3 j kl' hj hkj
theorem wp_putB [DecidableEq ι] (w : World) {ops : Array Oper} {rest : List Oper} {o : Oper} {a : Act} {Q : Exit → Act → World → Prop}
    (hg : o.guard = none) (m x v : Operand) (t : TypeId) (hop : o.op = Op.mapUpdate t m x v)
    (K : Keyed P k) (ht : P.underlying t = some (.map k e)) (he : P.underlying e = some .bool) (b n : Nat) (c : ι → Bool)
    (hM : MapB P k e kv ok w b n c) (hn : n < maxLen) (i : ι) (z : Bool) (hm : a.eval m = .map (some b)) (hx : a.eval x = kv i) (hv : a.eval v = .bool z) (hkey : ∃ kl, keyOf P k (kv i) = some kl) (hinj : ∀ j, kv j = kv i → j = i)
    (hK : ∀ w', MapB P k e kv ok w' b (n + 1) (fun j => if j = i then z else c j) → w.grownBy w' (some b) → wpList P ops Q rest (a.put o.dst undef) w') :
    wpList P ops Q (o :: rest) a w := by
  obtain ⟨D, h1, h2, h3⟩ := hM
  obtain ⟨kl, hkl⟩ := hkey
  refine wpList_mapUpdate_own w hg m x v t hop k e K ht (plainElem P e) b n D hm h1 hn _ _ kl hx hv hkl _ [] (plainElem_bool he z) ?_
  intro w' h1' hg'
  refine hK w' ⟨_, h1', h2.put _ _, fun j kl' hj hkj => ?_⟩ hg'
  dsimp only
  by_cases hji : j = i
  · subst hji
    rw [if_pos rfl]
    rw [hkl] at hkj
    injection hkj with e1
    subst e1
    exact Maps.atKey_put_same h2 (K.key hkl) _ _
  · rw [if_neg hji, Maps.atKey_put_other (fun e1 => hji (hinj j (K.inj (hkj.trans (congrArg some e1)) hkl)))]
    exact h3 j kl' hj hkj
end
end Go.Proofs.Ytoadlneneijfaaa
