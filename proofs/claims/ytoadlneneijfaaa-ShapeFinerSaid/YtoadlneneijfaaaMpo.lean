/- Maps that a call makes itself: which keys they have and what is at them. No conditions but those of each theorem. -/
import Derived.Test.YtoadlneneijfaaaGcn
import Derived.Test.YtoadlneneijfaaaGcl
import Derived.Maps.OwnSet
namespace Go.Proofs.Ytoadlneneijfaaa
set_option linter.unusedVariables false
set_option linter.unusedSimpArgs false
open Go.Maps Go.RowKit
section
variable {ι : Type} {P : Program} {k e : TypeId} {kv : ι → Value} {ok : ι → Prop}
/-- Block b is a map of at most n entries that has what c tells. -/
def MapO (P : Program) (k e : TypeId) (kv : ι → Value) (ok : ι → Prop) (w : World) (b n : Nat) (c : ι → Option Int) : Prop :=
  ∃ D : DataW Unit, w.ownsMap P k (plainElem P e) b n D ∧ Maps.IsMap D ∧ ∀ i kl, ok i → keyOf P k (kv i) = some kl → Maps.has D kl = (c i).isSome ∧ D.atKey kl (.lit (.int .i64 0)) = .lit (.int .i64 ((c i).getD 0))
theorem MapO.made (w : World) : MapO P k e kv ok (w.alloc (.map #[] 0)) w.heap.size 0 fun _ => none :=
  ⟨_, World.ownsMap_made w P k _, ⟨_, rfl⟩, fun _ _ _ _ => ⟨rfl, rfl⟩⟩
theorem MapO.by {w w' : World} {b n : Nat} {g : Option Nat} {c : ι → Option Int} (h : MapO P k e kv ok w b n c) (hg : w.grownBy w' g) (hne : some b ≠ g) : MapO P k e kv ok w' b n c := by
  obtain ⟨D, h1, h2, h3⟩ := h
  exact ⟨D, h1.kept hg hne, h2, h3⟩
theorem MapO.kept {w w' : World} {b n : Nat} {c : ι → Option Int} (h : MapO P k e kv ok w b n c) (hk : Kept w w') : MapO P k e kv ok w' b n c := h.by hk.grown (by simp)
theorem MapO.lt {w : World} {b n : Nat} {c : ι → Option Int} (h : MapO P k e kv ok w b n c) : b < w.heap.size := by
  obtain ⟨D, h1, -⟩ := h
  exact h1.lt
theorem MapO.congr {w : World} {b n : Nat} {c c' : ι → Option Int} (h : MapO P k e kv ok w b n c) (hc : ∀ i, ok i → c i = c' i) : MapO P k e kv ok w b n c' := by
  obtain ⟨D, h1, h2, h3⟩ := h
  exact ⟨D, h1, h2, fun i kl hi hk => by rw [← hc i hi]; exact h3 i kl hi hk⟩
theorem MapO.run_look {w : World} {t : TypeId} {b n : Nat} {c : ι → Option Int} (K : Keyed P k) (ht : P.underlying t = some (.map k e)) (he : P.underlying e = some (.int .i64)) (hz : (zeroValue e).run P w = .ok (.int .i64 0) w)
    (hM : MapO P k e kv ok w b n c) (i : ι) (hi : ok i) (hkey : ∃ kl, keyOf P k (kv i) = some kl) : (Instr.lookup t (.map (some b)) (kv i) true).run P w = .ok (.tuple #[.int .i64 ((c i).getD 0), .bool (c i).isSome]) w := by
  obtain ⟨D, h1, -, h3⟩ := hM
  obtain ⟨kl, hkl⟩ := hkey
  obtain ⟨v, ps, hrun, hv⟩ := h1.look_ok K ht hz (plainElem_int he (by decide)) hkl
  obtain ⟨e1, e2⟩ := h3 i kl hi hkl
  rw [e2] at hv
  obtain ⟨z, rfl, hz2, -⟩ := plainElem_int_inv he hv
  simp only [Prod.mk.injEq, DataW.lit.injEq, Lit.int.injEq, true_and] at hz2
  rw [hrun, e1, hz2.1]
theorem MapO.run_put [DecidableEq ι] {w : World} {t : TypeId} {b n : Nat} {c : ι → Option Int} (K : Keyed P k) (ht : P.underlying t = some (.map k e)) (he : P.underlying e = some (.int .i64))
    (hM : MapO P k e kv ok w b n c) (hn : n < maxLen) (i : ι) (z : Int) (hz : I64 z) (hkey : ∃ kl, keyOf P k (kv i) = some kl) (hinj : ∀ j, kv j = kv i → j = i) :
    ∃ w', (Instr.mapUpdate t (.map (some b)) (kv i) (.int .i64 z)).run P w = .ok () w' ∧ MapO P k e kv ok w' b (n + 1) (fun j => if j = i then some z else c j) ∧ w.grownBy w' (some b) := by
  obtain ⟨D, h1, h2, h3⟩ := hM
  obtain ⟨kl, hkl⟩ := hkey
  obtain ⟨w', hrun, h1', hg'⟩ := h1.update K ht hn hkl (plainElem_int (H := Unit) he (by unfold I64 at hz; simp only [Lit.wf, Bool.and_eq_true, decide_eq_true_eq]; exact hz))
  refine ⟨w', hrun, ⟨_, h1', h2.put _ _, fun j kl' hj hkj => ?_⟩, hg'⟩
  dsimp only
  by_cases hji : j = i
  · subst hji
    rw [if_pos rfl]
    rw [hkl] at hkj
    injection hkj with e1
    subst e1
    exact ⟨Maps.has_put_same h2 (K.key hkl) _, Maps.atKey_put_same h2 (K.key hkl) _ _⟩
  · have hne := fun e1 => hji (hinj j (K.inj (hkj.trans (congrArg some e1)) hkl))
    rw [if_neg hji, Maps.has_put_other hne, Maps.atKey_put_other hne]
    exact h3 j kl' hj hkj
theorem wp_lookO (w : World) {ops : Array Oper} {rest : List Oper} {o : Oper} {a : Act} {Q : Exit → Act → World → Prop}
    (hg : Region.wanted o (yielded ops a.tmps) = true) (m x : Operand) (t : TypeId) (hop : o.op = Op.lookup t m x true)
    (K : Keyed P k) (ht : P.underlying t = some (.map k e)) (he : P.underlying e = some (.int .i64)) (hz : (zeroValue e).run P w = .ok (.int .i64 0) w) (b n : Nat) (c : ι → Option Int)
    (hM : MapO P k e kv ok w b n c) (i : ι) (hm : a.eval m = .map (some b)) (hx : a.eval x = kv i) (hi : ok i) (hkey : ∃ kl, keyOf P k (kv i) = some kl) (z : Int) (q : Bool) (h1 : (c i).getD 0 = z) (h2 : (c i).isSome = q)
    (hK : wpList P ops Q rest (a.put o.dst (.tuple #[.int .i64 z, .bool q])) w) : wpList P ops Q (o :: rest) a w := by
  refine BigFrame.wpList_want hg fun K' hK' => ?_
  subst h1 h2
  unfold Oper.wp
  simp [execOp, hop, hm, hx, hM.run_look K ht he hz i hi hkey, Result.andThen]
  exact hK' _ _ hK
theorem tells_lookO {K' : Value → World → Prop} {ρ : Operand → Value} {o : Oper} {w : World} {t : TypeId} {b n : Nat} {c : ι → Option Int} (m x : Operand) (hop : o.op = Op.lookup t m x true) (K : Keyed P k) (ht : P.underlying t = some (.map k e)) (he : P.underlying e = some (.int .i64)) (hz : (zeroValue e).run P w = .ok (.int .i64 0) w)
    (hM : MapO P k e kv ok w b n c) (i : ι) (hi : ok i) (hkey : ∃ kl, keyOf P k (kv i) = some kl) (hm : ρ m = .map (some b)) (hx : ρ x = kv i)
    (h : K' (.tuple #[.int .i64 ((c i).getD 0), .bool (c i).isSome]) w) : tellsUpon P K' ((execOp ρ o).run P w) := by
  unfold execOp
  simp only [hop, hm, hx, Sem.run_bind, hM.run_look K ht he hz i hi hkey, Result.andThen_ok, Sem.run_pure]
  exact h
theorem tells_putO [DecidableEq ι] {K' : Value → World → Prop} {ρ : Operand → Value} {o : Oper} {w : World} {t : TypeId} {b n : Nat} {c : ι → Option Int} (m x v : Operand) (hop : o.op = Op.mapUpdate t m x v) (K : Keyed P k) (ht : P.underlying t = some (.map k e)) (he : P.underlying e = some (.int .i64))
    (hM : MapO P k e kv ok w b n c) (hn : n < maxLen) (i : ι) (z : Int) (hz : I64 z) (hkey : ∃ kl, keyOf P k (kv i) = some kl) (hinj : ∀ j, kv j = kv i → j = i) (hm : ρ m = .map (some b)) (hx : ρ x = kv i) (hv : ρ v = .int .i64 z)
    (h : ∀ w', MapO P k e kv ok w' b (n + 1) (fun j => if j = i then some z else c j) → w.grownBy w' (some b) → K' undef w') : tellsUpon P K' ((execOp ρ o).run P w) := by
  obtain ⟨w', hrun, h1, h2⟩ := hM.run_put K ht he hn i z hz hkey hinj
  unfold execOp
  simp only [hop, hm, hx, hv, Sem.run_bind, hrun, Result.andThen_ok, Sem.run_pure]
  exact h w' h1 h2
end
end Go.Proofs.Ytoadlneneijfaaa
