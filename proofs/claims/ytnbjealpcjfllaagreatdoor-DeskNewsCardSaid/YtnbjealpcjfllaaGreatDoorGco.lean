/- Contracts: the sides of a face, and how often each side is in the faces. Conditions: no more than 96 faces. -/
import Derived.Test.YtnbjealpcjfllaaGreatDoorGsf
import Derived.Test.YtnbjealpcjfllaaGreatDoorTell
import Derived.WideKeyEntry
import Derived.LoopN
namespace Go.Proofs.YtnbjealpcjfllaaGreatDoor
set_option linter.unusedVariables false
set_option linter.unusedSimpArgs false
open Go.RowKit Go.Maps
open Go.WideElems (Fit rd rg pl findIdx_born findIdx_arr modify_last set_self)
open Go.ChangeMaps (setBlock)
open Go.WideMaps (KeyLaw)
theorem laidOut : laidOutB Tryz.prog = true := by kernel_rfl
theorem lawSide : KeyLaw Tryz.prog 190 := deep_law_laid laidOut (m := 2) (by omega) (of_decide_eq_true (by kernel_rfl)) (by kernel_rfl) (by rw [Tryz.underlying190])
theorem lawPoint : KeyLaw Tryz.prog 136 := deep_law_laid laidOut (m := 2) (by omega) (of_decide_eq_true (by kernel_rfl)) (by kernel_rfl) (by rw [Tryz.underlying136])
theorem zeroInt (w : World) : (zeroValue 3).run Tryz.prog w = .ok (.int .i64 0) w := by kernel_rfl
theorem zeroBool (w : World) : (zeroValue 4).run Tryz.prog w = .ok (.bool false) w := by kernel_rfl
/-- A side as a value. -/
def sideV (s : Int × Int) : Value := .agg #[.int .i64 s.1, .int .i64 s.2]
def sideOk (s : Int × Int) : Prop := I64 s.1 ∧ I64 s.2
/-- A point as a value. -/
def ptV (s : Int × Int × Int) : Value := .agg #[.int .i64 s.1, .int .i64 s.2.1, .int .i64 s.2.2]
def ptOk (s : Int × Int × Int) : Prop := I64 s.1 ∧ I64 s.2.1 ∧ I64 s.2.2
theorem sideV_inj (s t : Int × Int) (h : sideV s = sideV t) : s = t := by
  unfold sideV at h
  simp at h
  exact Prod.ext h.1 h.2
theorem ptV_inj (s t : Int × Int × Int) (h : ptV s = ptV t) : s = t := by
  unfold ptV at h
  simp at h
  exact Prod.ext h.1 (Prod.ext h.2.1 h.2.2)
theorem lit_I64 {z : Int} (h : I64 z) : (Lit.int .i64 z).wf = true := by unfold I64 at h; simp only [Lit.wf, Bool.and_eq_true, decide_eq_true_eq]; exact h
theorem keyLits_int (d : Nat) {z : Int} (h : I64 z) : Tryz.prog.keyLits (d + 1) 3 [.int .i64 z] = some [.int .i64 z] := by
  unfold Program.keyLits
  simp only [Tryz.underlying3, lit_I64 h, and_self, if_true]
theorem keyTypeS : Tryz.prog.keyType 190 = true := by kernel_rfl
theorem keyTypeP : Tryz.prog.keyType 136 = true := by kernel_rfl
theorem typesN : ∃ m, Tryz.prog.types.size + 1 = m + 2 := ⟨Tryz.prog.types.size - 1, by
  have : 1 ≤ Tryz.prog.types.size := of_decide_eq_true (by kernel_rfl)
  omega⟩
theorem cellsS : Tryz.prog.cellsOf 190 = 2 := by kernel_rfl
theorem cellsP : Tryz.prog.cellsOf 136 = 3 := by kernel_rfl
theorem cellsI : Tryz.prog.cellsOf 3 = 1 := by kernel_rfl
theorem keyOf_side (s : Int × Int) (h : sideOk s) : ∃ kl, keyOf Tryz.prog 190 (sideV s) = some kl := by
  obtain ⟨m, hm⟩ := typesN
  unfold keyOf
  rw [Tryz.underlying190]
  simp only [keyTypeS, Bool.true_and, hm]
  have hf : (sideV s).formed Tryz.prog 190 = true := by simp [sideV, Value.formed, Tryz.underlying190, cellsS]
  rw [hf, if_pos rfl]
  unfold Program.keyLits
  simp only [Tryz.underlying190, sideV, Value.cells, cellsS, cellsI]
  simp [keyLits_int m h.1, keyLits_int m h.2, List.range_succ]
theorem keyOf_pt (s : Int × Int × Int) (h : ptOk s) : ∃ kl, keyOf Tryz.prog 136 (ptV s) = some kl := by
  obtain ⟨m, hm⟩ := typesN
  unfold keyOf
  rw [Tryz.underlying136]
  simp only [keyTypeP, Bool.true_and, hm]
  have hf : (ptV s).formed Tryz.prog 136 = true := by simp [ptV, Value.formed, Tryz.underlying136, cellsP]
  rw [hf, if_pos rfl]
  unfold Program.keyLits
  simp only [Tryz.underlying136, ptV, Value.cells, cellsP, cellsI]
  simp [cellsI, keyLits_int m h.1, keyLits_int m h.2.1, keyLits_int m h.2.2]
section
variable {ι : Type} [DecidableEq ι] {P : Program} {k e : TypeId} {kv : ι → Value} {ok : ι → Prop}
/-- What 'm[k] op= v' does in two parts: the entry is made, and then its value is stored. -/
theorem MapI.entry {w : World} {t : TypeId} {b n : Nat} {c : ι → Int} (K : KeyLaw P k) (ht : P.underlying t = some (.map k e)) (he : P.underlying e = some (.int .i64)) (hz : ∀ u : World, (zeroValue e).run P u = .ok (.int .i64 0) u)
    (hM : MapI P k e kv ok w b n c) (hn : n < maxLen) (i : ι) (hkey : ∃ kl, keyOf P k (kv i) = some kl) (hinj : ∀ j, kv j = kv i → j = i) (hi : ok i) :
    ∃ (v0 : Value) (st : Nat) (es1 : Array MapEntry) (clock1 : Nat), (Instr.mapEntry t (.map (some b)) (kv i)).run P w = .ok (.tuple #[v0, goInt st]) (setBlock w b (.map es1 clock1)) ∧
      (∀ w2 : World, w2.heap[b]? = some (.map es1 clock1) → MapI P k e kv ok w2 b (n + 1) c) ∧
      ∀ (w2 : World) (z : Int), I64 z → w2.heap[b]? = some (.map es1 clock1) → ∃ o, (Instr.entryStore t (.map (some b)) (goInt st) (.int .i64 z)).run P w2 = .ok () (setBlock w2 b o) ∧
        MapI P k e kv ok (setBlock w2 b o) b (n + 1) (fun j => if j = i then z else c j) := by
  obtain ⟨D, hown, hD, hc⟩ := hM
  obtain ⟨kl, hkl⟩ := hkey
  have KD := Keyed.of_law K
  have hupd : ∀ z : Int, I64 z → ∃ w', (Instr.mapUpdate t (.map (some b)) (kv i) (.int .i64 z)).run P w = .ok () w' ∧ w'.ownsMap P k (plainElem P e) b (n + 1) (D.put kl (.lit (.int .i64 z))) ∧ w.grownBy w' (some b) :=
    fun z hz => hown.update KD ht hn hkl (plainElem_int he (lit_I64 hz))
  have hread : ∀ (D' : DataW Unit) (z : Int), D' = D.put kl (.lit (.int .i64 z)) → Maps.IsMap D' ∧ ∀ j kl', ok j → keyOf P k (kv j) = some kl' → D'.atKey kl' (.lit (.int .i64 0)) = .lit (.int .i64 (if j = i then z else c j)) := by
    rintro D' z rfl
    refine ⟨hD.put _ _, fun j kl' hj hkj => ?_⟩
    by_cases hji : j = i
    · subst hji
      rw [if_pos rfl]
      rw [hkl] at hkj
      injection hkj with e1
      subst e1
      exact Maps.atKey_put_same hD (KD.key hkl) _ _
    · rw [if_neg hji, Maps.atKey_put_other (fun e1 => hji (hinj j (K.inj (hkj.trans (congrArg some e1)) hkl)))]
      exact hc j kl' hj hkj
  obtain ⟨es, clock, hb, F, hs, hDe⟩ := hown
  obtain ⟨v0, st, es1, clock1, hrun, hv0, hst⟩ := Go.WideElems.entry_then_store K ht hz hb F hkl
  have hblk : b < w.heap.size := (Array.getElem?_eq_some_iff.1 hb).1
  refine ⟨v0, st, es1, clock1, hrun, ?_, ?_⟩
  · -- the entry that was made reads as before
    rcases K.find w hkl es.toList F.keys with ⟨h1, h2⟩ | ⟨j, e0, h1, h2, h3⟩
    · have hme : (Instr.mapEntry t (.map (some b)) (kv i)).run P w = .ok (.tuple #[.int .i64 0, goInt clock]) (setBlock w b (.map (es.push ⟨kv i, .int .i64 0, clock⟩) (clock + 1))) := by
        simp [Instr.mapEntry, run_underlying ht, MapKept.run_getObj_map hb, K.check w false hkl, h1, hz, MapKept.run_setObj_map _ hb, Result.andThen, setBlock]
      have hmu : (Instr.mapUpdate t (.map (some b)) (kv i) (.int .i64 0)).run P w = .ok () (setBlock w b (.map (es.push ⟨kv i, .int .i64 0, clock⟩) (clock + 1))) := by
        simp [Instr.mapUpdate, run_underlying ht, MapKept.run_getObj_map hb, K.check w false hkl, h1, MapKept.run_setObj_map _ hb, Result.andThen, setBlock]
      rw [hme] at hrun
      injection hrun with _ hw
      have hbl : (setBlock w b (.map es1 clock1)).heap[b]? = some (.map es1 clock1) := ChangeMaps.heap_setBlock_same hb _
      rw [← hw, ChangeMaps.heap_setBlock_same hb _] at hbl
      obtain ⟨w', hu, ho, -⟩ := hupd 0 (by unfold I64; omega)
      rw [hmu] at hu
      injection hu with _ hu
      obtain ⟨es', clock', hb', F', hs', hD'⟩ := ho
      rw [← hu, ChangeMaps.heap_setBlock_same hb _] at hb'
      have hz0 : c i = 0 := by
        rcases Maps.fit_look (H := Unit) false KD ht (hz w) hb F hkl with ⟨-, -, hat⟩ | ⟨e0, y, he0, hk0, -⟩
        · have := hc i kl hi hkl
          rw [hDe, hat] at this
          injection this with this
          injection this with _ this
          exact this.symm
        · exact absurd hk0 (h2 e0 he0)
      obtain ⟨r1, r2⟩ := hread _ 0 hD'.symm
      intro w2 hw2
      refine ⟨_, ⟨es', clock', ?_, F', hs', rfl⟩, ⟨_, rfl⟩, fun j kl' hj hkj => ?_⟩
      · rw [hw2, ← hbl, hb']
      · have := r2 j kl' hj hkj
        rw [this]
        by_cases hji : j = i
        · rw [if_pos hji, hji, hz0]
        · rw [if_neg hji]
    · have hj : es[j]? = some e0 := by simpa using h2
      have hsame : es.modify j (fun e => { e with key := kv i }) = es := by
        apply Array.ext'
        rw [Array.toList_modify, ChangeMaps.modify_eq_set _ _ _ _ h2]
        have : ({ e0 with key := kv i } : MapEntry) = e0 := by rw [← h3]
        rw [this]
        exact set_self _ _ _ h2
      have hme : (Instr.mapEntry t (.map (some b)) (kv i)).run P w = .ok (.tuple #[e0.val, goInt e0.born]) (setBlock w b (.map es clock)) := by
        simp [Instr.mapEntry, run_underlying ht, MapKept.run_getObj_map hb, K.check w false hkl, h1, hj, h3, K.stays w hkl, hsame, MapKept.run_setObj_map _ hb, Result.andThen, setBlock]
      rw [hme] at hrun
      injection hrun with _ hw
      have hbl : (setBlock w b (.map es1 clock1)).heap[b]? = some (.map es1 clock1) := ChangeMaps.heap_setBlock_same hb _
      rw [← hw, ChangeMaps.heap_setBlock_same hb _] at hbl
      intro w2 hw2
      exact ⟨D, ⟨es, clock, by rw [hw2, ← hbl], F, Nat.le_trans hs (Nat.le_succ n), hDe⟩, hD, hc⟩
  · intro w2 z hz2 hw2
    obtain ⟨es', clock', hrun2, hmu⟩ := hst w2 (.int .i64 z) hw2
    refine ⟨.map es' clock', hrun2, ?_⟩
    obtain ⟨w', hu, ho, -⟩ := hupd z hz2
    rw [hmu] at hu
    injection hu with _ hu
    obtain ⟨es2, clock2, hb2, F2, hs2, hD2⟩ := ho
    rw [← hu, ChangeMaps.heap_setBlock_same hb _] at hb2
    obtain ⟨r1, r2⟩ := hread _ z rfl
    exact ⟨_, ⟨es2, clock2, by rw [ChangeMaps.heap_setBlock_same hw2 _, hb2], F2, hs2, hD2⟩, r1, r2⟩
end
end Go.Proofs.YtnbjealpcjfllaaGreatDoor
