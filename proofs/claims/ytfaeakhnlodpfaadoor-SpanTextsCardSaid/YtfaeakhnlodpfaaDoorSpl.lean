/- Contract: pieces of a text between spaces, of the reference. Conditions: the text is short. -/
import Derived.Test.YtfaeakhnlodpfaaDoorRfm
import Derived.Deep.AppendLies
import Derived.WalkSpells
namespace Go.Proofs.YtfaeakhnlodpfaaDoor
set_option linter.unusedVariables false
set_option linter.unusedSimpArgs false
open Go.ChangeShapes Go.WideShapes Go.ChangeAt Go.RowKit Go.Deep
/-- The pieces before the last, the last, and what they come from. -/
def SplO (l : List UInt8) (ps : List (List UInt8)) (z : List UInt8) : Prop := l = (ps.flatMap fun p => p ++ [32]) ++ z ∧ (∀ p ∈ ps, (32 : UInt8) ∉ p) ∧ (32 : UInt8) ∉ z
theorem spl_count {ps : List (List UInt8)} (h : ∀ p ∈ ps, (32 : UInt8) ∉ p) : (ps.flatMap fun p => p ++ [32]).count 32 = ps.length := by
  induction ps with
  | nil => rfl
  | cons p r ih =>
    rw [List.flatMap_cons, List.count_append, ih (fun q hq => h q (List.mem_cons_of_mem _ hq)), List.count_append, List.count_eq_zero_of_not_mem (h p (by simp))]
    simp
    omega
theorem spl_two {l a b z : List UInt8} {ps : List (List UInt8)} (h : SplO l ps z) (ha : (32 : UInt8) ∉ a) (hb : (32 : UInt8) ∉ b) (he : l = a ++ 32 :: b) : ps = [a] ∧ z = b := by
  obtain ⟨h1, h2, h3⟩ := h
  have c1 : l.count 32 = ps.length := by rw [h1, List.count_append, spl_count h2, List.count_eq_zero_of_not_mem h3]; omega
  have c2 : l.count 32 = 1 := by rw [he, List.count_append, List.count_eq_zero_of_not_mem ha, List.count_cons, List.count_eq_zero_of_not_mem hb]; simp
  obtain ⟨p, rfl⟩ := List.length_eq_one_iff.1 (show ps.length = 1 by omega)
  have e1 := cut_sp (b := b) ha
  have e2 := cut_sp (b := z) (h2 p (by simp))
  rw [← he] at e1
  have e3 : l = p ++ 32 :: z := by rw [h1]; simp
  rw [← e3, e1] at e2
  simp only [Prod.mk.injEq] at e2
  exact ⟨by rw [e2.1], e2.2.1.symm⟩
/-- A list of texts, of the call's own. -/
def strV (p : List UInt8) : Value := .string ⟨p.toArray⟩
/-- The list while it is made: the pieces found, where the next begins, what was read. -/
structure SpI (l : List UInt8) (ps : List (List UInt8)) (f i : Nat) : Prop where
  le : f ≤ i ∧ i ≤ l.length
  h1 : l.take f = ps.flatMap fun p => p ++ [32]
  h2 : ∀ p ∈ ps, (32 : UInt8) ∉ p
  h3 : (32 : UInt8) ∉ (l.take i).drop f
theorem SpI.start (l : List UInt8) : SpI l [] 0 0 := ⟨by omega, rfl, fun p hp => by simp at hp, by simp⟩
theorem take_next {l : List UInt8} {f i : Nat} (hf : f ≤ i) (hi : i < l.length) : (l.take (i + 1)).drop f = (l.take i).drop f ++ [l[i]] := by
  rw [List.take_succ_eq_append_getElem hi, List.drop_append_of_le_length (by rw [List.length_take]; omega)]
theorem SpI.more {l : List UInt8} {ps : List (List UInt8)} {f i : Nat} (h : SpI l ps f i) (hi : i < l.length) (hne : l[i] ≠ 32) : SpI l ps f (i + 1) := by
  have hf := h.le.1
  refine ⟨by omega, h.h1, h.h2, ?_⟩
  rw [take_next hf hi, List.mem_append]
  rintro (h4 | h4)
  · exact h.h3 h4
  · simp only [List.mem_singleton] at h4; exact hne h4.symm
theorem SpI.cut {l : List UInt8} {ps : List (List UInt8)} {f i : Nat} (h : SpI l ps f i) (hi : i < l.length) (he : l[i] = 32) : SpI l (ps ++ [(l.take i).drop f]) (i + 1) (i + 1) := by
  have hf := h.le.1
  refine ⟨by omega, ?_, ?_, ?_⟩
  · rw [List.flatMap_append, ← h.h1, List.take_succ_eq_append_getElem hi, he]
    simp only [List.flatMap_cons, List.flatMap_nil, List.append_nil]
    rw [← List.append_assoc]
    congr 1
    have : l.take f = (l.take i).take f := by rw [List.take_take, Nat.min_eq_left hf]
    rw [this, List.take_append_drop]
  · intro p hp
    rcases List.mem_append.1 hp with hp | hp
    · exact h.h2 p hp
    · simp only [List.mem_singleton] at hp
      rw [hp]; exact h.h3
  · rw [List.drop_of_length_le (by rw [List.length_take]; omega)]
    simp
theorem SpI.fin {l : List UInt8} {ps : List (List UInt8)} {f : Nat} (h : SpI l ps f l.length) : SplO l ps (l.drop f) := by
  refine ⟨?_, h.h2, ?_⟩
  · rw [← h.h1, List.take_append_drop]
  · have := h.h3
    rwa [List.take_length] at this
theorem SpI.len {l : List UInt8} {ps : List (List UInt8)} {f i : Nat} (h : SpI l ps f i) : ps.length ≤ l.length := by
  have h1 : (l.take f).count 32 = ps.length := by rw [h.h1, spl_count h.h2]
  have h2 := List.count_le_length (a := (32 : UInt8)) (l := l.take f)
  rw [List.length_take] at h2
  omega
theorem ext_eq (l : List UInt8) {f i : Nat} (hf : f ≤ i) (hi : i ≤ l.length) : (⟨l.toArray⟩ : ByteArray).extract f i = ⟨((l.take i).drop f).toArray⟩ := by
  apply ByteArray.ext
  simp [List.drop_take]
theorem own_slice2 {w : World} {base size n : Nat} {e : TypeId} {v : Value} {xs : List Value} (h : w.ownsRow base e size v n xs) : ∃ A cp, v = .slice A n cp := by
  rcases h.2 with ⟨rfl, rfl⟩ | ⟨g, cap, cur, rfl, -⟩
  · exact ⟨_, _, rfl⟩
  · exact ⟨_, _, rfl⟩
theorem kept_le {w w' : World} (h : Kept w w') : w.heap.size ≤ w'.heap.size := kept_size h
theorem lit_cell (X : World) (v : Value) (T : TypeId) : ∀ (j : Nat) (u : Value), [v][j]? = some u → (X.alloc (.cells #[v] T)).cell? ((Addr.mk X.heap.size 0 none).add j) = some u := by
  intro j u h
  cases j with
  | zero =>
    simp only [List.getElem?_cons_zero, Option.some.injEq] at h
    subst h
    have e : (Addr.mk X.heap.size 0 none).add 0 = ⟨X.heap.size, 0, none⟩ := rfl
    rw [e]
    unfold World.cell?
    have h := heap_alloc_new X (.cells #[v] T)
    show (match (X.alloc (.cells #[v] T)).heap[X.heap.size]? with | some (Obj.cells c elem frozen) => c[0]? | x => none) = some v
    rw [h]
    rfl
  | succ j => simp at h
theorem lit_one (v : Value) (h : v.oneCell' = true) : ∀ u ∈ [v], u.oneCell' = true := by
  intro u hu
  simp only [List.mem_singleton] at hu
  subst hu
  exact h
theorem info_St : ((Tryd.prog.info? 9).map fun i => (i.zero, i.size, i.bytes)) = some (some (.string ⟨#[]⟩), 1, 16) := by kernel_rfl
set_option maxRecDepth 100000 in
set_option maxHeartbeats 8000000 in
theorem r1split_any (l : List UInt8) (w : World) (hl : l.length ≤ 1000) :
    Calls Tryd.prog 18 #[.string ⟨l.toArray⟩, .int .u8 32] w fun e w' => ∃ g cp ps z, e = .returned (.slice (some ⟨g, 0, none⟩) (ps.length + 1) cp) ∧ Kept w w' ∧ SplO l ps z ∧ w'.ownsRow w.heap.size 9 1 (.slice (some ⟨g, 0, none⟩) (ps.length + 1) cp) (ps.length + 1) ((ps ++ [z]).map strV) := by
  obtain ⟨ti, hti, hte⟩ := Option.map_eq_some_iff.1 info_St
  simp only [Prod.mk.injEq] at hte
  have HT := Lib.hid hti
  have HTE := Lib.hid hte
  clear hti hte
  go_enter Tryd.func18, Tryd.ntmps18
  go_wp2_with fail
  go_loopw [5, 6, 7] (fun o f i wr => ∃ (F r : Nat) (ps : List (List UInt8)), SpI l ps F r ∧ f = .int .i64 F ∧ i = .int .i64 r ∧ Kept w wr ∧ wr.ownsRow w.heap.size 9 1 o ps.length (ps.map strV)) (fun _ _ i _ => l.length - (intOf i).toNat)
  case atStart => exact ⟨0, 0, [], SpI.start l, rfl, rfl, Kept.refl _, World.ownsRow_nil _ _ _ _⟩
  case round =>
    obtain ⟨F, r, ps, hS, rfl, rfl, hkw, hO⟩ := hrel
    obtain ⟨Wi, rfl⟩ : ∃ x, x = wr := ⟨_, rfl⟩
    have HKW := Lib.hid hkw
    obtain ⟨OA, oc, rfl⟩ := own_slice2 hO
    have HO := Lib.hid hO
    have hle := hS.le
    have hpl := hS.len
    have HS := Lib.hid hS
    clear hkw hO hS
    by_cases hlt : r < l.length
    · have g0 : decide ((r : Int) < l.length) = true := decide_eq_true (by omega)
      obtain ⟨c, hc⟩ : ∃ c, l[r] = c := ⟨_, rfl⟩
      have hget : ((⟨l.toArray⟩ : ByteArray)[r]'(by show r < l.toArray.size; simpa using hlt)) = c := hc
      have hc256 := c.toNat_lt
      by_cases h32 : c.toNat = 32
      · have g1 : ((c.toNat : Int) == 32) = true := by rw [h32]; rfl
        have hcut := HS.out.cut hlt (by rw [hc]; exact UInt8.toNat_inj.1 h32)
        obtain ⟨p, hp⟩ : ∃ p, (l.take r).drop F = p := ⟨_, rfl⟩
        have hx : (⟨l.toArray⟩ : ByteArray).extract F r = ⟨p.toArray⟩ := by rw [← hp]; exact ext_eq l (by omega) (by omega)
        rw [hp] at hcut
        have HC := Lib.hid hcut
        clear hp hcut
        go_wp2_with (at_builtin; refine wpList_append_lies _ rfl (.tmp 19) (.tmp 24) 42 rfl w.heap.size 9 ti _ 1 16 Tryd.underlying42 HT.out HTE.out.1 HTE.out.2.1 HTE.out.2.2 rfl (by omega) _ _ _ rfl (owns_kept HO.out (by (repeat (first | exact Kept.refl _ | assumption | refine Kept.alloc ?_ _ | refine Kept.ext ?_ _ | refine Kept.drew ?_ | refine Kept.drewN ?_ _)))) _ 1 1 [strV p] rfl rfl (lit_cell _ _ _) (lit_one _ rfl) (by omega) (by unfold maxLen; omega) (by omega) (by rw [World.size_alloc]; exact Nat.le_trans (kept_le HKW.out) (Nat.le_succ _)) _ rfl ?_; intro g1 cp1 w1 k1 k2 k3 k4; have E1 := Lib.hid k2; have K1 := Lib.hid k1; clear k1 k2 k3 k4)
        go_roundw
        case rel =>
          have hKB : Kept Wi (Wi.alloc (.cells #[strV p] 9)) := by (repeat (first | exact Kept.refl _ | assumption | refine Kept.alloc ?_ _ | refine Kept.ext ?_ _ | refine Kept.drew ?_ | refine Kept.drewN ?_ _))
          refine ⟨r + 1, r + 1, ps ++ [p], HC.out, by go_num, by go_num, ?_, ?_⟩
          · exact kept_grown (W := w) (HKW.out.trans hKB) (owns_kept HO.out hKB) (Nat.le_refl _) E1.out
          · rw [List.length_append, List.length_singleton, List.map_append]
            exact K1.out
        case measure => simp [intOf]; omega
      · have g1 : ((c.toNat : Int) == 32) = false := beq_eq_false_iff_ne.2 (by omega)
        go_wp2_with fail
        go_roundw
        case rel => exact ⟨F, r + 1, ps, HS.out.more hlt (by rw [hc]; intro q; rw [q] at h32; exact h32 rfl), rfl, by go_num, HKW.out, HO.out⟩
        case measure => simp [intOf]; omega
    · obtain rfl : r = l.length := by omega
      have g0 : decide ((l.length : Int) < l.length) = false := decide_eq_false (by omega)
      have hfin := HS.out.fin
      obtain ⟨p, hp⟩ : ∃ p, l.drop F = p := ⟨_, rfl⟩
      have hx : (⟨l.toArray⟩ : ByteArray).extract F l.length = ⟨p.toArray⟩ := by rw [← hp, ext_eq l (by omega) (Nat.le_refl _), List.take_length]
      rw [hp] at hfin
      have HC := Lib.hid hfin
      clear hp hfin
      go_wp2_with (at_builtin; refine wpList_append_lies _ rfl (.tmp 28) (.tmp 32) 42 rfl w.heap.size 9 ti _ 1 16 Tryd.underlying42 HT.out HTE.out.1 HTE.out.2.1 HTE.out.2.2 rfl (by omega) _ _ _ rfl (owns_kept HO.out (by (repeat (first | exact Kept.refl _ | assumption | refine Kept.alloc ?_ _ | refine Kept.ext ?_ _ | refine Kept.drew ?_ | refine Kept.drewN ?_ _)))) _ 1 1 [strV p] rfl rfl (lit_cell _ _ _) (lit_one _ rfl) (by omega) (by unfold maxLen; omega) (by omega) (by rw [World.size_alloc]; exact Nat.le_trans (kept_le HKW.out) (Nat.le_succ _)) _ rfl ?_; intro g1 cp1 w1 k1 k2 k3 k4; have E1 := Lib.hid k2; have K1 := Lib.hid k1; clear k1 k2 k3 k4)
      go_ret
      have hKB : Kept Wi (Wi.alloc (.cells #[strV p] 9)) := by (repeat (first | exact Kept.refl _ | assumption | refine Kept.alloc ?_ _ | refine Kept.ext ?_ _ | refine Kept.drew ?_ | refine Kept.drewN ?_ _))
      refine ⟨_, _, ps, p, rfl, kept_grown (W := w) (HKW.out.trans hKB) (owns_kept HO.out hKB) (Nat.le_refl _) E1.out, HC.out, ?_⟩
      rw [List.map_append]
      exact K1.out
end Go.Proofs.YtfaeakhnlodpfaaDoor
