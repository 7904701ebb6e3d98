/- Contract: pieces of a text between bytes, of the reference. Conditions: the text is short. -/
import Derived.Test.YtbefphfgcbbcpaaDoorLst
import Derived.Test.YtbefphfgcbbcpaaDoorSpi
import Derived.Test.YtbefphfgcbbcpaaDoorRow
import Derived.Deep.AppendLies
import Derived.WalkSpells
namespace Go.Proofs.YtbefphfgcbbcpaaDoor
set_option linter.unusedVariables false
set_option linter.unusedSimpArgs false
open Go.ChangeShapes Go.WideShapes Go.ChangeAt Go.RowKit Go.Deep
set_option maxRecDepth 100000 in
set_option maxHeartbeats 8000000 in
theorem r1splitc_any (bc : UInt8) (l : List UInt8) (w : World) (hl : l.length ≤ 10000) :
    Calls Tryd.prog 28 #[.string ⟨l.toArray⟩, .int .u8 bc.toNat] w fun e w' => ∃ v, e = .returned v ∧ Kept w w' ∧ w'.ownsRow w.heap.size 9 1 v (wds bc l).length ((wds bc l).map strV) := by
  obtain ⟨ti, hti, hte⟩ := Option.map_eq_some_iff.1 info_St
  simp only [Prod.mk.injEq] at hte
  have HT := Lib.hid hti
  have HTE := Lib.hid hte
  clear hti hte
  go_enter Tryd.func28, Tryd.ntmps28
  go_wp2_with fail
  go_loopw [5, 6, 7] (fun o f i wr => ∃ (F r : Nat) (ps : List (List UInt8)), SpC bc l ps F r ∧ f = .int .i64 F ∧ i = .int .i64 r ∧ Kept w wr ∧ wr.ownsRow w.heap.size 9 1 o ps.length (ps.map strV)) (fun _ _ i _ => l.length - (intOf i).toNat)
  case atStart => exact ⟨0, 0, [], SpC.start bc l, rfl, rfl, Kept.refl _, World.ownsRow_nil _ _ _ _⟩
  case round =>
    obtain ⟨F, r, ps, hS, rfl, rfl, hkw, hO⟩ := hrel
    obtain ⟨Wi, rfl⟩ : ∃ x, x = wr := ⟨_, rfl⟩
    have HKW := Lib.hid hkw
    obtain ⟨OA, oc, rfl⟩ := own_slice2 hO
    have HO := Lib.hid hO
    have hle := hS.le
    have hpl := hS.len
    have HS := Lib.hid hS
    clear hkw hO hS
    by_cases hlt : r < l.length
    · have g0 : decide ((r : Int) < l.length) = true := decide_eq_true (by omega)
      obtain ⟨c, hc⟩ : ∃ c, l[r] = c := ⟨_, rfl⟩
      have hget : ((⟨l.toArray⟩ : ByteArray)[r]'(by show r < l.toArray.size; simpa using hlt)) = c := hc
      have hc256 := c.toNat_lt
      have hb256 := bc.toNat_lt
      by_cases h32 : c.toNat = bc.toNat
      · have g1 : ((c.toNat : Int) == bc.toNat) = true := by rw [h32]; simp
        have hcut := HS.out.cut hlt (by rw [hc]; exact UInt8.toNat_inj.1 h32)
        obtain ⟨p, hp⟩ : ∃ p, (l.take r).drop F = p := ⟨_, rfl⟩
        have hx : (⟨l.toArray⟩ : ByteArray).extract F r = ⟨p.toArray⟩ := by rw [← hp]; exact ext_eq l (by omega) (by omega)
        rw [hp] at hcut
        have HC := Lib.hid hcut
        clear hp hcut
        go_wp2_with (at_builtin; refine wpList_append_lies _ rfl (.tmp 19) (.tmp 24) 60 rfl w.heap.size 9 ti _ 1 16 Tryd.underlying60 HT.out HTE.out.1 HTE.out.2.1 HTE.out.2.2 rfl (by omega) _ _ _ rfl (owns_kept HO.out (by (repeat (first | exact Kept.refl _ | assumption | refine Kept.alloc ?_ _ | refine Kept.ext ?_ _ | refine Kept.drew ?_ | refine Kept.drewN ?_ _)))) _ 1 1 [strV p] rfl rfl (lit_cell _ _ _) (lit_one _ rfl) (by omega) (by unfold maxLen; omega) (by omega) (by rw [World.size_alloc]; exact Nat.le_trans (kept_le HKW.out) (Nat.le_succ _)) _ rfl ?_; intro g1 cp1 w1 k1 k2 k3 k4; have E1 := Lib.hid k2; have K1 := Lib.hid k1; clear k1 k2 k3 k4)
        go_roundw
        case rel =>
          have hKB : Kept Wi (Wi.alloc (.cells #[strV p] 9)) := by (repeat (first | exact Kept.refl _ | assumption | refine Kept.alloc ?_ _ | refine Kept.ext ?_ _ | refine Kept.drew ?_ | refine Kept.drewN ?_ _))
          refine ⟨r + 1, r + 1, ps ++ [p], HC.out, by go_num, by go_num, ?_, ?_⟩
          · exact kept_grown (W := w) (HKW.out.trans hKB) (owns_kept HO.out hKB) (Nat.le_refl _) E1.out
          · rw [List.length_append, List.length_singleton, List.map_append]
            exact K1.out
        case measure => simp [intOf]; omega
      · have g1 : ((c.toNat : Int) == bc.toNat) = false := beq_eq_false_iff_ne.2 (by omega)
        go_wp2_with fail
        go_roundw
        case rel => exact ⟨F, r + 1, ps, HS.out.more hlt (by rw [hc]; intro q; rw [q] at h32; exact h32 rfl), rfl, by go_num, HKW.out, HO.out⟩
        case measure => simp [intOf]; omega
    · obtain rfl : r = l.length := by omega
      have g0 : decide ((l.length : Int) < l.length) = false := decide_eq_false (by omega)
      have hfin := HS.out.last
      obtain ⟨p, hp⟩ : ∃ p, l.drop F = p := ⟨_, rfl⟩
      have hx : (⟨l.toArray⟩ : ByteArray).extract F l.length = ⟨p.toArray⟩ := by rw [← hp, ext_eq l (by omega) (Nat.le_refl _), List.take_length]
      rw [hp] at hfin
      have HC := Lib.hid hfin
      clear hp hfin
      go_wp2_with (at_builtin; refine wpList_append_lies _ rfl (.tmp 28) (.tmp 32) 60 rfl w.heap.size 9 ti _ 1 16 Tryd.underlying60 HT.out HTE.out.1 HTE.out.2.1 HTE.out.2.2 rfl (by omega) _ _ _ rfl (owns_kept HO.out (by (repeat (first | exact Kept.refl _ | assumption | refine Kept.alloc ?_ _ | refine Kept.ext ?_ _ | refine Kept.drew ?_ | refine Kept.drewN ?_ _)))) _ 1 1 [strV p] rfl rfl (lit_cell _ _ _) (lit_one _ rfl) (by omega) (by unfold maxLen; omega) (by omega) (by rw [World.size_alloc]; exact Nat.le_trans (kept_le HKW.out) (Nat.le_succ _)) _ rfl ?_; intro g1 cp1 w1 k1 k2 k3 k4; have E1 := Lib.hid k2; have K1 := Lib.hid k1; clear k1 k2 k3 k4)
      go_ret
      have hKB : Kept Wi (Wi.alloc (.cells #[strV p] 9)) := by (repeat (first | exact Kept.refl _ | assumption | refine Kept.alloc ?_ _ | refine Kept.ext ?_ _ | refine Kept.drew ?_ | refine Kept.drewN ?_ _))
      refine ⟨_, rfl, kept_grown (W := w) (HKW.out.trans hKB) (owns_kept HO.out hKB) (Nat.le_refl _) E1.out, ?_⟩
      rw [HC.out, List.map_append, List.length_append, List.length_singleton]
      exact K1.out
end Go.Proofs.YtbefphfgcbbcpaaDoor
