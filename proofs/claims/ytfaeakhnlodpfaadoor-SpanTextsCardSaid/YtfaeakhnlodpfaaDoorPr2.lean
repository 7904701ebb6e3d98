/- Contract: spans of texts, of the reference. Conditions: the text is short. -/
import Derived.Test.YtfaeakhnlodpfaaDoorSpl
import Derived.Test.YtfaeakhnlodpfaaDoorNb
import Derived.Test.YtfaeakhnlodpfaaDoorPr1
namespace Go.Proofs.YtfaeakhnlodpfaaDoor
set_option linter.unusedVariables false
set_option linter.unusedSimpArgs false
open Go.ChangeShapes Go.WideShapes Go.ChangeAt Go.RowKit Go.Deep
theorem spl_one {l : List UInt8} (h : l.count 32 = 1) : ∃ a z, l = a ++ 32 :: z ∧ (32 : UInt8) ∉ a ∧ (32 : UInt8) ∉ z := by
  obtain ⟨a, z, h1, h2⟩ := List.eq_append_cons_of_mem (List.count_pos_iff.1 (show 0 < l.count 32 by omega))
  refine ⟨a, z, h1, h2, fun h3 => ?_⟩
  have h4 := List.count_pos_iff.2 h3
  rw [h1, List.count_append, List.count_cons] at h
  simp at h
  omega
theorem spl_cnt {l z : List UInt8} {ps : List (List UInt8)} (h : SplO l ps z) : l.count 32 = ps.length := by
  obtain ⟨h1, h2, h3⟩ := h
  rw [h1, List.count_append, spl_count h2, List.count_eq_zero_of_not_mem h3]
  omega
theorem fmt_cnt (a b : Int) : (fmtL a b).count 32 = 1 := by
  unfold fmtL
  rw [List.count_append, List.count_eq_zero_of_not_mem (itoa_nospace a), List.count_cons, List.count_eq_zero_of_not_mem (itoa_nospace b)]
  simp
theorem r1split_no (l : List UInt8) (w : World) (hl : l.length ≤ 1000) (hc : l.count 32 ≠ 1) :
    Calls Tryd.prog 18 #[.string ⟨l.toArray⟩, .int .u8 32] w fun e w' => ∃ A n cp, e = .returned (.slice A n cp) ∧ Kept w w' ∧ ((n : Int) == 2) = false :=
  (r1split_any l w hl).mono fun e w' ⟨g, cp, ps, z, h1, h2, h3, h4⟩ => ⟨_, _, _, h1, h2, by
    have := spl_cnt h3
    apply beq_eq_false_iff_ne.2
    omega⟩
theorem r1split_two (l a z : List UInt8) (w : World) (hl : l.length ≤ 1000) (he : l = a ++ 32 :: z) (ha : (32 : UInt8) ∉ a) (hz : (32 : UInt8) ∉ z) :
    Calls Tryd.prog 18 #[.string ⟨l.toArray⟩, .int .u8 32] w fun e w' => ∃ g cp, e = .returned (.slice (some ⟨g, 0, none⟩) 2 cp) ∧ Kept w w' ∧ g < w'.heap.size ∧ w'.cell? ⟨g, 0, none⟩ = some (.string ⟨a.toArray⟩) ∧ w'.cell? ⟨g, 1, none⟩ = some (.string ⟨z.toArray⟩) := by
  refine (r1split_any l w hl).mono ?_
  rintro e w' ⟨g, cp, ps, y, h1, h2, h3, h4⟩
  obtain ⟨rfl, rfl⟩ := spl_two h3 ha hz he
  refine ⟨g, cp, h1, h2, (h4.lt g rfl).2, ?_, ?_⟩
  · rw [h4.cellAt 0 (by simp)]
    rfl
  · rw [h4.cellAt 1 (by simp)]
    rfl
set_option maxRecDepth 100000 in
set_option maxHeartbeats 8000000 in
theorem r1Parse_any (l : List UInt8) (w : World) (hl : l.length ≤ 1000) :
    Calls Tryd.prog 8 #[.string ⟨l.toArray⟩] w fun e w' => ParseR l e ∧ Kept w w' := by
  by_cases hc : l.count 32 = 1
  · obtain ⟨a, z, he, ha, hz⟩ := spl_one hc
    have hla : a.length + z.length ≤ 1000 := by rw [he, List.length_append, List.length_cons] at hl; omega
    have key : ∀ u v, l = fmtL u v → a = Lib.itoa u ∧ z = Lib.itoa v := fun u v h => by
      have e1 := cut_sp (b := z) ha
      have e2 := cut_sp (b := Lib.itoa v) (itoa_nospace u)
      rw [← he, h] at e1
      unfold fmtL at e1
      rw [e2] at e1
      simp only [Prod.mk.injEq] at e1
      exact ⟨e1.1.symm, e1.2.1.symm⟩
    have far : ∀ u v, validB u v = true → (-1099511627776 ≤ u ∧ u ≤ 1099511627776) ∧ -1099511627776 ≤ v ∧ v ≤ 1099511627776 := fun u v h => by
      have := valid_bd h
      omega
    have FAR := Lib.hid far
    clear far
    have HS := Lib.hid (fun w => r1split_two l a z w hl he ha hz)
    have HN1 := Lib.hid (fun w => r1num_any a w (by omega))
    have HN2 := Lib.hid (fun w => r1num_any z w (by omega))
    have HK := Lib.hid key
    have HE := Lib.hid he
    clear hc he ha hz key
    go_enter Tryd.func8, Tryd.ntmps8
    go_wp2_with (first | (go_at_call 18; refine (HS.out _).mono ?_; rintro e w1 ⟨g, cp, rfl, ⟨x1, rfl⟩, hg, c0, c1⟩; have LG : Lower g (adv (w.heap.size + 1) x1.obs.size) := ⟨by rw [ext_size, World.size_alloc] at hg; exact hg⟩) | (go_at_call 19; (with_reducible refine (HN1.out _).mono ?_); rintro e w1 ⟨v1, b1, rfl, ⟨x2, rfl⟩, i1, p1, q1⟩; have P1 := Lib.hid p1; have Q1 := Lib.hid q1; clear p1 q1) | (go_at_call 19; (with_reducible refine (HN2.out _).mono ?_); rintro e w1 ⟨v2, b2, rfl, ⟨x3, rfl⟩, i2, p2, q2⟩; have P2 := Lib.hid p2; have Q2 := Lib.hid q2; clear p2 q2) | (go_at_call 14; refine (rvalid_any _ _ _).mono ?_; rintro e w1 ⟨rfl, x4, rfl⟩))
    · rename_i hb1 hb2 hv
      refine bodyPost_ret (by simp only [results, Tryd.results8]; go_simp; rfl) rfl ?_
      refine ⟨parse_bad fun u v h he => ?_, by (repeat (first | exact Kept.refl _ | assumption | refine Kept.alloc ?_ _ | refine Kept.ext ?_ _ | refine Kept.drew ?_ | refine Kept.drewN ?_ _))⟩
      obtain ⟨k1, k2⟩ := HK.out u v he
      have r1 := (Q1.out u (FAR.out u v h).1 k1).2
      have r2 := (Q2.out v (FAR.out u v h).2 k2).2
      rw [r1, r2, h] at hv
      cases hv
    · rename_i hb1 hb2 hv
      refine bodyPost_ret (by simp only [results, Tryd.results8]; go_simp; rfl) rfl ?_
      refine ⟨.inl ⟨v1, v2, by simpa using hv, ?_, rfl⟩, by (repeat (first | exact Kept.refl _ | assumption | refine Kept.alloc ?_ _ | refine Kept.ext ?_ _ | refine Kept.drew ?_ | refine Kept.drewN ?_ _))⟩
      rw [HE.out]
      unfold fmtL
      rw [← P1.out hb1, ← P2.out hb2]
    · rename_i hb1 hb2
      refine bodyPost_ret (by simp only [results, Tryd.results8]; go_simp; rfl) rfl ?_
      refine ⟨parse_bad fun u v h he => ?_, by (repeat (first | exact Kept.refl _ | assumption | refine Kept.alloc ?_ _ | refine Kept.ext ?_ _ | refine Kept.drew ?_ | refine Kept.drewN ?_ _))⟩
      exact hb2 (Q2.out v (FAR.out u v h).2 (HK.out u v he).2).1
    · rename_i hb1
      refine bodyPost_ret (by simp only [results, Tryd.results8]; go_simp; rfl) rfl ?_
      refine ⟨parse_bad fun u v h he => ?_, by (repeat (first | exact Kept.refl _ | assumption | refine Kept.alloc ?_ _ | refine Kept.ext ?_ _ | refine Kept.drew ?_ | refine Kept.drewN ?_ _))⟩
      exact hb1 (Q1.out u (FAR.out u v h).1 (HK.out u v he).1).1
  · have hbad := parse_bad (l := l) (fun a b hv2 e => hc (by rw [e]; exact fmt_cnt a b))
    have HB := Lib.hid hbad
    have HS := Lib.hid (fun w => r1split_no l w hl hc)
    clear hbad hc
    go_enter Tryd.func8, Tryd.ntmps8
    go_wp2_with (go_at_call 18; refine (HS.out _).mono ?_; rintro e w1 ⟨A, n, cp, rfl, ⟨x1, rfl⟩, hn⟩)
    refine bodyPost_ret (by simp only [results, Tryd.results8]; go_simp; rfl) rfl ?_
    exact ⟨HB.out, by (repeat (first | exact Kept.refl _ | assumption | refine Kept.alloc ?_ _ | refine Kept.ext ?_ _ | refine Kept.drew ?_ | refine Kept.drewN ?_ _))⟩
/-- A text has one reading. -/
theorem ParseR.same {l : List UInt8} {e e' : Ending} (h : ParseR l e) (h' : ParseR l e') : e = e' := by
  rcases h with ⟨a, b, h1, h2, h3⟩ | ⟨h1, h2⟩
  · rcases h' with ⟨c, d, k1, k2, k3⟩ | ⟨k1, k2⟩
    · rw [h2] at k2
      obtain ⟨rfl, rfl⟩ := fmt_inj h1 k1 k2
      rw [h3, k3]
    · exact absurd h2 (k1 a b h1)
  · rcases h' with ⟨c, d, k1, k2, k3⟩ | ⟨k1, k2⟩
    · exact absurd k2 (h1 c d k1)
    · rw [h2, k2]
end Go.Proofs.YtfaeakhnlodpfaaDoor
