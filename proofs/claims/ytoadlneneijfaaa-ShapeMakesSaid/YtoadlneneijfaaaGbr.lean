/- Contract: boxes, of the reference. No conditions. -/
import Derived.Test.YtoadlneneijfaaaGbl
namespace Go.Proofs.Ytoadlneneijfaaa
set_option linter.unusedVariables false
set_option linter.unusedSimpArgs false
open Go.RowKit
set_option maxRecDepth 100000 in
set_option maxHeartbeats 16000000 in
theorem r2block_any (a b c : Int) (w : World) :
    Calls Try.prog 15 #[.int .i64 a, .int .i64 b, .int .i64 c] w fun r w' => MeshR w w' r (blockE a b c) 8 (blockP a b c) 12 blockF := by
  unfold MeshR
  cases hs : sizesB a b c
  · have e : blockE a b c = 1 := if_neg (by rw [hs]; simp)
    rw [e]
    clear e
    unfold sizesB at hs
    cases h0 : frB a 1 64
    · go_enter Try.func15, Try.ntmps15
      go_wp2_with (first | (go_at_call 65; refine (r2within_any _ _ _ _).mono ?_; rintro e w1 ⟨rfl, rfl⟩))
      refine bodyPost_ret (by simp only [results, Try.results15]; go_simp; rfl) rfl ?_
      exact ⟨none, 0, none, 0, rfl, by (repeat (first | exact Kept.refl _ | assumption | refine Kept.alloc ?_ _ | refine Kept.ext ?_ _ | refine Kept.drew ?_ | refine Kept.drewN ?_ _)), RowsAt.nil0, RowsAt.nil0⟩
    cases h1 : frB b 1 64
    · go_enter Try.func15, Try.ntmps15
      go_wp2_with (first | (go_at_call 65; refine (r2within_any _ _ _ _).mono ?_; rintro e w1 ⟨rfl, rfl⟩))
      refine bodyPost_ret (by simp only [results, Try.results15]; go_simp; rfl) rfl ?_
      exact ⟨none, 0, none, 0, rfl, by (repeat (first | exact Kept.refl _ | assumption | refine Kept.alloc ?_ _ | refine Kept.ext ?_ _ | refine Kept.drew ?_ | refine Kept.drewN ?_ _)), RowsAt.nil0, RowsAt.nil0⟩
    · rw [h0, h1] at hs
      have h2 : frB c 1 64 = false := by simpa using hs
      go_enter Try.func15, Try.ntmps15
      go_wp2_with (first | (go_at_call 65; refine (r2within_any _ _ _ _).mono ?_; rintro e w1 ⟨rfl, rfl⟩))
      refine bodyPost_ret (by simp only [results, Try.results15]; go_simp; rfl) rfl ?_
      exact ⟨none, 0, none, 0, rfl, by (repeat (first | exact Kept.refl _ | assumption | refine Kept.alloc ?_ _ | refine Kept.ext ?_ _ | refine Kept.drew ?_ | refine Kept.drewN ?_ _)), RowsAt.nil0, RowsAt.nil0⟩
  have e : blockE a b c = validE 8 (blockP a b c) 12 blockF := if_pos hs
  unfold sizesB at hs
  simp only [Bool.and_eq_true] at hs
  obtain ⟨h0, h1, h2⟩ := hs
  have HE := Lib.hid e
  clear e
  have ba := frB_true h0
  have bb := frB_true h1
  have bc := frB_true h2
  obtain ⟨i0, hi, hz0, hz1, hz2⟩ := info_parts infoPoint
  have HI := Lib.hid (And.intro hi (And.intro hz0 (And.intro hz1 hz2)))
  clear hi hz0 hz1 hz2
  go_enter Try.func15, Try.ntmps15
  go_wp2_with (first | (go_at_call 65; refine (r2within_any _ _ _ _).mono ?_; rintro e w1 ⟨rfl, rfl⟩))
  go_loopw [9] (fun i wr => ∃ k : Nat, k ≤ 8 ∧ i = .int .i64 k ∧ BlkI w (w.heap.size + 1) w.heap.size (blockP a b c) k wr) (fun i _ => 8 - (intOf i).toNat)
  case atStart => exact ⟨0, by omega, rfl, by (repeat (first | exact Kept.refl _ | assumption | refine Kept.alloc ?_ _ | refine Kept.ext ?_ _ | refine Kept.drew ?_ | refine Kept.drewN ?_ _)), by
    rw [(MapKept.heap_alloc _ _).2 _ (by simp)]
    exact heap_alloc_new _ _, .slice none 0 0, by
    exact alloc_now _ _ _, ⟨rfl, .inl ⟨rfl, rfl⟩⟩⟩
  case round =>
    obtain ⟨k, hk, rfl, hkw, hrb, v, hmb, hown⟩ := hrel
    obtain ⟨A2, cp2, rfl, hcp⟩ := own_sl hown
    obtain ⟨m0, m1, z0, z1⟩ := cells2 hmb
    have LM : Lower (w.heap.size + 1) wr.heap.size := ⟨cell_lt m0⟩
    have HK := Lib.hid hkw
    have HR := Lib.hid hrb
    have HM := Lib.hid hmb
    have HO := Lib.hid hown
    clear hkw hrb hmb hown
    rcases (show k = 0 ∨ k = 1 ∨ k = 2 ∨ k = 3 ∨ k = 4 ∨ k = 5 ∨ k = 6 ∨ k = 7 ∨ k = 8 by omega) with rfl | rfl | rfl | rfl | rfl | rfl | rfl | rfl | rfl
    · go_wp2_with (at_builtin; refine wpList_append_lies _ rfl _ _ _ rfl (w.heap.size + 1 + 1) 34 i0 _ 3 24 Try.underlying22 HI.out.1 HI.out.2.1 HI.out.2.2.1 HI.out.2.2.2 rfl (by omega) _ 0 (rowC 3 (blockP a b c) 0) rfl (owns_kept HO.out (by (repeat (first | exact Kept.refl _ | assumption | refine Kept.alloc ?_ _ | refine Kept.ext ?_ _ | refine Kept.drew ?_ | refine Kept.drewN ?_ _)))) _ 1 1 [.int .i64 0, .int .i64 0, .int .i64 0] rfl rfl (World.news_of_block (alloc_now _ _ _)) (by simp [Value.oneCell']) (by omega) (by unfold maxLen; omega) (by omega) (by have := LM.lt; simp [adv]; omega) _ rfl ?_; intro g cp w2 hown2 hg2 hat hlt2; have hm2 := own_far (owns_kept HO.out (by (repeat (first | exact Kept.refl _ | assumption | refine Kept.alloc ?_ _ | refine Kept.ext ?_ _ | refine Kept.drew ?_ | refine Kept.drewN ?_ _)))) hg2 (fr_kept HM.out (by (repeat (first | exact Kept.refl _ | assumption | refine Kept.alloc ?_ _ | refine Kept.ext ?_ _ | refine Kept.drew ?_ | refine Kept.drewN ?_ _)))) (by omega); obtain ⟨n0, n1, y0, y1⟩ := cells2 hm2; clear hm2)
      go_roundw
      case rel => exact ⟨1, by omega, rfl, BlkI.next (HK.out.trans (by (repeat (first | exact Kept.refl _ | assumption | refine Kept.alloc ?_ _ | refine Kept.ext ?_ _ | refine Kept.drew ?_ | refine Kept.drewN ?_ _)))) (fr_kept HR.out (by (repeat (first | exact Kept.refl _ | assumption | refine Kept.alloc ?_ _ | refine Kept.ext ?_ _ | refine Kept.drew ?_ | refine Kept.drewN ?_ _)))) (fr_kept HM.out (by (repeat (first | exact Kept.refl _ | assumption | refine Kept.alloc ?_ _ | refine Kept.ext ?_ _ | refine Kept.drew ?_ | refine Kept.drewN ?_ _)))) (owns_kept HO.out (by (repeat (first | exact Kept.refl _ | assumption | refine Kept.alloc ?_ _ | refine Kept.ext ?_ _ | refine Kept.drew ?_ | refine Kept.drewN ?_ _)))) (by omega) (by omega) hg2 hown2 (by rw [rowC_next]; simp [blockP, List.range_succ])⟩
      case measure => simp [intOf]
    · go_wp2_with (at_builtin; refine wpList_append_lies _ rfl _ _ _ rfl (w.heap.size + 1 + 1) 34 i0 _ 3 24 Try.underlying22 HI.out.1 HI.out.2.1 HI.out.2.2.1 HI.out.2.2.2 rfl (by omega) _ 1 (rowC 3 (blockP a b c) 1) rfl (owns_kept HO.out (by (repeat (first | exact Kept.refl _ | assumption | refine Kept.alloc ?_ _ | refine Kept.ext ?_ _ | refine Kept.drew ?_ | refine Kept.drewN ?_ _)))) _ 1 1 [.int .i64 a, .int .i64 0, .int .i64 0] rfl rfl (World.news_of_block (alloc_now _ _ _)) (by simp [Value.oneCell']) (by omega) (by unfold maxLen; omega) (by omega) (by have := LM.lt; simp [adv]; omega) _ rfl ?_; intro g cp w2 hown2 hg2 hat hlt2; have hm2 := own_far (owns_kept HO.out (by (repeat (first | exact Kept.refl _ | assumption | refine Kept.alloc ?_ _ | refine Kept.ext ?_ _ | refine Kept.drew ?_ | refine Kept.drewN ?_ _)))) hg2 (fr_kept HM.out (by (repeat (first | exact Kept.refl _ | assumption | refine Kept.alloc ?_ _ | refine Kept.ext ?_ _ | refine Kept.drew ?_ | refine Kept.drewN ?_ _)))) (by omega); obtain ⟨n0, n1, y0, y1⟩ := cells2 hm2; clear hm2)
      go_roundw
      case rel => exact ⟨2, by omega, rfl, BlkI.next (HK.out.trans (by (repeat (first | exact Kept.refl _ | assumption | refine Kept.alloc ?_ _ | refine Kept.ext ?_ _ | refine Kept.drew ?_ | refine Kept.drewN ?_ _)))) (fr_kept HR.out (by (repeat (first | exact Kept.refl _ | assumption | refine Kept.alloc ?_ _ | refine Kept.ext ?_ _ | refine Kept.drew ?_ | refine Kept.drewN ?_ _)))) (fr_kept HM.out (by (repeat (first | exact Kept.refl _ | assumption | refine Kept.alloc ?_ _ | refine Kept.ext ?_ _ | refine Kept.drew ?_ | refine Kept.drewN ?_ _)))) (owns_kept HO.out (by (repeat (first | exact Kept.refl _ | assumption | refine Kept.alloc ?_ _ | refine Kept.ext ?_ _ | refine Kept.drew ?_ | refine Kept.drewN ?_ _)))) (by omega) (by omega) hg2 hown2 (by rw [rowC_next]; simp [blockP, List.range_succ])⟩
      case measure => simp [intOf]
    · go_wp2_with (at_builtin; refine wpList_append_lies _ rfl _ _ _ rfl (w.heap.size + 1 + 1) 34 i0 _ 3 24 Try.underlying22 HI.out.1 HI.out.2.1 HI.out.2.2.1 HI.out.2.2.2 rfl (by omega) _ 2 (rowC 3 (blockP a b c) 2) rfl (owns_kept HO.out (by (repeat (first | exact Kept.refl _ | assumption | refine Kept.alloc ?_ _ | refine Kept.ext ?_ _ | refine Kept.drew ?_ | refine Kept.drewN ?_ _)))) _ 1 1 [.int .i64 0, .int .i64 b, .int .i64 0] rfl rfl (World.news_of_block (alloc_now _ _ _)) (by simp [Value.oneCell']) (by omega) (by unfold maxLen; omega) (by omega) (by have := LM.lt; simp [adv]; omega) _ rfl ?_; intro g cp w2 hown2 hg2 hat hlt2; have hm2 := own_far (owns_kept HO.out (by (repeat (first | exact Kept.refl _ | assumption | refine Kept.alloc ?_ _ | refine Kept.ext ?_ _ | refine Kept.drew ?_ | refine Kept.drewN ?_ _)))) hg2 (fr_kept HM.out (by (repeat (first | exact Kept.refl _ | assumption | refine Kept.alloc ?_ _ | refine Kept.ext ?_ _ | refine Kept.drew ?_ | refine Kept.drewN ?_ _)))) (by omega); obtain ⟨n0, n1, y0, y1⟩ := cells2 hm2; clear hm2)
      go_roundw
      case rel => exact ⟨3, by omega, rfl, BlkI.next (HK.out.trans (by (repeat (first | exact Kept.refl _ | assumption | refine Kept.alloc ?_ _ | refine Kept.ext ?_ _ | refine Kept.drew ?_ | refine Kept.drewN ?_ _)))) (fr_kept HR.out (by (repeat (first | exact Kept.refl _ | assumption | refine Kept.alloc ?_ _ | refine Kept.ext ?_ _ | refine Kept.drew ?_ | refine Kept.drewN ?_ _)))) (fr_kept HM.out (by (repeat (first | exact Kept.refl _ | assumption | refine Kept.alloc ?_ _ | refine Kept.ext ?_ _ | refine Kept.drew ?_ | refine Kept.drewN ?_ _)))) (owns_kept HO.out (by (repeat (first | exact Kept.refl _ | assumption | refine Kept.alloc ?_ _ | refine Kept.ext ?_ _ | refine Kept.drew ?_ | refine Kept.drewN ?_ _)))) (by omega) (by omega) hg2 hown2 (by rw [rowC_next]; simp [blockP, List.range_succ])⟩
      case measure => simp [intOf]
    · go_wp2_with (at_builtin; refine wpList_append_lies _ rfl _ _ _ rfl (w.heap.size + 1 + 1) 34 i0 _ 3 24 Try.underlying22 HI.out.1 HI.out.2.1 HI.out.2.2.1 HI.out.2.2.2 rfl (by omega) _ 3 (rowC 3 (blockP a b c) 3) rfl (owns_kept HO.out (by (repeat (first | exact Kept.refl _ | assumption | refine Kept.alloc ?_ _ | refine Kept.ext ?_ _ | refine Kept.drew ?_ | refine Kept.drewN ?_ _)))) _ 1 1 [.int .i64 a, .int .i64 b, .int .i64 0] rfl rfl (World.news_of_block (alloc_now _ _ _)) (by simp [Value.oneCell']) (by omega) (by unfold maxLen; omega) (by omega) (by have := LM.lt; simp [adv]; omega) _ rfl ?_; intro g cp w2 hown2 hg2 hat hlt2; have hm2 := own_far (owns_kept HO.out (by (repeat (first | exact Kept.refl _ | assumption | refine Kept.alloc ?_ _ | refine Kept.ext ?_ _ | refine Kept.drew ?_ | refine Kept.drewN ?_ _)))) hg2 (fr_kept HM.out (by (repeat (first | exact Kept.refl _ | assumption | refine Kept.alloc ?_ _ | refine Kept.ext ?_ _ | refine Kept.drew ?_ | refine Kept.drewN ?_ _)))) (by omega); obtain ⟨n0, n1, y0, y1⟩ := cells2 hm2; clear hm2)
      go_roundw
      case rel => exact ⟨4, by omega, rfl, BlkI.next (HK.out.trans (by (repeat (first | exact Kept.refl _ | assumption | refine Kept.alloc ?_ _ | refine Kept.ext ?_ _ | refine Kept.drew ?_ | refine Kept.drewN ?_ _)))) (fr_kept HR.out (by (repeat (first | exact Kept.refl _ | assumption | refine Kept.alloc ?_ _ | refine Kept.ext ?_ _ | refine Kept.drew ?_ | refine Kept.drewN ?_ _)))) (fr_kept HM.out (by (repeat (first | exact Kept.refl _ | assumption | refine Kept.alloc ?_ _ | refine Kept.ext ?_ _ | refine Kept.drew ?_ | refine Kept.drewN ?_ _)))) (owns_kept HO.out (by (repeat (first | exact Kept.refl _ | assumption | refine Kept.alloc ?_ _ | refine Kept.ext ?_ _ | refine Kept.drew ?_ | refine Kept.drewN ?_ _)))) (by omega) (by omega) hg2 hown2 (by rw [rowC_next]; simp [blockP, List.range_succ])⟩
      case measure => simp [intOf]
    · go_wp2_with (at_builtin; refine wpList_append_lies _ rfl _ _ _ rfl (w.heap.size + 1 + 1) 34 i0 _ 3 24 Try.underlying22 HI.out.1 HI.out.2.1 HI.out.2.2.1 HI.out.2.2.2 rfl (by omega) _ 4 (rowC 3 (blockP a b c) 4) rfl (owns_kept HO.out (by (repeat (first | exact Kept.refl _ | assumption | refine Kept.alloc ?_ _ | refine Kept.ext ?_ _ | refine Kept.drew ?_ | refine Kept.drewN ?_ _)))) _ 1 1 [.int .i64 0, .int .i64 0, .int .i64 c] rfl rfl (World.news_of_block (alloc_now _ _ _)) (by simp [Value.oneCell']) (by omega) (by unfold maxLen; omega) (by omega) (by have := LM.lt; simp [adv]; omega) _ rfl ?_; intro g cp w2 hown2 hg2 hat hlt2; have hm2 := own_far (owns_kept HO.out (by (repeat (first | exact Kept.refl _ | assumption | refine Kept.alloc ?_ _ | refine Kept.ext ?_ _ | refine Kept.drew ?_ | refine Kept.drewN ?_ _)))) hg2 (fr_kept HM.out (by (repeat (first | exact Kept.refl _ | assumption | refine Kept.alloc ?_ _ | refine Kept.ext ?_ _ | refine Kept.drew ?_ | refine Kept.drewN ?_ _)))) (by omega); obtain ⟨n0, n1, y0, y1⟩ := cells2 hm2; clear hm2)
      go_roundw
      case rel => exact ⟨5, by omega, rfl, BlkI.next (HK.out.trans (by (repeat (first | exact Kept.refl _ | assumption | refine Kept.alloc ?_ _ | refine Kept.ext ?_ _ | refine Kept.drew ?_ | refine Kept.drewN ?_ _)))) (fr_kept HR.out (by (repeat (first | exact Kept.refl _ | assumption | refine Kept.alloc ?_ _ | refine Kept.ext ?_ _ | refine Kept.drew ?_ | refine Kept.drewN ?_ _)))) (fr_kept HM.out (by (repeat (first | exact Kept.refl _ | assumption | refine Kept.alloc ?_ _ | refine Kept.ext ?_ _ | refine Kept.drew ?_ | refine Kept.drewN ?_ _)))) (owns_kept HO.out (by (repeat (first | exact Kept.refl _ | assumption | refine Kept.alloc ?_ _ | refine Kept.ext ?_ _ | refine Kept.drew ?_ | refine Kept.drewN ?_ _)))) (by omega) (by omega) hg2 hown2 (by rw [rowC_next]; simp [blockP, List.range_succ])⟩
      case measure => simp [intOf]
    · go_wp2_with (at_builtin; refine wpList_append_lies _ rfl _ _ _ rfl (w.heap.size + 1 + 1) 34 i0 _ 3 24 Try.underlying22 HI.out.1 HI.out.2.1 HI.out.2.2.1 HI.out.2.2.2 rfl (by omega) _ 5 (rowC 3 (blockP a b c) 5) rfl (owns_kept HO.out (by (repeat (first | exact Kept.refl _ | assumption | refine Kept.alloc ?_ _ | refine Kept.ext ?_ _ | refine Kept.drew ?_ | refine Kept.drewN ?_ _)))) _ 1 1 [.int .i64 a, .int .i64 0, .int .i64 c] rfl rfl (World.news_of_block (alloc_now _ _ _)) (by simp [Value.oneCell']) (by omega) (by unfold maxLen; omega) (by omega) (by have := LM.lt; simp [adv]; omega) _ rfl ?_; intro g cp w2 hown2 hg2 hat hlt2; have hm2 := own_far (owns_kept HO.out (by (repeat (first | exact Kept.refl _ | assumption | refine Kept.alloc ?_ _ | refine Kept.ext ?_ _ | refine Kept.drew ?_ | refine Kept.drewN ?_ _)))) hg2 (fr_kept HM.out (by (repeat (first | exact Kept.refl _ | assumption | refine Kept.alloc ?_ _ | refine Kept.ext ?_ _ | refine Kept.drew ?_ | refine Kept.drewN ?_ _)))) (by omega); obtain ⟨n0, n1, y0, y1⟩ := cells2 hm2; clear hm2)
      go_roundw
      case rel => exact ⟨6, by omega, rfl, BlkI.next (HK.out.trans (by (repeat (first | exact Kept.refl _ | assumption | refine Kept.alloc ?_ _ | refine Kept.ext ?_ _ | refine Kept.drew ?_ | refine Kept.drewN ?_ _)))) (fr_kept HR.out (by (repeat (first | exact Kept.refl _ | assumption | refine Kept.alloc ?_ _ | refine Kept.ext ?_ _ | refine Kept.drew ?_ | refine Kept.drewN ?_ _)))) (fr_kept HM.out (by (repeat (first | exact Kept.refl _ | assumption | refine Kept.alloc ?_ _ | refine Kept.ext ?_ _ | refine Kept.drew ?_ | refine Kept.drewN ?_ _)))) (owns_kept HO.out (by (repeat (first | exact Kept.refl _ | assumption | refine Kept.alloc ?_ _ | refine Kept.ext ?_ _ | refine Kept.drew ?_ | refine Kept.drewN ?_ _)))) (by omega) (by omega) hg2 hown2 (by rw [rowC_next]; simp [blockP, List.range_succ])⟩
      case measure => simp [intOf]
    · go_wp2_with (at_builtin; refine wpList_append_lies _ rfl _ _ _ rfl (w.heap.size + 1 + 1) 34 i0 _ 3 24 Try.underlying22 HI.out.1 HI.out.2.1 HI.out.2.2.1 HI.out.2.2.2 rfl (by omega) _ 6 (rowC 3 (blockP a b c) 6) rfl (owns_kept HO.out (by (repeat (first | exact Kept.refl _ | assumption | refine Kept.alloc ?_ _ | refine Kept.ext ?_ _ | refine Kept.drew ?_ | refine Kept.drewN ?_ _)))) _ 1 1 [.int .i64 0, .int .i64 b, .int .i64 c] rfl rfl (World.news_of_block (alloc_now _ _ _)) (by simp [Value.oneCell']) (by omega) (by unfold maxLen; omega) (by omega) (by have := LM.lt; simp [adv]; omega) _ rfl ?_; intro g cp w2 hown2 hg2 hat hlt2; have hm2 := own_far (owns_kept HO.out (by (repeat (first | exact Kept.refl _ | assumption | refine Kept.alloc ?_ _ | refine Kept.ext ?_ _ | refine Kept.drew ?_ | refine Kept.drewN ?_ _)))) hg2 (fr_kept HM.out (by (repeat (first | exact Kept.refl _ | assumption | refine Kept.alloc ?_ _ | refine Kept.ext ?_ _ | refine Kept.drew ?_ | refine Kept.drewN ?_ _)))) (by omega); obtain ⟨n0, n1, y0, y1⟩ := cells2 hm2; clear hm2)
      go_roundw
      case rel => exact ⟨7, by omega, rfl, BlkI.next (HK.out.trans (by (repeat (first | exact Kept.refl _ | assumption | refine Kept.alloc ?_ _ | refine Kept.ext ?_ _ | refine Kept.drew ?_ | refine Kept.drewN ?_ _)))) (fr_kept HR.out (by (repeat (first | exact Kept.refl _ | assumption | refine Kept.alloc ?_ _ | refine Kept.ext ?_ _ | refine Kept.drew ?_ | refine Kept.drewN ?_ _)))) (fr_kept HM.out (by (repeat (first | exact Kept.refl _ | assumption | refine Kept.alloc ?_ _ | refine Kept.ext ?_ _ | refine Kept.drew ?_ | refine Kept.drewN ?_ _)))) (owns_kept HO.out (by (repeat (first | exact Kept.refl _ | assumption | refine Kept.alloc ?_ _ | refine Kept.ext ?_ _ | refine Kept.drew ?_ | refine Kept.drewN ?_ _)))) (by omega) (by omega) hg2 hown2 (by rw [rowC_next]; simp [blockP, List.range_succ])⟩
      case measure => simp [intOf]
    · go_wp2_with (at_builtin; refine wpList_append_lies _ rfl _ _ _ rfl (w.heap.size + 1 + 1) 34 i0 _ 3 24 Try.underlying22 HI.out.1 HI.out.2.1 HI.out.2.2.1 HI.out.2.2.2 rfl (by omega) _ 7 (rowC 3 (blockP a b c) 7) rfl (owns_kept HO.out (by (repeat (first | exact Kept.refl _ | assumption | refine Kept.alloc ?_ _ | refine Kept.ext ?_ _ | refine Kept.drew ?_ | refine Kept.drewN ?_ _)))) _ 1 1 [.int .i64 a, .int .i64 b, .int .i64 c] rfl rfl (World.news_of_block (alloc_now _ _ _)) (by simp [Value.oneCell']) (by omega) (by unfold maxLen; omega) (by omega) (by have := LM.lt; simp [adv]; omega) _ rfl ?_; intro g cp w2 hown2 hg2 hat hlt2; have hm2 := own_far (owns_kept HO.out (by (repeat (first | exact Kept.refl _ | assumption | refine Kept.alloc ?_ _ | refine Kept.ext ?_ _ | refine Kept.drew ?_ | refine Kept.drewN ?_ _)))) hg2 (fr_kept HM.out (by (repeat (first | exact Kept.refl _ | assumption | refine Kept.alloc ?_ _ | refine Kept.ext ?_ _ | refine Kept.drew ?_ | refine Kept.drewN ?_ _)))) (by omega); obtain ⟨n0, n1, y0, y1⟩ := cells2 hm2; clear hm2)
      go_roundw
      case rel => exact ⟨8, by omega, rfl, BlkI.next (HK.out.trans (by (repeat (first | exact Kept.refl _ | assumption | refine Kept.alloc ?_ _ | refine Kept.ext ?_ _ | refine Kept.drew ?_ | refine Kept.drewN ?_ _)))) (fr_kept HR.out (by (repeat (first | exact Kept.refl _ | assumption | refine Kept.alloc ?_ _ | refine Kept.ext ?_ _ | refine Kept.drew ?_ | refine Kept.drewN ?_ _)))) (fr_kept HM.out (by (repeat (first | exact Kept.refl _ | assumption | refine Kept.alloc ?_ _ | refine Kept.ext ?_ _ | refine Kept.drew ?_ | refine Kept.drewN ?_ _)))) (owns_kept HO.out (by (repeat (first | exact Kept.refl _ | assumption | refine Kept.alloc ?_ _ | refine Kept.ext ?_ _ | refine Kept.drew ?_ | refine Kept.drewN ?_ _)))) (by omega) (by omega) hg2 hown2 (by rw [rowC_next]; simp [blockP, List.range_succ])⟩
      case measure => simp [intOf]
    · have hI8 : ∀ k, k < 8 → ∀ j, j < 3 → I64 (blockP a b c k j) := by
        intro k hk j hj
        rcases (show k = 0 ∨ k = 1 ∨ k = 2 ∨ k = 3 ∨ k = 4 ∨ k = 5 ∨ k = 6 ∨ k = 7 by omega) with rfl | rfl | rfl | rfl | rfl | rfl | rfl | rfl <;> (rcases (show j = 0 ∨ j = 1 ∨ j = 2 by omega) with rfl | rfl | rfl <;> (simp [blockP, I64]; try omega))
      have HI8 := Lib.hid hI8
      clear hI8
      go_wp2_with fail
      refine (r2told_any _ _ _ _ _ _ (blockP a b c) blockF _ (by omega) (rows_of_owns (owns_kept (own_setCell (g := w.heap.size + 1) (o := 1) (u := .slice (some ⟨wr.heap.size, 0, none⟩) 12 12) HO.out (by omega)) (by (repeat (first | exact Kept.refl _ | assumption | refine Kept.alloc ?_ _ | refine Kept.ext ?_ _ | refine Kept.drew ?_ | refine Kept.drewN ?_ _)))) HI8.out) ?_).mono ?_
      · have := facesAt (wr.setCell ⟨w.heap.size + 1, 1, none⟩ (.slice (some ⟨wr.heap.size, 0, none⟩) 12 12))
        rw [World.size_setCell] at this
        exact this
      rintro r w1 ⟨A', cap', B', cap2', rfl, ⟨x9, rfl⟩, hP', hF'⟩
      have hr8 : (wr.setCell ⟨w.heap.size + 1, 1, none⟩ (.slice (some ⟨wr.heap.size, 0, none⟩) 12 12)).heap[w.heap.size]? = some (.cells #[.slice none 0 0, .slice none 0 0] 25 (0, 0)) := by
        rw [heap_setCell_other _ _ _ _ (by simp)]
        exact HR.out
      have hr9 : (ext ((wr.setCell ⟨w.heap.size + 1, 1, none⟩ (.slice (some ⟨wr.heap.size, 0, none⟩) 12 12)).alloc (.cells #[.int .i64 0, .int .i64 2, .int .i64 3, .int .i64 0, .int .i64 3, .int .i64 1, .int .i64 4, .int .i64 5, .int .i64 7, .int .i64 4, .int .i64 7, .int .i64 6, .int .i64 0, .int .i64 1, .int .i64 5, .int .i64 0, .int .i64 5, .int .i64 4, .int .i64 2, .int .i64 6, .int .i64 7, .int .i64 2, .int .i64 7, .int .i64 3, .int .i64 0, .int .i64 4, .int .i64 6, .int .i64 0, .int .i64 6, .int .i64 2, .int .i64 1, .int .i64 3, .int .i64 7, .int .i64 1, .int .i64 7, .int .i64 5] 54)) x9).heap[w.heap.size]? = some (.cells #[.slice none 0 0, .slice none 0 0] 25 (0, 0)) := fr_kept hr8 (by (repeat (first | exact Kept.refl _ | assumption | refine Kept.alloc ?_ _ | refine Kept.ext ?_ _ | refine Kept.drew ?_ | refine Kept.drewN ?_ _)))
      have HR9 := Lib.hid hr9
      have HP9 := Lib.hid hP'
      have HF9 := Lib.hid hF'
      clear hr8 hr9 hP' hF'
      obtain ⟨ee, he⟩ : ∃ ee, validE 8 (blockP a b c) 12 blockF = ee := ⟨_, rfl⟩
      rw [he] at HP9 HF9 ⊢
      have HEE := Lib.hid he
      clear he
      obtain ⟨q1, q2, -, -⟩ := cells2 (setRow_heap _ _ _ #[.slice A' (okN ee 8) cap', .slice B' (okN ee 12) cap2'] _ _ HR9.out)
      go_wp2_with (refine wpList_store_row rfl 25 (.tmp 6) (.tmp 63) rfl w.heap.size _ rfl rfl _ _ HR9.out (by kernel_rfl) rfl (by simp [Value.oneCell']) ?_)
      refine bodyPost_ret (by simp only [results, Try.results15]; go_simp; rfl) rfl ?_
      rw [HE.out, HEE.out]
      have nos : ∀ (j : Nat) (z : Int), (#[Value.slice none 0 0, Value.slice none 0 0])[j]? ≠ some (Value.int .i64 z) := fun j z e => by
        rcases (show j = 0 ∨ j = 1 ∨ 2 ≤ j by omega) with rfl | rfl | h
        · simp at e
        · simp at e
        · rw [Array.getElem?_eq_none (by simpa using h)] at e; cases e
      exact ⟨A', cap', B', cap2', rfl, Kept.map_store (((HK.out.setCell (by simp) _).alloc _).ext _) (Nat.le_refl _) (grown_setRow _ _ _), HP9.out.far (grown_setRow _ _ _) HR9.out nos (by omega), HF9.out.far (grown_setRow _ _ _) HR9.out nos (by omega)⟩
end Go.Proofs.Ytoadlneneijfaaa
