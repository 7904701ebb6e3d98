/- Contract: boxes, of the program. No conditions. -/
import Derived.Test.YtnbjealpcjfllaaGreatDoorGrc
import Derived.Laws.OwnMore
namespace Go.Proofs.YtnbjealpcjfllaaGreatDoor
set_option linter.unusedVariables false
set_option linter.unusedSimpArgs false
open Go.RowKit
def blockP (a b c : Int) (i j : Nat) : Int := if j = 0 then a * ((i % 2 : Nat) : Int) else if j = 1 then b * ((i / 2 % 2 : Nat) : Int) else c * ((i / 4 : Nat) : Int)
def blockL : List (List Int) := [[0, 2, 3], [0, 3, 1], [4, 5, 7], [4, 7, 6], [0, 1, 5], [0, 5, 4], [2, 6, 7], [2, 7, 3], [0, 4, 6], [0, 6, 2], [1, 3, 7], [1, 7, 5]]
def blockF (i j : Nat) : Int := (blockL.getD i []).getD j 0
def sizesB (a b c : Int) : Bool := frB a 1 64 && (frB b 1 64 && frB c 1 64)
/-- The error of a box. -/
def blockE (a b c : Int) : Int := if sizesB a b c = true then validE 8 (blockP a b c) 12 blockF else 1
theorem ssize_any (n : Int) (w : World) :
    Calls Tryz.prog 204 #[.int .i64 n] w fun e w' => e = .returned (.bool (frB n 1 64)) ∧ w = w' := by
  go_enter Tryz.func204, Tryz.ntmps204
  go_wp2_with (first | (go_at_call 115; refine (sfrom_any _ _ _ _).mono ?_; rintro e w1 ⟨rfl, rfl⟩))
  go_ret
  exact ⟨rfl, rfl⟩
theorem infoPoint : (Tryz.prog.info? 136).map (fun i => (i.zero, i.size, i.bytes)) = some (some (.agg #[.int .i64 0, .int .i64 0, .int .i64 0]), 3, 24) := by kernel_rfl
/-- The state of the loop over the corners: the mesh in block mb, nothing yet in the result's block rb. -/
def BlkI (w : World) (mb rb : Nat) (P : Nat → Nat → Int) (k : Nat) (wr : World) : Prop :=
  Kept w wr ∧ wr.heap[rb]? = some (.cells #[.slice none 0 0, .slice none 0 0] 42 (0, 0)) ∧ ∃ v, wr.heap[mb]? = some (.cells #[v, .slice none 0 0] 42 (0, 0)) ∧ wr.ownsRow (mb + 1) 136 3 v k (rowC 3 P k)
theorem cells2 {V : World} {g : Nat} {T : TypeId} {a b : Value} (h : V.heap[g]? = some (.cells #[a, b] T (0, 0))) : V.cell? ⟨g, 0, none⟩ = some a ∧ V.cell? ⟨g, 1, none⟩ = some b ∧ V.frozen? ⟨g, 0, none⟩ = false ∧ V.frozen? ⟨g, 1, none⟩ = false := by
  refine ⟨?_, ?_, ?_, ?_⟩
  · unfold World.cell?; simp only [h]; rfl
  · unfold World.cell?; simp only [h]; rfl
  · unfold World.frozen?; simp only [h]; simp
  · unfold World.frozen?; simp only [h]; simp
theorem own_far {w w' : World} {base size n g : Nat} {e : TypeId} {v : Value} {xs : List Value} {o : Obj} (hown : w.ownsRow base e size v n xs) (hg : w.grownBy w' v.ownBlock) (h : w.heap[g]? = some o) (hlt : g < base) : w'.heap[g]? = some o := by
  rw [hg.block g (Array.getElem?_eq_some_iff.1 h).1 (fun e => by have := hown.lt g e.symm; omega)]
  exact h
theorem own_setCell {w : World} {base size n g o : Nat} {e : TypeId} {v u : Value} {xs : List Value} (hown : w.ownsRow base e size v n xs) (hlt : g < base) : (w.setCell ⟨g, o, none⟩ u).ownsRow base e size v n xs := by
  refine hown.kept (row := some g) ⟨rfl, rfl, rfl, by simp, fun k _ hk => heap_setCell_other w ⟨g, o, none⟩ k u (fun e => hk (by simp [e]))⟩ ?_
  cases hv : v.ownBlock with
  | none => exact .inl rfl
  | some k =>
    refine .inr (fun e => ?_)
    have := hown.lt k hv
    have : k = g := Option.some.inj e
    omega
theorem BlkI.next {w w1 w2 : World} {mb rb k g cp : Nat} {P : Nat → Nat → Int} {v : Value} {news : List Value} (hk : Kept w w1) (hr : w1.heap[rb]? = some (.cells #[.slice none 0 0, .slice none 0 0] 42 (0, 0)))
    (hm : w1.heap[mb]? = some (.cells #[v, .slice none 0 0] 42 (0, 0))) (hown : w1.ownsRow (mb + 1) 136 3 v k (rowC 3 P k)) (hle : w.heap.size ≤ mb) (hrm : rb < mb)
    (hg : w1.grownBy w2 v.ownBlock) (hown2 : w2.ownsRow (mb + 1) 136 3 (.slice (some ⟨g, 0, none⟩) (k + 1) cp) (k + 1) (rowC 3 P k ++ news)) (hn : rowC 3 P (k + 1) = rowC 3 P k ++ news) :
    BlkI w mb rb P (k + 1) (w2.setCell ⟨mb, 0, none⟩ (.slice (some ⟨g, 0, none⟩) (k + 1) cp)) := by
  have hm2 := own_far hown hg hm (by omega)
  have hr2 := own_far hown hg hr (by omega)
  refine ⟨(kept_grown hk hown (by omega) hg).setCell hle _, ?_, _, ?_, by rw [hn]; exact own_setCell hown2 (by omega)⟩
  · rw [heap_setCell_other _ _ _ _ (by simp; omega)]
    exact hr2
  · rw [heap_setCell_same _ _ _ _ _ _ hm2]
    rfl
theorem facesAt (V : World) : RowsAt (V.alloc (.cells #[.int .i64 0, .int .i64 2, .int .i64 3, .int .i64 0, .int .i64 3, .int .i64 1, .int .i64 4, .int .i64 5, .int .i64 7, .int .i64 4, .int .i64 7, .int .i64 6, .int .i64 0, .int .i64 1, .int .i64 5, .int .i64 0, .int .i64 5, .int .i64 4, .int .i64 2, .int .i64 6, .int .i64 7, .int .i64 2, .int .i64 7, .int .i64 3, .int .i64 0, .int .i64 4, .int .i64 6, .int .i64 0, .int .i64 6, .int .i64 2, .int .i64 1, .int .i64 3, .int .i64 7, .int .i64 1, .int .i64 7, .int .i64 5] 138)) (some ⟨V.heap.size, 0, none⟩) 12 3 blockF := by
  refine rows_of_owns (base := 0) (e := 138) (cap := 12) (World.ownsRow_lit V #[.int .i64 0, .int .i64 2, .int .i64 3, .int .i64 0, .int .i64 3, .int .i64 1, .int .i64 4, .int .i64 5, .int .i64 7, .int .i64 4, .int .i64 7, .int .i64 6, .int .i64 0, .int .i64 1, .int .i64 5, .int .i64 0, .int .i64 5, .int .i64 4, .int .i64 2, .int .i64 6, .int .i64 7, .int .i64 2, .int .i64 7, .int .i64 3, .int .i64 0, .int .i64 4, .int .i64 6, .int .i64 0, .int .i64 6, .int .i64 2, .int .i64 1, .int .i64 3, .int .i64 7, .int .i64 1, .int .i64 7, .int .i64 5] 12 (Nat.zero_le _) (by unfold maxLen; omega) rfl) ?_
  intro k hk j hj
  rcases (show k = 0 ∨ k = 1 ∨ k = 2 ∨ k = 3 ∨ k = 4 ∨ k = 5 ∨ k = 6 ∨ k = 7 ∨ k = 8 ∨ k = 9 ∨ k = 10 ∨ k = 11 by omega) with rfl | rfl | rfl | rfl | rfl | rfl | rfl | rfl | rfl | rfl | rfl | rfl <;> (rcases (show j = 0 ∨ j = 1 ∨ j = 2 by omega) with rfl | rfl | rfl <;> (unfold I64; decide))
theorem RowsAt.far {w w' : World} {A : Option Addr} {n c g : Nat} {f : Nat → Nat → Int} {cs : Array Value} {T : TypeId} {fr : Nat × Nat} (h : RowsAt w A n c f) (hg : w.grownBy w' (some g)) (hs : w.heap[g]? = some (.cells cs T fr)) (hno : ∀ (j : Nat) (z : Int), cs[j]? ≠ some (Value.int .i64 z)) (hc : 0 < c) : RowsAt w' A n c f := by
  intro h0
  obtain ⟨b, off, rfl, hb, hcc⟩ := h h0
  have hne : b ≠ g := by
    rintro rfl
    have := (hcc 0 h0 0 hc).1
    unfold World.cell? at this
    simp only [hs] at this
    exact hno _ _ this
  refine ⟨b, off, rfl, Nat.lt_of_lt_of_le hb hg.size, fun k hk j hj => ⟨?_, (hcc k hk j hj).2⟩⟩
  rw [World.cell?_of_block (hg.block b hb (fun e => hne (Option.some.inj e)))]
  exact (hcc k hk j hj).1
set_option maxRecDepth 100000 in
set_option maxHeartbeats 16000000 in
theorem sblock_any (a b c : Int) (w : World) :
    Calls Tryz.prog 162 #[.int .i64 a, .int .i64 b, .int .i64 c] w fun r w' => MeshR w w' r (blockE a b c) 8 (blockP a b c) 12 blockF := by
  unfold MeshR
  cases hs : sizesB a b c
  · have e : blockE a b c = 1 := if_neg (by rw [hs]; simp)
    rw [e]
    clear e
    unfold sizesB at hs
    cases h0 : frB a 1 64
    · go_enter Tryz.func162, Tryz.ntmps162
      go_wp2_with (first | (go_at_call 204; refine (ssize_any _ _).mono ?_; rintro e w1 ⟨rfl, rfl⟩))
      refine bodyPost_ret (by simp only [results, Tryz.results162]; go_simp; rfl) rfl ?_
      exact ⟨none, 0, none, 0, rfl, by (repeat (first | exact Kept.refl _ | assumption | refine Kept.alloc ?_ _ | refine Kept.ext ?_ _ | refine Kept.drew ?_ | refine Kept.drewN ?_ _)), RowsAt.nil0, RowsAt.nil0⟩
    cases h1 : frB b 1 64
    · go_enter Tryz.func162, Tryz.ntmps162
      go_wp2_with (first | (go_at_call 204; refine (ssize_any _ _).mono ?_; rintro e w1 ⟨rfl, rfl⟩))
      refine bodyPost_ret (by simp only [results, Tryz.results162]; go_simp; rfl) rfl ?_
      exact ⟨none, 0, none, 0, rfl, by (repeat (first | exact Kept.refl _ | assumption | refine Kept.alloc ?_ _ | refine Kept.ext ?_ _ | refine Kept.drew ?_ | refine Kept.drewN ?_ _)), RowsAt.nil0, RowsAt.nil0⟩
    · rw [h0, h1] at hs
      have h2 : frB c 1 64 = false := by simpa using hs
      go_enter Tryz.func162, Tryz.ntmps162
      go_wp2_with (first | (go_at_call 204; refine (ssize_any _ _).mono ?_; rintro e w1 ⟨rfl, rfl⟩))
      refine bodyPost_ret (by simp only [results, Tryz.results162]; go_simp; rfl) rfl ?_
      exact ⟨none, 0, none, 0, rfl, by (repeat (first | exact Kept.refl _ | assumption | refine Kept.alloc ?_ _ | refine Kept.ext ?_ _ | refine Kept.drew ?_ | refine Kept.drewN ?_ _)), RowsAt.nil0, RowsAt.nil0⟩
  have e : blockE a b c = validE 8 (blockP a b c) 12 blockF := if_pos hs
  unfold sizesB at hs
  simp only [Bool.and_eq_true] at hs
  obtain ⟨h0, h1, h2⟩ := hs
  have HE := Lib.hid e
  clear e
  have ba := frB_true h0
  have bb := frB_true h1
  have bc := frB_true h2
  obtain ⟨i0, hi, hz0, hz1, hz2⟩ := info_parts infoPoint
  have HI := Lib.hid (And.intro hi (And.intro hz0 (And.intro hz1 hz2)))
  clear hi hz0 hz1 hz2
  go_enter Tryz.func162, Tryz.ntmps162
  go_wp2_with (first | (go_at_call 204; refine (ssize_any _ _).mono ?_; rintro e w1 ⟨rfl, rfl⟩))
  go_loopw [24] (fun i wr => ∃ k : Nat, k ≤ 8 ∧ i = .int .i64 k ∧ BlkI w (w.heap.size + 1) w.heap.size (blockP a b c) k wr) (fun i _ => 8 - (intOf i).toNat)
  case atStart => exact ⟨0, by omega, rfl, by (repeat (first | exact Kept.refl _ | assumption | refine Kept.alloc ?_ _ | refine Kept.ext ?_ _ | refine Kept.drew ?_ | refine Kept.drewN ?_ _)), by
    rw [(MapKept.heap_alloc _ _).2 _ (by simp)]
    exact heap_alloc_new _ _, .slice none 0 0, by
    exact alloc_now _ _ _, ⟨rfl, .inl ⟨rfl, rfl⟩⟩⟩
  case round =>
    obtain ⟨k, hk, rfl, hkw, hrb, v, hmb, hown⟩ := hrel
    obtain ⟨A2, cp2, rfl, hcp⟩ := own_sl hown
    obtain ⟨m0, m1, z0, z1⟩ := cells2 hmb
    have LM : Lower (w.heap.size + 1) wr.heap.size := ⟨cell_lt m0⟩
    have HK := Lib.hid hkw
    have HR := Lib.hid hrb
    have HM := Lib.hid hmb
    have HO := Lib.hid hown
    clear hkw hrb hmb hown
    have hb0 : bits BinOp.and IntKind.i64 0 1 = 0 := by kernel_rfl
    have hb1 : bits BinOp.and IntKind.i64 1 1 = 1 := by kernel_rfl
    have hb2 : bits BinOp.and IntKind.i64 2 1 = 0 := by kernel_rfl
    have hb3 : bits BinOp.and IntKind.i64 3 1 = 1 := by kernel_rfl
    have hb4 : bits BinOp.and IntKind.i64 4 1 = 0 := by kernel_rfl
    have hb5 : bits BinOp.and IntKind.i64 5 1 = 1 := by kernel_rfl
    have hb6 : bits BinOp.and IntKind.i64 6 1 = 0 := by kernel_rfl
    have hb7 : bits BinOp.and IntKind.i64 7 1 = 1 := by kernel_rfl
    rcases (show k = 0 ∨ k = 1 ∨ k = 2 ∨ k = 3 ∨ k = 4 ∨ k = 5 ∨ k = 6 ∨ k = 7 ∨ k = 8 by omega) with rfl | rfl | rfl | rfl | rfl | rfl | rfl | rfl | rfl
    · go_wp2_with (at_builtin; refine wpList_append_lies _ rfl _ _ _ rfl (w.heap.size + 1 + 1) 136 i0 _ 3 24 Tryz.underlying39 HI.out.1 HI.out.2.1 HI.out.2.2.1 HI.out.2.2.2 rfl (by omega) _ 0 (rowC 3 (blockP a b c) 0) rfl (owns_kept HO.out (by (repeat (first | exact Kept.refl _ | assumption | refine Kept.alloc ?_ _ | refine Kept.ext ?_ _ | refine Kept.drew ?_ | refine Kept.drewN ?_ _)))) _ 1 1 [.int .i64 0, .int .i64 0, .int .i64 0] rfl rfl (World.news_of_block (alloc_now _ _ _)) (by simp [Value.oneCell']) (by omega) (by unfold maxLen; omega) (by omega) (by have := LM.lt; simp [adv]; omega) _ rfl ?_; intro g cp w2 hown2 hg2 hat hlt2; have hm2 := own_far (owns_kept HO.out (by (repeat (first | exact Kept.refl _ | assumption | refine Kept.alloc ?_ _ | refine Kept.ext ?_ _ | refine Kept.drew ?_ | refine Kept.drewN ?_ _)))) hg2 (fr_kept HM.out (by (repeat (first | exact Kept.refl _ | assumption | refine Kept.alloc ?_ _ | refine Kept.ext ?_ _ | refine Kept.drew ?_ | refine Kept.drewN ?_ _)))) (by omega); obtain ⟨n0, n1, y0, y1⟩ := cells2 hm2; clear hm2)
      go_roundw
      case rel => exact ⟨1, by omega, rfl, BlkI.next (HK.out.trans (by (repeat (first | exact Kept.refl _ | assumption | refine Kept.alloc ?_ _ | refine Kept.ext ?_ _ | refine Kept.drew ?_ | refine Kept.drewN ?_ _)))) (fr_kept HR.out (by (repeat (first | exact Kept.refl _ | assumption | refine Kept.alloc ?_ _ | refine Kept.ext ?_ _ | refine Kept.drew ?_ | refine Kept.drewN ?_ _)))) (fr_kept HM.out (by (repeat (first | exact Kept.refl _ | assumption | refine Kept.alloc ?_ _ | refine Kept.ext ?_ _ | refine Kept.drew ?_ | refine Kept.drewN ?_ _)))) (owns_kept HO.out (by (repeat (first | exact Kept.refl _ | assumption | refine Kept.alloc ?_ _ | refine Kept.ext ?_ _ | refine Kept.drew ?_ | refine Kept.drewN ?_ _)))) (by omega) (by omega) hg2 hown2 (by rw [rowC_next]; simp [blockP, List.range_succ])⟩
      case measure => simp [intOf]
    · go_wp2_with (at_builtin; refine wpList_append_lies _ rfl _ _ _ rfl (w.heap.size + 1 + 1) 136 i0 _ 3 24 Tryz.underlying39 HI.out.1 HI.out.2.1 HI.out.2.2.1 HI.out.2.2.2 rfl (by omega) _ 1 (rowC 3 (blockP a b c) 1) rfl (owns_kept HO.out (by (repeat (first | exact Kept.refl _ | assumption | refine Kept.alloc ?_ _ | refine Kept.ext ?_ _ | refine Kept.drew ?_ | refine Kept.drewN ?_ _)))) _ 1 1 [.int .i64 a, .int .i64 0, .int .i64 0] rfl rfl (World.news_of_block (alloc_now _ _ _)) (by simp [Value.oneCell']) (by omega) (by unfold maxLen; omega) (by omega) (by have := LM.lt; simp [adv]; omega) _ rfl ?_; intro g cp w2 hown2 hg2 hat hlt2; have hm2 := own_far (owns_kept HO.out (by (repeat (first | exact Kept.refl _ | assumption | refine Kept.alloc ?_ _ | refine Kept.ext ?_ _ | refine Kept.drew ?_ | refine Kept.drewN ?_ _)))) hg2 (fr_kept HM.out (by (repeat (first | exact Kept.refl _ | assumption | refine Kept.alloc ?_ _ | refine Kept.ext ?_ _ | refine Kept.drew ?_ | refine Kept.drewN ?_ _)))) (by omega); obtain ⟨n0, n1, y0, y1⟩ := cells2 hm2; clear hm2)
      go_roundw
      case rel => exact ⟨2, by omega, rfl, BlkI.next (HK.out.trans (by (repeat (first | exact Kept.refl _ | assumption | refine Kept.alloc ?_ _ | refine Kept.ext ?_ _ | refine Kept.drew ?_ | refine Kept.drewN ?_ _)))) (fr_kept HR.out (by (repeat (first | exact Kept.refl _ | assumption | refine Kept.alloc ?_ _ | refine Kept.ext ?_ _ | refine Kept.drew ?_ | refine Kept.drewN ?_ _)))) (fr_kept HM.out (by (repeat (first | exact Kept.refl _ | assumption | refine Kept.alloc ?_ _ | refine Kept.ext ?_ _ | refine Kept.drew ?_ | refine Kept.drewN ?_ _)))) (owns_kept HO.out (by (repeat (first | exact Kept.refl _ | assumption | refine Kept.alloc ?_ _ | refine Kept.ext ?_ _ | refine Kept.drew ?_ | refine Kept.drewN ?_ _)))) (by omega) (by omega) hg2 hown2 (by rw [rowC_next]; simp [blockP, List.range_succ])⟩
      case measure => simp [intOf]
    · go_wp2_with (at_builtin; refine wpList_append_lies _ rfl _ _ _ rfl (w.heap.size + 1 + 1) 136 i0 _ 3 24 Tryz.underlying39 HI.out.1 HI.out.2.1 HI.out.2.2.1 HI.out.2.2.2 rfl (by omega) _ 2 (rowC 3 (blockP a b c) 2) rfl (owns_kept HO.out (by (repeat (first | exact Kept.refl _ | assumption | refine Kept.alloc ?_ _ | refine Kept.ext ?_ _ | refine Kept.drew ?_ | refine Kept.drewN ?_ _)))) _ 1 1 [.int .i64 0, .int .i64 b, .int .i64 0] rfl rfl (World.news_of_block (alloc_now _ _ _)) (by simp [Value.oneCell']) (by omega) (by unfold maxLen; omega) (by omega) (by have := LM.lt; simp [adv]; omega) _ rfl ?_; intro g cp w2 hown2 hg2 hat hlt2; have hm2 := own_far (owns_kept HO.out (by (repeat (first | exact Kept.refl _ | assumption | refine Kept.alloc ?_ _ | refine Kept.ext ?_ _ | refine Kept.drew ?_ | refine Kept.drewN ?_ _)))) hg2 (fr_kept HM.out (by (repeat (first | exact Kept.refl _ | assumption | refine Kept.alloc ?_ _ | refine Kept.ext ?_ _ | refine Kept.drew ?_ | refine Kept.drewN ?_ _)))) (by omega); obtain ⟨n0, n1, y0, y1⟩ := cells2 hm2; clear hm2)
      go_roundw
      case rel => exact ⟨3, by omega, rfl, BlkI.next (HK.out.trans (by (repeat (first | exact Kept.refl _ | assumption | refine Kept.alloc ?_ _ | refine Kept.ext ?_ _ | refine Kept.drew ?_ | refine Kept.drewN ?_ _)))) (fr_kept HR.out (by (repeat (first | exact Kept.refl _ | assumption | refine Kept.alloc ?_ _ | refine Kept.ext ?_ _ | refine Kept.drew ?_ | refine Kept.drewN ?_ _)))) (fr_kept HM.out (by (repeat (first | exact Kept.refl _ | assumption | refine Kept.alloc ?_ _ | refine Kept.ext ?_ _ | refine Kept.drew ?_ | refine Kept.drewN ?_ _)))) (owns_kept HO.out (by (repeat (first | exact Kept.refl _ | assumption | refine Kept.alloc ?_ _ | refine Kept.ext ?_ _ | refine Kept.drew ?_ | refine Kept.drewN ?_ _)))) (by omega) (by omega) hg2 hown2 (by rw [rowC_next]; simp [blockP, List.range_succ])⟩
      case measure => simp [intOf]
    · go_wp2_with (at_builtin; refine wpList_append_lies _ rfl _ _ _ rfl (w.heap.size + 1 + 1) 136 i0 _ 3 24 Tryz.underlying39 HI.out.1 HI.out.2.1 HI.out.2.2.1 HI.out.2.2.2 rfl (by omega) _ 3 (rowC 3 (blockP a b c) 3) rfl (owns_kept HO.out (by (repeat (first | exact Kept.refl _ | assumption | refine Kept.alloc ?_ _ | refine Kept.ext ?_ _ | refine Kept.drew ?_ | refine Kept.drewN ?_ _)))) _ 1 1 [.int .i64 a, .int .i64 b, .int .i64 0] rfl rfl (World.news_of_block (alloc_now _ _ _)) (by simp [Value.oneCell']) (by omega) (by unfold maxLen; omega) (by omega) (by have := LM.lt; simp [adv]; omega) _ rfl ?_; intro g cp w2 hown2 hg2 hat hlt2; have hm2 := own_far (owns_kept HO.out (by (repeat (first | exact Kept.refl _ | assumption | refine Kept.alloc ?_ _ | refine Kept.ext ?_ _ | refine Kept.drew ?_ | refine Kept.drewN ?_ _)))) hg2 (fr_kept HM.out (by (repeat (first | exact Kept.refl _ | assumption | refine Kept.alloc ?_ _ | refine Kept.ext ?_ _ | refine Kept.drew ?_ | refine Kept.drewN ?_ _)))) (by omega); obtain ⟨n0, n1, y0, y1⟩ := cells2 hm2; clear hm2)
      go_roundw
      case rel => exact ⟨4, by omega, rfl, BlkI.next (HK.out.trans (by (repeat (first | exact Kept.refl _ | assumption | refine Kept.alloc ?_ _ | refine Kept.ext ?_ _ | refine Kept.drew ?_ | refine Kept.drewN ?_ _)))) (fr_kept HR.out (by (repeat (first | exact Kept.refl _ | assumption | refine Kept.alloc ?_ _ | refine Kept.ext ?_ _ | refine Kept.drew ?_ | refine Kept.drewN ?_ _)))) (fr_kept HM.out (by (repeat (first | exact Kept.refl _ | assumption | refine Kept.alloc ?_ _ | refine Kept.ext ?_ _ | refine Kept.drew ?_ | refine Kept.drewN ?_ _)))) (owns_kept HO.out (by (repeat (first | exact Kept.refl _ | assumption | refine Kept.alloc ?_ _ | refine Kept.ext ?_ _ | refine Kept.drew ?_ | refine Kept.drewN ?_ _)))) (by omega) (by omega) hg2 hown2 (by rw [rowC_next]; simp [blockP, List.range_succ])⟩
      case measure => simp [intOf]
    · go_wp2_with (at_builtin; refine wpList_append_lies _ rfl _ _ _ rfl (w.heap.size + 1 + 1) 136 i0 _ 3 24 Tryz.underlying39 HI.out.1 HI.out.2.1 HI.out.2.2.1 HI.out.2.2.2 rfl (by omega) _ 4 (rowC 3 (blockP a b c) 4) rfl (owns_kept HO.out (by (repeat (first | exact Kept.refl _ | assumption | refine Kept.alloc ?_ _ | refine Kept.ext ?_ _ | refine Kept.drew ?_ | refine Kept.drewN ?_ _)))) _ 1 1 [.int .i64 0, .int .i64 0, .int .i64 c] rfl rfl (World.news_of_block (alloc_now _ _ _)) (by simp [Value.oneCell']) (by omega) (by unfold maxLen; omega) (by omega) (by have := LM.lt; simp [adv]; omega) _ rfl ?_; intro g cp w2 hown2 hg2 hat hlt2; have hm2 := own_far (owns_kept HO.out (by (repeat (first | exact Kept.refl _ | assumption | refine Kept.alloc ?_ _ | refine Kept.ext ?_ _ | refine Kept.drew ?_ | refine Kept.drewN ?_ _)))) hg2 (fr_kept HM.out (by (repeat (first | exact Kept.refl _ | assumption | refine Kept.alloc ?_ _ | refine Kept.ext ?_ _ | refine Kept.drew ?_ | refine Kept.drewN ?_ _)))) (by omega); obtain ⟨n0, n1, y0, y1⟩ := cells2 hm2; clear hm2)
      go_roundw
      case rel => exact ⟨5, by omega, rfl, BlkI.next (HK.out.trans (by (repeat (first | exact Kept.refl _ | assumption | refine Kept.alloc ?_ _ | refine Kept.ext ?_ _ | refine Kept.drew ?_ | refine Kept.drewN ?_ _)))) (fr_kept HR.out (by (repeat (first | exact Kept.refl _ | assumption | refine Kept.alloc ?_ _ | refine Kept.ext ?_ _ | refine Kept.drew ?_ | refine Kept.drewN ?_ _)))) (fr_kept HM.out (by (repeat (first | exact Kept.refl _ | assumption | refine Kept.alloc ?_ _ | refine Kept.ext ?_ _ | refine Kept.drew ?_ | refine Kept.drewN ?_ _)))) (owns_kept HO.out (by (repeat (first | exact Kept.refl _ | assumption | refine Kept.alloc ?_ _ | refine Kept.ext ?_ _ | refine Kept.drew ?_ | refine Kept.drewN ?_ _)))) (by omega) (by omega) hg2 hown2 (by rw [rowC_next]; simp [blockP, List.range_succ])⟩
      case measure => simp [intOf]
    · go_wp2_with (at_builtin; refine wpList_append_lies _ rfl _ _ _ rfl (w.heap.size + 1 + 1) 136 i0 _ 3 24 Tryz.underlying39 HI.out.1 HI.out.2.1 HI.out.2.2.1 HI.out.2.2.2 rfl (by omega) _ 5 (rowC 3 (blockP a b c) 5) rfl (owns_kept HO.out (by (repeat (first | exact Kept.refl _ | assumption | refine Kept.alloc ?_ _ | refine Kept.ext ?_ _ | refine Kept.drew ?_ | refine Kept.drewN ?_ _)))) _ 1 1 [.int .i64 a, .int .i64 0, .int .i64 c] rfl rfl (World.news_of_block (alloc_now _ _ _)) (by simp [Value.oneCell']) (by omega) (by unfold maxLen; omega) (by omega) (by have := LM.lt; simp [adv]; omega) _ rfl ?_; intro g cp w2 hown2 hg2 hat hlt2; have hm2 := own_far (owns_kept HO.out (by (repeat (first | exact Kept.refl _ | assumption | refine Kept.alloc ?_ _ | refine Kept.ext ?_ _ | refine Kept.drew ?_ | refine Kept.drewN ?_ _)))) hg2 (fr_kept HM.out (by (repeat (first | exact Kept.refl _ | assumption | refine Kept.alloc ?_ _ | refine Kept.ext ?_ _ | refine Kept.drew ?_ | refine Kept.drewN ?_ _)))) (by omega); obtain ⟨n0, n1, y0, y1⟩ := cells2 hm2; clear hm2)
      go_roundw
      case rel => exact ⟨6, by omega, rfl, BlkI.next (HK.out.trans (by (repeat (first | exact Kept.refl _ | assumption | refine Kept.alloc ?_ _ | refine Kept.ext ?_ _ | refine Kept.drew ?_ | refine Kept.drewN ?_ _)))) (fr_kept HR.out (by (repeat (first | exact Kept.refl _ | assumption | refine Kept.alloc ?_ _ | refine Kept.ext ?_ _ | refine Kept.drew ?_ | refine Kept.drewN ?_ _)))) (fr_kept HM.out (by (repeat (first | exact Kept.refl _ | assumption | refine Kept.alloc ?_ _ | refine Kept.ext ?_ _ | refine Kept.drew ?_ | refine Kept.drewN ?_ _)))) (owns_kept HO.out (by (repeat (first | exact Kept.refl _ | assumption | refine Kept.alloc ?_ _ | refine Kept.ext ?_ _ | refine Kept.drew ?_ | refine Kept.drewN ?_ _)))) (by omega) (by omega) hg2 hown2 (by rw [rowC_next]; simp [blockP, List.range_succ])⟩
      case measure => simp [intOf]
    · go_wp2_with (at_builtin; refine wpList_append_lies _ rfl _ _ _ rfl (w.heap.size + 1 + 1) 136 i0 _ 3 24 Tryz.underlying39 HI.out.1 HI.out.2.1 HI.out.2.2.1 HI.out.2.2.2 rfl (by omega) _ 6 (rowC 3 (blockP a b c) 6) rfl (owns_kept HO.out (by (repeat (first | exact Kept.refl _ | assumption | refine Kept.alloc ?_ _ | refine Kept.ext ?_ _ | refine Kept.drew ?_ | refine Kept.drewN ?_ _)))) _ 1 1 [.int .i64 0, .int .i64 b, .int .i64 c] rfl rfl (World.news_of_block (alloc_now _ _ _)) (by simp [Value.oneCell']) (by omega) (by unfold maxLen; omega) (by omega) (by have := LM.lt; simp [adv]; omega) _ rfl ?_; intro g cp w2 hown2 hg2 hat hlt2; have hm2 := own_far (owns_kept HO.out (by (repeat (first | exact Kept.refl _ | assumption | refine Kept.alloc ?_ _ | refine Kept.ext ?_ _ | refine Kept.drew ?_ | refine Kept.drewN ?_ _)))) hg2 (fr_kept HM.out (by (repeat (first | exact Kept.refl _ | assumption | refine Kept.alloc ?_ _ | refine Kept.ext ?_ _ | refine Kept.drew ?_ | refine Kept.drewN ?_ _)))) (by omega); obtain ⟨n0, n1, y0, y1⟩ := cells2 hm2; clear hm2)
      go_roundw
      case rel => exact ⟨7, by omega, rfl, BlkI.next (HK.out.trans (by (repeat (first | exact Kept.refl _ | assumption | refine Kept.alloc ?_ _ | refine Kept.ext ?_ _ | refine Kept.drew ?_ | refine Kept.drewN ?_ _)))) (fr_kept HR.out (by (repeat (first | exact Kept.refl _ | assumption | refine Kept.alloc ?_ _ | refine Kept.ext ?_ _ | refine Kept.drew ?_ | refine Kept.drewN ?_ _)))) (fr_kept HM.out (by (repeat (first | exact Kept.refl _ | assumption | refine Kept.alloc ?_ _ | refine Kept.ext ?_ _ | refine Kept.drew ?_ | refine Kept.drewN ?_ _)))) (owns_kept HO.out (by (repeat (first | exact Kept.refl _ | assumption | refine Kept.alloc ?_ _ | refine Kept.ext ?_ _ | refine Kept.drew ?_ | refine Kept.drewN ?_ _)))) (by omega) (by omega) hg2 hown2 (by rw [rowC_next]; simp [blockP, List.range_succ])⟩
      case measure => simp [intOf]
    · go_wp2_with (at_builtin; refine wpList_append_lies _ rfl _ _ _ rfl (w.heap.size + 1 + 1) 136 i0 _ 3 24 Tryz.underlying39 HI.out.1 HI.out.2.1 HI.out.2.2.1 HI.out.2.2.2 rfl (by omega) _ 7 (rowC 3 (blockP a b c) 7) rfl (owns_kept HO.out (by (repeat (first | exact Kept.refl _ | assumption | refine Kept.alloc ?_ _ | refine Kept.ext ?_ _ | refine Kept.drew ?_ | refine Kept.drewN ?_ _)))) _ 1 1 [.int .i64 a, .int .i64 b, .int .i64 c] rfl rfl (World.news_of_block (alloc_now _ _ _)) (by simp [Value.oneCell']) (by omega) (by unfold maxLen; omega) (by omega) (by have := LM.lt; simp [adv]; omega) _ rfl ?_; intro g cp w2 hown2 hg2 hat hlt2; have hm2 := own_far (owns_kept HO.out (by (repeat (first | exact Kept.refl _ | assumption | refine Kept.alloc ?_ _ | refine Kept.ext ?_ _ | refine Kept.drew ?_ | refine Kept.drewN ?_ _)))) hg2 (fr_kept HM.out (by (repeat (first | exact Kept.refl _ | assumption | refine Kept.alloc ?_ _ | refine Kept.ext ?_ _ | refine Kept.drew ?_ | refine Kept.drewN ?_ _)))) (by omega); obtain ⟨n0, n1, y0, y1⟩ := cells2 hm2; clear hm2)
      go_roundw
      case rel => exact ⟨8, by omega, rfl, BlkI.next (HK.out.trans (by (repeat (first | exact Kept.refl _ | assumption | refine Kept.alloc ?_ _ | refine Kept.ext ?_ _ | refine Kept.drew ?_ | refine Kept.drewN ?_ _)))) (fr_kept HR.out (by (repeat (first | exact Kept.refl _ | assumption | refine Kept.alloc ?_ _ | refine Kept.ext ?_ _ | refine Kept.drew ?_ | refine Kept.drewN ?_ _)))) (fr_kept HM.out (by (repeat (first | exact Kept.refl _ | assumption | refine Kept.alloc ?_ _ | refine Kept.ext ?_ _ | refine Kept.drew ?_ | refine Kept.drewN ?_ _)))) (owns_kept HO.out (by (repeat (first | exact Kept.refl _ | assumption | refine Kept.alloc ?_ _ | refine Kept.ext ?_ _ | refine Kept.drew ?_ | refine Kept.drewN ?_ _)))) (by omega) (by omega) hg2 hown2 (by rw [rowC_next]; simp [blockP, List.range_succ])⟩
      case measure => simp [intOf]
    · have hI8 : ∀ k, k < 8 → ∀ j, j < 3 → I64 (blockP a b c k j) := by
        intro k hk j hj
        rcases (show k = 0 ∨ k = 1 ∨ k = 2 ∨ k = 3 ∨ k = 4 ∨ k = 5 ∨ k = 6 ∨ k = 7 by omega) with rfl | rfl | rfl | rfl | rfl | rfl | rfl | rfl <;> (rcases (show j = 0 ∨ j = 1 ∨ j = 2 by omega) with rfl | rfl | rfl <;> (simp [blockP, I64]; try omega))
      have HI8 := Lib.hid hI8
      clear hI8
      go_wp2_with fail
      refine (sresult_any _ _ _ _ _ _ (blockP a b c) blockF _ (by omega) (rows_of_owns (owns_kept (own_setCell (g := w.heap.size + 1) (o := 1) (u := .slice (some ⟨wr.heap.size, 0, none⟩) 12 12) HO.out (by omega)) (by (repeat (first | exact Kept.refl _ | assumption | refine Kept.alloc ?_ _ | refine Kept.ext ?_ _ | refine Kept.drew ?_ | refine Kept.drewN ?_ _)))) HI8.out) ?_).mono ?_
      · have := facesAt (wr.setCell ⟨w.heap.size + 1, 1, none⟩ (.slice (some ⟨wr.heap.size, 0, none⟩) 12 12))
        rw [World.size_setCell] at this
        exact this
      rintro r w1 ⟨A', cap', B', cap2', rfl, ⟨x9, rfl⟩, hP', hF'⟩
      have hr8 : (wr.setCell ⟨w.heap.size + 1, 1, none⟩ (.slice (some ⟨wr.heap.size, 0, none⟩) 12 12)).heap[w.heap.size]? = some (.cells #[.slice none 0 0, .slice none 0 0] 42 (0, 0)) := by
        rw [heap_setCell_other _ _ _ _ (by simp)]
        exact HR.out
      have hr9 : (ext ((wr.setCell ⟨w.heap.size + 1, 1, none⟩ (.slice (some ⟨wr.heap.size, 0, none⟩) 12 12)).alloc (.cells #[.int .i64 0, .int .i64 2, .int .i64 3, .int .i64 0, .int .i64 3, .int .i64 1, .int .i64 4, .int .i64 5, .int .i64 7, .int .i64 4, .int .i64 7, .int .i64 6, .int .i64 0, .int .i64 1, .int .i64 5, .int .i64 0, .int .i64 5, .int .i64 4, .int .i64 2, .int .i64 6, .int .i64 7, .int .i64 2, .int .i64 7, .int .i64 3, .int .i64 0, .int .i64 4, .int .i64 6, .int .i64 0, .int .i64 6, .int .i64 2, .int .i64 1, .int .i64 3, .int .i64 7, .int .i64 1, .int .i64 7, .int .i64 5] 138)) x9).heap[w.heap.size]? = some (.cells #[.slice none 0 0, .slice none 0 0] 42 (0, 0)) := fr_kept hr8 (by (repeat (first | exact Kept.refl _ | assumption | refine Kept.alloc ?_ _ | refine Kept.ext ?_ _ | refine Kept.drew ?_ | refine Kept.drewN ?_ _)))
      have HR9 := Lib.hid hr9
      have HP9 := Lib.hid hP'
      have HF9 := Lib.hid hF'
      clear hr8 hr9 hP' hF'
      obtain ⟨ee, he⟩ : ∃ ee, validE 8 (blockP a b c) 12 blockF = ee := ⟨_, rfl⟩
      rw [he] at HP9 HF9 ⊢
      have HEE := Lib.hid he
      clear he
      obtain ⟨q1, q2, -, -⟩ := cells2 (setRow_heap _ _ _ #[.slice A' (okN ee 8) cap', .slice B' (okN ee 12) cap2'] _ _ HR9.out)
      go_wp2_with (refine wpList_store_row rfl 42 (.tmp 6) (.tmp 63) rfl w.heap.size _ rfl rfl _ _ HR9.out (by kernel_rfl) rfl (by simp [Value.oneCell']) ?_)
      refine bodyPost_ret (by simp only [results, Tryz.results162]; go_simp; rfl) rfl ?_
      rw [HE.out, HEE.out]
      have nos : ∀ (j : Nat) (z : Int), (#[Value.slice none 0 0, Value.slice none 0 0])[j]? ≠ some (Value.int .i64 z) := fun j z e => by
        rcases (show j = 0 ∨ j = 1 ∨ 2 ≤ j by omega) with rfl | rfl | h
        · simp at e
        · simp at e
        · rw [Array.getElem?_eq_none (by simpa using h)] at e; cases e
      exact ⟨A', cap', B', cap2', rfl, Kept.map_store (((HK.out.setCell (by simp) _).alloc _).ext _) (Nat.le_refl _) (grown_setRow _ _ _), HP9.out.far (grown_setRow _ _ _) HR9.out nos (by omega), HF9.out.far (grown_setRow _ _ _) HR9.out nos (by omega)⟩
end Go.Proofs.YtnbjealpcjfllaaGreatDoor
