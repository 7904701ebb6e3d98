/- Contracts: octahedra, of the program and of the reference. No conditions. -/
import Derived.Test.YtbhcjdgfcinpcaaGbr
namespace Go.Proofs.Ytbhcjdgfcinpcaa
set_option linter.unusedVariables false
set_option linter.unusedSimpArgs false
open Go.RowKit
def octaL : List (List Int) := [[0, 2, 4], [2, 1, 4], [1, 3, 4], [3, 0, 4], [2, 0, 5], [1, 2, 5], [3, 1, 5], [0, 3, 5]]
def octaF (i j : Nat) : Int := (octaL.getD i []).getD j 0
def octaPL (r : Int) : List (List Int) := [[r, 0, 0], [(-r), 0, 0], [0, r, 0], [0, (-r), 0], [0, 0, r], [0, 0, (-r)]]
def octaP (r : Int) (i j : Nat) : Int := ((octaPL r).getD i []).getD j 0
def octaE (r : Int) : Int := if frB r 1 64 = true then validE 6 (octaP r) 8 octaF else 1
theorem octaFs (V : World) : RowsAt (V.alloc (.cells #[.int .i64 0, .int .i64 2, .int .i64 4, .int .i64 2, .int .i64 1, .int .i64 4, .int .i64 1, .int .i64 3, .int .i64 4, .int .i64 3, .int .i64 0, .int .i64 4, .int .i64 2, .int .i64 0, .int .i64 5, .int .i64 1, .int .i64 2, .int .i64 5, .int .i64 3, .int .i64 1, .int .i64 5, .int .i64 0, .int .i64 3, .int .i64 5] 55)) (some ⟨V.heap.size, 0, none⟩) 8 3 octaF := by
  refine rows_of_owns (base := 0) (e := 55) (cap := 8) (World.ownsRow_lit V #[.int .i64 0, .int .i64 2, .int .i64 4, .int .i64 2, .int .i64 1, .int .i64 4, .int .i64 1, .int .i64 3, .int .i64 4, .int .i64 3, .int .i64 0, .int .i64 4, .int .i64 2, .int .i64 0, .int .i64 5, .int .i64 1, .int .i64 2, .int .i64 5, .int .i64 3, .int .i64 1, .int .i64 5, .int .i64 0, .int .i64 3, .int .i64 5] 8 (Nat.zero_le _) (by unfold maxLen; omega) rfl) ?_
  intro k hk j hj
  rcases (show k = 0 ∨ k = 1 ∨ k = 2 ∨ k = 3 ∨ k = 4 ∨ k = 5 ∨ k = 6 ∨ k = 7 by omega) with rfl | rfl | rfl | rfl | rfl | rfl | rfl | rfl <;> (rcases (show j = 0 ∨ j = 1 ∨ j = 2 by omega) with rfl | rfl | rfl <;> (unfold I64; decide))
theorem octaPs (V : World) (r : Int) (hr : 1 ≤ r ∧ r ≤ 64) : RowsAt (V.alloc (.cells #[.int .i64 r, .int .i64 0, .int .i64 0, .int .i64 (-r), .int .i64 0, .int .i64 0, .int .i64 0, .int .i64 r, .int .i64 0, .int .i64 0, .int .i64 (-r), .int .i64 0, .int .i64 0, .int .i64 0, .int .i64 r, .int .i64 0, .int .i64 0, .int .i64 (-r)] 27)) (some ⟨V.heap.size, 0, none⟩) 6 3 (octaP r) := by
  refine rows_of_owns (base := 0) (e := 27) (cap := 6) (World.ownsRow_lit V #[.int .i64 r, .int .i64 0, .int .i64 0, .int .i64 (-r), .int .i64 0, .int .i64 0, .int .i64 0, .int .i64 r, .int .i64 0, .int .i64 0, .int .i64 (-r), .int .i64 0, .int .i64 0, .int .i64 0, .int .i64 r, .int .i64 0, .int .i64 0, .int .i64 (-r)] 6 (Nat.zero_le _) (by unfold maxLen; omega) rfl) ?_
  intro k hk j hj
  rcases (show k = 0 ∨ k = 1 ∨ k = 2 ∨ k = 3 ∨ k = 4 ∨ k = 5 by omega) with rfl | rfl | rfl | rfl | rfl | rfl <;> (rcases (show j = 0 ∨ j = 1 ∨ j = 2 by omega) with rfl | rfl | rfl <;> (simp [octaP, octaPL, I64]; try omega))
theorem nosB : ∀ (j : Nat) (z : Int), (#[Value.slice none 0 0, Value.slice none 0 0])[j]? ≠ some (Value.int .i64 z) := fun j z e => by
  rcases (show j = 0 ∨ j = 1 ∨ 2 ≤ j by omega) with rfl | rfl | h
  · simp at e
  · simp at e
  · rw [Array.getElem?_eq_none (by simpa using h)] at e; cases e
set_option maxRecDepth 100000 in
set_option maxHeartbeats 16000000 in
theorem socta_any (r : Int) (w : World) :
    Calls Try.prog 5 #[.int .i64 r] w fun q w' => MeshR w w' q (octaE r) 6 (octaP r) 8 octaF := by
  unfold MeshR
  cases h0 : frB r 1 64
  · have e : octaE r = 1 := if_neg (by rw [h0]; simp)
    rw [e]
    clear e
    go_enter Try.func5, Try.ntmps5
    go_wp2_with (first | (go_at_call 22; refine (ssize_any _ _).mono ?_; rintro e w1 ⟨rfl, rfl⟩))
    refine bodyPost_ret (by simp only [results, Try.results5]; go_simp; rfl) rfl ?_
    exact ⟨none, 0, none, 0, rfl, by (repeat (first | exact Kept.refl _ | assumption | refine Kept.alloc ?_ _ | refine Kept.ext ?_ _ | refine Kept.drew ?_ | refine Kept.drewN ?_ _)), RowsAt.nil0, RowsAt.nil0⟩
  have HE := Lib.hid (show octaE r = validE 6 (octaP r) 8 octaF from if_pos h0)
  have br := frB_true h0
  go_enter Try.func5, Try.ntmps5
  go_wp2_with (first | (go_at_call 22; refine (ssize_any _ _).mono ?_; rintro e w1 ⟨rfl, rfl⟩))
  refine (sresult_any _ _ _ _ _ _ (octaP r) octaF _ (by omega) ?_ ?_).mono ?_
  · have := octaPs (w.alloc (.cells #[.slice none 0 0, .slice none 0 0] 25)) r br
    rw [World.size_alloc] at this
    exact this.of (by (repeat (first | exact Kept.refl _ | assumption | refine Kept.alloc ?_ _ | refine Kept.ext ?_ _ | refine Kept.drew ?_ | refine Kept.drewN ?_ _)))
  · have := octaFs ((w.alloc (.cells #[.slice none 0 0, .slice none 0 0] 25)).alloc (.cells #[.int .i64 r, .int .i64 0, .int .i64 0, .int .i64 (-r), .int .i64 0, .int .i64 0, .int .i64 0, .int .i64 r, .int .i64 0, .int .i64 0, .int .i64 (-r), .int .i64 0, .int .i64 0, .int .i64 0, .int .i64 r, .int .i64 0, .int .i64 0, .int .i64 (-r)] 27))
    simp only [World.size_alloc] at this
    exact this
  rintro q w1 ⟨A', cap', B', cap2', rfl, ⟨x9, rfl⟩, hP', hF'⟩
  have hr9 : (ext (((w.alloc (.cells #[.slice none 0 0, .slice none 0 0] 25)).alloc (.cells #[.int .i64 r, .int .i64 0, .int .i64 0, .int .i64 (-r), .int .i64 0, .int .i64 0, .int .i64 0, .int .i64 r, .int .i64 0, .int .i64 0, .int .i64 (-r), .int .i64 0, .int .i64 0, .int .i64 0, .int .i64 r, .int .i64 0, .int .i64 0, .int .i64 (-r)] 27)).alloc (.cells #[.int .i64 0, .int .i64 2, .int .i64 4, .int .i64 2, .int .i64 1, .int .i64 4, .int .i64 1, .int .i64 3, .int .i64 4, .int .i64 3, .int .i64 0, .int .i64 4, .int .i64 2, .int .i64 0, .int .i64 5, .int .i64 1, .int .i64 2, .int .i64 5, .int .i64 3, .int .i64 1, .int .i64 5, .int .i64 0, .int .i64 3, .int .i64 5] 55)) x9).heap[w.heap.size]? = some (.cells #[.slice none 0 0, .slice none 0 0] 25 (0, 0)) := fr_kept (heap_alloc_new w _) (by (repeat (first | exact Kept.refl _ | assumption | refine Kept.alloc ?_ _ | refine Kept.ext ?_ _ | refine Kept.drew ?_ | refine Kept.drewN ?_ _)))
  have HR9 := Lib.hid hr9
  have HP9 := Lib.hid hP'
  have HF9 := Lib.hid hF'
  clear hr9 hP' hF'
  obtain ⟨ee, he⟩ : ∃ ee, validE 6 (octaP r) 8 octaF = ee := ⟨_, rfl⟩
  rw [he] at HP9 HF9 ⊢
  have HEE := Lib.hid he
  clear he
  obtain ⟨q1, q2, -, -⟩ := cells2 (setRow_heap _ _ _ #[.slice A' (okN ee 6) cap', .slice B' (okN ee 8) cap2'] _ _ HR9.out)
  go_wp2_with (refine wpList_store_row rfl 25 (.tmp 2) (.tmp 35) rfl w.heap.size _ rfl rfl _ _ HR9.out (by kernel_rfl) rfl (by simp [Value.oneCell']) ?_)
  refine bodyPost_ret (by simp only [results, Try.results5]; go_simp; rfl) rfl ?_
  rw [HE.out, HEE.out]
  exact ⟨A', cap', B', cap2', rfl, Kept.map_store (by (repeat (first | exact Kept.refl _ | assumption | refine Kept.alloc ?_ _ | refine Kept.ext ?_ _ | refine Kept.drew ?_ | refine Kept.drewN ?_ _))) (Nat.le_refl _) (grown_setRow _ _ _), HP9.out.far (grown_setRow _ _ _) HR9.out nosB (by omega), HF9.out.far (grown_setRow _ _ _) HR9.out nosB (by omega)⟩
end Go.Proofs.Ytbhcjdgfcinpcaa
