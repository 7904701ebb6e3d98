/- Contract: the eleven numbers of moments in a list, of the reference. No conditions. -/
import Derived.Test.YtbefphfgcbbcpaaDoorMpa
import Derived.Test.YtbefphfgcbbcpaaDoorRtl
namespace Go.Proofs.YtbefphfgcbbcpaaDoor
set_option linter.unusedVariables false
set_option linter.unusedSimpArgs false
open Go.ChangeShapes Go.WideShapes Go.ChangeAt Go.RowKit Go.Deep
theorem rowC_ints (f : Nat → Nat → Int) : ∀ n, rowC 1 f n = (List.range n).map fun k => Value.int .i64 (f k 0)
  | 0 => rfl
  | n + 1 => by
    rw [List.range_succ, List.map_append, ← rowC_ints f n]
    rfl
def mF (m : Mo) : Nat → Nat → Int := fun k _ => (mL m).getD k 0
theorem rowC_mF (m : Mo) : rowC 1 (mF m) 11 = (mL m).map fun u => Value.int .i64 u := rfl
set_option maxRecDepth 100000 in
set_option maxHeartbeats 8000000 in
theorem r4num_any (m0 m1 m2 m3 m4 m5 m6 m7 m8 m9 m10 : Int) (w : World) (hI : ∀ u ∈ [m5, m6, m7, m8, m9, m10], I64 u) :
    Calls Tryd.prog 37 #[.agg #[.int .i64 m0, .int .i64 m1, .int .i64 m2, .int .i64 m3, .int .i64 m4, .int .i64 m5, .int .i64 m6, .int .i64 m7, .int .i64 m8, .int .i64 m9, .int .i64 m10]] w fun e w' => ∃ v, e = .returned v ∧ Kept w w' ∧ w'.ownsRow w.heap.size 3 1 v 11 (rowC 1 (mF ⟨m0, m1, m2, m3, m4, m5, m6, m7, m8, m9, m10⟩) 11) := by
  obtain ⟨ti, hti, hte⟩ := Option.map_eq_some_iff.1 info_I
  simp only [Prod.mk.injEq] at hte
  have HT := Lib.hid hti
  have HTE := Lib.hid hte
  clear hti hte
  have HII := Lib.hid hI
  clear hI
  obtain ⟨M, hM⟩ : ∃ M : Mo, M = ⟨m0, m1, m2, m3, m4, m5, m6, m7, m8, m9, m10⟩ := ⟨_, rfl⟩
  rw [← hM]
  have HM := Lib.hid hM
  clear hM
  go_enter Tryd.func37, Tryd.ntmps37
  go_wp2_with fail
  have hB : rtB [.q, .q, .q, .q, .q, .q, .q, .q, .q, .q, .q, .q, .q, .s, .q, .q, .s, .q] [⟨none, 13, some 16, 5, rowC 1 (mF M) 5⟩, ⟨none, 16, none, 11, rowC 1 (mF M) 11⟩] = true := by kernel_rfl
  refine wp_region_tellC (C := fun W' => Kept (w.alloc (.cells #[.int .i64 m0, .int .i64 m1, .int .i64 m2, .int .i64 m3, .int .i64 m4, .int .i64 m5, .int .i64 m6, .int .i64 m7, .int .i64 m8, .int .i64 m9, .int .i64 m10] 39)) W') [.q, .q, .q, .q, .q, .q, .q, .q, .q, .q, .q, .q, .q, .s, .q, .q, .s, .q] (RtI (w.alloc (.cells #[.int .i64 m0, .int .i64 m1, .int .i64 m2, .int .i64 m3, .int .i64 m4, .int .i64 m5, .int .i64 m6, .int .i64 m7, .int .i64 m8, .int .i64 m9, .int .i64 m10] 39)) (w.heap.size + 1) [⟨none, 13, some 16, 5, rowC 1 (mF M) 5⟩, ⟨none, 16, none, 11, rowC 1 (mF M) 11⟩]) (by kernel_rfl) (by kernel_rfl) (fun b => by kernel_rfl) ?_ ?_ ?_ ?_
  · intro b'
    refine RtI.start (by (repeat (first | exact Kept.refl _ | assumption | refine Kept.alloc ?_ _ | refine Kept.ext ?_ _ | refine Kept.drew ?_ | refine Kept.drewN ?_ _))) (fun k r hr v hv => ?_) (fun k k2 r s hr _ _ v _ hv _ => ?_)
    · rcases k with _ | _ | k <;> simp at hr <;> subst hr <;> cases hv
    · rcases k with _ | _ | k <;> simp at hr <;> subst hr <;> cases hv
  · intro i L b w' w'' hs hI hk
    exact (hI.on hk).other hB hs
  · exact fun L b w' h => h.kept
  apply Exists.intro
  refine ⟨?_, ?_, ?_, ?_⟩
  · rintro bb W ⟨x, rfl⟩
    simp only [swapL, Nat.reduceAdd]
    repeat (go_big_quiet_step (fail))
    refine wpQuiet_nil ?_
    rfl
  · simp only [EachS, and_true]
    refine ⟨?_, ?_⟩
    · intro L b w' hd hL hI
      have := hI.build hB (k := 0) rfl rfl (by rw [World.size_alloc]; exact Nat.le_refl _) (cs := #[.int .i64 m0, .int .i64 m1, .int .i64 m2, .int .i64 m3, .int .i64 m4]) (by rw [HM.out]; rfl) rfl (by unfold maxLen; simp)
      go_simp
      exact ⟨rfl, this⟩
    · intro L b' w' hd hL hI
      have d0 : L 13 = true := hd { on := 13, ground := .data } (by simp) rfl
      refine RtI.tells_app hB 1 0 rfl rfl rfl rfl hI (by rw [World.size_alloc]) (up_of (.inr d0) (fun j hj => by cases hj; exact hL)) (.tmp 16) (.tmp 18) 79 rfl ti _ Tryd.underlying79 HT.out HTE.out.1 HTE.out.2.1 HTE.out.2.2 rfl rfl (some ⟨w.heap.size, 5, none⟩) 6 6 (fun k j => mF M (5 + k) j) rfl ?_ rfl rfl (by simp)
      refine RowsAt.of ?_ hI.kept
      refine fun _ => ⟨w.heap.size, 5, rfl, by rw [World.size_alloc]; omega, fun k hk j hj => ?_⟩
      obtain rfl : j = 0 := by omega
      have hi : ∀ u ∈ [m5, m6, m7, m8, m9, m10], I64 u := HII.out
      rw [HM.out]
      rcases (show k = 0 ∨ k = 1 ∨ k = 2 ∨ k = 3 ∨ k = 4 ∨ k = 5 by omega) with rfl | rfl | rfl | rfl | rfl | rfl <;> refine ⟨?_, hi _ (by simp [mF, mL])⟩ <;> simp only [Nat.mul_one, Nat.add_zero, Nat.reduceAdd, Nat.reduceMul] <;> rw [block_cell] <;> rfl
  · intro b1 b2 d hd
    simp [callSlots, dullOp] at hd
  · intro L b' w' hL hI
    have hown := hI.own 1 _ rfl (up_of (.inr (hL 16 (by decide))) (fun j hj => by cases hj))
    have hK := hI.kept
    go_wp2
    all_goals
      go_ret
      refine ⟨_, rfl, ?_, own_lo2 hown (by omega)⟩
      exact ((Kept.refl w).alloc _).trans hK
end Go.Proofs.YtbefphfgcbbcpaaDoor
