/- Contracts: moments about another center, of the program and of the reference. No conditions. -/
import Derived.Test.YtbefphfgcbbcpaaDoorMadd
import Derived.Test.YtbefphfgcbbcpaaDoorMem
import Derived.Deep.DeepCutAuto
import Derived.Deep.RegionHeld3
import Derived.Deep.DrawnRows
namespace Go.Proofs.YtbefphfgcbbcpaaDoor
set_option linter.unusedVariables false
set_option linter.unusedSimpArgs false
open Go.RowKit
attribute [local go_sem ↓] Go.wp_at_zero Go.wp_at_succ
theorem coord_any (x y z : Int) (w : World) :
    Calls Tryd.prog 66 #[.agg #[.int .i64 x, .int .i64 y, .int .i64 z]] w fun r w' => r = .returned (.agg #[.int .i64 x, .int .i64 y, .int .i64 z]) ∧ Kept w w' := by
  go_enter Tryd.func66, Tryd.ntmps66
  go_wp2
  refine bodyPost_ret (by simp only [results, Tryd.results66]; go_simp; rfl) rfl ?_
  exact ⟨rfl, by (repeat (first | exact Kept.refl _ | assumption | refine Kept.alloc ?_ _ | refine Kept.ext ?_ _ | refine Kept.drew ?_ | refine Kept.drewN ?_ _))⟩
theorem pairs_any (w : World) :
    Calls Tryd.prog 67 #[] w fun r w' => r = .returned (.agg #[.int .i64 0, .int .i64 0, .int .i64 0, .int .i64 1, .int .i64 0, .int .i64 2, .int .i64 1, .int .i64 1, .int .i64 1, .int .i64 2, .int .i64 2, .int .i64 2]) ∧ Kept w w' := by
  go_enter Tryd.func67, Tryd.ntmps67
  go_wp2
  refine bodyPost_ret (by simp only [results, Tryd.results67]; go_simp; rfl) rfl ?_
  exact ⟨rfl, by (repeat (first | exact Kept.refl _ | assumption | refine Kept.alloc ?_ _ | refine Kept.ext ?_ _ | refine Kept.drew ?_ | refine Kept.drewN ?_ _))⟩
theorem cut2 {W w' : World} {n b1 b2 : Nat} {x0 x1 x2 y0 y1 y2 : Value} [hs : SizeIs W n] (h : Kept W w') (h1 : n ≤ b1 ∧ b1 < w'.heap.size) (h2 : n ≤ b2 ∧ b2 < w'.heap.size)
    (c0 : w'.cell? ⟨b1, 0, none⟩ = some x0) (c1 : w'.cell? ⟨b1, 1, none⟩ = some x1) (c2 : w'.cell? ⟨b1, 2, none⟩ = some x2) (d0 : w'.cell? ⟨b2, 0, none⟩ = some y0) (d1 : w'.cell? ⟨b2, 1, none⟩ = some y1) (d2 : w'.cell? ⟨b2, 2, none⟩ = some y2) :
    ∃ y i j, w' = ext W y ∧ Value.pointer (some ⟨b1, 0, none⟩) = .pointer (some ⟨adv n i, 0, none⟩) ∧ Value.pointer (some ⟨b2, 0, none⟩) = .pointer (some ⟨adv n j, 0, none⟩) ∧ i < y.obs.size ∧ j < y.obs.size ∧
      y.cell i 0 = some x0 ∧ y.cell i 1 = some x1 ∧ y.cell i 2 = some x2 ∧ y.cell j 0 = some y0 ∧ y.cell j 1 = some y1 ∧ y.cell j 2 = some y2 := by
  obtain ⟨y, i, j, e0, e1, e2, l1, l2, k1, k2⟩ := kept_at2 h h1 h2
  exact ⟨y, i, j, e0, by rw [e1], by rw [e2], l1, l2, by rw [k1, c0], by rw [k1, c1], by rw [k1, c2], by rw [k2, d0], by rw [k2, d1], by rw [k2, d2]⟩
def movM (m : Mo) (u v w : Int) : Mo := ⟨m.q, m.t, m.x - 3 * m.q * u, m.y - 3 * m.q * v, m.z - 3 * m.q * w, m.a + (12 * m.q * u * u - 4 * (m.x * u + u * m.x)), m.b + (12 * m.q * u * v - 4 * (m.x * v + u * m.y)), m.c + (12 * m.q * u * w - 4 * (m.x * w + u * m.z)), m.d + (12 * m.q * v * v - 4 * (m.y * v + v * m.y)), m.e + (12 * m.q * v * w - 4 * (m.y * w + v * m.z)), m.f + (12 * m.q * w * w - 4 * (m.z * w + w * m.z))⟩
def shiftM (m : Mo) (u v w : Int) : MR := if okM m && inB u v w 128 then toldM (movM m u v w) else ⟨moZ, 1⟩
set_option maxRecDepth 100000 in
set_option maxHeartbeats 16000000 in
theorem mshift_any (m0 m1 m2 m3 m4 m5 m6 m7 m8 m9 m10 u0 u1 u2 : Int) (w : World) :
    Calls Tryd.prog 31 #[.agg #[.int .i64 m0, .int .i64 m1, .int .i64 m2, .int .i64 m3, .int .i64 m4, .int .i64 m5, .int .i64 m6, .int .i64 m7, .int .i64 m8, .int .i64 m9, .int .i64 m10], .agg #[.int .i64 u0, .int .i64 u1, .int .i64 u2]] w fun r w' => r = .returned (.tuple #[.agg #[.int .i64 ((shiftM ⟨m0, m1, m2, m3, m4, m5, m6, m7, m8, m9, m10⟩ u0 u1 u2).m).q, .int .i64 ((shiftM ⟨m0, m1, m2, m3, m4, m5, m6, m7, m8, m9, m10⟩ u0 u1 u2).m).t, .int .i64 ((shiftM ⟨m0, m1, m2, m3, m4, m5, m6, m7, m8, m9, m10⟩ u0 u1 u2).m).x, .int .i64 ((shiftM ⟨m0, m1, m2, m3, m4, m5, m6, m7, m8, m9, m10⟩ u0 u1 u2).m).y, .int .i64 ((shiftM ⟨m0, m1, m2, m3, m4, m5, m6, m7, m8, m9, m10⟩ u0 u1 u2).m).z, .int .i64 ((shiftM ⟨m0, m1, m2, m3, m4, m5, m6, m7, m8, m9, m10⟩ u0 u1 u2).m).a, .int .i64 ((shiftM ⟨m0, m1, m2, m3, m4, m5, m6, m7, m8, m9, m10⟩ u0 u1 u2).m).b, .int .i64 ((shiftM ⟨m0, m1, m2, m3, m4, m5, m6, m7, m8, m9, m10⟩ u0 u1 u2).m).c, .int .i64 ((shiftM ⟨m0, m1, m2, m3, m4, m5, m6, m7, m8, m9, m10⟩ u0 u1 u2).m).d, .int .i64 ((shiftM ⟨m0, m1, m2, m3, m4, m5, m6, m7, m8, m9, m10⟩ u0 u1 u2).m).e, .int .i64 ((shiftM ⟨m0, m1, m2, m3, m4, m5, m6, m7, m8, m9, m10⟩ u0 u1 u2).m).f], .int .i64 (shiftM ⟨m0, m1, m2, m3, m4, m5, m6, m7, m8, m9, m10⟩ u0 u1 u2).e]) ∧ Kept w w' := by
  cases h : okM ⟨m0, m1, m2, m3, m4, m5, m6, m7, m8, m9, m10⟩
  · have e1 := bad_of h
    have e2 : shiftM ⟨m0, m1, m2, m3, m4, m5, m6, m7, m8, m9, m10⟩ u0 u1 u2 = ⟨moZ, 1⟩ := by simp [shiftM, h]
    rw [e2]
    clear e2
    go_enter Tryd.func31, Tryd.ntmps31
    go_wp2_with (first | (go_at_call 32; refine (mval_any _ _ _ _ _ _ _ _ _ _ _ _).mono ?_; rintro e w1 ⟨rfl, x, rfl⟩))
    refine bodyPost_ret (by simp only [results, Tryd.results31]; go_simp; rfl) rfl ?_
    exact ⟨rfl, by (repeat (first | exact Kept.refl _ | assumption | refine Kept.alloc ?_ _ | refine Kept.ext ?_ _ | refine Kept.drew ?_ | refine Kept.drewN ?_ _))⟩
  cases k : inB u0 u1 u2 128
  · have e1 := ok_of h
    have e2 : shiftM ⟨m0, m1, m2, m3, m4, m5, m6, m7, m8, m9, m10⟩ u0 u1 u2 = ⟨moZ, 1⟩ := by simp [shiftM, k]
    rw [e2]
    clear e2
    go_enter Tryd.func31, Tryd.ntmps31
    go_wp2_with (first | (go_at_call 32; refine (mval_any _ _ _ _ _ _ _ _ _ _ _ _).mono ?_; rintro e w1 ⟨rfl, x, rfl⟩) | (go_at_call 65; refine (mnear_any _ _ _ _ _ (by omega)).mono ?_; rintro e w1 ⟨rfl, x, rfl⟩))
    refine bodyPost_ret (by simp only [results, Tryd.results31]; go_simp; rfl) rfl ?_
    exact ⟨rfl, by (repeat (first | exact Kept.refl _ | assumption | refine Kept.alloc ?_ _ | refine Kept.ext ?_ _ | refine Kept.drew ?_ | refine Kept.drewN ?_ _))⟩
  have e1 := ok_of h
  have e2 : shiftM ⟨m0, m1, m2, m3, m4, m5, m6, m7, m8, m9, m10⟩ u0 u1 u2 = toldM (movM ⟨m0, m1, m2, m3, m4, m5, m6, m7, m8, m9, m10⟩ u0 u1 u2) := by simp [shiftM, h, k]
  rw [e2]
  clear e2
  obtain ⟨q1, q2, q3, q4, q5, q6, q7, q8, q9, q10, q11⟩ := okM_bd h
  simp only at q1 q2 q3 q4 q5 q6 q7 q8 q9 q10 q11
  obtain ⟨c1, c2, c3, c4, c5, c6⟩ := inB_true k
  have p0 := mul_bd 402653184 (show -3145728 ≤ 3 * m0 ∧ 3 * m0 ≤ 3145728 by omega) (show -128 ≤ u0 ∧ u0 ≤ 128 by omega) rfl
  have r0 := mul_bd 1610612736 (show -12582912 ≤ 12 * m0 ∧ 12 * m0 ≤ 12582912 by omega) (show -128 ≤ u0 ∧ u0 ≤ 128 by omega) rfl
  have p1 := mul_bd 402653184 (show -3145728 ≤ 3 * m0 ∧ 3 * m0 ≤ 3145728 by omega) (show -128 ≤ u1 ∧ u1 ≤ 128 by omega) rfl
  have r1 := mul_bd 1610612736 (show -12582912 ≤ 12 * m0 ∧ 12 * m0 ≤ 12582912 by omega) (show -128 ≤ u1 ∧ u1 ≤ 128 by omega) rfl
  have p2 := mul_bd 402653184 (show -3145728 ≤ 3 * m0 ∧ 3 * m0 ≤ 3145728 by omega) (show -128 ≤ u2 ∧ u2 ≤ 128 by omega) rfl
  have r2 := mul_bd 1610612736 (show -12582912 ≤ 12 * m0 ∧ 12 * m0 ≤ 12582912 by omega) (show -128 ≤ u2 ∧ u2 ≤ 128 by omega) rfl
  have s00 := mul_bd 206158430208 r0 (show -128 ≤ u0 ∧ u0 ≤ 128 by omega) rfl
  have s01 := mul_bd 206158430208 r0 (show -128 ≤ u1 ∧ u1 ≤ 128 by omega) rfl
  have s02 := mul_bd 206158430208 r0 (show -128 ≤ u2 ∧ u2 ≤ 128 by omega) rfl
  have s11 := mul_bd 206158430208 r1 (show -128 ≤ u1 ∧ u1 ≤ 128 by omega) rfl
  have s12 := mul_bd 206158430208 r1 (show -128 ≤ u2 ∧ u2 ≤ 128 by omega) rfl
  have s22 := mul_bd 206158430208 r2 (show -128 ≤ u2 ∧ u2 ≤ 128 by omega) rfl
  have d00 := mul_bd 137438953472 (show -1073741824 ≤ m2 ∧ m2 ≤ 1073741824 by omega) (show -128 ≤ u0 ∧ u0 ≤ 128 by omega) rfl
  have e00 := mul_bd 137438953472 (show -128 ≤ u0 ∧ u0 ≤ 128 by omega) (show -1073741824 ≤ m2 ∧ m2 ≤ 1073741824 by omega) rfl
  have d01 := mul_bd 137438953472 (show -1073741824 ≤ m2 ∧ m2 ≤ 1073741824 by omega) (show -128 ≤ u1 ∧ u1 ≤ 128 by omega) rfl
  have e10 := mul_bd 137438953472 (show -128 ≤ u1 ∧ u1 ≤ 128 by omega) (show -1073741824 ≤ m2 ∧ m2 ≤ 1073741824 by omega) rfl
  have d02 := mul_bd 137438953472 (show -1073741824 ≤ m2 ∧ m2 ≤ 1073741824 by omega) (show -128 ≤ u2 ∧ u2 ≤ 128 by omega) rfl
  have e20 := mul_bd 137438953472 (show -128 ≤ u2 ∧ u2 ≤ 128 by omega) (show -1073741824 ≤ m2 ∧ m2 ≤ 1073741824 by omega) rfl
  have d10 := mul_bd 137438953472 (show -1073741824 ≤ m3 ∧ m3 ≤ 1073741824 by omega) (show -128 ≤ u0 ∧ u0 ≤ 128 by omega) rfl
  have e01 := mul_bd 137438953472 (show -128 ≤ u0 ∧ u0 ≤ 128 by omega) (show -1073741824 ≤ m3 ∧ m3 ≤ 1073741824 by omega) rfl
  have d11 := mul_bd 137438953472 (show -1073741824 ≤ m3 ∧ m3 ≤ 1073741824 by omega) (show -128 ≤ u1 ∧ u1 ≤ 128 by omega) rfl
  have e11 := mul_bd 137438953472 (show -128 ≤ u1 ∧ u1 ≤ 128 by omega) (show -1073741824 ≤ m3 ∧ m3 ≤ 1073741824 by omega) rfl
  have d12 := mul_bd 137438953472 (show -1073741824 ≤ m3 ∧ m3 ≤ 1073741824 by omega) (show -128 ≤ u2 ∧ u2 ≤ 128 by omega) rfl
  have e21 := mul_bd 137438953472 (show -128 ≤ u2 ∧ u2 ≤ 128 by omega) (show -1073741824 ≤ m3 ∧ m3 ≤ 1073741824 by omega) rfl
  have d20 := mul_bd 137438953472 (show -1073741824 ≤ m4 ∧ m4 ≤ 1073741824 by omega) (show -128 ≤ u0 ∧ u0 ≤ 128 by omega) rfl
  have e02 := mul_bd 137438953472 (show -128 ≤ u0 ∧ u0 ≤ 128 by omega) (show -1073741824 ≤ m4 ∧ m4 ≤ 1073741824 by omega) rfl
  have d21 := mul_bd 137438953472 (show -1073741824 ≤ m4 ∧ m4 ≤ 1073741824 by omega) (show -128 ≤ u1 ∧ u1 ≤ 128 by omega) rfl
  have e12 := mul_bd 137438953472 (show -128 ≤ u1 ∧ u1 ≤ 128 by omega) (show -1073741824 ≤ m4 ∧ m4 ≤ 1073741824 by omega) rfl
  have d22 := mul_bd 137438953472 (show -1073741824 ≤ m4 ∧ m4 ≤ 1073741824 by omega) (show -128 ≤ u2 ∧ u2 ≤ 128 by omega) rfl
  have e22 := mul_bd 137438953472 (show -128 ≤ u2 ∧ u2 ≤ 128 by omega) (show -1073741824 ≤ m4 ∧ m4 ≤ 1073741824 by omega) rfl
  go_enter Tryd.func31, Tryd.ntmps31
  go_upto_region 6 with (first | (go_at_call 32; refine (mval_any _ _ _ _ _ _ _ _ _ _ _ _).mono ?_; rintro e w1 ⟨rfl, x, rfl⟩) | (go_at_call 65; refine (mnear_any _ _ _ _ _ (by omega)).mono ?_; rintro e w1 ⟨rfl, x, rfl⟩))
  go_cut [7, 8, 9] (fun s7 s8 s9 wx => s9 = .int .i64 m0 ∧ ∃ y i j, wx = ext (((w.alloc (.cells #[.int .i64 m0, .int .i64 m1, .int .i64 m2, .int .i64 m3, .int .i64 m4, .int .i64 m5, .int .i64 m6, .int .i64 m7, .int .i64 m8, .int .i64 m9, .int .i64 m10] 39)).alloc (.cells #[.int .i64 u0, .int .i64 u1, .int .i64 u2] 36)).alloc (.cells #[.int .i64 0, .int .i64 0, .int .i64 0, .int .i64 0, .int .i64 0, .int .i64 0, .int .i64 0, .int .i64 0, .int .i64 0, .int .i64 0, .int .i64 0] 39)) y ∧ s7 = .pointer (some ⟨adv (w.heap.size + 1 + 1 + 1) i, 0, none⟩) ∧ s8 = .pointer (some ⟨adv (w.heap.size + 1 + 1 + 1) j, 0, none⟩) ∧ i < y.obs.size ∧ j < y.obs.size ∧
      y.cell i 0 = some (.int .i64 m2) ∧ y.cell i 1 = some (.int .i64 m3) ∧ y.cell i 2 = some (.int .i64 m4) ∧ y.cell j 0 = some (.int .i64 u0) ∧ y.cell j 1 = some (.int .i64 u1) ∧ y.cell j 2 = some (.int .i64 u2))
  case first =>
    clear p0 p1 p2 r0 r1 r2 s00 s01 s02 s11 s12 s22 d00 d01 d02 d10 d11 d12 d20 d21 d22 e00 e10 e20 e01 e11 e21 e02 e12 e22
    go_region_held3 (fun w' => w'.cell? ⟨w.heap.size, 0, none⟩ = some (.int .i64 m0) ∧ w'.cell? ⟨w.heap.size, 2, none⟩ = some (.int .i64 m2) ∧ w'.cell? ⟨w.heap.size, 3, none⟩ = some (.int .i64 m3) ∧ w'.cell? ⟨w.heap.size, 4, none⟩ = some (.int .i64 m4) ∧ w'.cell? ⟨w.heap.size + 1, 0, none⟩ = some (.int .i64 u0) ∧ w'.cell? ⟨w.heap.size + 1, 1, none⟩ = some (.int .i64 u1) ∧ w'.cell? ⟨w.heap.size + 1, 2, none⟩ = some (.int .i64 u2)) ((refine ⟨?_, ?_, ?_, ?_, ?_, ?_, ?_⟩ <;> go_simp)) ((first | (go_at_call 66; refine (coord_any _ _ _ _).mono ?_; rintro e w1 ⟨rfl, x, rfl⟩)))
    all_goals (go_wp2_with fail; go_meet)
    all_goals
      refine ⟨rfl, cut2 (show Kept _ _ by (repeat (first | exact Kept.refl _ | assumption | refine Kept.alloc ?_ _ | refine Kept.ext ?_ _ | refine Kept.drew ?_ | refine Kept.drewN ?_ _))) ⟨?_, ?_⟩ ⟨?_, ?_⟩ ?_ ?_ ?_ ?_ ?_ ?_⟩
      all_goals first | (go_simp; done) | (simp [adv]; done) | (simp [adv]; omega)
  case rest =>
  obtain ⟨rfl, y, i, j, rfl, rfl, rfl, li, lj, f0, f1, f2, g0, g1, g2⟩ := hcut
  have Li : Lower i y.obs.size := ⟨li⟩
  have Lj : Lower j y.obs.size := ⟨lj⟩
  clear li lj
  go_wp2_with (first | (go_at_call 67; refine (pairs_any _).mono ?_; rintro e w1 ⟨rfl, x, rfl⟩))
  refine wp_loop_rounds 7 ?_
  rw [rounds_succ]
  go_wp2_with fail
  ((first | (with_reducible refine wp_region_kept2 (by kernel_rfl) (by kernel_rfl) ?_) | refine wp_region_kept (by kernel_rfl) (by kernel_rfl) ?_); (repeat (go_big_quiet_step (first | fail))); refine wpQuiet_nil ?_; intro x)
  go_wp2_with fail
  ((first | (with_reducible refine wp_region_tail2 34 (by kernel_rfl) (by kernel_rfl) ?_) | refine wp_region_tail 34 (by kernel_rfl) (by kernel_rfl) ?_); simp only [List.take_succ_cons, List.take_zero, List.drop_succ_cons, List.drop_zero]; (repeat (go_big_quiet_step (first | fail))); refine wpQuiet_nil ?_; intro x)
  go_wp2_with fail
  rw [rounds_succ]
  go_wp2_with fail
  ((first | (with_reducible refine wp_region_kept2 (by kernel_rfl) (by kernel_rfl) ?_) | refine wp_region_kept (by kernel_rfl) (by kernel_rfl) ?_); (repeat (go_big_quiet_step (first | fail))); refine wpQuiet_nil ?_; intro x)
  go_wp2_with fail
  ((first | (with_reducible refine wp_region_tail2 34 (by kernel_rfl) (by kernel_rfl) ?_) | refine wp_region_tail 34 (by kernel_rfl) (by kernel_rfl) ?_); simp only [List.take_succ_cons, List.take_zero, List.drop_succ_cons, List.drop_zero]; (repeat (go_big_quiet_step (first | fail))); refine wpQuiet_nil ?_; intro x)
  go_wp2_with fail
  rw [rounds_succ]
  go_wp2_with fail
  ((first | (with_reducible refine wp_region_kept2 (by kernel_rfl) (by kernel_rfl) ?_) | refine wp_region_kept (by kernel_rfl) (by kernel_rfl) ?_); (repeat (go_big_quiet_step (first | fail))); refine wpQuiet_nil ?_; intro x)
  go_wp2_with fail
  ((first | (with_reducible refine wp_region_tail2 34 (by kernel_rfl) (by kernel_rfl) ?_) | refine wp_region_tail 34 (by kernel_rfl) (by kernel_rfl) ?_); simp only [List.take_succ_cons, List.take_zero, List.drop_succ_cons, List.drop_zero]; (repeat (go_big_quiet_step (first | fail))); refine wpQuiet_nil ?_; intro x)
  go_wp2_with fail
  rw [rounds_succ]
  go_wp2_with fail
  ((first | (with_reducible refine wp_region_kept2 (by kernel_rfl) (by kernel_rfl) ?_) | refine wp_region_kept (by kernel_rfl) (by kernel_rfl) ?_); (repeat (go_big_quiet_step (first | fail))); refine wpQuiet_nil ?_; intro x)
  go_wp2_with fail
  ((first | (with_reducible refine wp_region_tail2 34 (by kernel_rfl) (by kernel_rfl) ?_) | refine wp_region_tail 34 (by kernel_rfl) (by kernel_rfl) ?_); simp only [List.take_succ_cons, List.take_zero, List.drop_succ_cons, List.drop_zero]; (repeat (go_big_quiet_step (first | fail))); refine wpQuiet_nil ?_; intro x)
  go_wp2_with fail
  rw [rounds_succ]
  go_wp2_with fail
  ((first | (with_reducible refine wp_region_kept2 (by kernel_rfl) (by kernel_rfl) ?_) | refine wp_region_kept (by kernel_rfl) (by kernel_rfl) ?_); (repeat (go_big_quiet_step (first | fail))); refine wpQuiet_nil ?_; intro x)
  go_wp2_with fail
  ((first | (with_reducible refine wp_region_tail2 34 (by kernel_rfl) (by kernel_rfl) ?_) | refine wp_region_tail 34 (by kernel_rfl) (by kernel_rfl) ?_); simp only [List.take_succ_cons, List.take_zero, List.drop_succ_cons, List.drop_zero]; (repeat (go_big_quiet_step (first | fail))); refine wpQuiet_nil ?_; intro x)
  go_wp2_with fail
  rw [rounds_succ]
  go_wp2_with fail
  ((first | (with_reducible refine wp_region_kept2 (by kernel_rfl) (by kernel_rfl) ?_) | refine wp_region_kept (by kernel_rfl) (by kernel_rfl) ?_); (repeat (go_big_quiet_step (first | fail))); refine wpQuiet_nil ?_; intro x)
  go_wp2_with fail
  ((first | (with_reducible refine wp_region_tail2 34 (by kernel_rfl) (by kernel_rfl) ?_) | refine wp_region_tail 34 (by kernel_rfl) (by kernel_rfl) ?_); simp only [List.take_succ_cons, List.take_zero, List.drop_succ_cons, List.drop_zero]; (repeat (go_big_quiet_step (first | fail))); refine wpQuiet_nil ?_; intro x)
  go_wp2_with fail
  rw [rounds_succ]
  go_wp2_with (first | (go_at_call 68; refine (mres_any _ _ _ _ _ _ _ _ _ _ _ _).mono ?_; rintro e w1 ⟨rfl, x, rfl⟩))
  refine bodyPost_ret (by simp only [results, Tryd.results31]; go_simp; rfl) rfl ?_
  exact ⟨rfl, by (repeat (first | exact Kept.refl _ | assumption | refine Kept.alloc ?_ _ | refine Kept.ext ?_ _ | refine Kept.drew ?_ | refine Kept.drewN ?_ _))⟩
end Go.Proofs.YtbefphfgcbbcpaaDoor
