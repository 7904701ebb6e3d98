/- Contracts: which moments are valid, and results, of the program and of the reference. No conditions. -/
import Derived.Test.YtbefphfgcbbcpaaDoorPt
import Derived.Test.YtbefphfgcbbcpaaDoorArr
import Derived.LoopN
namespace Go.Proofs.YtbefphfgcbbcpaaDoor
set_option linter.unusedVariables false
set_option linter.unusedSimpArgs false
open Go.RowKit
structure Mo where
  (q t x y z a b c d e f : Int)
def okM (m : Mo) : Bool := frB m.t 0 1048576 && frB m.q (-m.t) m.t && inB m.x m.y m.z 1073741824 && frB m.a (-17179869184) 17179869184 && frB m.b (-17179869184) 17179869184 && frB m.c (-17179869184) 17179869184 && frB m.d (-17179869184) 17179869184 && frB m.e (-17179869184) 17179869184 && frB m.f (-17179869184) 17179869184
theorem okM_bd {m : Mo} (h : okM m = true) : (0 ≤ m.t ∧ m.t ≤ 1048576) ∧ (-m.t ≤ m.q ∧ m.q ≤ m.t) ∧ (-1073741824 ≤ m.x ∧ m.x ≤ 1073741824) ∧ (-1073741824 ≤ m.y ∧ m.y ≤ 1073741824) ∧ (-1073741824 ≤ m.z ∧ m.z ≤ 1073741824) ∧ (-17179869184 ≤ m.a ∧ m.a ≤ 17179869184) ∧ (-17179869184 ≤ m.b ∧ m.b ≤ 17179869184) ∧ (-17179869184 ≤ m.c ∧ m.c ≤ 17179869184) ∧ (-17179869184 ≤ m.d ∧ m.d ≤ 17179869184) ∧ (-17179869184 ≤ m.e ∧ m.e ≤ 17179869184) ∧ (-17179869184 ≤ m.f ∧ m.f ≤ 17179869184) := by
  unfold okM at h
  simp only [Bool.and_eq_true] at h
  obtain ⟨⟨⟨⟨⟨⟨⟨⟨h1, h2⟩, h3⟩, h4⟩, h5⟩, h6⟩, h7⟩, h8⟩, h9⟩ := h
  have := frB_true h1; have := frB_true h2; have := inB_true h3; have := frB_true h4; have := frB_true h5; have := frB_true h6; have := frB_true h7; have := frB_true h8; have := frB_true h9
  omega
theorem okM_mk {m : Mo} (h : (0 ≤ m.t ∧ m.t ≤ 1048576) ∧ (-m.t ≤ m.q ∧ m.q ≤ m.t) ∧ (-1073741824 ≤ m.x ∧ m.x ≤ 1073741824) ∧ (-1073741824 ≤ m.y ∧ m.y ≤ 1073741824) ∧ (-1073741824 ≤ m.z ∧ m.z ≤ 1073741824) ∧ (-17179869184 ≤ m.a ∧ m.a ≤ 17179869184) ∧ (-17179869184 ≤ m.b ∧ m.b ≤ 17179869184) ∧ (-17179869184 ≤ m.c ∧ m.c ≤ 17179869184) ∧ (-17179869184 ≤ m.d ∧ m.d ≤ 17179869184) ∧ (-17179869184 ≤ m.e ∧ m.e ≤ 17179869184) ∧ (-17179869184 ≤ m.f ∧ m.f ≤ 17179869184)) : okM m = true := by
  unfold okM inB frB
  simp only [Bool.and_eq_true, decide_eq_true_eq]
  omega
def vmS (m : Mo) : Int := if okM m then 0 else 1
set_option maxRecDepth 100000 in
set_option maxHeartbeats 4000000 in
theorem mval_any (m0 m1 m2 m3 m4 m5 m6 m7 m8 m9 m10 : Int) (w : World) :
    Calls Tryd.prog 32 #[.agg #[.int .i64 m0, .int .i64 m1, .int .i64 m2, .int .i64 m3, .int .i64 m4, .int .i64 m5, .int .i64 m6, .int .i64 m7, .int .i64 m8, .int .i64 m9, .int .i64 m10]] w fun r w' => r = .returned (.int .i64 (vmS ⟨m0, m1, m2, m3, m4, m5, m6, m7, m8, m9, m10⟩)) ∧ Kept w w' := by
  cases h0 : frB m1 0 1048576
  · have g : vmS ⟨m0, m1, m2, m3, m4, m5, m6, m7, m8, m9, m10⟩ = 1 := by simp [vmS, okM, h0]
    rw [g]
    clear g
    go_enter Tryd.func32, Tryd.ntmps32
    go_wp2_with (first | (go_at_call 69; refine (mfrom_any _ _ _ _).mono ?_; rintro e w1 ⟨rfl, rfl⟩) | (go_at_call 65; refine (mnear_any _ _ _ _ _ (by omega)).mono ?_; rintro e w1 ⟨rfl, x, rfl⟩))
    go_ret
    exact ⟨rfl, by (repeat (first | exact Kept.refl _ | assumption | refine Kept.alloc ?_ _ | refine Kept.ext ?_ _ | refine Kept.drew ?_ | refine Kept.drewN ?_ _))⟩
  have b1 := frB_true h0
  cases h1 : frB m0 (-m1) m1
  · have g : vmS ⟨m0, m1, m2, m3, m4, m5, m6, m7, m8, m9, m10⟩ = 1 := by simp [vmS, okM, h0, h1]
    rw [g]
    clear g
    go_enter Tryd.func32, Tryd.ntmps32
    go_wp2_with (first | (go_at_call 69; refine (mfrom_any _ _ _ _).mono ?_; rintro e w1 ⟨rfl, rfl⟩) | (go_at_call 65; refine (mnear_any _ _ _ _ _ (by omega)).mono ?_; rintro e w1 ⟨rfl, x, rfl⟩))
    go_ret
    exact ⟨rfl, by (repeat (first | exact Kept.refl _ | assumption | refine Kept.alloc ?_ _ | refine Kept.ext ?_ _ | refine Kept.drew ?_ | refine Kept.drewN ?_ _))⟩
  have b2 := frB_true h1
  cases h2 : inB m2 m3 m4 1073741824
  · have g : vmS ⟨m0, m1, m2, m3, m4, m5, m6, m7, m8, m9, m10⟩ = 1 := by simp [vmS, okM, h0, h1, h2]
    rw [g]
    clear g
    go_enter Tryd.func32, Tryd.ntmps32
    go_wp2_with (first | (go_at_call 69; refine (mfrom_any _ _ _ _).mono ?_; rintro e w1 ⟨rfl, rfl⟩) | (go_at_call 65; refine (mnear_any _ _ _ _ _ (by omega)).mono ?_; rintro e w1 ⟨rfl, x, rfl⟩))
    go_ret
    exact ⟨rfl, by (repeat (first | exact Kept.refl _ | assumption | refine Kept.alloc ?_ _ | refine Kept.ext ?_ _ | refine Kept.drew ?_ | refine Kept.drewN ?_ _))⟩
  cases h3 : frB m5 (-17179869184) 17179869184
  · have g : vmS ⟨m0, m1, m2, m3, m4, m5, m6, m7, m8, m9, m10⟩ = 1 := by simp [vmS, okM, h0, h1, h2, h3]
    rw [g]
    clear g
    go_enter Tryd.func32, Tryd.ntmps32
    go_wp2_with (first | (go_at_call 69; refine (mfrom_any _ _ _ _).mono ?_; rintro e w1 ⟨rfl, rfl⟩) | (go_at_call 65; refine (mnear_any _ _ _ _ _ (by omega)).mono ?_; rintro e w1 ⟨rfl, x, rfl⟩))
    refine wp_loop_rounds 1 ?_
    rw [rounds_succ]
    go_wp2_with (first | (go_at_call 69; refine (mfrom_any _ _ _ _).mono ?_; rintro e w1 ⟨rfl, rfl⟩) | (go_at_call 65; refine (mnear_any _ _ _ _ _ (by omega)).mono ?_; rintro e w1 ⟨rfl, x, rfl⟩))
    go_ret
    exact ⟨rfl, by (repeat (first | exact Kept.refl _ | assumption | refine Kept.alloc ?_ _ | refine Kept.ext ?_ _ | refine Kept.drew ?_ | refine Kept.drewN ?_ _))⟩
  have c3 := frB_true h3
  cases h4 : frB m6 (-17179869184) 17179869184
  · have g : vmS ⟨m0, m1, m2, m3, m4, m5, m6, m7, m8, m9, m10⟩ = 1 := by simp [vmS, okM, h0, h1, h2, h3, h4]
    rw [g]
    clear g
    go_enter Tryd.func32, Tryd.ntmps32
    go_wp2_with (first | (go_at_call 69; refine (mfrom_any _ _ _ _).mono ?_; rintro e w1 ⟨rfl, rfl⟩) | (go_at_call 65; refine (mnear_any _ _ _ _ _ (by omega)).mono ?_; rintro e w1 ⟨rfl, x, rfl⟩))
    refine wp_loop_rounds 2 ?_
    rw [rounds_succ]
    go_wp2_with (first | (go_at_call 69; refine (mfrom_any _ _ _ _).mono ?_; rintro e w1 ⟨rfl, rfl⟩) | (go_at_call 65; refine (mnear_any _ _ _ _ _ (by omega)).mono ?_; rintro e w1 ⟨rfl, x, rfl⟩))
    rw [rounds_succ]
    go_wp2_with (first | (go_at_call 69; refine (mfrom_any _ _ _ _).mono ?_; rintro e w1 ⟨rfl, rfl⟩) | (go_at_call 65; refine (mnear_any _ _ _ _ _ (by omega)).mono ?_; rintro e w1 ⟨rfl, x, rfl⟩))
    go_ret
    exact ⟨rfl, by (repeat (first | exact Kept.refl _ | assumption | refine Kept.alloc ?_ _ | refine Kept.ext ?_ _ | refine Kept.drew ?_ | refine Kept.drewN ?_ _))⟩
  have c4 := frB_true h4
  cases h5 : frB m7 (-17179869184) 17179869184
  · have g : vmS ⟨m0, m1, m2, m3, m4, m5, m6, m7, m8, m9, m10⟩ = 1 := by simp [vmS, okM, h0, h1, h2, h3, h4, h5]
    rw [g]
    clear g
    go_enter Tryd.func32, Tryd.ntmps32
    go_wp2_with (first | (go_at_call 69; refine (mfrom_any _ _ _ _).mono ?_; rintro e w1 ⟨rfl, rfl⟩) | (go_at_call 65; refine (mnear_any _ _ _ _ _ (by omega)).mono ?_; rintro e w1 ⟨rfl, x, rfl⟩))
    refine wp_loop_rounds 3 ?_
    rw [rounds_succ]
    go_wp2_with (first | (go_at_call 69; refine (mfrom_any _ _ _ _).mono ?_; rintro e w1 ⟨rfl, rfl⟩) | (go_at_call 65; refine (mnear_any _ _ _ _ _ (by omega)).mono ?_; rintro e w1 ⟨rfl, x, rfl⟩))
    rw [rounds_succ]
    go_wp2_with (first | (go_at_call 69; refine (mfrom_any _ _ _ _).mono ?_; rintro e w1 ⟨rfl, rfl⟩) | (go_at_call 65; refine (mnear_any _ _ _ _ _ (by omega)).mono ?_; rintro e w1 ⟨rfl, x, rfl⟩))
    rw [rounds_succ]
    go_wp2_with (first | (go_at_call 69; refine (mfrom_any _ _ _ _).mono ?_; rintro e w1 ⟨rfl, rfl⟩) | (go_at_call 65; refine (mnear_any _ _ _ _ _ (by omega)).mono ?_; rintro e w1 ⟨rfl, x, rfl⟩))
    go_ret
    exact ⟨rfl, by (repeat (first | exact Kept.refl _ | assumption | refine Kept.alloc ?_ _ | refine Kept.ext ?_ _ | refine Kept.drew ?_ | refine Kept.drewN ?_ _))⟩
  have c5 := frB_true h5
  cases h6 : frB m8 (-17179869184) 17179869184
  · have g : vmS ⟨m0, m1, m2, m3, m4, m5, m6, m7, m8, m9, m10⟩ = 1 := by simp [vmS, okM, h0, h1, h2, h3, h4, h5, h6]
    rw [g]
    clear g
    go_enter Tryd.func32, Tryd.ntmps32
    go_wp2_with (first | (go_at_call 69; refine (mfrom_any _ _ _ _).mono ?_; rintro e w1 ⟨rfl, rfl⟩) | (go_at_call 65; refine (mnear_any _ _ _ _ _ (by omega)).mono ?_; rintro e w1 ⟨rfl, x, rfl⟩))
    refine wp_loop_rounds 4 ?_
    rw [rounds_succ]
    go_wp2_with (first | (go_at_call 69; refine (mfrom_any _ _ _ _).mono ?_; rintro e w1 ⟨rfl, rfl⟩) | (go_at_call 65; refine (mnear_any _ _ _ _ _ (by omega)).mono ?_; rintro e w1 ⟨rfl, x, rfl⟩))
    rw [rounds_succ]
    go_wp2_with (first | (go_at_call 69; refine (mfrom_any _ _ _ _).mono ?_; rintro e w1 ⟨rfl, rfl⟩) | (go_at_call 65; refine (mnear_any _ _ _ _ _ (by omega)).mono ?_; rintro e w1 ⟨rfl, x, rfl⟩))
    rw [rounds_succ]
    go_wp2_with (first | (go_at_call 69; refine (mfrom_any _ _ _ _).mono ?_; rintro e w1 ⟨rfl, rfl⟩) | (go_at_call 65; refine (mnear_any _ _ _ _ _ (by omega)).mono ?_; rintro e w1 ⟨rfl, x, rfl⟩))
    rw [rounds_succ]
    go_wp2_with (first | (go_at_call 69; refine (mfrom_any _ _ _ _).mono ?_; rintro e w1 ⟨rfl, rfl⟩) | (go_at_call 65; refine (mnear_any _ _ _ _ _ (by omega)).mono ?_; rintro e w1 ⟨rfl, x, rfl⟩))
    go_ret
    exact ⟨rfl, by (repeat (first | exact Kept.refl _ | assumption | refine Kept.alloc ?_ _ | refine Kept.ext ?_ _ | refine Kept.drew ?_ | refine Kept.drewN ?_ _))⟩
  have c6 := frB_true h6
  cases h7 : frB m9 (-17179869184) 17179869184
  · have g : vmS ⟨m0, m1, m2, m3, m4, m5, m6, m7, m8, m9, m10⟩ = 1 := by simp [vmS, okM, h0, h1, h2, h3, h4, h5, h6, h7]
    rw [g]
    clear g
    go_enter Tryd.func32, Tryd.ntmps32
    go_wp2_with (first | (go_at_call 69; refine (mfrom_any _ _ _ _).mono ?_; rintro e w1 ⟨rfl, rfl⟩) | (go_at_call 65; refine (mnear_any _ _ _ _ _ (by omega)).mono ?_; rintro e w1 ⟨rfl, x, rfl⟩))
    refine wp_loop_rounds 5 ?_
    rw [rounds_succ]
    go_wp2_with (first | (go_at_call 69; refine (mfrom_any _ _ _ _).mono ?_; rintro e w1 ⟨rfl, rfl⟩) | (go_at_call 65; refine (mnear_any _ _ _ _ _ (by omega)).mono ?_; rintro e w1 ⟨rfl, x, rfl⟩))
    rw [rounds_succ]
    go_wp2_with (first | (go_at_call 69; refine (mfrom_any _ _ _ _).mono ?_; rintro e w1 ⟨rfl, rfl⟩) | (go_at_call 65; refine (mnear_any _ _ _ _ _ (by omega)).mono ?_; rintro e w1 ⟨rfl, x, rfl⟩))
    rw [rounds_succ]
    go_wp2_with (first | (go_at_call 69; refine (mfrom_any _ _ _ _).mono ?_; rintro e w1 ⟨rfl, rfl⟩) | (go_at_call 65; refine (mnear_any _ _ _ _ _ (by omega)).mono ?_; rintro e w1 ⟨rfl, x, rfl⟩))
    rw [rounds_succ]
    go_wp2_with (first | (go_at_call 69; refine (mfrom_any _ _ _ _).mono ?_; rintro e w1 ⟨rfl, rfl⟩) | (go_at_call 65; refine (mnear_any _ _ _ _ _ (by omega)).mono ?_; rintro e w1 ⟨rfl, x, rfl⟩))
    rw [rounds_succ]
    go_wp2_with (first | (go_at_call 69; refine (mfrom_any _ _ _ _).mono ?_; rintro e w1 ⟨rfl, rfl⟩) | (go_at_call 65; refine (mnear_any _ _ _ _ _ (by omega)).mono ?_; rintro e w1 ⟨rfl, x, rfl⟩))
    go_ret
    exact ⟨rfl, by (repeat (first | exact Kept.refl _ | assumption | refine Kept.alloc ?_ _ | refine Kept.ext ?_ _ | refine Kept.drew ?_ | refine Kept.drewN ?_ _))⟩
  have c7 := frB_true h7
  cases h8 : frB m10 (-17179869184) 17179869184
  · have g : vmS ⟨m0, m1, m2, m3, m4, m5, m6, m7, m8, m9, m10⟩ = 1 := by simp [vmS, okM, h0, h1, h2, h3, h4, h5, h6, h7, h8]
    rw [g]
    clear g
    go_enter Tryd.func32, Tryd.ntmps32
    go_wp2_with (first | (go_at_call 69; refine (mfrom_any _ _ _ _).mono ?_; rintro e w1 ⟨rfl, rfl⟩) | (go_at_call 65; refine (mnear_any _ _ _ _ _ (by omega)).mono ?_; rintro e w1 ⟨rfl, x, rfl⟩))
    refine wp_loop_rounds 6 ?_
    rw [rounds_succ]
    go_wp2_with (first | (go_at_call 69; refine (mfrom_any _ _ _ _).mono ?_; rintro e w1 ⟨rfl, rfl⟩) | (go_at_call 65; refine (mnear_any _ _ _ _ _ (by omega)).mono ?_; rintro e w1 ⟨rfl, x, rfl⟩))
    rw [rounds_succ]
    go_wp2_with (first | (go_at_call 69; refine (mfrom_any _ _ _ _).mono ?_; rintro e w1 ⟨rfl, rfl⟩) | (go_at_call 65; refine (mnear_any _ _ _ _ _ (by omega)).mono ?_; rintro e w1 ⟨rfl, x, rfl⟩))
    rw [rounds_succ]
    go_wp2_with (first | (go_at_call 69; refine (mfrom_any _ _ _ _).mono ?_; rintro e w1 ⟨rfl, rfl⟩) | (go_at_call 65; refine (mnear_any _ _ _ _ _ (by omega)).mono ?_; rintro e w1 ⟨rfl, x, rfl⟩))
    rw [rounds_succ]
    go_wp2_with (first | (go_at_call 69; refine (mfrom_any _ _ _ _).mono ?_; rintro e w1 ⟨rfl, rfl⟩) | (go_at_call 65; refine (mnear_any _ _ _ _ _ (by omega)).mono ?_; rintro e w1 ⟨rfl, x, rfl⟩))
    rw [rounds_succ]
    go_wp2_with (first | (go_at_call 69; refine (mfrom_any _ _ _ _).mono ?_; rintro e w1 ⟨rfl, rfl⟩) | (go_at_call 65; refine (mnear_any _ _ _ _ _ (by omega)).mono ?_; rintro e w1 ⟨rfl, x, rfl⟩))
    rw [rounds_succ]
    go_wp2_with (first | (go_at_call 69; refine (mfrom_any _ _ _ _).mono ?_; rintro e w1 ⟨rfl, rfl⟩) | (go_at_call 65; refine (mnear_any _ _ _ _ _ (by omega)).mono ?_; rintro e w1 ⟨rfl, x, rfl⟩))
    go_ret
    exact ⟨rfl, by (repeat (first | exact Kept.refl _ | assumption | refine Kept.alloc ?_ _ | refine Kept.ext ?_ _ | refine Kept.drew ?_ | refine Kept.drewN ?_ _))⟩
  have c8 := frB_true h8
  have g : vmS ⟨m0, m1, m2, m3, m4, m5, m6, m7, m8, m9, m10⟩ = 0 := by simp [vmS, okM, h0, h1, h2, h3, h4, h5, h6, h7, h8]
  rw [g]
  clear g
  go_enter Tryd.func32, Tryd.ntmps32
  go_wp2_with (first | (go_at_call 69; refine (mfrom_any _ _ _ _).mono ?_; rintro e w1 ⟨rfl, rfl⟩) | (go_at_call 65; refine (mnear_any _ _ _ _ _ (by omega)).mono ?_; rintro e w1 ⟨rfl, x, rfl⟩))
  refine wp_loop_rounds 7 ?_
  rw [rounds_succ]
  go_wp2_with (first | (go_at_call 69; refine (mfrom_any _ _ _ _).mono ?_; rintro e w1 ⟨rfl, rfl⟩) | (go_at_call 65; refine (mnear_any _ _ _ _ _ (by omega)).mono ?_; rintro e w1 ⟨rfl, x, rfl⟩))
  rw [rounds_succ]
  go_wp2_with (first | (go_at_call 69; refine (mfrom_any _ _ _ _).mono ?_; rintro e w1 ⟨rfl, rfl⟩) | (go_at_call 65; refine (mnear_any _ _ _ _ _ (by omega)).mono ?_; rintro e w1 ⟨rfl, x, rfl⟩))
  rw [rounds_succ]
  go_wp2_with (first | (go_at_call 69; refine (mfrom_any _ _ _ _).mono ?_; rintro e w1 ⟨rfl, rfl⟩) | (go_at_call 65; refine (mnear_any _ _ _ _ _ (by omega)).mono ?_; rintro e w1 ⟨rfl, x, rfl⟩))
  rw [rounds_succ]
  go_wp2_with (first | (go_at_call 69; refine (mfrom_any _ _ _ _).mono ?_; rintro e w1 ⟨rfl, rfl⟩) | (go_at_call 65; refine (mnear_any _ _ _ _ _ (by omega)).mono ?_; rintro e w1 ⟨rfl, x, rfl⟩))
  rw [rounds_succ]
  go_wp2_with (first | (go_at_call 69; refine (mfrom_any _ _ _ _).mono ?_; rintro e w1 ⟨rfl, rfl⟩) | (go_at_call 65; refine (mnear_any _ _ _ _ _ (by omega)).mono ?_; rintro e w1 ⟨rfl, x, rfl⟩))
  rw [rounds_succ]
  go_wp2_with (first | (go_at_call 69; refine (mfrom_any _ _ _ _).mono ?_; rintro e w1 ⟨rfl, rfl⟩) | (go_at_call 65; refine (mnear_any _ _ _ _ _ (by omega)).mono ?_; rintro e w1 ⟨rfl, x, rfl⟩))
  rw [rounds_succ]
  go_wp2_with (first | (go_at_call 69; refine (mfrom_any _ _ _ _).mono ?_; rintro e w1 ⟨rfl, rfl⟩) | (go_at_call 65; refine (mnear_any _ _ _ _ _ (by omega)).mono ?_; rintro e w1 ⟨rfl, x, rfl⟩))
  go_ret
  exact ⟨rfl, by (repeat (first | exact Kept.refl _ | assumption | refine Kept.alloc ?_ _ | refine Kept.ext ?_ _ | refine Kept.drew ?_ | refine Kept.drewN ?_ _))⟩
end Go.Proofs.YtbefphfgcbbcpaaDoor
