/- Contracts: points, of the moments and of their reference. No conditions but bounds on numbers. Elements of array values, one by one. No conditions. Contracts: which moments are valid, and results, of the program and of the reference. No conditions. Contracts: which moments are valid, and results, of the reference. No conditions. Plain facts on square roots of whole numbers, and on quotients rounded up. No program in sight. Contracts: what the higher orders are worth, of the program and of the reference. No conditions. -/
import Derived.Test.YtodmdicegkjicaaZa
import Derived.Test.YtodmdicegkjicaaBas
import Derived.LoopN
namespace Go.Proofs.Ytodmdicegkjicaa
set_option linter.unusedVariables false
set_option linter.unusedSimpArgs false
open Go.RowKit
theorem mfrom_any (n lo hi : Int) (w : World) :
    Calls Try.prog 44 #[.int .i64 n, .int .i64 lo, .int .i64 hi] w fun e w' => e = .returned (.bool (frB n lo hi)) ∧ w = w' := by
  go_enter Try.func44, Try.ntmps44
  go_wp2
  all_goals (go_ret; exact ⟨ret_bool (by unfold frB; rw [eq_comm]; first | (rw [decide_eq_decide]; omega) | (rw [decide_eq_false_iff_not]; omega)), rfl⟩)
theorem mnear_any (x y z m : Int) (w : World) (hm : 0 ≤ m ∧ m ≤ 1099511627776) :
    Calls Try.prog 29 #[.agg #[.int .i64 x, .int .i64 y, .int .i64 z], .int .i64 m] w fun e w' => e = .returned (.bool (inB x y z m)) ∧ Kept w w' := by
  obtain ⟨m0, m1⟩ := hm
  unfold inB
  cases h1 : frB x (-m) m
  · go_enter Try.func29, Try.ntmps29
    go_wp2_with (first | (go_at_call 44; refine (mfrom_any _ _ _ _).mono ?_; rintro e w1 ⟨rfl, rfl⟩))
    go_ret
    exact ⟨rfl, by (repeat (first | exact Kept.refl _ | assumption | refine Kept.alloc ?_ _ | refine Kept.ext ?_ _ | refine Kept.drew ?_ | refine Kept.drewN ?_ _))⟩
  cases h2 : frB y (-m) m
  · go_enter Try.func29, Try.ntmps29
    go_wp2_with (first | (go_at_call 44; refine (mfrom_any _ _ _ _).mono ?_; rintro e w1 ⟨rfl, rfl⟩))
    go_ret
    exact ⟨rfl, by (repeat (first | exact Kept.refl _ | assumption | refine Kept.alloc ?_ _ | refine Kept.ext ?_ _ | refine Kept.drew ?_ | refine Kept.drewN ?_ _))⟩
  · go_enter Try.func29, Try.ntmps29
    go_wp2_with (first | (go_at_call 44; refine (mfrom_any _ _ _ _).mono ?_; rintro e w1 ⟨rfl, rfl⟩))
    go_ret
    exact ⟨rfl, by (repeat (first | exact Kept.refl _ | assumption | refine Kept.alloc ?_ _ | refine Kept.ext ?_ _ | refine Kept.drew ?_ | refine Kept.drewN ?_ _))⟩
theorem mminus_any (a0 a1 a2 b0 b1 b2 : Int) (w : World) (h : (-1073741824 ≤ a0 ∧ a0 ≤ 1073741824) ∧ (-1073741824 ≤ a1 ∧ a1 ≤ 1073741824) ∧ (-1073741824 ≤ a2 ∧ a2 ≤ 1073741824) ∧ (-1073741824 ≤ b0 ∧ b0 ≤ 1073741824) ∧ (-1073741824 ≤ b1 ∧ b1 ≤ 1073741824) ∧ (-1073741824 ≤ b2 ∧ b2 ≤ 1073741824)) :
    Calls Try.prog 16 #[.agg #[.int .i64 a0, .int .i64 a1, .int .i64 a2], .agg #[.int .i64 b0, .int .i64 b1, .int .i64 b2]] w fun e w' => e = .returned (.agg #[.int .i64 (a0 - b0), .int .i64 (a1 - b1), .int .i64 (a2 - b2)]) ∧ Kept w w' := by
  go_enter Try.func16, Try.ntmps16
  go_wp2
  refine bodyPost_ret (by simp only [results, Try.results16]; go_simp; rfl) rfl ?_
  exact ⟨rfl, by (repeat (first | exact Kept.refl _ | assumption | refine Kept.alloc ?_ _ | refine Kept.ext ?_ _ | refine Kept.drew ?_ | refine Kept.drewN ?_ _))⟩
theorem mdot_any (a0 a1 a2 b0 b1 b2 : Int) (w : World) (h : (-1048576 ≤ a0 ∧ a0 ≤ 1048576) ∧ (-1048576 ≤ a1 ∧ a1 ≤ 1048576) ∧ (-1048576 ≤ a2 ∧ a2 ≤ 1048576) ∧ (-1048576 ≤ b0 ∧ b0 ≤ 1048576) ∧ (-1048576 ≤ b1 ∧ b1 ≤ 1048576) ∧ (-1048576 ≤ b2 ∧ b2 ≤ 1048576)) :
    Calls Try.prog 17 #[.agg #[.int .i64 a0, .int .i64 a1, .int .i64 a2], .agg #[.int .i64 b0, .int .i64 b1, .int .i64 b2]] w fun e w' => e = .returned (.int .i64 (a0 * b0 + a1 * b1 + a2 * b2)) ∧ Kept w w' := by
  obtain ⟨x0, x1, x2, y0, y1, y2⟩ := h
  have m0 := mul_sq 1048576 1099511627776 x0 y0 rfl
  have m1 := mul_sq 1048576 1099511627776 x1 y1 rfl
  have m2 := mul_sq 1048576 1099511627776 x2 y2 rfl
  go_enter Try.func17, Try.ntmps17
  go_wp2
  go_ret
  exact ⟨rfl, by (repeat (first | exact Kept.refl _ | assumption | refine Kept.alloc ?_ _ | refine Kept.ext ?_ _ | refine Kept.drew ?_ | refine Kept.drewN ?_ _))⟩
theorem fwithin_any (n lo hi : Int) (w : World) :
    Calls Try.prog 20 #[.int .i64 n, .int .i64 lo, .int .i64 hi] w fun e w' => e = .returned (.bool (frB n lo hi)) ∧ w = w' := by
  go_enter Try.func20, Try.ntmps20
  go_wp2
  all_goals (go_ret; exact ⟨ret_bool (by unfold frB; rw [eq_comm]; first | (rw [decide_eq_decide]; omega) | (rw [decide_eq_false_iff_not]; omega)), rfl⟩)
theorem r4plus_any (a0 a1 a2 b0 b1 b2 : Int) (w : World) (h : (-1073741824 ≤ a0 ∧ a0 ≤ 1073741824) ∧ (-1073741824 ≤ a1 ∧ a1 ≤ 1073741824) ∧ (-1073741824 ≤ a2 ∧ a2 ≤ 1073741824) ∧ (-1073741824 ≤ b0 ∧ b0 ≤ 1073741824) ∧ (-1073741824 ≤ b1 ∧ b1 ≤ 1073741824) ∧ (-1073741824 ≤ b2 ∧ b2 ≤ 1073741824)) :
    Calls Try.prog 9 #[.agg #[.int .i64 a0, .int .i64 a1, .int .i64 a2], .agg #[.int .i64 b0, .int .i64 b1, .int .i64 b2]] w fun e w' => e = .returned (.agg #[.int .i64 (a0 + b0), .int .i64 (a1 + b1), .int .i64 (a2 + b2)]) ∧ Kept w w' := by
  go_enter Try.func9, Try.ntmps9
  go_wp2
  refine bodyPost_ret (by simp only [results, Try.results9]; go_simp; rfl) rfl ?_
  exact ⟨rfl, by (repeat (first | exact Kept.refl _ | assumption | refine Kept.alloc ?_ _ | refine Kept.ext ?_ _ | refine Kept.drew ?_ | refine Kept.drewN ?_ _))⟩
end Go.Proofs.Ytodmdicegkjicaa

namespace Go.Proofs.Ytodmdicegkjicaa
set_option linter.unusedVariables false
set_option linter.unusedSimpArgs false
open Go.RowKit
@[go_sem] theorem a6_0 (x0 x1 x2 x3 x4 x5 : Int) (w : World) : (Instr.index 29 (.agg #[.int .i64 x0, .int .i64 x1, .int .i64 x2, .int .i64 x3, .int .i64 x4, .int .i64 x5]) (.int .i64 0)).run Try.prog w = .ok (.int .i64 x0) w := by kernel_rfl
@[go_sem] theorem a6_1 (x0 x1 x2 x3 x4 x5 : Int) (w : World) : (Instr.index 29 (.agg #[.int .i64 x0, .int .i64 x1, .int .i64 x2, .int .i64 x3, .int .i64 x4, .int .i64 x5]) (.int .i64 1)).run Try.prog w = .ok (.int .i64 x1) w := by kernel_rfl
@[go_sem] theorem a6_2 (x0 x1 x2 x3 x4 x5 : Int) (w : World) : (Instr.index 29 (.agg #[.int .i64 x0, .int .i64 x1, .int .i64 x2, .int .i64 x3, .int .i64 x4, .int .i64 x5]) (.int .i64 2)).run Try.prog w = .ok (.int .i64 x2) w := by kernel_rfl
@[go_sem] theorem a6_3 (x0 x1 x2 x3 x4 x5 : Int) (w : World) : (Instr.index 29 (.agg #[.int .i64 x0, .int .i64 x1, .int .i64 x2, .int .i64 x3, .int .i64 x4, .int .i64 x5]) (.int .i64 3)).run Try.prog w = .ok (.int .i64 x3) w := by kernel_rfl
@[go_sem] theorem a6_4 (x0 x1 x2 x3 x4 x5 : Int) (w : World) : (Instr.index 29 (.agg #[.int .i64 x0, .int .i64 x1, .int .i64 x2, .int .i64 x3, .int .i64 x4, .int .i64 x5]) (.int .i64 4)).run Try.prog w = .ok (.int .i64 x4) w := by kernel_rfl
@[go_sem] theorem a6_5 (x0 x1 x2 x3 x4 x5 : Int) (w : World) : (Instr.index 29 (.agg #[.int .i64 x0, .int .i64 x1, .int .i64 x2, .int .i64 x3, .int .i64 x4, .int .i64 x5]) (.int .i64 5)).run Try.prog w = .ok (.int .i64 x5) w := by kernel_rfl
@[go_sem] theorem a3_0 (x0 x1 x2 : Int) (w : World) : (Instr.index 71 (.agg #[.int .i64 x0, .int .i64 x1, .int .i64 x2]) (.int .i64 0)).run Try.prog w = .ok (.int .i64 x0) w := by kernel_rfl
@[go_sem] theorem a3_1 (x0 x1 x2 : Int) (w : World) : (Instr.index 71 (.agg #[.int .i64 x0, .int .i64 x1, .int .i64 x2]) (.int .i64 1)).run Try.prog w = .ok (.int .i64 x1) w := by kernel_rfl
@[go_sem] theorem a3_2 (x0 x1 x2 : Int) (w : World) : (Instr.index 71 (.agg #[.int .i64 x0, .int .i64 x1, .int .i64 x2]) (.int .i64 2)).run Try.prog w = .ok (.int .i64 x2) w := by kernel_rfl
@[go_sem] theorem a62_0 (x0 x1 x2 x3 x4 x5 x6 x7 x8 x9 x10 x11 : Int) (w : World) : (Instr.index 74 (.agg #[.int .i64 x0, .int .i64 x1, .int .i64 x2, .int .i64 x3, .int .i64 x4, .int .i64 x5, .int .i64 x6, .int .i64 x7, .int .i64 x8, .int .i64 x9, .int .i64 x10, .int .i64 x11]) (.int .i64 0)).run Try.prog w = .ok (.agg #[.int .i64 x0, .int .i64 x1]) w := by kernel_rfl
@[go_sem] theorem a62_1 (x0 x1 x2 x3 x4 x5 x6 x7 x8 x9 x10 x11 : Int) (w : World) : (Instr.index 74 (.agg #[.int .i64 x0, .int .i64 x1, .int .i64 x2, .int .i64 x3, .int .i64 x4, .int .i64 x5, .int .i64 x6, .int .i64 x7, .int .i64 x8, .int .i64 x9, .int .i64 x10, .int .i64 x11]) (.int .i64 1)).run Try.prog w = .ok (.agg #[.int .i64 x2, .int .i64 x3]) w := by kernel_rfl
@[go_sem] theorem a62_2 (x0 x1 x2 x3 x4 x5 x6 x7 x8 x9 x10 x11 : Int) (w : World) : (Instr.index 74 (.agg #[.int .i64 x0, .int .i64 x1, .int .i64 x2, .int .i64 x3, .int .i64 x4, .int .i64 x5, .int .i64 x6, .int .i64 x7, .int .i64 x8, .int .i64 x9, .int .i64 x10, .int .i64 x11]) (.int .i64 2)).run Try.prog w = .ok (.agg #[.int .i64 x4, .int .i64 x5]) w := by kernel_rfl
@[go_sem] theorem a62_3 (x0 x1 x2 x3 x4 x5 x6 x7 x8 x9 x10 x11 : Int) (w : World) : (Instr.index 74 (.agg #[.int .i64 x0, .int .i64 x1, .int .i64 x2, .int .i64 x3, .int .i64 x4, .int .i64 x5, .int .i64 x6, .int .i64 x7, .int .i64 x8, .int .i64 x9, .int .i64 x10, .int .i64 x11]) (.int .i64 3)).run Try.prog w = .ok (.agg #[.int .i64 x6, .int .i64 x7]) w := by kernel_rfl
@[go_sem] theorem a62_4 (x0 x1 x2 x3 x4 x5 x6 x7 x8 x9 x10 x11 : Int) (w : World) : (Instr.index 74 (.agg #[.int .i64 x0, .int .i64 x1, .int .i64 x2, .int .i64 x3, .int .i64 x4, .int .i64 x5, .int .i64 x6, .int .i64 x7, .int .i64 x8, .int .i64 x9, .int .i64 x10, .int .i64 x11]) (.int .i64 4)).run Try.prog w = .ok (.agg #[.int .i64 x8, .int .i64 x9]) w := by kernel_rfl
@[go_sem] theorem a62_5 (x0 x1 x2 x3 x4 x5 x6 x7 x8 x9 x10 x11 : Int) (w : World) : (Instr.index 74 (.agg #[.int .i64 x0, .int .i64 x1, .int .i64 x2, .int .i64 x3, .int .i64 x4, .int .i64 x5, .int .i64 x6, .int .i64 x7, .int .i64 x8, .int .i64 x9, .int .i64 x10, .int .i64 x11]) (.int .i64 5)).run Try.prog w = .ok (.agg #[.int .i64 x10, .int .i64 x11]) w := by kernel_rfl
@[go_sem] theorem a3p_0 (x0 x1 x2 x3 x4 x5 x6 x7 x8 : Int) (w : World) : (Instr.index 58 (.agg #[.int .i64 x0, .int .i64 x1, .int .i64 x2, .int .i64 x3, .int .i64 x4, .int .i64 x5, .int .i64 x6, .int .i64 x7, .int .i64 x8]) (.int .i64 0)).run Try.prog w = .ok (.agg #[.int .i64 x0, .int .i64 x1, .int .i64 x2]) w := by kernel_rfl
@[go_sem] theorem a3p_1 (x0 x1 x2 x3 x4 x5 x6 x7 x8 : Int) (w : World) : (Instr.index 58 (.agg #[.int .i64 x0, .int .i64 x1, .int .i64 x2, .int .i64 x3, .int .i64 x4, .int .i64 x5, .int .i64 x6, .int .i64 x7, .int .i64 x8]) (.int .i64 1)).run Try.prog w = .ok (.agg #[.int .i64 x3, .int .i64 x4, .int .i64 x5]) w := by kernel_rfl
@[go_sem] theorem a3p_2 (x0 x1 x2 x3 x4 x5 x6 x7 x8 : Int) (w : World) : (Instr.index 58 (.agg #[.int .i64 x0, .int .i64 x1, .int .i64 x2, .int .i64 x3, .int .i64 x4, .int .i64 x5, .int .i64 x6, .int .i64 x7, .int .i64 x8]) (.int .i64 2)).run Try.prog w = .ok (.agg #[.int .i64 x6, .int .i64 x7, .int .i64 x8]) w := by kernel_rfl
end Go.Proofs.Ytodmdicegkjicaa

namespace Go.Proofs.Ytodmdicegkjicaa
set_option linter.unusedVariables false
set_option linter.unusedSimpArgs false
open Go.RowKit
structure Mo where
  (q t x y z a b c d e f : Int)
def okM (m : Mo) : Bool := frB m.t 0 1048576 && frB m.q (-m.t) m.t && inB m.x m.y m.z 1073741824 && frB m.a (-17179869184) 17179869184 && frB m.b (-17179869184) 17179869184 && frB m.c (-17179869184) 17179869184 && frB m.d (-17179869184) 17179869184 && frB m.e (-17179869184) 17179869184 && frB m.f (-17179869184) 17179869184
theorem okM_bd {m : Mo} (h : okM m = true) : (0 ≤ m.t ∧ m.t ≤ 1048576) ∧ (-m.t ≤ m.q ∧ m.q ≤ m.t) ∧ (-1073741824 ≤ m.x ∧ m.x ≤ 1073741824) ∧ (-1073741824 ≤ m.y ∧ m.y ≤ 1073741824) ∧ (-1073741824 ≤ m.z ∧ m.z ≤ 1073741824) ∧ (-17179869184 ≤ m.a ∧ m.a ≤ 17179869184) ∧ (-17179869184 ≤ m.b ∧ m.b ≤ 17179869184) ∧ (-17179869184 ≤ m.c ∧ m.c ≤ 17179869184) ∧ (-17179869184 ≤ m.d ∧ m.d ≤ 17179869184) ∧ (-17179869184 ≤ m.e ∧ m.e ≤ 17179869184) ∧ (-17179869184 ≤ m.f ∧ m.f ≤ 17179869184) := by
  unfold okM at h
  simp only [Bool.and_eq_true] at h
  obtain ⟨⟨⟨⟨⟨⟨⟨⟨h1, h2⟩, h3⟩, h4⟩, h5⟩, h6⟩, h7⟩, h8⟩, h9⟩ := h
  have := frB_true h1; have := frB_true h2; have := inB_true h3; have := frB_true h4; have := frB_true h5; have := frB_true h6; have := frB_true h7; have := frB_true h8; have := frB_true h9
  omega
def vmS (m : Mo) : Int := if okM m then 0 else 1
set_option maxRecDepth 100000 in
set_option maxHeartbeats 4000000 in
theorem mval_any (m0 m1 m2 m3 m4 m5 m6 m7 m8 m9 m10 : Int) (w : World) :
    Calls Try.prog 28 #[.agg #[.int .i64 m0, .int .i64 m1, .int .i64 m2, .int .i64 m3, .int .i64 m4, .int .i64 m5, .int .i64 m6, .int .i64 m7, .int .i64 m8, .int .i64 m9, .int .i64 m10]] w fun r w' => r = .returned (.int .i64 (vmS ⟨m0, m1, m2, m3, m4, m5, m6, m7, m8, m9, m10⟩)) ∧ Kept w w' := by
  cases h0 : frB m1 0 1048576
  · have g : vmS ⟨m0, m1, m2, m3, m4, m5, m6, m7, m8, m9, m10⟩ = 1 := by simp [vmS, okM, h0]
    rw [g]
    clear g
    go_enter Try.func28, Try.ntmps28
    go_wp2_with (first | (go_at_call 44; refine (mfrom_any _ _ _ _).mono ?_; rintro e w1 ⟨rfl, rfl⟩) | (go_at_call 29; refine (mnear_any _ _ _ _ _ (by omega)).mono ?_; rintro e w1 ⟨rfl, x, rfl⟩))
    go_ret
    exact ⟨rfl, by (repeat (first | exact Kept.refl _ | assumption | refine Kept.alloc ?_ _ | refine Kept.ext ?_ _ | refine Kept.drew ?_ | refine Kept.drewN ?_ _))⟩
  have b1 := frB_true h0
  cases h1 : frB m0 (-m1) m1
  · have g : vmS ⟨m0, m1, m2, m3, m4, m5, m6, m7, m8, m9, m10⟩ = 1 := by simp [vmS, okM, h0, h1]
    rw [g]
    clear g
    go_enter Try.func28, Try.ntmps28
    go_wp2_with (first | (go_at_call 44; refine (mfrom_any _ _ _ _).mono ?_; rintro e w1 ⟨rfl, rfl⟩) | (go_at_call 29; refine (mnear_any _ _ _ _ _ (by omega)).mono ?_; rintro e w1 ⟨rfl, x, rfl⟩))
    go_ret
    exact ⟨rfl, by (repeat (first | exact Kept.refl _ | assumption | refine Kept.alloc ?_ _ | refine Kept.ext ?_ _ | refine Kept.drew ?_ | refine Kept.drewN ?_ _))⟩
  have b2 := frB_true h1
  cases h2 : inB m2 m3 m4 1073741824
  · have g : vmS ⟨m0, m1, m2, m3, m4, m5, m6, m7, m8, m9, m10⟩ = 1 := by simp [vmS, okM, h0, h1, h2]
    rw [g]
    clear g
    go_enter Try.func28, Try.ntmps28
    go_wp2_with (first | (go_at_call 44; refine (mfrom_any _ _ _ _).mono ?_; rintro e w1 ⟨rfl, rfl⟩) | (go_at_call 29; refine (mnear_any _ _ _ _ _ (by omega)).mono ?_; rintro e w1 ⟨rfl, x, rfl⟩))
    go_ret
    exact ⟨rfl, by (repeat (first | exact Kept.refl _ | assumption | refine Kept.alloc ?_ _ | refine Kept.ext ?_ _ | refine Kept.drew ?_ | refine Kept.drewN ?_ _))⟩
  cases h3 : frB m5 (-17179869184) 17179869184
  · have g : vmS ⟨m0, m1, m2, m3, m4, m5, m6, m7, m8, m9, m10⟩ = 1 := by simp [vmS, okM, h0, h1, h2, h3]
    rw [g]
    clear g
    go_enter Try.func28, Try.ntmps28
    go_wp2_with (first | (go_at_call 44; refine (mfrom_any _ _ _ _).mono ?_; rintro e w1 ⟨rfl, rfl⟩) | (go_at_call 29; refine (mnear_any _ _ _ _ _ (by omega)).mono ?_; rintro e w1 ⟨rfl, x, rfl⟩))
    refine wp_loop_rounds 1 ?_
    rw [rounds_succ]
    go_wp2_with (first | (go_at_call 44; refine (mfrom_any _ _ _ _).mono ?_; rintro e w1 ⟨rfl, rfl⟩) | (go_at_call 29; refine (mnear_any _ _ _ _ _ (by omega)).mono ?_; rintro e w1 ⟨rfl, x, rfl⟩))
    go_ret
    exact ⟨rfl, by (repeat (first | exact Kept.refl _ | assumption | refine Kept.alloc ?_ _ | refine Kept.ext ?_ _ | refine Kept.drew ?_ | refine Kept.drewN ?_ _))⟩
  have c3 := frB_true h3
  cases h4 : frB m6 (-17179869184) 17179869184
  · have g : vmS ⟨m0, m1, m2, m3, m4, m5, m6, m7, m8, m9, m10⟩ = 1 := by simp [vmS, okM, h0, h1, h2, h3, h4]
    rw [g]
    clear g
    go_enter Try.func28, Try.ntmps28
    go_wp2_with (first | (go_at_call 44; refine (mfrom_any _ _ _ _).mono ?_; rintro e w1 ⟨rfl, rfl⟩) | (go_at_call 29; refine (mnear_any _ _ _ _ _ (by omega)).mono ?_; rintro e w1 ⟨rfl, x, rfl⟩))
    refine wp_loop_rounds 2 ?_
    rw [rounds_succ]
    go_wp2_with (first | (go_at_call 44; refine (mfrom_any _ _ _ _).mono ?_; rintro e w1 ⟨rfl, rfl⟩) | (go_at_call 29; refine (mnear_any _ _ _ _ _ (by omega)).mono ?_; rintro e w1 ⟨rfl, x, rfl⟩))
    rw [rounds_succ]
    go_wp2_with (first | (go_at_call 44; refine (mfrom_any _ _ _ _).mono ?_; rintro e w1 ⟨rfl, rfl⟩) | (go_at_call 29; refine (mnear_any _ _ _ _ _ (by omega)).mono ?_; rintro e w1 ⟨rfl, x, rfl⟩))
    go_ret
    exact ⟨rfl, by (repeat (first | exact Kept.refl _ | assumption | refine Kept.alloc ?_ _ | refine Kept.ext ?_ _ | refine Kept.drew ?_ | refine Kept.drewN ?_ _))⟩
  have c4 := frB_true h4
  cases h5 : frB m7 (-17179869184) 17179869184
  · have g : vmS ⟨m0, m1, m2, m3, m4, m5, m6, m7, m8, m9, m10⟩ = 1 := by simp [vmS, okM, h0, h1, h2, h3, h4, h5]
    rw [g]
    clear g
    go_enter Try.func28, Try.ntmps28
    go_wp2_with (first | (go_at_call 44; refine (mfrom_any _ _ _ _).mono ?_; rintro e w1 ⟨rfl, rfl⟩) | (go_at_call 29; refine (mnear_any _ _ _ _ _ (by omega)).mono ?_; rintro e w1 ⟨rfl, x, rfl⟩))
    refine wp_loop_rounds 3 ?_
    rw [rounds_succ]
    go_wp2_with (first | (go_at_call 44; refine (mfrom_any _ _ _ _).mono ?_; rintro e w1 ⟨rfl, rfl⟩) | (go_at_call 29; refine (mnear_any _ _ _ _ _ (by omega)).mono ?_; rintro e w1 ⟨rfl, x, rfl⟩))
    rw [rounds_succ]
    go_wp2_with (first | (go_at_call 44; refine (mfrom_any _ _ _ _).mono ?_; rintro e w1 ⟨rfl, rfl⟩) | (go_at_call 29; refine (mnear_any _ _ _ _ _ (by omega)).mono ?_; rintro e w1 ⟨rfl, x, rfl⟩))
    rw [rounds_succ]
    go_wp2_with (first | (go_at_call 44; refine (mfrom_any _ _ _ _).mono ?_; rintro e w1 ⟨rfl, rfl⟩) | (go_at_call 29; refine (mnear_any _ _ _ _ _ (by omega)).mono ?_; rintro e w1 ⟨rfl, x, rfl⟩))
    go_ret
    exact ⟨rfl, by (repeat (first | exact Kept.refl _ | assumption | refine Kept.alloc ?_ _ | refine Kept.ext ?_ _ | refine Kept.drew ?_ | refine Kept.drewN ?_ _))⟩
  have c5 := frB_true h5
  cases h6 : frB m8 (-17179869184) 17179869184
  · have g : vmS ⟨m0, m1, m2, m3, m4, m5, m6, m7, m8, m9, m10⟩ = 1 := by simp [vmS, okM, h0, h1, h2, h3, h4, h5, h6]
    rw [g]
    clear g
    go_enter Try.func28, Try.ntmps28
    go_wp2_with (first | (go_at_call 44; refine (mfrom_any _ _ _ _).mono ?_; rintro e w1 ⟨rfl, rfl⟩) | (go_at_call 29; refine (mnear_any _ _ _ _ _ (by omega)).mono ?_; rintro e w1 ⟨rfl, x, rfl⟩))
    refine wp_loop_rounds 4 ?_
    rw [rounds_succ]
    go_wp2_with (first | (go_at_call 44; refine (mfrom_any _ _ _ _).mono ?_; rintro e w1 ⟨rfl, rfl⟩) | (go_at_call 29; refine (mnear_any _ _ _ _ _ (by omega)).mono ?_; rintro e w1 ⟨rfl, x, rfl⟩))
    rw [rounds_succ]
    go_wp2_with (first | (go_at_call 44; refine (mfrom_any _ _ _ _).mono ?_; rintro e w1 ⟨rfl, rfl⟩) | (go_at_call 29; refine (mnear_any _ _ _ _ _ (by omega)).mono ?_; rintro e w1 ⟨rfl, x, rfl⟩))
    rw [rounds_succ]
    go_wp2_with (first | (go_at_call 44; refine (mfrom_any _ _ _ _).mono ?_; rintro e w1 ⟨rfl, rfl⟩) | (go_at_call 29; refine (mnear_any _ _ _ _ _ (by omega)).mono ?_; rintro e w1 ⟨rfl, x, rfl⟩))
    rw [rounds_succ]
    go_wp2_with (first | (go_at_call 44; refine (mfrom_any _ _ _ _).mono ?_; rintro e w1 ⟨rfl, rfl⟩) | (go_at_call 29; refine (mnear_any _ _ _ _ _ (by omega)).mono ?_; rintro e w1 ⟨rfl, x, rfl⟩))
    go_ret
    exact ⟨rfl, by (repeat (first | exact Kept.refl _ | assumption | refine Kept.alloc ?_ _ | refine Kept.ext ?_ _ | refine Kept.drew ?_ | refine Kept.drewN ?_ _))⟩
  have c6 := frB_true h6
  cases h7 : frB m9 (-17179869184) 17179869184
  · have g : vmS ⟨m0, m1, m2, m3, m4, m5, m6, m7, m8, m9, m10⟩ = 1 := by simp [vmS, okM, h0, h1, h2, h3, h4, h5, h6, h7]
    rw [g]
    clear g
    go_enter Try.func28, Try.ntmps28
    go_wp2_with (first | (go_at_call 44; refine (mfrom_any _ _ _ _).mono ?_; rintro e w1 ⟨rfl, rfl⟩) | (go_at_call 29; refine (mnear_any _ _ _ _ _ (by omega)).mono ?_; rintro e w1 ⟨rfl, x, rfl⟩))
    refine wp_loop_rounds 5 ?_
    rw [rounds_succ]
    go_wp2_with (first | (go_at_call 44; refine (mfrom_any _ _ _ _).mono ?_; rintro e w1 ⟨rfl, rfl⟩) | (go_at_call 29; refine (mnear_any _ _ _ _ _ (by omega)).mono ?_; rintro e w1 ⟨rfl, x, rfl⟩))
    rw [rounds_succ]
    go_wp2_with (first | (go_at_call 44; refine (mfrom_any _ _ _ _).mono ?_; rintro e w1 ⟨rfl, rfl⟩) | (go_at_call 29; refine (mnear_any _ _ _ _ _ (by omega)).mono ?_; rintro e w1 ⟨rfl, x, rfl⟩))
    rw [rounds_succ]
    go_wp2_with (first | (go_at_call 44; refine (mfrom_any _ _ _ _).mono ?_; rintro e w1 ⟨rfl, rfl⟩) | (go_at_call 29; refine (mnear_any _ _ _ _ _ (by omega)).mono ?_; rintro e w1 ⟨rfl, x, rfl⟩))
    rw [rounds_succ]
    go_wp2_with (first | (go_at_call 44; refine (mfrom_any _ _ _ _).mono ?_; rintro e w1 ⟨rfl, rfl⟩) | (go_at_call 29; refine (mnear_any _ _ _ _ _ (by omega)).mono ?_; rintro e w1 ⟨rfl, x, rfl⟩))
    rw [rounds_succ]
    go_wp2_with (first | (go_at_call 44; refine (mfrom_any _ _ _ _).mono ?_; rintro e w1 ⟨rfl, rfl⟩) | (go_at_call 29; refine (mnear_any _ _ _ _ _ (by omega)).mono ?_; rintro e w1 ⟨rfl, x, rfl⟩))
    go_ret
    exact ⟨rfl, by (repeat (first | exact Kept.refl _ | assumption | refine Kept.alloc ?_ _ | refine Kept.ext ?_ _ | refine Kept.drew ?_ | refine Kept.drewN ?_ _))⟩
  have c7 := frB_true h7
  cases h8 : frB m10 (-17179869184) 17179869184
  · have g : vmS ⟨m0, m1, m2, m3, m4, m5, m6, m7, m8, m9, m10⟩ = 1 := by simp [vmS, okM, h0, h1, h2, h3, h4, h5, h6, h7, h8]
    rw [g]
    clear g
    go_enter Try.func28, Try.ntmps28
    go_wp2_with (first | (go_at_call 44; refine (mfrom_any _ _ _ _).mono ?_; rintro e w1 ⟨rfl, rfl⟩) | (go_at_call 29; refine (mnear_any _ _ _ _ _ (by omega)).mono ?_; rintro e w1 ⟨rfl, x, rfl⟩))
    refine wp_loop_rounds 6 ?_
    rw [rounds_succ]
    go_wp2_with (first | (go_at_call 44; refine (mfrom_any _ _ _ _).mono ?_; rintro e w1 ⟨rfl, rfl⟩) | (go_at_call 29; refine (mnear_any _ _ _ _ _ (by omega)).mono ?_; rintro e w1 ⟨rfl, x, rfl⟩))
    rw [rounds_succ]
    go_wp2_with (first | (go_at_call 44; refine (mfrom_any _ _ _ _).mono ?_; rintro e w1 ⟨rfl, rfl⟩) | (go_at_call 29; refine (mnear_any _ _ _ _ _ (by omega)).mono ?_; rintro e w1 ⟨rfl, x, rfl⟩))
    rw [rounds_succ]
    go_wp2_with (first | (go_at_call 44; refine (mfrom_any _ _ _ _).mono ?_; rintro e w1 ⟨rfl, rfl⟩) | (go_at_call 29; refine (mnear_any _ _ _ _ _ (by omega)).mono ?_; rintro e w1 ⟨rfl, x, rfl⟩))
    rw [rounds_succ]
    go_wp2_with (first | (go_at_call 44; refine (mfrom_any _ _ _ _).mono ?_; rintro e w1 ⟨rfl, rfl⟩) | (go_at_call 29; refine (mnear_any _ _ _ _ _ (by omega)).mono ?_; rintro e w1 ⟨rfl, x, rfl⟩))
    rw [rounds_succ]
    go_wp2_with (first | (go_at_call 44; refine (mfrom_any _ _ _ _).mono ?_; rintro e w1 ⟨rfl, rfl⟩) | (go_at_call 29; refine (mnear_any _ _ _ _ _ (by omega)).mono ?_; rintro e w1 ⟨rfl, x, rfl⟩))
    rw [rounds_succ]
    go_wp2_with (first | (go_at_call 44; refine (mfrom_any _ _ _ _).mono ?_; rintro e w1 ⟨rfl, rfl⟩) | (go_at_call 29; refine (mnear_any _ _ _ _ _ (by omega)).mono ?_; rintro e w1 ⟨rfl, x, rfl⟩))
    go_ret
    exact ⟨rfl, by (repeat (first | exact Kept.refl _ | assumption | refine Kept.alloc ?_ _ | refine Kept.ext ?_ _ | refine Kept.drew ?_ | refine Kept.drewN ?_ _))⟩
  have c8 := frB_true h8
  have g : vmS ⟨m0, m1, m2, m3, m4, m5, m6, m7, m8, m9, m10⟩ = 0 := by simp [vmS, okM, h0, h1, h2, h3, h4, h5, h6, h7, h8]
  rw [g]
  clear g
  go_enter Try.func28, Try.ntmps28
  go_wp2_with (first | (go_at_call 44; refine (mfrom_any _ _ _ _).mono ?_; rintro e w1 ⟨rfl, rfl⟩) | (go_at_call 29; refine (mnear_any _ _ _ _ _ (by omega)).mono ?_; rintro e w1 ⟨rfl, x, rfl⟩))
  refine wp_loop_rounds 7 ?_
  rw [rounds_succ]
  go_wp2_with (first | (go_at_call 44; refine (mfrom_any _ _ _ _).mono ?_; rintro e w1 ⟨rfl, rfl⟩) | (go_at_call 29; refine (mnear_any _ _ _ _ _ (by omega)).mono ?_; rintro e w1 ⟨rfl, x, rfl⟩))
  rw [rounds_succ]
  go_wp2_with (first | (go_at_call 44; refine (mfrom_any _ _ _ _).mono ?_; rintro e w1 ⟨rfl, rfl⟩) | (go_at_call 29; refine (mnear_any _ _ _ _ _ (by omega)).mono ?_; rintro e w1 ⟨rfl, x, rfl⟩))
  rw [rounds_succ]
  go_wp2_with (first | (go_at_call 44; refine (mfrom_any _ _ _ _).mono ?_; rintro e w1 ⟨rfl, rfl⟩) | (go_at_call 29; refine (mnear_any _ _ _ _ _ (by omega)).mono ?_; rintro e w1 ⟨rfl, x, rfl⟩))
  rw [rounds_succ]
  go_wp2_with (first | (go_at_call 44; refine (mfrom_any _ _ _ _).mono ?_; rintro e w1 ⟨rfl, rfl⟩) | (go_at_call 29; refine (mnear_any _ _ _ _ _ (by omega)).mono ?_; rintro e w1 ⟨rfl, x, rfl⟩))
  rw [rounds_succ]
  go_wp2_with (first | (go_at_call 44; refine (mfrom_any _ _ _ _).mono ?_; rintro e w1 ⟨rfl, rfl⟩) | (go_at_call 29; refine (mnear_any _ _ _ _ _ (by omega)).mono ?_; rintro e w1 ⟨rfl, x, rfl⟩))
  rw [rounds_succ]
  go_wp2_with (first | (go_at_call 44; refine (mfrom_any _ _ _ _).mono ?_; rintro e w1 ⟨rfl, rfl⟩) | (go_at_call 29; refine (mnear_any _ _ _ _ _ (by omega)).mono ?_; rintro e w1 ⟨rfl, x, rfl⟩))
  rw [rounds_succ]
  go_wp2_with (first | (go_at_call 44; refine (mfrom_any _ _ _ _).mono ?_; rintro e w1 ⟨rfl, rfl⟩) | (go_at_call 29; refine (mnear_any _ _ _ _ _ (by omega)).mono ?_; rintro e w1 ⟨rfl, x, rfl⟩))
  go_ret
  exact ⟨rfl, by (repeat (first | exact Kept.refl _ | assumption | refine Kept.alloc ?_ _ | refine Kept.ext ?_ _ | refine Kept.drew ?_ | refine Kept.drewN ?_ _))⟩
end Go.Proofs.Ytodmdicegkjicaa

namespace Go.Proofs.Ytodmdicegkjicaa
set_option linter.unusedVariables false
set_option linter.unusedSimpArgs false
open Go.RowKit
def szS (n : Int) : Int := max n (wrap64 (-n))
theorem sz_ok {n m : Int} (h : m ≤ 4611686018427387904) : (szS n ≤ m ∧ -m ≤ n) ↔ (-m ≤ n ∧ n ≤ m) := by
  unfold szS
  constructor
  · intro k
    have := Int.le_max_left n (wrap64 (-n))
    omega
  · intro k
    rw [w64 (by omega)]
    omega
theorem inB_false {x y z m : Int} (h : ¬ (-m ≤ x ∧ x ≤ m ∧ -m ≤ y ∧ y ≤ m ∧ -m ≤ z ∧ z ≤ m)) : inB x y z m = false := by
  cases k : inB x y z m
  · rfl
  · exact absurd (inB_true k) h
theorem size4_any (n : Int) (w : World) :
    Calls Try.prog 12 #[.int .i64 n] w fun e w' => e = .returned (.int .i64 (szS n)) ∧ w = w' := by
  go_enter Try.func12, Try.ntmps12
  go_wp2
  go_ret
  exact ⟨rfl, rfl⟩
set_option maxRecDepth 100000 in
set_option maxHeartbeats 4000000 in
theorem small_any (x y z m : Int) (w : World) (hm : 0 ≤ m ∧ m ≤ 1099511627776) :
    Calls Try.prog 4 #[.agg #[.int .i64 x, .int .i64 y, .int .i64 z], .int .i64 m] w fun e w' => e = .returned (.bool (inB x y z m)) ∧ Kept w w' := by
  obtain ⟨m0, m1⟩ := hm
  have H1 := Lib.hid (sz_ok (n := x) (show m ≤ 4611686018427387904 by omega))
  have H2 := Lib.hid (sz_ok (n := y) (show m ≤ 4611686018427387904 by omega))
  have H3 := Lib.hid (sz_ok (n := z) (show m ≤ 4611686018427387904 by omega))
  go_enter Try.func4, Try.ntmps4
  go_wp2_with (first | (go_at_call 12; refine (size4_any _ _).mono ?_; rintro e w1 ⟨rfl, rfl⟩))
  all_goals
    have h1 := H1.out
    have h2 := H2.out
    have h3 := H3.out
    go_ret
    refine ⟨ret_bool ?_, by (repeat (first | exact Kept.refl _ | assumption | refine Kept.alloc ?_ _ | refine Kept.ext ?_ _ | refine Kept.drew ?_ | refine Kept.drewN ?_ _))⟩
    first
    | exact (inB_mk (x := x) (y := y) (z := z) (m := m) (by omega)).symm
    | exact (inB_false (x := x) (y := y) (z := z) (m := m) (by omega)).symm
    | (by_cases k : -m ≤ z
       · rw [decide_eq_true k]
         exact (inB_mk (x := x) (y := y) (z := z) (m := m) (by omega)).symm
       · rw [decide_eq_false k]
         exact (inB_false (x := x) (y := y) (z := z) (m := m) (by omega)).symm)
/-- Moments with an error number. -/
structure MR where
  m : Mo
  e : Int
def moZ : Mo := ⟨0, 0, 0, 0, 0, 0, 0, 0, 0, 0, 0⟩
def toldM (m : Mo) : MR := if okM m then ⟨m, 0⟩ else ⟨moZ, 4⟩
set_option maxRecDepth 100000 in
theorem mres_any (m0 m1 m2 m3 m4 m5 m6 m7 m8 m9 m10 : Int) (w : World) :
    Calls Try.prog 32 #[.agg #[.int .i64 m0, .int .i64 m1, .int .i64 m2, .int .i64 m3, .int .i64 m4, .int .i64 m5, .int .i64 m6, .int .i64 m7, .int .i64 m8, .int .i64 m9, .int .i64 m10]] w fun r w' => r = .returned (.tuple #[.agg #[.int .i64 ((toldM ⟨m0, m1, m2, m3, m4, m5, m6, m7, m8, m9, m10⟩).m).q, .int .i64 ((toldM ⟨m0, m1, m2, m3, m4, m5, m6, m7, m8, m9, m10⟩).m).t, .int .i64 ((toldM ⟨m0, m1, m2, m3, m4, m5, m6, m7, m8, m9, m10⟩).m).x, .int .i64 ((toldM ⟨m0, m1, m2, m3, m4, m5, m6, m7, m8, m9, m10⟩).m).y, .int .i64 ((toldM ⟨m0, m1, m2, m3, m4, m5, m6, m7, m8, m9, m10⟩).m).z, .int .i64 ((toldM ⟨m0, m1, m2, m3, m4, m5, m6, m7, m8, m9, m10⟩).m).a, .int .i64 ((toldM ⟨m0, m1, m2, m3, m4, m5, m6, m7, m8, m9, m10⟩).m).b, .int .i64 ((toldM ⟨m0, m1, m2, m3, m4, m5, m6, m7, m8, m9, m10⟩).m).c, .int .i64 ((toldM ⟨m0, m1, m2, m3, m4, m5, m6, m7, m8, m9, m10⟩).m).d, .int .i64 ((toldM ⟨m0, m1, m2, m3, m4, m5, m6, m7, m8, m9, m10⟩).m).e, .int .i64 ((toldM ⟨m0, m1, m2, m3, m4, m5, m6, m7, m8, m9, m10⟩).m).f], .int .i64 (toldM ⟨m0, m1, m2, m3, m4, m5, m6, m7, m8, m9, m10⟩).e]) ∧ Kept w w' := by
  cases h : okM ⟨m0, m1, m2, m3, m4, m5, m6, m7, m8, m9, m10⟩
  · have e1 : vmS ⟨m0, m1, m2, m3, m4, m5, m6, m7, m8, m9, m10⟩ = 1 := by simp [vmS, h]
    have e2 : toldM ⟨m0, m1, m2, m3, m4, m5, m6, m7, m8, m9, m10⟩ = ⟨moZ, 4⟩ := by simp [toldM, h]
    rw [e2]
    clear e2
    go_enter Try.func32, Try.ntmps32
    go_wp2_with (first | (go_at_call 28; refine (mval_any _ _ _ _ _ _ _ _ _ _ _ _).mono ?_; rintro e w1 ⟨rfl, x, rfl⟩))
    refine bodyPost_ret (by simp only [results, Try.results32]; go_simp; rfl) rfl ?_
    exact ⟨rfl, by (repeat (first | exact Kept.refl _ | assumption | refine Kept.alloc ?_ _ | refine Kept.ext ?_ _ | refine Kept.drew ?_ | refine Kept.drewN ?_ _))⟩
  · have e1 : vmS ⟨m0, m1, m2, m3, m4, m5, m6, m7, m8, m9, m10⟩ = 0 := by simp [vmS, h]
    have e2 : toldM ⟨m0, m1, m2, m3, m4, m5, m6, m7, m8, m9, m10⟩ = ⟨⟨m0, m1, m2, m3, m4, m5, m6, m7, m8, m9, m10⟩, 0⟩ := by simp [toldM, h]
    rw [e2]
    clear e2
    go_enter Try.func32, Try.ntmps32
    go_wp2_with (first | (go_at_call 28; refine (mval_any _ _ _ _ _ _ _ _ _ _ _ _).mono ?_; rintro e w1 ⟨rfl, x, rfl⟩))
    refine bodyPost_ret (by simp only [results, Try.results32]; go_simp; rfl) rfl ?_
    exact ⟨rfl, by (repeat (first | exact Kept.refl _ | assumption | refine Kept.alloc ?_ _ | refine Kept.ext ?_ _ | refine Kept.drew ?_ | refine Kept.drewN ?_ _))⟩
end Go.Proofs.Ytodmdicegkjicaa

namespace Go.Proofs.Ytodmdicegkjicaa
set_option linter.unusedVariables false
set_option linter.unusedSimpArgs false
def upS (n d : Int) : Int := (n + d - 1) / d
theorem upS_bd {n d m : Int} (hd : 1 ≤ d) (h0 : 0 ≤ n) (h : n ≤ m * d) : 0 ≤ upS n d ∧ upS n d ≤ m := by
  unfold upS
  refine ⟨Int.ediv_nonneg (by omega) (by omega), ?_⟩
  have : (n + d - 1) / d < m + 1 := Int.ediv_lt_of_lt_mul (by omega) (by rw [Int.add_mul]; omega)
  omega
end Go.Proofs.Ytodmdicegkjicaa
namespace Go.Proofs.Ytodmdicegkjicaa
set_option linter.unusedVariables false
set_option linter.unusedSimpArgs false
open Go.RowKit
theorem mroot_any (n : Int) (w : World) (hn : 0 ≤ n ∧ n < 4611686018427387904) :
    Calls Try.prog 45 #[.int .i64 n] w fun e w' => e = .returned (.int .i64 (sqrtS n)) ∧ w = w' := by
  obtain ⟨n0, n1⟩ := hn
  go_enter Try.func45, Try.ntmps45
  go_wp2
  go_loopw [3, 4] (fun l h wr => ∃ lo hi : Int, l = .int .i64 lo ∧ h = .int .i64 hi ∧ 0 ≤ lo ∧ lo < hi ∧ hi ≤ 2147483648 ∧ lo * lo ≤ n ∧ n < hi * hi ∧ wr = w) (fun l h _ => (intOf h - intOf l).toNat)
  case atStart => exact ⟨0, 2147483648, rfl, rfl, by omega, by omega, by omega, by omega, by omega, rfl⟩
  case round =>
    obtain ⟨lo, hi, rfl, rfl, a0, a1, a2, a3, a4, rfl⟩ := hrel
    by_cases hlt : 1 < hi - lo
    · have hmm := mul_bd 4611686018427387904 (show -2147483648 ≤ (lo + hi) / 2 ∧ (lo + hi) / 2 ≤ 2147483648 by omega) (show -2147483648 ≤ (lo + hi) / 2 ∧ (lo + hi) / 2 ≤ 2147483648 by omega) rfl
      go_wp2
      · rename_i hle
        refine ⟨⟨_, _, rfl, rfl, by omega, by omega, a2, hle, a4, trivial⟩, ?_⟩
        simp only [intOf]
        omega
      · rename_i hle
        refine ⟨⟨_, _, rfl, rfl, by omega, by omega, by omega, a3, hle, trivial⟩, ?_⟩
        simp only [intOf]
        omega
    · obtain rfl : hi = lo + 1 := by omega
      go_wp2
      go_ret
      exact ⟨by rw [← sqrtS_unique a0 a3 a4]; rfl, rfl⟩
theorem mup_any (n d : Int) (w : World) (h : 0 ≤ n ∧ n ≤ 4611686018427387904 ∧ 1 ≤ d ∧ d ≤ 4611686018427387903) :
    Calls Try.prog 46 #[.int .i64 n, .int .i64 d] w fun e w' => e = .returned (.int .i64 (upS n d)) ∧ w = w' := by
  obtain ⟨h0, h1, h2, h3⟩ := h
  have z : (d == 0) = false := by simp; omega
  go_enter Try.func46, Try.ntmps46
  go_wp2
  go_ret
  exact ⟨rfl, rfl⟩
/-- A number with an error number. -/
structure NE where
  v : Int
  e : Int
theorem sq_nn (x : Int) : 0 ≤ x * x := by
  have := @Int.natAbs_mul_self x
  omega
def eS (t : Int) : Nat → Int
  | 0 => t
  | k + 1 => upS (eS t k * t) 1048576
def restV (g0 a r : Int) (k : Nat) : NE := if r ≤ a then ⟨0, 10⟩ else if 1099511627776 < upS (g0 * eS (upS (a * 1048576) r) k * 1048576) (r - a) then ⟨0, 4⟩ else ⟨upS (g0 * eS (upS (a * 1048576) r) k * 1048576) (r - a), 0⟩
def restS (g0 g1 u0 u1 u2 g2 : Int) : NE := if frB g0 0 1048576 && frB g1 0 131072 && inB u0 u1 u2 384 && frB g2 0 2 then restV g0 (rootUpS (g1 * 1048576 * 1048576)) (sqrtS ((u0 * u0 + u1 * u1 + u2 * u2) * 1048576 * 1048576)) g2.toNat else ⟨0, 1⟩
theorem eS_bd {t : Int} (h : 0 ≤ t ∧ t ≤ 1048576) (k : Nat) : 0 ≤ eS t k ∧ eS t k ≤ 1048576 ∧ 0 ≤ eS t k * t ∧ eS t k * t ≤ 1099511627776 := by
  induction k with
  | zero =>
    have a := Int.mul_nonneg h.1 h.1
    have b : t * t ≤ 1048576 * 1048576 := Int.mul_le_mul h.2 h.2 h.1 (by decide)
    exact ⟨h.1, h.2, a, by show t * t ≤ _; omega⟩
  | succ k ih =>
    obtain ⟨a, b, c, d⟩ := ih
    have u := upS_bd (d := 1048576) (by omega) c (show eS t k * t ≤ 1048576 * 1048576 by omega)
    have e := Int.mul_nonneg u.1 h.1
    have f : eS t (k + 1) * t ≤ 1048576 * 1048576 := Int.mul_le_mul u.2 h.2 h.1 (by decide)
    exact ⟨u.1, u.2, e, by omega⟩
end Go.Proofs.Ytodmdicegkjicaa

