/- Contracts: points and panels, of the program and of the reference. No conditions but bounds on numbers. Contracts: points and panels, of the reference. No conditions but bounds on numbers. -/
import Derived.Test.YtnbjealpcjfllaaGreatDoorBas
import Derived.Test.YtnbjealpcjfllaaGreatDoorNmb
namespace Go.Proofs.YtnbjealpcjfllaaGreatDoor
set_option linter.unusedVariables false
set_option linter.unusedSimpArgs false
open Go.RowKit
def frB (n lo hi : Int) : Bool := decide (lo ≤ n ∧ n ≤ hi)
theorem frB_true {n lo hi : Int} (h : frB n lo hi = true) : lo ≤ n ∧ n ≤ hi := of_decide_eq_true h
/-- The coordinates of a point are from -m to m. -/
def inB (x y z m : Int) : Bool := frB x (-m) m && frB y (-m) m && frB z (-m) m
theorem inB_true {x y z m : Int} (h : inB x y z m = true) : -m ≤ x ∧ x ≤ m ∧ -m ≤ y ∧ y ≤ m ∧ -m ≤ z ∧ z ≤ m := by
  unfold inB at h
  simp only [Bool.and_eq_true] at h
  have := frB_true h.1.1; have := frB_true h.1.2; have := frB_true h.2
  omega
theorem inB_mk {x y z m : Int} (h : -m ≤ x ∧ x ≤ m ∧ -m ≤ y ∧ y ≤ m ∧ -m ≤ z ∧ z ≤ m) : inB x y z m = true := by
  unfold inB frB
  simp only [Bool.and_eq_true, decide_eq_true_eq]
  omega
theorem ret_agg3 {x y z a b c : Int} (h1 : x = a) (h2 : y = b) (h3 : z = c) : Ending.returned (.agg #[.int .i64 x, .int .i64 y, .int .i64 z]) = Ending.returned (.agg #[.int .i64 a, .int .i64 b, .int .i64 c]) := by rw [h1, h2, h3]
theorem mul_sq {a b : Int} (m C : Int) (ha : -m ≤ a ∧ a ≤ m) (hb : -m ≤ b ∧ b ≤ m) (hC : m * m = C) : -C ≤ a * b ∧ a * b ≤ C := mul_bd C ha hb hC
theorem sfrom_any (n lo hi : Int) (w : World) :
    Calls Tryz.prog 115 #[.int .i64 n, .int .i64 lo, .int .i64 hi] w fun e w' => e = .returned (.bool (frB n lo hi)) ∧ w = w' := by
  go_enter Tryz.func115, Tryz.ntmps115
  go_wp2
  all_goals (go_ret; exact ⟨ret_bool (by unfold frB; rw [eq_comm]; first | (rw [decide_eq_decide]; omega) | (rw [decide_eq_false_iff_not]; omega)), rfl⟩)
theorem inRange_any (x y z m : Int) (w : World) (hm : 0 ≤ m ∧ m ≤ 1099511627776) :
    Calls Tryz.prog 174 #[.agg #[.int .i64 x, .int .i64 y, .int .i64 z], .int .i64 m] w fun e w' => e = .returned (.bool (inB x y z m)) ∧ Kept w w' := by
  obtain ⟨m0, m1⟩ := hm
  unfold inB
  cases h1 : frB x (-m) m
  · go_enter Tryz.func174, Tryz.ntmps174
    go_wp2_with (first | (go_at_call 115; refine (sfrom_any _ _ _ _).mono ?_; rintro e w1 ⟨rfl, rfl⟩))
    go_ret
    exact ⟨rfl, by (repeat (first | exact Kept.refl _ | assumption | refine Kept.alloc ?_ _ | refine Kept.ext ?_ _ | refine Kept.drew ?_ | refine Kept.drewN ?_ _))⟩
  cases h2 : frB y (-m) m
  · go_enter Tryz.func174, Tryz.ntmps174
    go_wp2_with (first | (go_at_call 115; refine (sfrom_any _ _ _ _).mono ?_; rintro e w1 ⟨rfl, rfl⟩))
    go_ret
    exact ⟨rfl, by (repeat (first | exact Kept.refl _ | assumption | refine Kept.alloc ?_ _ | refine Kept.ext ?_ _ | refine Kept.drew ?_ | refine Kept.drewN ?_ _))⟩
  · go_enter Tryz.func174, Tryz.ntmps174
    go_wp2_with (first | (go_at_call 115; refine (sfrom_any _ _ _ _).mono ?_; rintro e w1 ⟨rfl, rfl⟩))
    go_ret
    exact ⟨rfl, by (repeat (first | exact Kept.refl _ | assumption | refine Kept.alloc ?_ _ | refine Kept.ext ?_ _ | refine Kept.drew ?_ | refine Kept.drewN ?_ _))⟩
theorem splus_any (a0 a1 a2 k b0 b1 b2 : Int) (w : World) (ha : (-1099511627776 ≤ a0 ∧ a0 ≤ 1099511627776) ∧ (-1099511627776 ≤ a1 ∧ a1 ≤ 1099511627776) ∧ (-1099511627776 ≤ a2 ∧ a2 ≤ 1099511627776))
    (hb : (-1099511627776 ≤ k * b0 ∧ k * b0 ≤ 1099511627776) ∧ (-1099511627776 ≤ k * b1 ∧ k * b1 ≤ 1099511627776) ∧ (-1099511627776 ≤ k * b2 ∧ k * b2 ≤ 1099511627776)) :
    Calls Tryz.prog 208 #[.agg #[.int .i64 a0, .int .i64 a1, .int .i64 a2], .int .i64 k, .agg #[.int .i64 b0, .int .i64 b1, .int .i64 b2]] w fun e w' => e = .returned (.agg #[.int .i64 (a0 + k * b0), .int .i64 (a1 + k * b1), .int .i64 (a2 + k * b2)]) ∧ Kept w w' := by
  obtain ⟨⟨x0, x1⟩, ⟨x2, x3⟩, x4, x5⟩ := ha
  obtain ⟨⟨y0, y1⟩, ⟨y2, y3⟩, y4, y5⟩ := hb
  go_enter Tryz.func208, Tryz.ntmps208
  go_wp2
  refine bodyPost_ret (by simp only [results, Tryz.results208]; go_simp; rfl) rfl ?_
  exact ⟨rfl, by (repeat (first | exact Kept.refl _ | assumption | refine Kept.alloc ?_ _ | refine Kept.ext ?_ _ | refine Kept.drew ?_ | refine Kept.drewN ?_ _))⟩
theorem sminus_any (a0 a1 a2 b0 b1 b2 : Int) (w : World) (h : (-1073741824 ≤ a0 ∧ a0 ≤ 1073741824) ∧ (-1073741824 ≤ a1 ∧ a1 ≤ 1073741824) ∧ (-1073741824 ≤ a2 ∧ a2 ≤ 1073741824) ∧ (-1073741824 ≤ b0 ∧ b0 ≤ 1073741824) ∧ (-1073741824 ≤ b1 ∧ b1 ≤ 1073741824) ∧ (-1073741824 ≤ b2 ∧ b2 ≤ 1073741824)) :
    Calls Tryz.prog 218 #[.agg #[.int .i64 a0, .int .i64 a1, .int .i64 a2], .agg #[.int .i64 b0, .int .i64 b1, .int .i64 b2]] w fun e w' => e = .returned (.agg #[.int .i64 (a0 - b0), .int .i64 (a1 - b1), .int .i64 (a2 - b2)]) ∧ Kept w w' := by
  go_enter Tryz.func218, Tryz.ntmps218
  go_wp2_with (first | (go_at_call 208; refine (splus_any _ _ _ _ _ _ _ _ (by omega) (by omega)).mono ?_; rintro e w1 ⟨rfl, x, rfl⟩))
  refine bodyPost_ret (by simp only [results, Tryz.results218]; go_simp; rfl) rfl ?_
  exact ⟨ret_agg3 (by omega) (by omega) (by omega), by (repeat (first | exact Kept.refl _ | assumption | refine Kept.alloc ?_ _ | refine Kept.ext ?_ _ | refine Kept.drew ?_ | refine Kept.drewN ?_ _))⟩
theorem scross_any (a0 a1 a2 b0 b1 b2 : Int) (w : World) (h : (-1048576 ≤ a0 ∧ a0 ≤ 1048576) ∧ (-1048576 ≤ a1 ∧ a1 ≤ 1048576) ∧ (-1048576 ≤ a2 ∧ a2 ≤ 1048576) ∧ (-1048576 ≤ b0 ∧ b0 ≤ 1048576) ∧ (-1048576 ≤ b1 ∧ b1 ≤ 1048576) ∧ (-1048576 ≤ b2 ∧ b2 ≤ 1048576)) :
    Calls Tryz.prog 217 #[.agg #[.int .i64 a0, .int .i64 a1, .int .i64 a2], .agg #[.int .i64 b0, .int .i64 b1, .int .i64 b2]] w fun e w' => e = .returned (.agg #[.int .i64 (a1 * b2 - a2 * b1), .int .i64 (a2 * b0 - a0 * b2), .int .i64 (a0 * b1 - a1 * b0)]) ∧ Kept w w' := by
  obtain ⟨x0, x1, x2, y0, y1, y2⟩ := h
  have m0 := mul_sq 1048576 1099511627776 x1 y2 rfl
  have m1 := mul_sq 1048576 1099511627776 x2 y1 rfl
  have m2 := mul_sq 1048576 1099511627776 x2 y0 rfl
  have m3 := mul_sq 1048576 1099511627776 x0 y2 rfl
  have m4 := mul_sq 1048576 1099511627776 x0 y1 rfl
  have m5 := mul_sq 1048576 1099511627776 x1 y0 rfl
  go_enter Tryz.func217, Tryz.ntmps217
  go_wp2
  refine bodyPost_ret (by simp only [results, Tryz.results217]; go_simp; rfl) rfl ?_
  exact ⟨rfl, by (repeat (first | exact Kept.refl _ | assumption | refine Kept.alloc ?_ _ | refine Kept.ext ?_ _ | refine Kept.drew ?_ | refine Kept.drewN ?_ _))⟩
/-- The normal of a panel. -/
def nX (p0 p1 p2 p3 p4 p5 p6 p7 p8 : Int) : Int := (p4 - p1) * (p8 - p2) - (p5 - p2) * (p7 - p1)
def nY (p0 p1 p2 p3 p4 p5 p6 p7 p8 : Int) : Int := (p5 - p2) * (p6 - p0) - (p3 - p0) * (p8 - p2)
def nZ (p0 p1 p2 p3 p4 p5 p6 p7 p8 : Int) : Int := (p3 - p0) * (p7 - p1) - (p4 - p1) * (p6 - p0)
set_option maxHeartbeats 1000000 in
theorem snormal_any (p0 p1 p2 p3 p4 p5 p6 p7 p8 : Int) (w : World) (h : (-262144 ≤ p0 ∧ p0 ≤ 262144) ∧ (-262144 ≤ p1 ∧ p1 ≤ 262144) ∧ (-262144 ≤ p2 ∧ p2 ≤ 262144) ∧ (-262144 ≤ p3 ∧ p3 ≤ 262144) ∧ (-262144 ≤ p4 ∧ p4 ≤ 262144) ∧ (-262144 ≤ p5 ∧ p5 ≤ 262144) ∧ (-262144 ≤ p6 ∧ p6 ≤ 262144) ∧ (-262144 ≤ p7 ∧ p7 ≤ 262144) ∧ (-262144 ≤ p8 ∧ p8 ≤ 262144)) :
    Calls Tryz.prog 175 #[.agg #[.int .i64 p0, .int .i64 p1, .int .i64 p2, .int .i64 p3, .int .i64 p4, .int .i64 p5, .int .i64 p6, .int .i64 p7, .int .i64 p8]] w fun e w' => e = .returned (.agg #[.int .i64 (nX p0 p1 p2 p3 p4 p5 p6 p7 p8), .int .i64 (nY p0 p1 p2 p3 p4 p5 p6 p7 p8), .int .i64 (nZ p0 p1 p2 p3 p4 p5 p6 p7 p8)]) ∧ Kept w w' := by
  go_enter Tryz.func175, Tryz.ntmps175
  go_wp2
  ((first | (with_reducible refine wp_region_tail2 11 (by kernel_rfl) (by kernel_rfl) ?_) | refine wp_region_tail 11 (by kernel_rfl) (by kernel_rfl) ?_); simp only [List.take_succ_cons, List.take_zero, List.drop_succ_cons, List.drop_zero]; (repeat (go_big_quiet_step (first | (go_at_call 218; exact Calls.kept_of (sminus_any _ _ _ _ _ _ _ (by omega))) | (go_at_call 217; exact Calls.kept_of (scross_any _ _ _ _ _ _ _ (by omega)))))); refine wpQuiet_nil ?_; intro x)
  go_wp2
  refine bodyPost_ret (by simp only [results, Tryz.results175]; go_simp; rfl) rfl ?_
  exact ⟨rfl, by (repeat (first | exact Kept.refl _ | assumption | refine Kept.alloc ?_ _ | refine Kept.ext ?_ _ | refine Kept.drew ?_ | refine Kept.drewN ?_ _))⟩
/-- The error of a panel. -/
def vpanS (p0 p1 p2 p3 p4 p5 p6 p7 p8 : Int) : Int := if inB p0 p1 p2 64 && inB p3 p4 p5 64 && inB p6 p7 p8 64 then (if nX p0 p1 p2 p3 p4 p5 p6 p7 p8 = 0 ∧ nY p0 p1 p2 p3 p4 p5 p6 p7 p8 = 0 ∧ nZ p0 p1 p2 p3 p4 p5 p6 p7 p8 = 0 then 6 else 0) else 1
set_option maxHeartbeats 1000000 in
theorem svpan_any (p0 p1 p2 p3 p4 p5 p6 p7 p8 : Int) (w : World) :
    Calls Tryz.prog 286 #[.agg #[.int .i64 p0, .int .i64 p1, .int .i64 p2, .int .i64 p3, .int .i64 p4, .int .i64 p5, .int .i64 p6, .int .i64 p7, .int .i64 p8]] w fun e w' => e = .returned (.int .i64 (vpanS p0 p1 p2 p3 p4 p5 p6 p7 p8)) ∧ Kept w w' := by
  cases h1 : inB p0 p1 p2 64
  · have e : vpanS p0 p1 p2 p3 p4 p5 p6 p7 p8 = 1 := by simp [vpanS, h1]
    rw [e]
    clear e
    go_enter Tryz.func286, Tryz.ntmps286
    go_wp2_with (first | (go_at_call 174; refine (inRange_any _ _ _ _ _ (by omega)).mono ?_; rintro e w1 ⟨rfl, x, rfl⟩))
    go_ret
    exact ⟨rfl, by (repeat (first | exact Kept.refl _ | assumption | refine Kept.alloc ?_ _ | refine Kept.ext ?_ _ | refine Kept.drew ?_ | refine Kept.drewN ?_ _))⟩
  cases h2 : inB p3 p4 p5 64
  · have e : vpanS p0 p1 p2 p3 p4 p5 p6 p7 p8 = 1 := by simp [vpanS, h2]
    rw [e]
    clear e
    go_enter Tryz.func286, Tryz.ntmps286
    go_wp2_with (first | (go_at_call 174; refine (inRange_any _ _ _ _ _ (by omega)).mono ?_; rintro e w1 ⟨rfl, x, rfl⟩))
    go_ret
    exact ⟨rfl, by (repeat (first | exact Kept.refl _ | assumption | refine Kept.alloc ?_ _ | refine Kept.ext ?_ _ | refine Kept.drew ?_ | refine Kept.drewN ?_ _))⟩
  cases h3 : inB p6 p7 p8 64
  · have e : vpanS p0 p1 p2 p3 p4 p5 p6 p7 p8 = 1 := by simp [vpanS, h3]
    rw [e]
    clear e
    go_enter Tryz.func286, Tryz.ntmps286
    go_wp2_with (first | (go_at_call 174; refine (inRange_any _ _ _ _ _ (by omega)).mono ?_; rintro e w1 ⟨rfl, x, rfl⟩))
    go_ret
    exact ⟨rfl, by (repeat (first | exact Kept.refl _ | assumption | refine Kept.alloc ?_ _ | refine Kept.ext ?_ _ | refine Kept.drew ?_ | refine Kept.drewN ?_ _))⟩
  have e : vpanS p0 p1 p2 p3 p4 p5 p6 p7 p8 = if nX p0 p1 p2 p3 p4 p5 p6 p7 p8 = 0 ∧ nY p0 p1 p2 p3 p4 p5 p6 p7 p8 = 0 ∧ nZ p0 p1 p2 p3 p4 p5 p6 p7 p8 = 0 then 6 else 0 := by simp [vpanS, h1, h2, h3]
  rw [e]
  clear e
  have b1 := inB_true h1
  have b2 := inB_true h2
  have b3 := inB_true h3
  go_enter Tryz.func286, Tryz.ntmps286
  go_wp2_with (first | (go_at_call 174; refine (inRange_any _ _ _ _ _ (by omega)).mono ?_; rintro e w1 ⟨rfl, x, rfl⟩) | (go_at_call 175; refine (snormal_any _ _ _ _ _ _ _ _ _ _ (by omega)).mono ?_; rintro e w1 ⟨rfl, x, rfl⟩))
  all_goals (go_ret; exact ⟨rfl, by (repeat (first | exact Kept.refl _ | assumption | refine Kept.alloc ?_ _ | refine Kept.ext ?_ _ | refine Kept.drew ?_ | refine Kept.drewN ?_ _))⟩)
end Go.Proofs.YtnbjealpcjfllaaGreatDoor
namespace Go.Proofs.YtnbjealpcjfllaaGreatDoor
set_option linter.unusedVariables false
set_option linter.unusedSimpArgs false
open Go.RowKit
theorem r2within_any (n lo hi : Int) (w : World) :
    Calls Tryz.prog 129 #[.int .i64 n, .int .i64 lo, .int .i64 hi] w fun e w' => e = .returned (.bool (frB n lo hi)) ∧ w = w' := by
  go_enter Tryz.func129, Tryz.ntmps129
  go_wp2
  all_goals (go_ret; exact ⟨ret_bool (by unfold frB; rw [eq_comm]; first | (rw [decide_eq_decide]; omega) | (rw [decide_eq_false_iff_not]; omega)), rfl⟩)
theorem r2near_any (x y z m : Int) (w : World) (hm : 0 ≤ m ∧ m ≤ 1099511627776) :
    Calls Tryz.prog 130 #[.agg #[.int .i64 x, .int .i64 y, .int .i64 z], .int .i64 m] w fun e w' => e = .returned (.bool (inB x y z m)) ∧ Kept w w' := by
  obtain ⟨m0, m1⟩ := hm
  unfold inB
  cases h1 : frB x (-m) m
  · go_enter Tryz.func130, Tryz.ntmps130
    go_wp2_with (first | (go_at_call 129; refine (r2within_any _ _ _ _).mono ?_; rintro e w1 ⟨rfl, rfl⟩))
    go_ret
    exact ⟨rfl, by (repeat (first | exact Kept.refl _ | assumption | refine Kept.alloc ?_ _ | refine Kept.ext ?_ _ | refine Kept.drew ?_ | refine Kept.drewN ?_ _))⟩
  cases h2 : frB y (-m) m
  · go_enter Tryz.func130, Tryz.ntmps130
    go_wp2_with (first | (go_at_call 129; refine (r2within_any _ _ _ _).mono ?_; rintro e w1 ⟨rfl, rfl⟩))
    go_ret
    exact ⟨rfl, by (repeat (first | exact Kept.refl _ | assumption | refine Kept.alloc ?_ _ | refine Kept.ext ?_ _ | refine Kept.drew ?_ | refine Kept.drewN ?_ _))⟩
  · go_enter Tryz.func130, Tryz.ntmps130
    go_wp2_with (first | (go_at_call 129; refine (r2within_any _ _ _ _).mono ?_; rintro e w1 ⟨rfl, rfl⟩))
    go_ret
    exact ⟨rfl, by (repeat (first | exact Kept.refl _ | assumption | refine Kept.alloc ?_ _ | refine Kept.ext ?_ _ | refine Kept.drew ?_ | refine Kept.drewN ?_ _))⟩
theorem r2minus_any (a0 a1 a2 b0 b1 b2 : Int) (w : World) (h : (-1073741824 ≤ a0 ∧ a0 ≤ 1073741824) ∧ (-1073741824 ≤ a1 ∧ a1 ≤ 1073741824) ∧ (-1073741824 ≤ a2 ∧ a2 ≤ 1073741824) ∧ (-1073741824 ≤ b0 ∧ b0 ≤ 1073741824) ∧ (-1073741824 ≤ b1 ∧ b1 ≤ 1073741824) ∧ (-1073741824 ≤ b2 ∧ b2 ≤ 1073741824)) :
    Calls Tryz.prog 188 #[.agg #[.int .i64 a0, .int .i64 a1, .int .i64 a2], .agg #[.int .i64 b0, .int .i64 b1, .int .i64 b2]] w fun e w' => e = .returned (.agg #[.int .i64 (a0 - b0), .int .i64 (a1 - b1), .int .i64 (a2 - b2)]) ∧ Kept w w' := by
  go_enter Tryz.func188, Tryz.ntmps188
  go_wp2
  refine bodyPost_ret (by simp only [results, Tryz.results188]; go_simp; rfl) rfl ?_
  exact ⟨rfl, by (repeat (first | exact Kept.refl _ | assumption | refine Kept.alloc ?_ _ | refine Kept.ext ?_ _ | refine Kept.drew ?_ | refine Kept.drewN ?_ _))⟩
theorem r2cross_any (a0 a1 a2 b0 b1 b2 : Int) (w : World) (h : (-1048576 ≤ a0 ∧ a0 ≤ 1048576) ∧ (-1048576 ≤ a1 ∧ a1 ≤ 1048576) ∧ (-1048576 ≤ a2 ∧ a2 ≤ 1048576) ∧ (-1048576 ≤ b0 ∧ b0 ≤ 1048576) ∧ (-1048576 ≤ b1 ∧ b1 ≤ 1048576) ∧ (-1048576 ≤ b2 ∧ b2 ≤ 1048576)) :
    Calls Tryz.prog 187 #[.agg #[.int .i64 a0, .int .i64 a1, .int .i64 a2], .agg #[.int .i64 b0, .int .i64 b1, .int .i64 b2]] w fun e w' => e = .returned (.agg #[.int .i64 (a1 * b2 - a2 * b1), .int .i64 (a2 * b0 - a0 * b2), .int .i64 (a0 * b1 - a1 * b0)]) ∧ Kept w w' := by
  obtain ⟨x0, x1, x2, y0, y1, y2⟩ := h
  have m0 := mul_sq 1048576 1099511627776 x1 y2 rfl
  have m1 := mul_sq 1048576 1099511627776 x2 y1 rfl
  have m2 := mul_sq 1048576 1099511627776 x2 y0 rfl
  have m3 := mul_sq 1048576 1099511627776 x0 y2 rfl
  have m4 := mul_sq 1048576 1099511627776 x0 y1 rfl
  have m5 := mul_sq 1048576 1099511627776 x1 y0 rfl
  go_enter Tryz.func187, Tryz.ntmps187
  go_wp2
  refine bodyPost_ret (by simp only [results, Tryz.results187]; go_simp; rfl) rfl ?_
  exact ⟨rfl, by (repeat (first | exact Kept.refl _ | assumption | refine Kept.alloc ?_ _ | refine Kept.ext ?_ _ | refine Kept.drew ?_ | refine Kept.drewN ?_ _))⟩
set_option maxHeartbeats 1000000 in
theorem r2across_any (p0 p1 p2 p3 p4 p5 p6 p7 p8 : Int) (w : World) (h : (-262144 ≤ p0 ∧ p0 ≤ 262144) ∧ (-262144 ≤ p1 ∧ p1 ≤ 262144) ∧ (-262144 ≤ p2 ∧ p2 ≤ 262144) ∧ (-262144 ≤ p3 ∧ p3 ≤ 262144) ∧ (-262144 ≤ p4 ∧ p4 ≤ 262144) ∧ (-262144 ≤ p5 ∧ p5 ≤ 262144) ∧ (-262144 ≤ p6 ∧ p6 ≤ 262144) ∧ (-262144 ≤ p7 ∧ p7 ≤ 262144) ∧ (-262144 ≤ p8 ∧ p8 ≤ 262144)) :
    Calls Tryz.prog 131 #[.agg #[.int .i64 p0, .int .i64 p1, .int .i64 p2, .int .i64 p3, .int .i64 p4, .int .i64 p5, .int .i64 p6, .int .i64 p7, .int .i64 p8]] w fun e w' => e = .returned (.agg #[.int .i64 (nX p0 p1 p2 p3 p4 p5 p6 p7 p8), .int .i64 (nY p0 p1 p2 p3 p4 p5 p6 p7 p8), .int .i64 (nZ p0 p1 p2 p3 p4 p5 p6 p7 p8)]) ∧ Kept w w' := by
  go_enter Tryz.func131, Tryz.ntmps131
  go_wp2
  ((first | (with_reducible refine wp_region_tail2 11 (by kernel_rfl) (by kernel_rfl) ?_) | refine wp_region_tail 11 (by kernel_rfl) (by kernel_rfl) ?_); simp only [List.take_succ_cons, List.take_zero, List.drop_succ_cons, List.drop_zero]; (repeat (go_big_quiet_step (first | (go_at_call 188; exact Calls.kept_of (r2minus_any _ _ _ _ _ _ _ (by omega))) | (go_at_call 187; exact Calls.kept_of (r2cross_any _ _ _ _ _ _ _ (by omega)))))); refine wpQuiet_nil ?_; intro x)
  go_wp2
  refine bodyPost_ret (by simp only [results, Tryz.results131]; go_simp; rfl) rfl ?_
  exact ⟨rfl, by (repeat (first | exact Kept.refl _ | assumption | refine Kept.alloc ?_ _ | refine Kept.ext ?_ _ | refine Kept.drew ?_ | refine Kept.drewN ?_ _))⟩
set_option maxHeartbeats 1000000 in
theorem r2vpan_any (p0 p1 p2 p3 p4 p5 p6 p7 p8 : Int) (w : World) :
    Calls Tryz.prog 333 #[.agg #[.int .i64 p0, .int .i64 p1, .int .i64 p2, .int .i64 p3, .int .i64 p4, .int .i64 p5, .int .i64 p6, .int .i64 p7, .int .i64 p8]] w fun e w' => e = .returned (.int .i64 (vpanS p0 p1 p2 p3 p4 p5 p6 p7 p8)) ∧ Kept w w' := by
  cases h1 : inB p0 p1 p2 64
  · have e : vpanS p0 p1 p2 p3 p4 p5 p6 p7 p8 = 1 := by simp [vpanS, h1]
    rw [e]
    clear e
    go_enter Tryz.func333, Tryz.ntmps333
    go_wp2_with (first | (go_at_call 130; refine (r2near_any _ _ _ _ _ (by omega)).mono ?_; rintro e w1 ⟨rfl, x, rfl⟩))
    go_ret
    exact ⟨rfl, by (repeat (first | exact Kept.refl _ | assumption | refine Kept.alloc ?_ _ | refine Kept.ext ?_ _ | refine Kept.drew ?_ | refine Kept.drewN ?_ _))⟩
  cases h2 : inB p3 p4 p5 64
  · have e : vpanS p0 p1 p2 p3 p4 p5 p6 p7 p8 = 1 := by simp [vpanS, h2]
    rw [e]
    clear e
    go_enter Tryz.func333, Tryz.ntmps333
    go_wp2_with (first | (go_at_call 130; refine (r2near_any _ _ _ _ _ (by omega)).mono ?_; rintro e w1 ⟨rfl, x, rfl⟩))
    go_ret
    exact ⟨rfl, by (repeat (first | exact Kept.refl _ | assumption | refine Kept.alloc ?_ _ | refine Kept.ext ?_ _ | refine Kept.drew ?_ | refine Kept.drewN ?_ _))⟩
  cases h3 : inB p6 p7 p8 64
  · have e : vpanS p0 p1 p2 p3 p4 p5 p6 p7 p8 = 1 := by simp [vpanS, h3]
    rw [e]
    clear e
    go_enter Tryz.func333, Tryz.ntmps333
    go_wp2_with (first | (go_at_call 130; refine (r2near_any _ _ _ _ _ (by omega)).mono ?_; rintro e w1 ⟨rfl, x, rfl⟩))
    go_ret
    exact ⟨rfl, by (repeat (first | exact Kept.refl _ | assumption | refine Kept.alloc ?_ _ | refine Kept.ext ?_ _ | refine Kept.drew ?_ | refine Kept.drewN ?_ _))⟩
  have e : vpanS p0 p1 p2 p3 p4 p5 p6 p7 p8 = if nX p0 p1 p2 p3 p4 p5 p6 p7 p8 = 0 ∧ nY p0 p1 p2 p3 p4 p5 p6 p7 p8 = 0 ∧ nZ p0 p1 p2 p3 p4 p5 p6 p7 p8 = 0 then 6 else 0 := by simp [vpanS, h1, h2, h3]
  rw [e]
  clear e
  have b1 := inB_true h1
  have b2 := inB_true h2
  have b3 := inB_true h3
  go_enter Tryz.func333, Tryz.ntmps333
  go_wp2_with (first | (go_at_call 130; refine (r2near_any _ _ _ _ _ (by omega)).mono ?_; rintro e w1 ⟨rfl, x, rfl⟩) | (go_at_call 131; refine (r2across_any _ _ _ _ _ _ _ _ _ _ (by omega)).mono ?_; rintro e w1 ⟨rfl, x, rfl⟩))
  all_goals (go_ret; exact ⟨rfl, by (repeat (first | exact Kept.refl _ | assumption | refine Kept.alloc ?_ _ | refine Kept.ext ?_ _ | refine Kept.drew ?_ | refine Kept.drewN ?_ _))⟩)
end Go.Proofs.YtnbjealpcjfllaaGreatDoor
