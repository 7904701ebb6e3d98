/- Plain facts on numbers: division rounded down, wraps. No program in sight. Plain facts on numbers: products and their parts. No program in sight. Contracts: points and panels, of the program and of the reference. No conditions but bounds on numbers. Contracts: points and panels, of the reference. No conditions but bounds on numbers. Contracts of the functions behind quotients. No conditions but bounds on numbers. Contracts: the check of lists of spans, and what needs it alone. No conditions but that the list's cells can be read. The square roots of the program and of the reference: the greatest number whose square is at most n. Under the premises of each theorem. Parts of panels, far and near distances of corners, and rims: plain functions and their bounds. Conditions: those of each theorem. -/
import Derived.IntWalk
import Derived.Test.YtodmdicegkjicaaBas
import Derived.WalkMore
import Derived.ScopeJumps
namespace Go.Proofs.Ytodmdicegkjicaa
set_option linter.unusedVariables false
set_option linter.unusedSimpArgs false
open Go.RowKit
theorem w64 {n : Int} (h : -9223372036854775808 ≤ n ∧ n ≤ 9223372036854775807) : wrap64 n = n := IntWalk.wrap64_in n h
theorem fdiv_tdiv (n d : Int) (h0 : d ≠ 0) : n.fdiv d = if n.tmod d ≠ 0 ∧ ¬ (n < 0 ↔ d < 0) then n.tdiv d - 1 else n.tdiv d := by
  have e1 : n.tmod d = 0 ↔ d ∣ n := ⟨Int.dvd_of_tmod_eq_zero, Int.tmod_eq_zero_of_dvd⟩
  rw [Int.tdiv_eq_fdiv]
  by_cases hd : d ∣ n
  · have : n.tmod d = 0 := e1.2 hd
    simp [hd, this]
  · have ht : n.tmod d ≠ 0 := fun h => hd (e1.1 h)
    simp only [hd, if_false, ne_eq, ht, not_false_eq_true, true_and]
    by_cases hn : 0 ≤ n <;> by_cases hp : 0 ≤ d
    · simp [hn, hp]; omega
    · simp [hn, hp]; omega
    · have : d.sign = 1 := Int.sign_eq_one_of_pos (by omega)
      simp [hn, hp, this]; omega
    · have : d.sign = -1 := Int.sign_eq_neg_one_of_neg (by omega)
      simp [hn, hp, this]; omega
theorem tdiv_bd (n d : Int) {m : Int} (h : -m ≤ n ∧ n ≤ m) : -m ≤ n.tdiv d ∧ n.tdiv d ≤ m := by
  have := Int.natAbs_tdiv_le_natAbs n d
  omega
theorem fdiv_bd (n d : Int) {m : Int} (h0 : d ≠ 0) (h : -m ≤ n ∧ n ≤ m) : -m - 1 ≤ n.fdiv d ∧ n.fdiv d ≤ m := by
  have := tdiv_bd n d h
  rw [fdiv_tdiv n d h0]; split <;> omega
theorem fdiv_pos (n d : Int) (h : 0 < d) : n.fdiv d = n / d := Int.fdiv_eq_ediv_of_nonneg n (by omega)
end Go.Proofs.Ytodmdicegkjicaa
namespace Go.Proofs.Ytodmdicegkjicaa
set_option linter.unusedVariables false
set_option linter.unusedSimpArgs false
open Go.RowKit
theorem mul_bd {a b A B : Int} (C : Int) (ha : -A ≤ a ∧ a ≤ A) (hb : -B ≤ b ∧ b ≤ B) (hC : A * B = C) : -C ≤ a * b ∧ a * b ≤ C := by
  have h : (a * b).natAbs ≤ A.natAbs * B.natAbs := by
    rw [Int.natAbs_mul]; exact Nat.mul_le_mul (by omega) (by omega)
  have h2 : ((A.natAbs * B.natAbs : Nat) : Int) = A * B := by
    rw [Int.natCast_mul, Int.natAbs_of_nonneg (by omega), Int.natAbs_of_nonneg (by omega)]
  omega
theorem floor_parts (x y : Int) : x / 1048576 * y + x % 1048576 * y / 1048576 = x * y / 1048576 := by
  have h : x * y = x % 1048576 * y + (x / 1048576 * y) * 1048576 := by
    have := Int.mul_ediv_add_emod x 1048576
    have e : x * y = (1048576 * (x / 1048576) + x % 1048576) * y := by rw [this]
    rw [e, Int.add_mul, Int.mul_assoc, Int.mul_comm 1048576, Int.add_comm]
  rw [h, Int.add_mul_ediv_right _ _ (by decide), Int.add_comm]
end Go.Proofs.Ytodmdicegkjicaa

namespace Go.Proofs.Ytodmdicegkjicaa
set_option linter.unusedVariables false
set_option linter.unusedSimpArgs false
open Go.RowKit
def frB (n lo hi : Int) : Bool := decide (lo ≤ n ∧ n ≤ hi)
theorem frB_true {n lo hi : Int} (h : frB n lo hi = true) : lo ≤ n ∧ n ≤ hi := of_decide_eq_true h
/-- The coordinates of a point are from -m to m. -/
def inB (x y z m : Int) : Bool := frB x (-m) m && frB y (-m) m && frB z (-m) m
theorem inB_true {x y z m : Int} (h : inB x y z m = true) : -m ≤ x ∧ x ≤ m ∧ -m ≤ y ∧ y ≤ m ∧ -m ≤ z ∧ z ≤ m := by
  unfold inB at h
  simp only [Bool.and_eq_true] at h
  have := frB_true h.1.1; have := frB_true h.1.2; have := frB_true h.2
  omega
theorem inB_mk {x y z m : Int} (h : -m ≤ x ∧ x ≤ m ∧ -m ≤ y ∧ y ≤ m ∧ -m ≤ z ∧ z ≤ m) : inB x y z m = true := by
  unfold inB frB
  simp only [Bool.and_eq_true, decide_eq_true_eq]
  omega
theorem ret_agg3 {x y z a b c : Int} (h1 : x = a) (h2 : y = b) (h3 : z = c) : Ending.returned (.agg #[.int .i64 x, .int .i64 y, .int .i64 z]) = Ending.returned (.agg #[.int .i64 a, .int .i64 b, .int .i64 c]) := by rw [h1, h2, h3]
theorem mul_sq {a b : Int} (m C : Int) (ha : -m ≤ a ∧ a ≤ m) (hb : -m ≤ b ∧ b ≤ m) (hC : m * m = C) : -C ≤ a * b ∧ a * b ≤ C := mul_bd C ha hb hC
theorem sfrom_any (n lo hi : Int) (w : World) :
    Calls Try.prog 60 #[.int .i64 n, .int .i64 lo, .int .i64 hi] w fun e w' => e = .returned (.bool (frB n lo hi)) ∧ w = w' := by
  go_enter Try.func60, Try.ntmps60
  go_wp2
  all_goals (go_ret; exact ⟨ret_bool (by unfold frB; rw [eq_comm]; first | (rw [decide_eq_decide]; omega) | (rw [decide_eq_false_iff_not]; omega)), rfl⟩)
theorem inRange_any (x y z m : Int) (w : World) (hm : 0 ≤ m ∧ m ≤ 1099511627776) :
    Calls Try.prog 47 #[.agg #[.int .i64 x, .int .i64 y, .int .i64 z], .int .i64 m] w fun e w' => e = .returned (.bool (inB x y z m)) ∧ Kept w w' := by
  obtain ⟨m0, m1⟩ := hm
  unfold inB
  cases h1 : frB x (-m) m
  · go_enter Try.func47, Try.ntmps47
    go_wp2_with (first | (go_at_call 60; refine (sfrom_any _ _ _ _).mono ?_; rintro e w1 ⟨rfl, rfl⟩))
    go_ret
    exact ⟨rfl, by (repeat (first | exact Kept.refl _ | assumption | refine Kept.alloc ?_ _ | refine Kept.ext ?_ _ | refine Kept.drew ?_ | refine Kept.drewN ?_ _))⟩
  cases h2 : frB y (-m) m
  · go_enter Try.func47, Try.ntmps47
    go_wp2_with (first | (go_at_call 60; refine (sfrom_any _ _ _ _).mono ?_; rintro e w1 ⟨rfl, rfl⟩))
    go_ret
    exact ⟨rfl, by (repeat (first | exact Kept.refl _ | assumption | refine Kept.alloc ?_ _ | refine Kept.ext ?_ _ | refine Kept.drew ?_ | refine Kept.drewN ?_ _))⟩
  · go_enter Try.func47, Try.ntmps47
    go_wp2_with (first | (go_at_call 60; refine (sfrom_any _ _ _ _).mono ?_; rintro e w1 ⟨rfl, rfl⟩))
    go_ret
    exact ⟨rfl, by (repeat (first | exact Kept.refl _ | assumption | refine Kept.alloc ?_ _ | refine Kept.ext ?_ _ | refine Kept.drew ?_ | refine Kept.drewN ?_ _))⟩
theorem splus_any (a0 a1 a2 k b0 b1 b2 : Int) (w : World) (ha : (-1099511627776 ≤ a0 ∧ a0 ≤ 1099511627776) ∧ (-1099511627776 ≤ a1 ∧ a1 ≤ 1099511627776) ∧ (-1099511627776 ≤ a2 ∧ a2 ≤ 1099511627776))
    (hb : (-1099511627776 ≤ k * b0 ∧ k * b0 ≤ 1099511627776) ∧ (-1099511627776 ≤ k * b1 ∧ k * b1 ≤ 1099511627776) ∧ (-1099511627776 ≤ k * b2 ∧ k * b2 ≤ 1099511627776)) :
    Calls Try.prog 74 #[.agg #[.int .i64 a0, .int .i64 a1, .int .i64 a2], .int .i64 k, .agg #[.int .i64 b0, .int .i64 b1, .int .i64 b2]] w fun e w' => e = .returned (.agg #[.int .i64 (a0 + k * b0), .int .i64 (a1 + k * b1), .int .i64 (a2 + k * b2)]) ∧ Kept w w' := by
  obtain ⟨⟨x0, x1⟩, ⟨x2, x3⟩, x4, x5⟩ := ha
  obtain ⟨⟨y0, y1⟩, ⟨y2, y3⟩, y4, y5⟩ := hb
  go_enter Try.func74, Try.ntmps74
  go_wp2
  refine bodyPost_ret (by simp only [results, Try.results74]; go_simp; rfl) rfl ?_
  exact ⟨rfl, by (repeat (first | exact Kept.refl _ | assumption | refine Kept.alloc ?_ _ | refine Kept.ext ?_ _ | refine Kept.drew ?_ | refine Kept.drewN ?_ _))⟩
theorem sminus_any (a0 a1 a2 b0 b1 b2 : Int) (w : World) (h : (-1073741824 ≤ a0 ∧ a0 ≤ 1073741824) ∧ (-1073741824 ≤ a1 ∧ a1 ≤ 1073741824) ∧ (-1073741824 ≤ a2 ∧ a2 ≤ 1073741824) ∧ (-1073741824 ≤ b0 ∧ b0 ≤ 1073741824) ∧ (-1073741824 ≤ b1 ∧ b1 ≤ 1073741824) ∧ (-1073741824 ≤ b2 ∧ b2 ≤ 1073741824)) :
    Calls Try.prog 62 #[.agg #[.int .i64 a0, .int .i64 a1, .int .i64 a2], .agg #[.int .i64 b0, .int .i64 b1, .int .i64 b2]] w fun e w' => e = .returned (.agg #[.int .i64 (a0 - b0), .int .i64 (a1 - b1), .int .i64 (a2 - b2)]) ∧ Kept w w' := by
  go_enter Try.func62, Try.ntmps62
  go_wp2_with (first | (go_at_call 74; refine (splus_any _ _ _ _ _ _ _ _ (by omega) (by omega)).mono ?_; rintro e w1 ⟨rfl, x, rfl⟩))
  refine bodyPost_ret (by simp only [results, Try.results62]; go_simp; rfl) rfl ?_
  exact ⟨ret_agg3 (by omega) (by omega) (by omega), by (repeat (first | exact Kept.refl _ | assumption | refine Kept.alloc ?_ _ | refine Kept.ext ?_ _ | refine Kept.drew ?_ | refine Kept.drewN ?_ _))⟩
theorem scross_any (a0 a1 a2 b0 b1 b2 : Int) (w : World) (h : (-1048576 ≤ a0 ∧ a0 ≤ 1048576) ∧ (-1048576 ≤ a1 ∧ a1 ≤ 1048576) ∧ (-1048576 ≤ a2 ∧ a2 ≤ 1048576) ∧ (-1048576 ≤ b0 ∧ b0 ≤ 1048576) ∧ (-1048576 ≤ b1 ∧ b1 ≤ 1048576) ∧ (-1048576 ≤ b2 ∧ b2 ≤ 1048576)) :
    Calls Try.prog 61 #[.agg #[.int .i64 a0, .int .i64 a1, .int .i64 a2], .agg #[.int .i64 b0, .int .i64 b1, .int .i64 b2]] w fun e w' => e = .returned (.agg #[.int .i64 (a1 * b2 - a2 * b1), .int .i64 (a2 * b0 - a0 * b2), .int .i64 (a0 * b1 - a1 * b0)]) ∧ Kept w w' := by
  obtain ⟨x0, x1, x2, y0, y1, y2⟩ := h
  have m0 := mul_sq 1048576 1099511627776 x1 y2 rfl
  have m1 := mul_sq 1048576 1099511627776 x2 y1 rfl
  have m2 := mul_sq 1048576 1099511627776 x2 y0 rfl
  have m3 := mul_sq 1048576 1099511627776 x0 y2 rfl
  have m4 := mul_sq 1048576 1099511627776 x0 y1 rfl
  have m5 := mul_sq 1048576 1099511627776 x1 y0 rfl
  go_enter Try.func61, Try.ntmps61
  go_wp2
  refine bodyPost_ret (by simp only [results, Try.results61]; go_simp; rfl) rfl ?_
  exact ⟨rfl, by (repeat (first | exact Kept.refl _ | assumption | refine Kept.alloc ?_ _ | refine Kept.ext ?_ _ | refine Kept.drew ?_ | refine Kept.drewN ?_ _))⟩
/-- The normal of a panel. -/
def nX (p0 p1 p2 p3 p4 p5 p6 p7 p8 : Int) : Int := (p4 - p1) * (p8 - p2) - (p5 - p2) * (p7 - p1)
def nY (p0 p1 p2 p3 p4 p5 p6 p7 p8 : Int) : Int := (p5 - p2) * (p6 - p0) - (p3 - p0) * (p8 - p2)
def nZ (p0 p1 p2 p3 p4 p5 p6 p7 p8 : Int) : Int := (p3 - p0) * (p7 - p1) - (p4 - p1) * (p6 - p0)
set_option maxHeartbeats 1000000 in
theorem snormal_any (p0 p1 p2 p3 p4 p5 p6 p7 p8 : Int) (w : World) (h : (-262144 ≤ p0 ∧ p0 ≤ 262144) ∧ (-262144 ≤ p1 ∧ p1 ≤ 262144) ∧ (-262144 ≤ p2 ∧ p2 ≤ 262144) ∧ (-262144 ≤ p3 ∧ p3 ≤ 262144) ∧ (-262144 ≤ p4 ∧ p4 ≤ 262144) ∧ (-262144 ≤ p5 ∧ p5 ≤ 262144) ∧ (-262144 ≤ p6 ∧ p6 ≤ 262144) ∧ (-262144 ≤ p7 ∧ p7 ≤ 262144) ∧ (-262144 ≤ p8 ∧ p8 ≤ 262144)) :
    Calls Try.prog 48 #[.agg #[.int .i64 p0, .int .i64 p1, .int .i64 p2, .int .i64 p3, .int .i64 p4, .int .i64 p5, .int .i64 p6, .int .i64 p7, .int .i64 p8]] w fun e w' => e = .returned (.agg #[.int .i64 (nX p0 p1 p2 p3 p4 p5 p6 p7 p8), .int .i64 (nY p0 p1 p2 p3 p4 p5 p6 p7 p8), .int .i64 (nZ p0 p1 p2 p3 p4 p5 p6 p7 p8)]) ∧ Kept w w' := by
  go_enter Try.func48, Try.ntmps48
  go_wp2
  ((first | (with_reducible refine wp_region_tail2 11 (by kernel_rfl) (by kernel_rfl) ?_) | refine wp_region_tail 11 (by kernel_rfl) (by kernel_rfl) ?_); simp only [List.take_succ_cons, List.take_zero, List.drop_succ_cons, List.drop_zero]; (repeat (go_big_quiet_step (first | (go_at_call 62; exact Calls.kept_of (sminus_any _ _ _ _ _ _ _ (by omega))) | (go_at_call 61; exact Calls.kept_of (scross_any _ _ _ _ _ _ _ (by omega)))))); refine wpQuiet_nil ?_; intro x)
  go_wp2
  refine bodyPost_ret (by simp only [results, Try.results48]; go_simp; rfl) rfl ?_
  exact ⟨rfl, by (repeat (first | exact Kept.refl _ | assumption | refine Kept.alloc ?_ _ | refine Kept.ext ?_ _ | refine Kept.drew ?_ | refine Kept.drewN ?_ _))⟩
/-- The error of a panel. -/
def vpanS (p0 p1 p2 p3 p4 p5 p6 p7 p8 : Int) : Int := if inB p0 p1 p2 64 && inB p3 p4 p5 64 && inB p6 p7 p8 64 then (if nX p0 p1 p2 p3 p4 p5 p6 p7 p8 = 0 ∧ nY p0 p1 p2 p3 p4 p5 p6 p7 p8 = 0 ∧ nZ p0 p1 p2 p3 p4 p5 p6 p7 p8 = 0 then 6 else 0) else 1
set_option maxHeartbeats 1000000 in
theorem svpan_any (p0 p1 p2 p3 p4 p5 p6 p7 p8 : Int) (w : World) :
    Calls Try.prog 33 #[.agg #[.int .i64 p0, .int .i64 p1, .int .i64 p2, .int .i64 p3, .int .i64 p4, .int .i64 p5, .int .i64 p6, .int .i64 p7, .int .i64 p8]] w fun e w' => e = .returned (.int .i64 (vpanS p0 p1 p2 p3 p4 p5 p6 p7 p8)) ∧ Kept w w' := by
  cases h1 : inB p0 p1 p2 64
  · have e : vpanS p0 p1 p2 p3 p4 p5 p6 p7 p8 = 1 := by simp [vpanS, h1]
    rw [e]
    clear e
    go_enter Try.func33, Try.ntmps33
    go_wp2_with (first | (go_at_call 47; refine (inRange_any _ _ _ _ _ (by omega)).mono ?_; rintro e w1 ⟨rfl, x, rfl⟩))
    go_ret
    exact ⟨rfl, by (repeat (first | exact Kept.refl _ | assumption | refine Kept.alloc ?_ _ | refine Kept.ext ?_ _ | refine Kept.drew ?_ | refine Kept.drewN ?_ _))⟩
  cases h2 : inB p3 p4 p5 64
  · have e : vpanS p0 p1 p2 p3 p4 p5 p6 p7 p8 = 1 := by simp [vpanS, h2]
    rw [e]
    clear e
    go_enter Try.func33, Try.ntmps33
    go_wp2_with (first | (go_at_call 47; refine (inRange_any _ _ _ _ _ (by omega)).mono ?_; rintro e w1 ⟨rfl, x, rfl⟩))
    go_ret
    exact ⟨rfl, by (repeat (first | exact Kept.refl _ | assumption | refine Kept.alloc ?_ _ | refine Kept.ext ?_ _ | refine Kept.drew ?_ | refine Kept.drewN ?_ _))⟩
  cases h3 : inB p6 p7 p8 64
  · have e : vpanS p0 p1 p2 p3 p4 p5 p6 p7 p8 = 1 := by simp [vpanS, h3]
    rw [e]
    clear e
    go_enter Try.func33, Try.ntmps33
    go_wp2_with (first | (go_at_call 47; refine (inRange_any _ _ _ _ _ (by omega)).mono ?_; rintro e w1 ⟨rfl, x, rfl⟩))
    go_ret
    exact ⟨rfl, by (repeat (first | exact Kept.refl _ | assumption | refine Kept.alloc ?_ _ | refine Kept.ext ?_ _ | refine Kept.drew ?_ | refine Kept.drewN ?_ _))⟩
  have e : vpanS p0 p1 p2 p3 p4 p5 p6 p7 p8 = if nX p0 p1 p2 p3 p4 p5 p6 p7 p8 = 0 ∧ nY p0 p1 p2 p3 p4 p5 p6 p7 p8 = 0 ∧ nZ p0 p1 p2 p3 p4 p5 p6 p7 p8 = 0 then 6 else 0 := by simp [vpanS, h1, h2, h3]
  rw [e]
  clear e
  have b1 := inB_true h1
  have b2 := inB_true h2
  have b3 := inB_true h3
  go_enter Try.func33, Try.ntmps33
  go_wp2_with (first | (go_at_call 47; refine (inRange_any _ _ _ _ _ (by omega)).mono ?_; rintro e w1 ⟨rfl, x, rfl⟩) | (go_at_call 48; refine (snormal_any _ _ _ _ _ _ _ _ _ _ (by omega)).mono ?_; rintro e w1 ⟨rfl, x, rfl⟩))
  all_goals (go_ret; exact ⟨rfl, by (repeat (first | exact Kept.refl _ | assumption | refine Kept.alloc ?_ _ | refine Kept.ext ?_ _ | refine Kept.drew ?_ | refine Kept.drewN ?_ _))⟩)
end Go.Proofs.Ytodmdicegkjicaa
namespace Go.Proofs.Ytodmdicegkjicaa
set_option linter.unusedVariables false
set_option linter.unusedSimpArgs false
open Go.RowKit
end Go.Proofs.Ytodmdicegkjicaa

namespace Go.Proofs.Ytodmdicegkjicaa
set_option linter.unusedVariables false
set_option linter.unusedSimpArgs false
open Go.RowKit
def wholeB (n : Int) : Bool := decide (-1099511627776 ≤ n ∧ n ≤ 1099511627776)
def validB (lo hi : Int) : Bool := decide (-1099511627776 ≤ lo ∧ lo ≤ hi ∧ hi ≤ 1099511627776)
def resultS (lo hi : Int) : R := if validB lo hi then ⟨lo, hi, 0⟩ else ⟨0, 0, 4⟩
set_option maxHeartbeats 400000 in
theorem whole_any (n : Int) (w : World) :
    Calls Try.prog 37 #[.int .i64 n] w fun e w' => e = .returned (.bool (wholeB n)) ∧ w = w' := by
  go_enter Try.func37, Try.ntmps37
  go_wp2
  all_goals (go_ret; exact ⟨ret_bool (by unfold wholeB; rw [eq_comm]; first | (rw [decide_eq_decide]; omega) | (rw [decide_eq_false_iff_not]; omega)), rfl⟩)
set_option maxHeartbeats 400000 in
theorem valid_any (lo hi : Int) (w : World) :
    Calls Try.prog 26 #[.agg #[.int .i64 lo, .int .i64 hi]] w fun e w' => e = .returned (.bool (validB lo hi)) ∧ Kept w w' := by
  go_enter Try.func26, Try.ntmps26
  go_wp2
  all_goals (go_ret; exact ⟨ret_bool (by rw [eq_comm]; unfold validB; first | (rw [decide_eq_decide]; omega) | (rw [decide_eq_false_iff_not]; omega)), by repeat (first | exact Kept.refl _ | refine Kept.alloc ?_ _)⟩)
set_option maxHeartbeats 400000 in
theorem result_any (lo hi : Int) (w : World) :
    Calls Try.prog 39 #[.int .i64 lo, .int .i64 hi] w fun e w' => e = .returned (.tuple #[.agg #[.int .i64 (resultS lo hi).lo, .int .i64 (resultS lo hi).hi], .int .i64 (resultS lo hi).e]) ∧ Kept w w' := by
  go_enter Try.func39, Try.ntmps39
  go_wp2_with (first | (go_at_call 26; refine (valid_any _ _ _).mono ?_; rintro e w1 ⟨rfl, x, rfl⟩))
  all_goals (refine bodyPost_ret (by simp only [results, Try.results39]; go_simp; rfl) rfl ?_; refine ⟨ret_R3 (by simp_all [resultS]), ?_⟩; (repeat (first | exact Kept.refl _ | assumption | refine Kept.alloc ?_ _ | refine Kept.ext ?_ _ | refine Kept.drew ?_ | refine Kept.drewN ?_ _)))
set_option maxHeartbeats 400000 in
theorem down_any (n d : Int) (w : World) (hn : -4611686018427387904 ≤ n ∧ n ≤ 4611686018427387904) (hd : -4611686018427387904 ≤ d ∧ d ≤ 4611686018427387904) (h0 : d ≠ 0) :
    Calls Try.prog 76 #[.int .i64 n, .int .i64 d] w fun e w' => e = .returned (.int .i64 (n.fdiv d)) ∧ w = w' := by
  have t := tdiv_bd n d hn
  go_enter Try.func76, Try.ntmps76
  go_wp2
  all_goals (go_ret; exact ⟨ret_int (by rw [eq_comm, fdiv_tdiv n d h0]; first | (rw [if_pos (by simp_all)]; done) | (rw [if_neg (by simp_all)]; done)), rfl⟩)
set_option maxHeartbeats 400000 in
theorem up_any (n d : Int) (w : World) (hn : -4611686018427387904 ≤ n ∧ n ≤ 4611686018427387904) (hd : -4611686018427387904 ≤ d ∧ d ≤ 4611686018427387904) (h0 : d ≠ 0) :
    Calls Try.prog 77 #[.int .i64 n, .int .i64 d] w fun e w' => e = .returned (.int .i64 (-((-n).fdiv d))) ∧ w = w' := by
  have t := fdiv_bd (-n) d (m := 4611686018427387904) h0 (by omega)
  go_enter Try.func77, Try.ntmps77
  go_wp2_with (first | (go_at_call 76; refine (down_any _ _ _ (by omega) (by omega) (by omega)).mono ?_; rintro e w1 ⟨rfl, rfl⟩))
  all_goals (go_ret; exact ⟨rfl, rfl⟩)
theorem whole_bd {n : Int} (h : wholeB n = true) : -1099511627776 ≤ n ∧ n ≤ 1099511627776 := of_decide_eq_true h
theorem valid_bd {lo hi : Int} (h : validB lo hi = true) : -1099511627776 ≤ lo ∧ lo ≤ hi ∧ hi ≤ 1099511627776 := of_decide_eq_true h
end Go.Proofs.Ytodmdicegkjicaa

namespace Go.Proofs.Ytodmdicegkjicaa
set_option linter.unusedVariables false
set_option linter.unusedSimpArgs false
open Go.RowKit
/-- A slice of n spans that can be read: its bounds. -/
def SpansAt (w : World) (A : Option Addr) (n : Nat) (lo hi : Nat → Int) : Prop :=
  0 < n → ∃ b off, A = some ⟨b, off, none⟩ ∧ b < w.heap.size ∧ ∀ k, k < n → w.cell? ⟨b, off + k * 2, none⟩ = some (.int .i64 (lo k)) ∧ w.cell? ⟨b, off + k * 2 + 1, none⟩ = some (.int .i64 (hi k))
def allV (n : Nat) (lo hi : Nat → Int) : Bool := (List.range n).all fun k => validB (lo k) (hi k)
theorem allV_zero (lo hi : Nat → Int) : allV 0 lo hi = true := rfl
theorem allV_succ (n : Nat) (lo hi : Nat → Int) : allV (n + 1) lo hi = (allV n lo hi && validB (lo n) (hi n)) := by
  simp [allV, List.range_succ]
theorem allV_false {n k : Nat} {lo hi : Nat → Int} (hk : k < n) (h : validB (lo k) (hi k) = false) : allV n lo hi = false := by
  unfold allV
  rw [List.all_eq_false]
  exact ⟨k, List.mem_range.2 hk, by simp [h]⟩
def errV (n : Nat) (lo hi : Nat → Int) : Int := if allV n lo hi then 0 else 1
set_option maxHeartbeats 400000 in
theorem check_any (A : Option Addr) (n cap : Nat) (lo hi : Nat → Int) (w : World) (hn : n ≤ 140737488351232) (h : SpansAt w A n lo hi) :
    Calls Try.prog 27 #[.slice A n cap] w fun e w' => e = .returned (.int .i64 (errV n lo hi)) ∧ Kept w w' := by
  rcases Nat.eq_zero_or_pos n with rfl | h0
  · go_enter Try.func27, Try.ntmps27
    go_wp2
    go_loopw [7] (fun i wr => i = .int .i64 0 ∧ wr = w) (fun _ _ => 0)
    case atStart => exact ⟨rfl, rfl⟩
    case round =>
      obtain ⟨rfl, rfl⟩ := hrel
      go_wp2
      go_ret
      exact ⟨rfl, Kept.refl _⟩
  · obtain ⟨b, off, rfl, hb, hcell⟩ := h h0
    have LB : Lower b w.heap.size := ⟨hb⟩
    go_enter Try.func27, Try.ntmps27
    go_wp2
    go_loopw [7] (fun i wr => ∃ k : Nat, k ≤ n ∧ i = .int .i64 k ∧ allV k lo hi = true ∧ ∃ x, wr = ext w x) (fun i _ => n - (intOf i).toNat)
    case atStart => exact ⟨0, Nat.zero_le _, rfl, rfl, (Kept.refl _)⟩
    case round =>
      obtain ⟨k, hk, rfl, hv, x, rfl⟩ := hrel
      by_cases hlt : k < n
      · obtain ⟨c0, c1⟩ := hcell k hlt
        cases hvk : validB (lo k) (hi k)
        · go_wp2_with (first | (go_at_call 26; refine (valid_any _ _ _).mono ?_; rintro e w1 ⟨rfl, x, rfl⟩))
          go_ret
          exact ⟨ret_int (by rw [errV, allV_false hlt hvk]; rfl), by (repeat (first | exact Kept.refl _ | assumption | refine Kept.alloc ?_ _ | refine Kept.ext ?_ _ | refine Kept.drew ?_ | refine Kept.drewN ?_ _))⟩
        · go_wp2_with (first | (go_at_call 26; refine (valid_any _ _ _).mono ?_; rintro e w1 ⟨rfl, x, rfl⟩))
          go_roundw
          case rel => exact ⟨k + 1, by omega, by go_num, by rw [allV_succ, hv, hvk]; rfl, show Kept w _ by (repeat (first | exact Kept.refl _ | assumption | refine Kept.alloc ?_ _ | refine Kept.ext ?_ _ | refine Kept.drew ?_ | refine Kept.drewN ?_ _))⟩
          case measure => simp [intOf]; omega
      · obtain rfl : k = n := by omega
        go_wp2_with (first | (go_at_call 26; refine (valid_any _ _ _).mono ?_; rintro e w1 ⟨rfl, x, rfl⟩))
        go_ret
        exact ⟨ret_int (by rw [errV, hv]; rfl), by (repeat (first | exact Kept.refl _ | assumption | refine Kept.alloc ?_ _ | refine Kept.ext ?_ _ | refine Kept.drew ?_ | refine Kept.drewN ?_ _))⟩
/-- Of one span and of two. -/
def pick2 (a b : Int) : Nat → Int := fun k => if k = 0 then a else b
theorem check1_any (al ah : Int) (n : Nat) (w : World) (hn : n = w.heap.size) :
    Calls Try.prog 27 #[.slice (some ⟨n, 0, none⟩) 1 1] (w.alloc (.cells #[.int .i64 al, .int .i64 ah] 39)) fun e w' => e = .returned (.int .i64 (if validB al ah then 0 else 1)) ∧ Kept (w.alloc (.cells #[.int .i64 al, .int .i64 ah] 39)) w' := by
  subst hn
  have e : errV 1 (fun _ => al) (fun _ => ah) = if validB al ah then 0 else 1 := by simp [errV, allV, List.range_succ]
  rw [← e]
  refine check_any _ 1 1 _ _ _ (by omega) fun _ => ⟨_, 0, rfl, by simp, fun k hk => ?_⟩
  obtain rfl : k = 0 := by omega
  simp
theorem check2_any (al ah bl bh : Int) (n : Nat) (w : World) (hn : n = w.heap.size) :
    Calls Try.prog 27 #[.slice (some ⟨n, 0, none⟩) 2 2] (w.alloc (.cells #[.int .i64 al, .int .i64 ah, .int .i64 bl, .int .i64 bh] 39)) fun e w' => e = .returned (.int .i64 (if validB al ah && validB bl bh then 0 else 1)) ∧ Kept (w.alloc (.cells #[.int .i64 al, .int .i64 ah, .int .i64 bl, .int .i64 bh] 39)) w' := by
  subst hn
  have e : errV 2 (pick2 al bl) (pick2 ah bh) = if validB al ah && validB bl bh then 0 else 1 := by simp [errV, allV, List.range_succ, pick2]
  rw [← e]
  refine check_any _ 2 2 _ _ _ (by omega) fun _ => ⟨_, 0, rfl, by simp, fun k hk => ?_⟩
  rcases (show k = 0 ∨ k = 1 by omega) with rfl | rfl <;> simp [pick2]
end Go.Proofs.Ytodmdicegkjicaa

namespace Go.Proofs.Ytodmdicegkjicaa
set_option linter.unusedVariables false
set_option linter.unusedSimpArgs false
open Go.ChangeShapes Go.WideShapes Go.ChangeAt Go.RowKit
def sqrtN : Nat → Nat
  | 0 => 0
  | n + 1 => if (sqrtN n + 1) * (sqrtN n + 1) ≤ n + 1 then sqrtN n + 1 else sqrtN n
theorem sqrtN_spec (n : Nat) : sqrtN n * sqrtN n ≤ n ∧ n < (sqrtN n + 1) * (sqrtN n + 1) := by
  induction n with
  | zero => simp [sqrtN]
  | succ n ih =>
    obtain ⟨h1, h2⟩ := ih
    unfold sqrtN
    split
    · rename_i h
      refine ⟨h, ?_⟩
      have : (sqrtN n + 1 + 1) * (sqrtN n + 1 + 1) = (sqrtN n + 1) * (sqrtN n + 1) + 2 * (sqrtN n + 1) + 1 := by
        rw [Nat.add_mul, Nat.mul_add]; omega
      omega
    · omega
/-- The greatest number whose square is at most n. -/
def sqrtS (n : Int) : Int := sqrtN n.toNat
theorem sqrtS_spec {n : Int} (h : 0 ≤ n) : 0 ≤ sqrtS n ∧ sqrtS n * sqrtS n ≤ n ∧ n < (sqrtS n + 1) * (sqrtS n + 1) := by
  have := sqrtN_spec n.toNat
  unfold sqrtS
  refine ⟨by omega, ?_, ?_⟩
  · have := this.1
    have e : ((sqrtN n.toNat * sqrtN n.toNat : Nat) : Int) = (sqrtN n.toNat : Int) * (sqrtN n.toNat : Int) := by simp
    omega
  · have := this.2
    have e : (((sqrtN n.toNat + 1) * (sqrtN n.toNat + 1) : Nat) : Int) = ((sqrtN n.toNat : Int) + 1) * ((sqrtN n.toNat : Int) + 1) := by simp
    omega
theorem sq_le_sq {a b : Int} (h0 : 0 ≤ a) (h : a ≤ b) : a * a ≤ b * b := Int.mul_le_mul h h h0 (by omega)
theorem of_sq_lt {a b : Int} (h0 : 0 ≤ b) (h : a * a < b * b) : a < b := by
  apply Classical.byContradiction
  intro k
  have := sq_le_sq h0 (show b ≤ a by omega)
  omega
theorem of_sq_le {a b : Int} (h0 : 0 ≤ b) (h : a * a ≤ b * b) : a ≤ b := by
  apply Classical.byContradiction
  intro k
  have h1 := sq_le_sq (show 0 ≤ b + 1 by omega) (show b + 1 ≤ a by omega)
  have h2 : (b + 1) * (b + 1) = b * b + b + b + 1 := by rw [Int.add_mul, Int.mul_add]; omega
  omega
theorem sqrtS_unique {n k : Int} (h0 : 0 ≤ k) (h1 : k * k ≤ n) (h2 : n < (k + 1) * (k + 1)) : k = sqrtS n := by
  have hn : 0 ≤ n := Int.le_trans (Int.mul_nonneg h0 h0) h1
  obtain ⟨s0, s1, s2⟩ := sqrtS_spec hn
  have a := of_sq_lt (show 0 ≤ sqrtS n + 1 by omega) (show k * k < _ by omega)
  have b := of_sq_lt (show 0 ≤ k + 1 by omega) (show sqrtS n * sqrtS n < _ by omega)
  omega
def powS (m : Nat) : Int := ((2 ^ m : Nat) : Int)
/-- The bit that is tried when m bits are left. -/
def bitAt : Nat → Int
  | 0 => 0
  | m + 1 => powS m
theorem powS_succ (j : Nat) : powS (j + 1) = 2 * powS j := by unfold powS; rw [Nat.pow_succ]; omega
theorem powS_le {i j : Nat} (h : i ≤ j) : powS i ≤ powS j := by
  have := Nat.pow_le_pow_right (show 0 < 2 by decide) h
  unfold powS; omega
theorem powS_half (j : Nat) : 0 < powS j ∧ powS j / 2 = bitAt j := by
  refine ⟨?_, ?_⟩
  · have := powS_le (Nat.zero_le j)
    have e : powS 0 = 1 := rfl
    omega
  · cases j with
    | zero => rfl
    | succ i =>
      rw [powS_succ]
      show 2 * powS i / 2 = powS i
      omega
/-- What holds when m bits are left to be tried. -/
def RootJ (n : Int) (m : Nat) (k : Int) : Prop := 0 ≤ k ∧ k * k ≤ n ∧ n < (k + powS m) * (k + powS m) ∧ m ≤ 32 ∧ (k = 0 ∨ m ≤ 31)
set_option maxRecDepth 1000000 in
theorem root_any (n : Int) (w : World) (hn : 0 ≤ n ∧ n ≤ 1152921504606846976) :
    Calls Try.prog 71 #[.int .i64 n] w fun e w' => e = .returned (.int .i64 (sqrtS n)) ∧ w = w' := by
  obtain ⟨n0, n1⟩ := hn
  go_enter Try.func71, Try.ntmps71
  go_wp2
  refine wp_scope_jumps 0 (fun a' w' => w' = w ∧ ∃ (m : Nat) (k : Int) (u5 u6 u7 u8 u9 u10 u11 u12 u13 u14 u15 u16 u17 u18 u19 u20 u21 : Value), a' = { tmps := #[.int .i64 n, undef, .int .i64 0, .int .i64 k, .int .i64 (bitAt m), u5, u6, u7, u8, u9, u10, u11, u12, u13, u14, u15, u16, u17, u18, u19, u20, u21], defers := [] } ∧ RootJ n m k) (fun a' _ => (intOf (a'.tmps.getD 4 undef)).toNat) rfl ?_ ?_
  · go_wp2
    go_step3
    go_wp2
    go_step3
    refine ⟨rfl, rfl, 31, 0, _, _, _, _, _, _, _, _, _, _, _, _, _, _, _, _, _, rfl, ?_⟩
    refine ⟨by omega, by omega, ?_, by omega, .inl rfl⟩
    show n < 4611686018427387904
    omega
  · rintro a' w' ⟨rfl, m, k, u5, u6, u7, u8, u9, u10, u11, u12, u13, u14, u15, u16, u17, u18, u19, u20, u21, rfl, h0, h1, h2, h3, h4⟩
    cases m with
    | zero =>
      rw [show bitAt 0 = 0 from rfl]
      go_wp2
      simp only [Exit.jump]
      go_ret
      exact ⟨by rw [← sqrtS_unique h0 h1 h2]; rfl, rfl⟩
    | succ j =>
      have e : bitAt (j + 1) = powS j := rfl
      rw [e]
      rw [powS_succ] at h2
      obtain ⟨p0, p1⟩ := powS_half j
      have k0 : k ≤ 1073741824 := of_sq_le (by decide) (by omega)
      have p2 : powS j ≤ 2147483648 := powS_le (show j ≤ 31 by omega)
      have p3 : k + powS j ≤ 2147483648 := by
        rcases h4 with rfl | h4
        · omega
        · have : powS j ≤ 1073741824 := powS_le (show j ≤ 30 by omega)
          omega
      have hmm := mul_bd 4611686018427387904 (show -2147483648 ≤ k + powS j ∧ k + powS j ≤ 2147483648 by omega) (show -2147483648 ≤ k + powS j ∧ k + powS j ≤ 2147483648 by omega) rfl
      go_wp2
      · rename_i hle
        go_step3
        refine ⟨rfl, ⟨rfl, j, _, _, _, _, _, _, _, _, _, _, _, _, _, _, _, _, _, _, rfl, ?_⟩, ?_⟩
        · refine ⟨by omega, hle, by rw [show k + powS j + powS j = k + 2 * powS j by omega]; exact h2, by omega, .inr (by omega)⟩
        · show (bitAt j).toNat < (powS j).toNat
          omega
      · rename_i hle
        go_step3
        refine ⟨rfl, ⟨rfl, j, _, _, _, _, _, _, _, _, _, _, _, _, _, _, _, _, _, _, rfl, ?_⟩, ?_⟩
        · refine ⟨h0, h1, hle, by omega, .inr (by omega)⟩
        · show (bitAt j).toNat < (powS j).toNat
          omega
/-- The square root, rounded up. -/
def rootUpS (n : Int) : Int := if sqrtS n * sqrtS n < n then sqrtS n + 1 else sqrtS n
end Go.Proofs.Ytodmdicegkjicaa

namespace Go.Proofs.Ytodmdicegkjicaa
set_option linter.unusedVariables false
set_option linter.unusedSimpArgs false
open Go.RowKit
/-- A panel: the coordinates of its corners. -/
structure Pn where
  a0 : Int
  a1 : Int
  a2 : Int
  b0 : Int
  b1 : Int
  b2 : Int
  c0 : Int
  c1 : Int
  c2 : Int
def Pn.s0 (p : Pn) : Pn := ⟨2 * p.a0, 2 * p.a1, 2 * p.a2, p.a0 + p.b0, p.a1 + p.b1, p.a2 + p.b2, p.c0 + p.a0, p.c1 + p.a1, p.c2 + p.a2⟩
def Pn.s1 (p : Pn) : Pn := ⟨p.a0 + p.b0, p.a1 + p.b1, p.a2 + p.b2, 2 * p.b0, 2 * p.b1, 2 * p.b2, p.b0 + p.c0, p.b1 + p.c1, p.b2 + p.c2⟩
def Pn.s2 (p : Pn) : Pn := ⟨p.c0 + p.a0, p.c1 + p.a1, p.c2 + p.a2, p.b0 + p.c0, p.b1 + p.c1, p.b2 + p.c2, 2 * p.c0, 2 * p.c1, 2 * p.c2⟩
def Pn.s3 (p : Pn) : Pn := ⟨p.a0 + p.b0, p.a1 + p.b1, p.a2 + p.b2, p.b0 + p.c0, p.b1 + p.c1, p.b2 + p.c2, p.c0 + p.a0, p.c1 + p.a1, p.c2 + p.a2⟩
/-- The parts of a panel at a depth, in order. -/
def cutL : Nat → Pn → List Pn
  | 0, p => [p]
  | d + 1, p => cutL d p.s0 ++ (cutL d p.s1 ++ (cutL d p.s2 ++ cutL d p.s3))
theorem cutL_len : ∀ d p, (cutL d p).length = 4 ^ d
  | 0, _ => rfl
  | d + 1, p => by
    show (cutL d p.s0 ++ (cutL d p.s1 ++ (cutL d p.s2 ++ cutL d p.s3))).length = 4 ^ (d + 1)
    simp only [List.length_append, cutL_len d]
    rw [Nat.pow_succ]
    omega
def Pn.bd (m : Int) (p : Pn) : Prop := ((-m ≤ p.a0 ∧ p.a0 ≤ m) ∧ (-m ≤ p.a1 ∧ p.a1 ≤ m) ∧ (-m ≤ p.a2 ∧ p.a2 ≤ m)) ∧ ((-m ≤ p.b0 ∧ p.b0 ≤ m) ∧ (-m ≤ p.b1 ∧ p.b1 ≤ m) ∧ (-m ≤ p.b2 ∧ p.b2 ≤ m)) ∧ ((-m ≤ p.c0 ∧ p.c0 ≤ m) ∧ (-m ≤ p.c1 ∧ p.c1 ≤ m) ∧ (-m ≤ p.c2 ∧ p.c2 ≤ m))
theorem Pn.bd_sub {p : Pn} {m : Int} (h : p.bd m) : p.s0.bd (2 * m) ∧ p.s1.bd (2 * m) ∧ p.s2.bd (2 * m) ∧ p.s3.bd (2 * m) := by
  obtain ⟨⟨a, b, c⟩, ⟨d, e, f⟩, g, h, i⟩ := h
  refine ⟨⟨⟨?_, ?_, ?_⟩, ⟨?_, ?_, ?_⟩, ?_, ?_, ?_⟩, ⟨⟨?_, ?_, ?_⟩, ⟨?_, ?_, ?_⟩, ?_, ?_, ?_⟩, ⟨⟨?_, ?_, ?_⟩, ⟨?_, ?_, ?_⟩, ?_, ?_, ?_⟩, ⟨⟨?_, ?_, ?_⟩, ⟨?_, ?_, ?_⟩, ?_, ?_, ?_⟩⟩ <;> simp only [s0, s1, s2, s3] <;> omega
theorem cutL_bd : ∀ (d : Nat) (p : Pn) (m : Int), p.bd m → ∀ x ∈ cutL d p, x.bd ((2 : Int) ^ d * m)
  | 0, p, m, h, x, hx => by
    obtain rfl : x = p := by simpa [cutL] using hx
    simpa using h
  | d + 1, p, m, h, x, hx => by
    obtain ⟨h0, h1, h2, h3⟩ := Pn.bd_sub h
    have e : (2 : Int) ^ (d + 1) * m = 2 ^ d * (2 * m) := by rw [Int.pow_succ, Int.mul_assoc]
    rw [e]
    have hx : x ∈ cutL d p.s0 ++ (cutL d p.s1 ++ (cutL d p.s2 ++ cutL d p.s3)) := hx
    simp only [List.mem_append] at hx
    rcases hx with hx | hx | hx | hx
    · exact cutL_bd d _ _ h0 x hx
    · exact cutL_bd d _ _ h1 x hx
    · exact cutL_bd d _ _ h2 x hx
    · exact cutL_bd d _ _ h3 x hx
/-- The square of a distance. -/
def sq3 (x0 x1 x2 y0 y1 y2 : Int) : Int := (x0 - y0) * (x0 - y0) + (x1 - y1) * (x1 - y1) + (x2 - y2) * (x2 - y2)
theorem sq3_bd {x0 x1 x2 y0 y1 y2 : Int} (hx : (-4096 ≤ x0 ∧ x0 ≤ 4096) ∧ (-4096 ≤ x1 ∧ x1 ≤ 4096) ∧ (-4096 ≤ x2 ∧ x2 ≤ 4096)) (hy : (-4096 ≤ y0 ∧ y0 ≤ 4096) ∧ (-4096 ≤ y1 ∧ y1 ≤ 4096) ∧ (-4096 ≤ y2 ∧ y2 ≤ 4096)) : 0 ≤ sq3 x0 x1 x2 y0 y1 y2 ∧ sq3 x0 x1 x2 y0 y1 y2 ≤ 201326592 := by
  have q : ∀ a b : Int, (-4096 ≤ a ∧ a ≤ 4096) → (-4096 ≤ b ∧ b ≤ 4096) → 0 ≤ (a - b) * (a - b) ∧ (a - b) * (a - b) ≤ 67108864 := fun a b ha hb => by
    have h1 := mul_sq 8192 67108864 (show -8192 ≤ a - b ∧ a - b ≤ 8192 by omega) (show -8192 ≤ a - b ∧ a - b ≤ 8192 by omega) rfl
    refine ⟨?_, h1.2⟩
    rcases Int.le_total 0 (a - b) with h | h
    · exact Int.mul_nonneg h h
    · exact Int.mul_nonneg_of_nonpos_of_nonpos h h
  have q0 := q x0 y0 hx.1 hy.1
  have q1 := q x1 y1 hx.2.1 hy.2.1
  have q2 := q x2 y2 hx.2.2 hy.2.2
  unfold sq3
  omega
/-- The greatest square of a distance of corner i of the first list and the first j corners of the second one. -/
def farJ (P Q : Nat → Nat → Int) (i : Nat) (out : Int) : Nat → Int
  | 0 => out
  | j + 1 => max (farJ P Q i out j) (sq3 (P i 0) (P i 1) (P i 2) (Q j 0) (Q j 1) (Q j 2))
def farI (P Q : Nat → Nat → Int) (m : Nat) : Nat → Int
  | 0 => 0
  | i + 1 => farJ P Q i (farI P Q m i) m
def Near1 (P : Nat → Nat → Int) (n : Nat) : Prop := ∀ i, i < n → (-4096 ≤ P i 0 ∧ P i 0 ≤ 4096) ∧ (-4096 ≤ P i 1 ∧ P i 1 ≤ 4096) ∧ (-4096 ≤ P i 2 ∧ P i 2 ≤ 4096)
theorem farJ_bd {P Q : Nat → Nat → Int} {i m : Nat} {out : Int} (hP : (-4096 ≤ P i 0 ∧ P i 0 ≤ 4096) ∧ (-4096 ≤ P i 1 ∧ P i 1 ≤ 4096) ∧ (-4096 ≤ P i 2 ∧ P i 2 ≤ 4096)) (hQ : Near1 Q m) (ho : 0 ≤ out ∧ out ≤ 201326592) : ∀ j, j ≤ m → 0 ≤ farJ P Q i out j ∧ farJ P Q i out j ≤ 201326592
  | 0, _ => ho
  | j + 1, hj => by
    have h1 := farJ_bd hP hQ ho j (by omega)
    have h2 := sq3_bd hP (hQ j (by omega))
    unfold farJ
    omega
theorem farI_bd {P Q : Nat → Nat → Int} {n m : Nat} (hP : Near1 P n) (hQ : Near1 Q m) : ∀ i, i ≤ n → 0 ≤ farI P Q m i ∧ farI P Q m i ≤ 201326592
  | 0, _ => by simp [farI]
  | i + 1, hi => farJ_bd (hP i (by omega)) hQ (farI_bd hP hQ i (by omega)) m (Nat.le_refl _)
/-- The box of points. -/
def loB (P : Nat → Nat → Int) (c : Nat) : Nat → Int
  | 0 => P 0 c
  | k + 1 => min (loB P c k) (P k c)
def hiB (P : Nat → Nat → Int) (c : Nat) : Nat → Int
  | 0 => P 0 c
  | k + 1 => max (hiB P c k) (P k c)
def gapS (a b c d : Int) : Int := max (max 0 (c - b)) (a - d)
def nearP (P : Nat → Nat → Int) (n : Nat) (Q : Nat → Nat → Int) (m : Nat) : Int :=
  gapS (loB P 0 n) (hiB P 0 n) (loB Q 0 m) (hiB Q 0 m) * gapS (loB P 0 n) (hiB P 0 n) (loB Q 0 m) (hiB Q 0 m) + gapS (loB P 1 n) (hiB P 1 n) (loB Q 1 m) (hiB Q 1 m) * gapS (loB P 1 n) (hiB P 1 n) (loB Q 1 m) (hiB Q 1 m) + gapS (loB P 2 n) (hiB P 2 n) (loB Q 2 m) (hiB Q 2 m) * gapS (loB P 2 n) (hiB P 2 n) (loB Q 2 m) (hiB Q 2 m)
theorem loB_bd {P : Nat → Nat → Int} {n c : Nat} {t : Int} (hn : 0 < n) (h : ∀ i, i < n → -t ≤ P i c ∧ P i c ≤ t) : ∀ k, k ≤ n → (-t ≤ loB P c k ∧ loB P c k ≤ t) ∧ (-t ≤ hiB P c k ∧ hiB P c k ≤ t)
  | 0, _ => ⟨h 0 hn, h 0 hn⟩
  | k + 1, hk => by
    have h1 := loB_bd hn h k (by omega)
    have h2 := h k (by omega)
    unfold loB hiB
    omega
theorem gapS_bd {a b c d : Int} (h : ((-4096 ≤ a ∧ a ≤ 4096) ∧ (-4096 ≤ b ∧ b ≤ 4096)) ∧ ((-4096 ≤ c ∧ c ≤ 4096) ∧ (-4096 ≤ d ∧ d ≤ 4096))) : 0 ≤ gapS a b c d ∧ gapS a b c d ≤ 8192 := by
  unfold gapS
  omega
end Go.Proofs.Ytodmdicegkjicaa

