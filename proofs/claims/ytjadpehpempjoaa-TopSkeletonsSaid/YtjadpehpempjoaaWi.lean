/- Contracts: products and differences of 128 bits with a sign, their quotient. Conditions: those of each theorem. -/
import Derived.Test.YtjadpehpempjoaaDv
import Derived.Test.YtjadpehpempjoaaMem
namespace Go.Proofs.Ytjadpehpempjoaa
set_option linter.unusedVariables false
set_option linter.unusedSimpArgs false
open Go.RowKit
/-- A wide number: its size and its sign. -/
def wv (X : Nat) (s : Bool) : Value := .agg #[.int .u64 ((X / 18446744073709551616 : Nat) : Int), .int .u64 ((X % 18446744073709551616 : Nat) : Int), .bool s]
theorem wproduct_any (a b : Int) (w : World) (ha : -4611686018427387904 ≤ a ∧ a ≤ 4611686018427387904) (hb : -4611686018427387904 ≤ b ∧ b ≤ 4611686018427387904) :
    Calls Try.prog 34 #[.int .i64 a, .int .i64 b] w fun e w' => e = .returned (wv (a.natAbs * b.natAbs) (!(decide (a < 0) == decide (b < 0)))) ∧ Kept w w' := by
  have ea : max a (-a) = (a.natAbs : Int) := by omega
  have eb : max b (-b) = (b.natAbs : Int) := by omega
  have na : a.natAbs < 9223372036854775808 := by omega
  have nb : b.natAbs < 9223372036854775808 := by omega
  obtain ⟨A, hA⟩ : ∃ A, a.natAbs = A := ⟨_, rfl⟩
  obtain ⟨B, hB⟩ : ∃ B, b.natAbs = B := ⟨_, rfl⟩
  rw [hA] at ea na
  rw [hB] at eb nb
  rw [hA, hB]
  go_enter Try.func34, Try.ntmps34
  go_wp2_with (go_at_call 39; refine (wmul64_any A B _ (by omega) (by omega)).mono ?_; rintro e w1 ⟨rfl, rfl⟩)
  refine bodyPost_ret (by simp only [results, Try.results34]; go_simp; rfl) rfl ?_
  exact ⟨rfl, by (repeat (first | exact Kept.refl _ | assumption | refine Kept.alloc ?_ _ | refine Kept.ext ?_ _ | refine Kept.drew ?_ | refine Kept.drewN ?_ _))⟩
theorem wv_eq {a b : Int} {Z : Nat} (s : Bool) (h : a * 18446744073709551616 + b = Z) (hb : 0 ≤ b ∧ b < 18446744073709551616) : Ending.returned (.agg #[.int .u64 a, .int .u64 b, .bool s]) = Ending.returned (wv Z s) := by
  unfold wv
  rw [show a = ((Z / 18446744073709551616 : Nat) : Int) by omega, show b = ((Z % 18446744073709551616 : Nat) : Int) by omega]
set_option maxHeartbeats 8000000 in
set_option maxRecDepth 100000 in
theorem wminus_any (X Y : Nat) (s t : Bool) (w : World) (h : X < 85070591730234615865843651857942052864 ∧ Y < 85070591730234615865843651857942052864) :
    Calls Try.prog 35 #[wv X s, wv Y t] w fun e w' => e = .returned (if (s != t) = true then wv (X + Y) s else if X < Y then wv (Y - X) (!s) else wv (X - Y) s) ∧ Kept w w' := by
  unfold wv
  have x1 : X / 18446744073709551616 < 4611686018427387904 := by omega
  have y1 : Y / 18446744073709551616 < 4611686018427387904 := by omega
  have x0 : X % 18446744073709551616 < 18446744073709551616 := by omega
  have y0 : Y % 18446744073709551616 < 18446744073709551616 := by omega
  have ex : X = X / 18446744073709551616 * 18446744073709551616 + X % 18446744073709551616 := by omega
  have ey : Y = Y / 18446744073709551616 * 18446744073709551616 + Y % 18446744073709551616 := by omega
  generalize X / 18446744073709551616 = xh at *
  generalize Y / 18446744073709551616 = yh at *
  generalize X % 18446744073709551616 = xl at *
  generalize Y % 18446744073709551616 = yl at *
  have k0 : 0 ≤ ((xl : Int) + yl) / 18446744073709551616 := by omega
  have k1 : ((xl : Int) + yl) / 18446744073709551616 ≤ 1 := by omega
  have EX := Lib.hid ex
  have EY := Lib.hid ey
  clear ex ey h
  have z0 : 0 ≤ bor (xl : Int) yl ∧ bor (xl : Int) yl ≤ 1 := by unfold bor; split <;> omega
  have z1 : 0 ≤ bor (yl : Int) xl ∧ bor (yl : Int) xl ≤ 1 := by unfold bor; split <;> omega
  cases s <;> cases t
  case false.false =>
    rcases (show xh < yh ∨ (xh = yh ∧ xl < yl) ∨ (xh = yh ∧ ¬ xl < yl) ∨ yh < xh by omega) with hc | ⟨rfl, hc⟩ | ⟨rfl, hc⟩ | hc
    · have ex := EX.out
      have ey := EY.out
      have hXY : X < Y := by omega
      rw [if_neg (by simp), if_pos hXY]
      clear ex ey hXY
      have f1 : decide ((xh : Int) < yh) = true := decide_eq_true (by omega)
      go_enter Try.func35, Try.ntmps35
      go_wp2_with (first | simp only [sub64_0 (yl : Int) xl (by omega) (by omega) (by omega)] | simp only [sub64_run (yh : Int) xh _ (by omega) (by omega) (by omega) z1.1 z1.2])
      refine bodyPost_ret (by simp only [results, Try.results35]; go_simp; rfl) rfl ?_
      refine ⟨?_, by (repeat (first | exact Kept.refl _ | assumption | refine Kept.alloc ?_ _ | refine Kept.ext ?_ _ | refine Kept.drew ?_ | refine Kept.drewN ?_ _))⟩
      have ex := EX.out
      have ey := EY.out
      exact wv_eq true (by unfold bor; split <;> omega) (by omega)
    · have ex := EX.out
      have ey := EY.out
      have hXY : X < Y := by omega
      rw [if_neg (by simp), if_pos hXY]
      clear ex ey hXY
      have f1 : decide ((xl : Int) < yl) = true := decide_eq_true (by omega)
      go_enter Try.func35, Try.ntmps35
      go_wp2_with (first | simp only [sub64_0 (yl : Int) xl (by omega) (by omega) (by omega)] | simp only [sub64_run (xh : Int) xh _ (by omega) (by omega) (by omega) z1.1 z1.2])
      refine bodyPost_ret (by simp only [results, Try.results35]; go_simp; rfl) rfl ?_
      refine ⟨?_, by (repeat (first | exact Kept.refl _ | assumption | refine Kept.alloc ?_ _ | refine Kept.ext ?_ _ | refine Kept.drew ?_ | refine Kept.drewN ?_ _))⟩
      have ex := EX.out
      have ey := EY.out
      exact wv_eq true (by unfold bor; split <;> omega) (by omega)
    · have ex := EX.out
      have ey := EY.out
      have hXY : ¬ X < Y := by omega
      rw [if_neg (by simp), if_neg hXY]
      clear ex ey hXY
      have f1 : decide ((xl : Int) < yl) = false := decide_eq_false (by omega)
      go_enter Try.func35, Try.ntmps35
      go_wp2_with (first | simp only [sub64_0 (xl : Int) yl (by omega) (by omega) (by omega)] | simp only [sub64_run (xh : Int) xh _ (by omega) (by omega) (by omega) z0.1 z0.2])
      refine bodyPost_ret (by simp only [results, Try.results35]; go_simp; rfl) rfl ?_
      refine ⟨?_, by (repeat (first | exact Kept.refl _ | assumption | refine Kept.alloc ?_ _ | refine Kept.ext ?_ _ | refine Kept.drew ?_ | refine Kept.drewN ?_ _))⟩
      have ex := EX.out
      have ey := EY.out
      exact wv_eq false (by unfold bor; split <;> omega) (by omega)
    · have ex := EX.out
      have ey := EY.out
      have hXY : ¬ X < Y := by omega
      rw [if_neg (by simp), if_neg hXY]
      clear ex ey hXY
      have f1 : decide ((xh : Int) < yh) = false := decide_eq_false (by omega)
      have f2 : ((xh : Int) == yh) = false := beq_eq_false_iff_ne.2 (by omega)
      go_enter Try.func35, Try.ntmps35
      go_wp2_with (first | simp only [sub64_0 (xl : Int) yl (by omega) (by omega) (by omega)] | simp only [sub64_run (xh : Int) yh _ (by omega) (by omega) (by omega) z0.1 z0.2])
      refine bodyPost_ret (by simp only [results, Try.results35]; go_simp; rfl) rfl ?_
      refine ⟨?_, by (repeat (first | exact Kept.refl _ | assumption | refine Kept.alloc ?_ _ | refine Kept.ext ?_ _ | refine Kept.drew ?_ | refine Kept.drewN ?_ _))⟩
      have ex := EX.out
      have ey := EY.out
      exact wv_eq false (by unfold bor; split <;> omega) (by omega)
  case false.true =>
    go_enter Try.func35, Try.ntmps35
    go_wp2_with (first | simp only [add64_0 (xl : Int) yl (by omega) (by omega)] | simp only [add64_run (xh : Int) yh _ (by omega) (by omega) k0 k1])
    refine bodyPost_ret (by simp only [results, Try.results35]; go_simp; rfl) rfl ?_
    refine ⟨?_, by (repeat (first | exact Kept.refl _ | assumption | refine Kept.alloc ?_ _ | refine Kept.ext ?_ _ | refine Kept.drew ?_ | refine Kept.drewN ?_ _))⟩
    have ex := EX.out
    have ey := EY.out
    exact wv_eq false (by omega) (by omega)
  case true.false =>
    go_enter Try.func35, Try.ntmps35
    go_wp2_with (first | simp only [add64_0 (xl : Int) yl (by omega) (by omega)] | simp only [add64_run (xh : Int) yh _ (by omega) (by omega) k0 k1])
    refine bodyPost_ret (by simp only [results, Try.results35]; go_simp; rfl) rfl ?_
    refine ⟨?_, by (repeat (first | exact Kept.refl _ | assumption | refine Kept.alloc ?_ _ | refine Kept.ext ?_ _ | refine Kept.drew ?_ | refine Kept.drewN ?_ _))⟩
    have ex := EX.out
    have ey := EY.out
    exact wv_eq true (by omega) (by omega)
  case true.true =>
    rcases (show xh < yh ∨ (xh = yh ∧ xl < yl) ∨ (xh = yh ∧ ¬ xl < yl) ∨ yh < xh by omega) with hc | ⟨rfl, hc⟩ | ⟨rfl, hc⟩ | hc
    · have ex := EX.out
      have ey := EY.out
      have hXY : X < Y := by omega
      rw [if_neg (by simp), if_pos hXY]
      clear ex ey hXY
      have f1 : decide ((xh : Int) < yh) = true := decide_eq_true (by omega)
      go_enter Try.func35, Try.ntmps35
      go_wp2_with (first | simp only [sub64_0 (yl : Int) xl (by omega) (by omega) (by omega)] | simp only [sub64_run (yh : Int) xh _ (by omega) (by omega) (by omega) z1.1 z1.2])
      refine bodyPost_ret (by simp only [results, Try.results35]; go_simp; rfl) rfl ?_
      refine ⟨?_, by (repeat (first | exact Kept.refl _ | assumption | refine Kept.alloc ?_ _ | refine Kept.ext ?_ _ | refine Kept.drew ?_ | refine Kept.drewN ?_ _))⟩
      have ex := EX.out
      have ey := EY.out
      exact wv_eq false (by unfold bor; split <;> omega) (by omega)
    · have ex := EX.out
      have ey := EY.out
      have hXY : X < Y := by omega
      rw [if_neg (by simp), if_pos hXY]
      clear ex ey hXY
      have f1 : decide ((xl : Int) < yl) = true := decide_eq_true (by omega)
      go_enter Try.func35, Try.ntmps35
      go_wp2_with (first | simp only [sub64_0 (yl : Int) xl (by omega) (by omega) (by omega)] | simp only [sub64_run (xh : Int) xh _ (by omega) (by omega) (by omega) z1.1 z1.2])
      refine bodyPost_ret (by simp only [results, Try.results35]; go_simp; rfl) rfl ?_
      refine ⟨?_, by (repeat (first | exact Kept.refl _ | assumption | refine Kept.alloc ?_ _ | refine Kept.ext ?_ _ | refine Kept.drew ?_ | refine Kept.drewN ?_ _))⟩
      have ex := EX.out
      have ey := EY.out
      exact wv_eq false (by unfold bor; split <;> omega) (by omega)
    · have ex := EX.out
      have ey := EY.out
      have hXY : ¬ X < Y := by omega
      rw [if_neg (by simp), if_neg hXY]
      clear ex ey hXY
      have f1 : decide ((xl : Int) < yl) = false := decide_eq_false (by omega)
      go_enter Try.func35, Try.ntmps35
      go_wp2_with (first | simp only [sub64_0 (xl : Int) yl (by omega) (by omega) (by omega)] | simp only [sub64_run (xh : Int) xh _ (by omega) (by omega) (by omega) z0.1 z0.2])
      refine bodyPost_ret (by simp only [results, Try.results35]; go_simp; rfl) rfl ?_
      refine ⟨?_, by (repeat (first | exact Kept.refl _ | assumption | refine Kept.alloc ?_ _ | refine Kept.ext ?_ _ | refine Kept.drew ?_ | refine Kept.drewN ?_ _))⟩
      have ex := EX.out
      have ey := EY.out
      exact wv_eq true (by unfold bor; split <;> omega) (by omega)
    · have ex := EX.out
      have ey := EY.out
      have hXY : ¬ X < Y := by omega
      rw [if_neg (by simp), if_neg hXY]
      clear ex ey hXY
      have f1 : decide ((xh : Int) < yh) = false := decide_eq_false (by omega)
      have f2 : ((xh : Int) == yh) = false := beq_eq_false_iff_ne.2 (by omega)
      go_enter Try.func35, Try.ntmps35
      go_wp2_with (first | simp only [sub64_0 (xl : Int) yl (by omega) (by omega) (by omega)] | simp only [sub64_run (xh : Int) yh _ (by omega) (by omega) (by omega) z0.1 z0.2])
      refine bodyPost_ret (by simp only [results, Try.results35]; go_simp; rfl) rfl ?_
      refine ⟨?_, by (repeat (first | exact Kept.refl _ | assumption | refine Kept.alloc ?_ _ | refine Kept.ext ?_ _ | refine Kept.drew ?_ | refine Kept.drewN ?_ _))⟩
      have ex := EX.out
      have ey := EY.out
      exact wv_eq true (by unfold bor; split <;> omega) (by omega)
end Go.Proofs.Ytjadpehpempjoaa
