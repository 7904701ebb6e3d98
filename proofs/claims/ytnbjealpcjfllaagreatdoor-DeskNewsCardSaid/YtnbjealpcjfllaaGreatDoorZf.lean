/- Contracts: vectors, sums and roots of package field. Conditions: bounds on numbers. Contracts: the scalar product and the square root of package field. Conditions: bounds on numbers. Contract: the rim of a panel, of the program. Conditions: bounds on numbers; the panel is not flat. Ranges over a function: what a round keeps that stores into two boxes of its own. Conditions: those of each theorem. Contract: the parts of a panel, of the program, as an iterator. Conditions: bounds on numbers; what the rounds keep. Contract: the parts of a panel, of the program, as an iterator, and what rounds keep. Conditions: bounds on numbers. -/
import Derived.Test.YtnbjealpcjfllaaGreatDoorZe
import Derived.Test.YtnbjealpcjfllaaGreatDoorOpr
import Derived.Test.YtnbjealpcjfllaaGreatDoorMef
import Derived.Deep.DeepCutAuto
import Derived.Deep.RegionHeld3
import Derived.RangeFuncNested
import Derived.RangeFuncBound
import Derived.RangeFuncCalls
import Derived.RangeFuncLeaves
import Derived.RangeFuncFrom
import Derived.Test.YtnbjealpcjfllaaGreatDoorGrc
import Derived.Shelf.Abstract
import Derived.Shelf.RegionOpen
import Derived.WalkKit
import Derived.OwnWalkIn
import Derived.TacticsInMore
import Derived.LoopNIn
import Derived.LoopIn
import Derived.Laws.EntriesVeiled
namespace Go.Proofs.YtnbjealpcjfllaaGreatDoor
set_option linter.unusedVariables false
set_option linter.unusedSimpArgs false
open Go.RowKit
theorem ftimes_any (a0 a1 a2 k : Int) (w : World) (h : (-1099511627776 ≤ k * a0 ∧ k * a0 ≤ 1099511627776) ∧ (-1099511627776 ≤ k * a1 ∧ k * a1 ≤ 1099511627776) ∧ (-1099511627776 ≤ k * a2 ∧ k * a2 ≤ 1099511627776)) :
    Calls Tryz.prog 257 #[.agg #[.int .i64 a0, .int .i64 a1, .int .i64 a2], .int .i64 k] w fun e w' => e = .returned (.agg #[.int .i64 (k * a0), .int .i64 (k * a1), .int .i64 (k * a2)]) ∧ Kept w w' := by
  obtain ⟨⟨h0, h1⟩, ⟨h2, h3⟩, h4, h5⟩ := h
  go_enter Tryz.func257, Tryz.ntmps257
  go_wp2
  refine bodyPost_ret (by simp only [results, Tryz.results257]; go_simp; rfl) rfl ?_
  exact ⟨rfl, by (repeat (first | exact Kept.refl _ | assumption | refine Kept.alloc ?_ _ | refine Kept.ext ?_ _ | refine Kept.drew ?_ | refine Kept.drewN ?_ _))⟩
theorem fmid_any (a0 a1 a2 b0 b1 b2 : Int) (w : World) (h : (-1073741824 ≤ a0 ∧ a0 ≤ 1073741824) ∧ (-1073741824 ≤ a1 ∧ a1 ≤ 1073741824) ∧ (-1073741824 ≤ a2 ∧ a2 ≤ 1073741824) ∧ (-1073741824 ≤ b0 ∧ b0 ≤ 1073741824) ∧ (-1073741824 ≤ b1 ∧ b1 ≤ 1073741824) ∧ (-1073741824 ≤ b2 ∧ b2 ≤ 1073741824)) :
    Calls Tryz.prog 296 #[.agg #[.int .i64 a0, .int .i64 a1, .int .i64 a2], .agg #[.int .i64 b0, .int .i64 b1, .int .i64 b2]] w fun e w' => e = .returned (.agg #[.int .i64 (a0 + b0), .int .i64 (a1 + b1), .int .i64 (a2 + b2)]) ∧ Kept w w' := by
  go_enter Tryz.func296, Tryz.ntmps296
  go_wp2
  refine bodyPost_ret (by simp only [results, Tryz.results296]; go_simp; rfl) rfl ?_
  exact ⟨rfl, by (repeat (first | exact Kept.refl _ | assumption | refine Kept.alloc ?_ _ | refine Kept.ext ?_ _ | refine Kept.drew ?_ | refine Kept.drewN ?_ _))⟩
theorem fvec_any (a0 a1 a2 b0 b1 b2 : Int) (w : World) (h : (-1073741824 ≤ a0 ∧ a0 ≤ 1073741824) ∧ (-1073741824 ≤ a1 ∧ a1 ≤ 1073741824) ∧ (-1073741824 ≤ a2 ∧ a2 ≤ 1073741824) ∧ (-1073741824 ≤ b0 ∧ b0 ≤ 1073741824) ∧ (-1073741824 ≤ b1 ∧ b1 ≤ 1073741824) ∧ (-1073741824 ≤ b2 ∧ b2 ≤ 1073741824)) :
    Calls Tryz.prog 316 #[.agg #[.int .i64 a0, .int .i64 a1, .int .i64 a2], .agg #[.int .i64 b0, .int .i64 b1, .int .i64 b2]] w fun e w' => e = .returned (.agg #[.int .i64 (a0 - b0), .int .i64 (a1 - b1), .int .i64 (a2 - b2)]) ∧ Kept w w' := by
  go_enter Tryz.func316, Tryz.ntmps316
  go_wp2
  refine bodyPost_ret (by simp only [results, Tryz.results316]; go_simp; rfl) rfl ?_
  exact ⟨rfl, by (repeat (first | exact Kept.refl _ | assumption | refine Kept.alloc ?_ _ | refine Kept.ext ?_ _ | refine Kept.drew ?_ | refine Kept.drewN ?_ _))⟩
theorem fprod_any (a0 a1 a2 b0 b1 b2 : Int) (w : World) (h : (-1048576 ≤ a0 ∧ a0 ≤ 1048576) ∧ (-1048576 ≤ a1 ∧ a1 ≤ 1048576) ∧ (-1048576 ≤ a2 ∧ a2 ≤ 1048576) ∧ (-1048576 ≤ b0 ∧ b0 ≤ 1048576) ∧ (-1048576 ≤ b1 ∧ b1 ≤ 1048576) ∧ (-1048576 ≤ b2 ∧ b2 ≤ 1048576)) :
    Calls Tryz.prog 315 #[.agg #[.int .i64 a0, .int .i64 a1, .int .i64 a2], .agg #[.int .i64 b0, .int .i64 b1, .int .i64 b2]] w fun e w' => e = .returned (.agg #[.int .i64 (a1 * b2 - a2 * b1), .int .i64 (a2 * b0 - a0 * b2), .int .i64 (a0 * b1 - a1 * b0)]) ∧ Kept w w' := by
  obtain ⟨x0, x1, x2, y0, y1, y2⟩ := h
  have m0 := mul_sq 1048576 1099511627776 x1 y2 rfl
  have m1 := mul_sq 1048576 1099511627776 x2 y1 rfl
  have m2 := mul_sq 1048576 1099511627776 x2 y0 rfl
  have m3 := mul_sq 1048576 1099511627776 x0 y2 rfl
  have m4 := mul_sq 1048576 1099511627776 x0 y1 rfl
  have m5 := mul_sq 1048576 1099511627776 x1 y0 rfl
  go_enter Tryz.func315, Tryz.ntmps315
  go_wp2
  refine bodyPost_ret (by simp only [results, Tryz.results315]; go_simp; rfl) rfl ?_
  exact ⟨rfl, by (repeat (first | exact Kept.refl _ | assumption | refine Kept.alloc ?_ _ | refine Kept.ext ?_ _ | refine Kept.drew ?_ | refine Kept.drewN ?_ _))⟩
theorem fgap_any (a b c d : Int) (w : World) (h : (-1073741824 ≤ a ∧ a ≤ 1073741824) ∧ (-1073741824 ≤ b ∧ b ≤ 1073741824) ∧ (-1073741824 ≤ c ∧ c ≤ 1073741824) ∧ (-1073741824 ≤ d ∧ d ≤ 1073741824)) :
    Calls Tryz.prog 321 #[.int .i64 a, .int .i64 b, .int .i64 c, .int .i64 d] w fun e w' => e = .returned (.int .i64 (gapS a b c d)) ∧ w = w' := by
  go_enter Tryz.func321, Tryz.ntmps321
  go_wp2
  all_goals (go_ret; exact ⟨ret_int (by unfold gapS; omega), rfl⟩)

theorem fwithin2_any (n lo hi : Int) (w : World) :
    Calls Tryz.prog 287 #[.int .i64 n, .int .i64 lo, .int .i64 hi] w fun e w' => e = .returned (.bool (frB n lo hi)) ∧ w = w' := by
  go_enter Tryz.func287, Tryz.ntmps287
  go_wp2
  all_goals (go_ret; exact ⟨ret_bool (by unfold frB; rw [eq_comm]; first | (rw [decide_eq_decide]; omega) | (rw [decide_eq_false_iff_not]; omega)), rfl⟩)
/-- The sum of three numbers in memory. -/
theorem fsum_any (g : Nat) (x y z : Int) (w : World) (h0 : w.cell? ⟨g, 0, none⟩ = some (.int .i64 x)) (h1 : w.cell? ⟨g, 1, none⟩ = some (.int .i64 y)) (h2 : w.cell? ⟨g, 2, none⟩ = some (.int .i64 z)) (hb : (-1099511627776 ≤ x ∧ x ≤ 1099511627776) ∧ (-1099511627776 ≤ y ∧ y ≤ 1099511627776) ∧ (-1099511627776 ≤ z ∧ z ≤ 1099511627776)) :
    Calls Tryz.prog 332 #[.slice (some ⟨g, 0, none⟩) 3 3] w fun e w' => e = .returned (.int .i64 (x + y + z)) ∧ w = w' := by
  go_enter Tryz.func332, Tryz.ntmps332
  go_wp2_with fail
  refine wp_loop_rounds 4 ?_
  rw [rounds_succ]
  go_wp2_with fail
  rw [rounds_succ]
  go_wp2_with fail
  rw [rounds_succ]
  go_wp2_with fail
  rw [rounds_succ]
  go_wp2_with fail
  go_ret
  exact ⟨ret_int (by omega), rfl⟩
end Go.Proofs.YtnbjealpcjfllaaGreatDoor

namespace Go.Proofs.YtnbjealpcjfllaaGreatDoor
set_option linter.unusedVariables false
set_option linter.unusedSimpArgs false
open Go.RowKit
theorem fdot_any (a0 a1 a2 b0 b1 b2 : Int) (w : World) (h : (-1099511627776 ≤ a0 * b0 ∧ a0 * b0 ≤ 1099511627776) ∧ (-1099511627776 ≤ a1 * b1 ∧ a1 * b1 ≤ 1099511627776) ∧ (-1099511627776 ≤ a2 * b2 ∧ a2 * b2 ≤ 1099511627776)) :
    Calls Tryz.prog 318 #[.agg #[.int .i64 a0, .int .i64 a1, .int .i64 a2], .agg #[.int .i64 b0, .int .i64 b1, .int .i64 b2]] w fun e w' => e = .returned (.int .i64 (a0 * b0 + a1 * b1 + a2 * b2)) ∧ Kept w w' := by
  obtain ⟨⟨h0, h1⟩, ⟨h2, h3⟩, h4, h5⟩ := h
  go_enter Tryz.func318, Tryz.ntmps318
  go_wp2_with (go_at_call 332; refine (fsum_any _ _ _ _ _ (by go_simp) (by go_simp) (by go_simp) ⟨⟨h0, h1⟩, ⟨h2, h3⟩, h4, h5⟩).mono ?_; rintro e w1 ⟨rfl, rfl⟩)
  go_ret
  exact ⟨rfl, by (repeat (first | exact Kept.refl _ | assumption | refine Kept.alloc ?_ _ | refine Kept.ext ?_ _ | refine Kept.drew ?_ | refine Kept.drewN ?_ _))⟩
set_option maxRecDepth 1000000 in
theorem froot_any (n : Int) (w : World) (hn : 0 ≤ n ∧ n ≤ 1152921504606846976) :
    Calls Tryz.prog 317 #[.int .i64 n] w fun e w' => e = .returned (.int .i64 (sqrtS n)) ∧ w = w' := by
  obtain ⟨n0, n1⟩ := hn
  go_enter Tryz.func317, Tryz.ntmps317
  go_wp2_with fail
  go_loopw [3, 4] (fun s b wr => ∃ (m : Nat) (k : Int), s = .int .i64 k ∧ b = .int .i64 (bitAt m) ∧ (0 ≤ k ∧ k * k ≤ n ∧ n < (k + powS m) * (k + powS m) ∧ m ≤ 31) ∧ wr = w) (fun _ b _ => (intOf b).toNat)
  case atStart =>
    refine ⟨31, 0, rfl, rfl, ⟨by omega, by omega, ?_, by omega⟩, rfl⟩
    show n < 4611686018427387904
    omega
  case round =>
    obtain ⟨m, k, rfl, rfl, ⟨k0, k1, k2, hm⟩, rfl⟩ := hrel
    cases m with
    | zero =>
      rw [show bitAt 0 = 0 from rfl]
      go_wp2_with fail
      go_ret
      exact ⟨by rw [← sqrtS_unique k0 k1 k2]; rfl, rfl⟩
    | succ j =>
      have e : bitAt (j + 1) = powS j := rfl
      rw [e]
      rw [powS_succ] at k2
      obtain ⟨p0, p1⟩ := powS_half j
      have kb : k ≤ 1073741824 := of_sq_le (by decide) (by omega)
      have p2 : powS j ≤ 1073741824 := powS_le (show j ≤ 30 by omega)
      have hmm := mul_bd 4611686018427387904 (show -2147483648 ≤ k + powS j ∧ k + powS j ≤ 2147483648 by omega) (show -2147483648 ≤ k + powS j ∧ k + powS j ≤ 2147483648 by omega) rfl
      by_cases hle : (k + powS j) * (k + powS j) ≤ n
      · go_wp2_with fail
        go_roundw
        case rel => exact ⟨j, k + powS j, rfl, by rw [← p1], ⟨by omega, hle, by rw [show k + powS j + powS j = k + 2 * powS j by omega]; exact k2, by omega⟩, by trivial⟩
        case measure =>
          simp [intOf]
          omega
      · go_wp2_with fail
        go_roundw
        case rel => exact ⟨j, k, rfl, by rw [← p1], ⟨k0, k1, by omega, by omega⟩, by trivial⟩
        case measure =>
          simp [intOf]
          omega
end Go.Proofs.YtnbjealpcjfllaaGreatDoor

namespace Go.Proofs.YtnbjealpcjfllaaGreatDoor
set_option linter.unusedVariables false
set_option linter.unusedSimpArgs false
open Go.RowKit
theorem cut1 {W w' : World} {n b1 : Nat} {x0 x1 x2 : Value} [hs : SizeIs W n] (h : Kept W w') (h1 : n ≤ b1 ∧ b1 < w'.heap.size)
    (c0 : w'.cell? ⟨b1, 0, none⟩ = some x0) (c1 : w'.cell? ⟨b1, 1, none⟩ = some x1) (c2 : w'.cell? ⟨b1, 2, none⟩ = some x2) :
    ∃ y i, w' = ext W y ∧ Value.pointer (some ⟨b1, 0, none⟩) = .pointer (some ⟨adv n i, 0, none⟩) ∧ i < y.obs.size ∧ y.cell i 0 = some x0 ∧ y.cell i 1 = some x1 ∧ y.cell i 2 = some x2 := by
  obtain ⟨y, i, j, e0, e1, e2, l1, l2, k1, k2⟩ := kept_at2 h h1 h1
  exact ⟨y, i, e0, by rw [e1], l1, by rw [k1, c0], by rw [k1, c1], by rw [k1, c2]⟩
set_option maxRecDepth 100000 in
set_option maxHeartbeats 8000000 in
theorem frim_any (p0 p1 p2 p3 p4 p5 p6 p7 p8 : Int) (d : Nat) (w : World) (hd : d ≤ 3) (hb : ((-64 ≤ p0 ∧ p0 ≤ 64) ∧ (-64 ≤ p1 ∧ p1 ≤ 64) ∧ (-64 ≤ p2 ∧ p2 ≤ 64)) ∧ ((-64 ≤ p3 ∧ p3 ≤ 64) ∧ (-64 ≤ p4 ∧ p4 ≤ 64) ∧ (-64 ≤ p5 ∧ p5 ≤ 64)) ∧ ((-64 ≤ p6 ∧ p6 ≤ 64) ∧ (-64 ≤ p7 ∧ p7 ≤ 64) ∧ (-64 ≤ p8 ∧ p8 ≤ 64))) (hn : 1 ≤ nX p0 p1 p2 p3 p4 p5 p6 p7 p8 * nX p0 p1 p2 p3 p4 p5 p6 p7 p8 + nY p0 p1 p2 p3 p4 p5 p6 p7 p8 * nY p0 p1 p2 p3 p4 p5 p6 p7 p8 + nZ p0 p1 p2 p3 p4 p5 p6 p7 p8 * nZ p0 p1 p2 p3 p4 p5 p6 p7 p8) :
    Calls Tryz.prog 288 #[.agg #[.int .i64 p0, .int .i64 p1, .int .i64 p2, .int .i64 p3, .int .i64 p4, .int .i64 p5, .int .i64 p6, .int .i64 p7, .int .i64 p8], .int .i64 d] w fun e w' => e = .returned (.int .i64 (rimN (nX p0 p1 p2 p3 p4 p5 p6 p7 p8 * nX p0 p1 p2 p3 p4 p5 p6 p7 p8 + nY p0 p1 p2 p3 p4 p5 p6 p7 p8 * nY p0 p1 p2 p3 p4 p5 p6 p7 p8 + nZ p0 p1 p2 p3 p4 p5 p6 p7 p8 * nZ p0 p1 p2 p3 p4 p5 p6 p7 p8) d)) ∧ Kept w w' := by
  obtain ⟨⟨b0, b1, b2⟩, ⟨b3, b4, b5⟩, b6, b7, b8⟩ := hb
  obtain ⟨x, hx⟩ : ∃ x, nX p0 p1 p2 p3 p4 p5 p6 p7 p8 = x := ⟨_, rfl⟩
  obtain ⟨y, hy⟩ : ∃ x, nY p0 p1 p2 p3 p4 p5 p6 p7 p8 = x := ⟨_, rfl⟩
  obtain ⟨z, hz⟩ : ∃ x, nZ p0 p1 p2 p3 p4 p5 p6 p7 p8 = x := ⟨_, rfl⟩
  have HX := Lib.hid hx
  have HY := Lib.hid hy
  have HZ := Lib.hid hz
  rw [hx, hy, hz] at hn ⊢
  clear hx hy hz
  obtain ⟨v, hv⟩ : ∃ v, rimN (x * x + y * y + z * z) d = v := ⟨_, rfl⟩
  rw [hv]
  have HV := Lib.hid hv
  clear hv
  go_enter Tryz.func288, Tryz.ntmps288
  go_upto_region 1 with fail
  go_cut [5] from 9 to 19 (fun s5 wx => ∃ y' i, wx = ext (w.alloc (.cells #[.int .i64 p0, .int .i64 p1, .int .i64 p2, .int .i64 p3, .int .i64 p4, .int .i64 p5, .int .i64 p6, .int .i64 p7, .int .i64 p8] 207)) y' ∧ s5 = .pointer (some ⟨adv (w.heap.size + 1) i, 0, none⟩) ∧ i < y'.obs.size ∧
    y'.cell i 0 = some (.int .i64 ((p4 - p1) * (p8 - p2) - (p5 - p2) * (p7 - p1))) ∧ y'.cell i 1 = some (.int .i64 ((p5 - p2) * (p6 - p0) - (p3 - p0) * (p8 - p2))) ∧ y'.cell i 2 = some (.int .i64 ((p3 - p0) * (p7 - p1) - (p4 - p1) * (p6 - p0))))
  case first =>
    go_region_held3 (fun w' => w'.cell? ⟨w.heap.size, 0, none⟩ = some (.int .i64 p0) ∧ w'.cell? ⟨w.heap.size, 1, none⟩ = some (.int .i64 p1) ∧ w'.cell? ⟨w.heap.size, 2, none⟩ = some (.int .i64 p2) ∧ w'.cell? ⟨w.heap.size, 3, none⟩ = some (.int .i64 p3) ∧ w'.cell? ⟨w.heap.size, 4, none⟩ = some (.int .i64 p4) ∧ w'.cell? ⟨w.heap.size, 5, none⟩ = some (.int .i64 p5) ∧ w'.cell? ⟨w.heap.size, 6, none⟩ = some (.int .i64 p6) ∧ w'.cell? ⟨w.heap.size, 7, none⟩ = some (.int .i64 p7) ∧ w'.cell? ⟨w.heap.size, 8, none⟩ = some (.int .i64 p8)) ((refine ⟨?_, ?_, ?_, ?_, ?_, ?_, ?_, ?_, ?_⟩ <;> go_simp)) ((first | (go_at_call 316; refine (fvec_any _ _ _ _ _ _ _ (by omega)).mono ?_; rintro e w1 ⟨rfl, x, rfl⟩) | (go_at_call 315; refine (fprod_any _ _ _ _ _ _ _ (by omega)).mono ?_; rintro e w1 ⟨rfl, x, rfl⟩)))
    all_goals (go_wp2_with fail; go_meet)
    all_goals
      refine cut1 (show Kept _ _ by (repeat (first | exact Kept.refl _ | assumption | refine Kept.alloc ?_ _ | refine Kept.ext ?_ _ | refine Kept.drew ?_ | refine Kept.drewN ?_ _))) ⟨?_, ?_⟩ ?_ ?_ ?_
      all_goals first | (go_simp; done) | (simp [adv]; done) | (simp [adv]; omega)
  case rest =>
  obtain ⟨yb, ib, rfl, rfl, li, f0, f1, f2⟩ := hcut
  have Li : Lower ib yb.obs.size := ⟨li⟩
  clear li
  have ex : (p4 - p1) * (p8 - p2) - (p5 - p2) * (p7 - p1) = x := HX.out
  have ey : (p5 - p2) * (p6 - p0) - (p3 - p0) * (p8 - p2) = y := HY.out
  have ez : (p3 - p0) * (p7 - p1) - (p4 - p1) * (p6 - p0) = z := HZ.out
  rw [ex] at f0
  rw [ey] at f1
  rw [ez] at f2
  have t1 := mul_sq 128 16384 (show -128 ≤ p4 - p1 ∧ p4 - p1 ≤ 128 by omega) (show -128 ≤ p8 - p2 ∧ p8 - p2 ≤ 128 by omega) rfl
  have t2 := mul_sq 128 16384 (show -128 ≤ p5 - p2 ∧ p5 - p2 ≤ 128 by omega) (show -128 ≤ p7 - p1 ∧ p7 - p1 ≤ 128 by omega) rfl
  have t3 := mul_sq 128 16384 (show -128 ≤ p5 - p2 ∧ p5 - p2 ≤ 128 by omega) (show -128 ≤ p6 - p0 ∧ p6 - p0 ≤ 128 by omega) rfl
  have t4 := mul_sq 128 16384 (show -128 ≤ p3 - p0 ∧ p3 - p0 ≤ 128 by omega) (show -128 ≤ p8 - p2 ∧ p8 - p2 ≤ 128 by omega) rfl
  have t5 := mul_sq 128 16384 (show -128 ≤ p3 - p0 ∧ p3 - p0 ≤ 128 by omega) (show -128 ≤ p7 - p1 ∧ p7 - p1 ≤ 128 by omega) rfl
  have t6 := mul_sq 128 16384 (show -128 ≤ p4 - p1 ∧ p4 - p1 ≤ 128 by omega) (show -128 ≤ p6 - p0 ∧ p6 - p0 ≤ 128 by omega) rfl
  have bx : -32768 ≤ x ∧ x ≤ 32768 := by omega
  have by' : -32768 ≤ y ∧ y ≤ 32768 := by omega
  have bz : -32768 ≤ z ∧ z ≤ 32768 := by omega
  clear t1 t2 t3 t4 t5 t6 ex ey ez HX HY HZ
  have qx := mul_sq 32768 1073741824 bx bx rfl
  have qy := mul_sq 32768 1073741824 by' by' rfl
  have qz := mul_sq 32768 1073741824 bz bz rfl
  go_wp2_with (go_at_call 318; refine (fdot_any _ _ _ _ _ _ _ (by omega)).mono ?_; rintro e w1 ⟨rfl, x6, rfl⟩)
  clear f0 f1 f2 Li
  revert hn
  have hT : 0 ≤ x * x + y * y + z * z ∧ x * x + y * y + z * z ≤ 4294967296 → 1 ≤ x * x + y * y + z * z → 1 ≤ sqrtS (x * x + y * y + z * z) ∧ sqrtS (x * x + y * y + z * z) ≤ 65536 := fun h1 h2 => by
    obtain ⟨s0, s1, s2⟩ := sqrtS_spec h1.1
    refine ⟨?_, of_sq_le (by decide) (by omega)⟩
    rcases Int.lt_or_le (sqrtS (x * x + y * y + z * z)) 1 with h | h
    · have : sqrtS (x * x + y * y + z * z) = 0 := by omega
      rw [this] at s2
      omega
    · exact h
  intro hn
  obtain ⟨r1, r2⟩ := hT (by omega) hn
  clear hT
  refine (froot_any _ _ (by omega)).mono ?_
  rintro e w1 ⟨rfl, rfl⟩
  have hv := HV.out
  clear HV
  unfold rimN at hv
  revert r1 r2 hv
  generalize sqrtS (x * x + y * y + z * z) = r
  intro r1 r2 hv
  have key : ∀ T : Int, 0 ≤ T ∧ T ≤ 226376251619803136 → 0 ≤ T / (128 * r) ∧ T / (128 * r) ≤ 226376251619803136 ∧ 0 ≤ sqrtS (T / (128 * r)) ∧ sqrtS (T / (128 * r)) ≤ 475790200 ∧ (0 ≤ sqrtS (T / (128 * r)) * sqrtS (T / (128 * r)) ∧ sqrtS (T / (128 * r)) * sqrtS (T / (128 * r)) ≤ 226376251619803136) ∧ (0 ≤ sqrtS (T / (128 * r)) * sqrtS (T / (128 * r)) * (128 * r) ∧ sqrtS (T / (128 * r)) * sqrtS (T / (128 * r)) * (128 * r) ≤ 226376251619803136) := fun T hT => by
    have d0 : 0 ≤ T / (128 * r) := Int.ediv_nonneg hT.1 (by omega)
    have d1 : T / (128 * r) ≤ T := Int.ediv_le_self _ hT.1
    have d2 : T / (128 * r) * (128 * r) ≤ T := Int.ediv_mul_le _ (by omega)
    obtain ⟨s0, s1, s2⟩ := sqrtS_spec d0
    have m1 := Int.mul_le_mul_of_nonneg_right s1 (show (0 : Int) ≤ 128 * r by omega)
    have m0 := Int.mul_nonneg (Int.mul_nonneg s0 s0) (show (0 : Int) ≤ 128 * r by omega)
    exact ⟨d0, by omega, s0, of_sq_le (by decide) (by omega), ⟨Int.mul_nonneg s0 s0, by omega⟩, m0, by omega⟩
  have four : ((d : Int) = 0 ∧ (1099511627776 : Int) * 3217 * 4 ^ d = 3537128906555392) ∨ ((d : Int) = 1 ∧ (1099511627776 : Int) * 3217 * 4 ^ d = 14148515626221568) ∨ ((d : Int) = 2 ∧ (1099511627776 : Int) * 3217 * 4 ^ d = 56594062504886272) ∨ ((d : Int) = 3 ∧ (1099511627776 : Int) * 3217 * 4 ^ d = 226376250019545088) := by
    rcases (show d = 0 ∨ d = 1 ∨ d = 2 ∨ d = 3 by omega) with rfl | rfl | rfl | rfl <;> decide
  rcases four with ⟨hd1, hT⟩ | ⟨hd1, hT⟩ | ⟨hd1, hT⟩ | ⟨hd1, hT⟩
  · rw [hT] at hv
    rw [hd1]
    obtain ⟨k1, k2, k3, k4, k5, k6⟩ := key 3537128906555392 (by decide)
    clear hT hd1 hd key
    go_wp2_with fail
    refine (froot_any _ _ (by omega)).mono ?_
    rintro e w1 ⟨rfl, rfl⟩
    revert hv k3 k4 k5 k6
    generalize sqrtS (3537128906555392 / (128 * r)) = q
    intro hv k3 k4 k5 k6
    by_cases hlt : q * q * (128 * r) < 3537128906555392
    · rw [if_pos hlt] at hv
      have HV2 := Lib.hid hv
      clear hv
      go_wp2_with fail
      go_ret
      exact ⟨by rw [HV2.out]; rfl, by (repeat (first | exact Kept.refl _ | assumption | refine Kept.alloc ?_ _ | refine Kept.ext ?_ _ | refine Kept.drew ?_ | refine Kept.drewN ?_ _))⟩
    · rw [if_neg hlt] at hv
      have HV2 := Lib.hid hv
      clear hv
      go_wp2_with fail
      go_ret
      exact ⟨by rw [HV2.out]; rfl, by (repeat (first | exact Kept.refl _ | assumption | refine Kept.alloc ?_ _ | refine Kept.ext ?_ _ | refine Kept.drew ?_ | refine Kept.drewN ?_ _))⟩
  · rw [hT] at hv
    rw [hd1]
    obtain ⟨k1, k2, k3, k4, k5, k6⟩ := key 14148515626221568 (by decide)
    clear hT hd1 hd key
    go_wp2_with fail
    refine (froot_any _ _ (by omega)).mono ?_
    rintro e w1 ⟨rfl, rfl⟩
    revert hv k3 k4 k5 k6
    generalize sqrtS (14148515626221568 / (128 * r)) = q
    intro hv k3 k4 k5 k6
    by_cases hlt : q * q * (128 * r) < 14148515626221568
    · rw [if_pos hlt] at hv
      have HV2 := Lib.hid hv
      clear hv
      go_wp2_with fail
      go_ret
      exact ⟨by rw [HV2.out]; rfl, by (repeat (first | exact Kept.refl _ | assumption | refine Kept.alloc ?_ _ | refine Kept.ext ?_ _ | refine Kept.drew ?_ | refine Kept.drewN ?_ _))⟩
    · rw [if_neg hlt] at hv
      have HV2 := Lib.hid hv
      clear hv
      go_wp2_with fail
      go_ret
      exact ⟨by rw [HV2.out]; rfl, by (repeat (first | exact Kept.refl _ | assumption | refine Kept.alloc ?_ _ | refine Kept.ext ?_ _ | refine Kept.drew ?_ | refine Kept.drewN ?_ _))⟩
  · rw [hT] at hv
    rw [hd1]
    obtain ⟨k1, k2, k3, k4, k5, k6⟩ := key 56594062504886272 (by decide)
    clear hT hd1 hd key
    go_wp2_with fail
    refine (froot_any _ _ (by omega)).mono ?_
    rintro e w1 ⟨rfl, rfl⟩
    revert hv k3 k4 k5 k6
    generalize sqrtS (56594062504886272 / (128 * r)) = q
    intro hv k3 k4 k5 k6
    by_cases hlt : q * q * (128 * r) < 56594062504886272
    · rw [if_pos hlt] at hv
      have HV2 := Lib.hid hv
      clear hv
      go_wp2_with fail
      go_ret
      exact ⟨by rw [HV2.out]; rfl, by (repeat (first | exact Kept.refl _ | assumption | refine Kept.alloc ?_ _ | refine Kept.ext ?_ _ | refine Kept.drew ?_ | refine Kept.drewN ?_ _))⟩
    · rw [if_neg hlt] at hv
      have HV2 := Lib.hid hv
      clear hv
      go_wp2_with fail
      go_ret
      exact ⟨by rw [HV2.out]; rfl, by (repeat (first | exact Kept.refl _ | assumption | refine Kept.alloc ?_ _ | refine Kept.ext ?_ _ | refine Kept.drew ?_ | refine Kept.drewN ?_ _))⟩
  · rw [hT] at hv
    rw [hd1]
    obtain ⟨k1, k2, k3, k4, k5, k6⟩ := key 226376250019545088 (by decide)
    clear hT hd1 hd key
    go_wp2_with fail
    refine (froot_any _ _ (by omega)).mono ?_
    rintro e w1 ⟨rfl, rfl⟩
    revert hv k3 k4 k5 k6
    generalize sqrtS (226376250019545088 / (128 * r)) = q
    intro hv k3 k4 k5 k6
    by_cases hlt : q * q * (128 * r) < 226376250019545088
    · rw [if_pos hlt] at hv
      have HV2 := Lib.hid hv
      clear hv
      go_wp2_with fail
      go_ret
      exact ⟨by rw [HV2.out]; rfl, by (repeat (first | exact Kept.refl _ | assumption | refine Kept.alloc ?_ _ | refine Kept.ext ?_ _ | refine Kept.drew ?_ | refine Kept.drewN ?_ _))⟩
    · rw [if_neg hlt] at hv
      have HV2 := Lib.hid hv
      clear hv
      go_wp2_with fail
      go_ret
      exact ⟨by rw [HV2.out]; rfl, by (repeat (first | exact Kept.refl _ | assumption | refine Kept.alloc ?_ _ | refine Kept.ext ?_ _ | refine Kept.drew ?_ | refine Kept.drewN ?_ _))⟩
end Go.Proofs.YtnbjealpcjfllaaGreatDoor

namespace Go.Proofs.YtnbjealpcjfllaaGreatDoor
set_option linter.unusedVariables false
set_option linter.unusedSimpArgs false
open Go.RowKit
/-- All blocks of cells but two lie as they lay. -/
structure KpE (e1 e2 : Nat) (A B : World) : Prop where
  os : B.os = A.os
  tape : B.tape = A.tape
  output : B.output = A.output
  size : A.heap.size ≤ B.heap.size
  cells : ∀ k o, A.heap[k]? = some o → o.isCells = true → k ≠ e1 → k ≠ e2 → B.heap[k]? = some o
theorem KpE.refl (e1 e2 : Nat) (A : World) : KpE e1 e2 A A := ⟨rfl, rfl, rfl, Nat.le_refl _, fun _ _ h _ _ _ => h⟩
theorem KpE.trans {e1 e2 : Nat} {A B C : World} (h : KpE e1 e2 A B) (k : KpE e1 e2 B C) : KpE e1 e2 A C :=
  ⟨k.os.trans h.os, k.tape.trans h.tape, k.output.trans h.output, Nat.le_trans h.size k.size, fun i o hi ho h1 h2 => k.cells i o (h.cells i o hi ho h1 h2) ho h1 h2⟩
theorem KpE.of_below {e1 e2 : Nat} {A B : World} (h : Below A.heap.size A B) : KpE e1 e2 A B :=
  ⟨h.os, h.tape, h.output, h.size, fun k o hk _ _ _ => (h.block k (Array.getElem?_eq_some_iff.1 hk).1).trans hk⟩
theorem KpE.alloc {e1 e2 : Nat} {A B : World} (h : KpE e1 e2 A B) (o : Obj) : KpE e1 e2 A (B.alloc o) :=
  h.trans (KpE.of_below ((Below.refl _ B).alloc (Nat.le_refl _) o))
theorem KpE.drew {e1 e2 : Nat} {A B : World} (h : KpE e1 e2 A B) : KpE e1 e2 A B.drew :=
  h.trans (KpE.of_below (Below.refl _ B).drew)
theorem KpE.put {e1 e2 : Nat} {A B : World} (h : KpE e1 e2 A B) {p : Addr} (hp : p.block = e1 ∨ p.block = e2) (u : Value) : KpE e1 e2 A (B.setCell p u) :=
  h.trans ⟨((Below.refl 0 B).setCell (p := p) (Nat.zero_le _) u).os, ((Below.refl 0 B).setCell (p := p) (Nat.zero_le _) u).tape, ((Below.refl 0 B).setCell (p := p) (Nat.zero_le _) u).output, ((Below.refl 0 B).setCell (p := p) (Nat.zero_le _) u).size,
    fun k o hk _ h1 h2 => (Below.heap_setCell B p u k (by rcases hp with e | e <;> rw [e] <;> assumption)).trans hk⟩
theorem KpE.kept {e1 e2 : Nat} {A B : World} (h : Kept A B) : KpE e1 e2 A B := KpE.of_below h.below
theorem KpE.cell {e1 e2 : Nat} {A B : World} (h : KpE e1 e2 A B) {p : Addr} {v : Value} (hv : A.cell? p = some v) (h1 : p.block ≠ e1) (h2 : p.block ≠ e2) : B.cell? p = some v := by
  have hb : ∃ o, A.heap[p.block]? = some o ∧ o.isCells = true := by
    unfold World.cell? at hv
    cases ho : A.heap[p.block]? with
    | none => rw [ho] at hv; simp at hv
    | some o =>
      refine ⟨o, rfl, ?_⟩
      rw [ho] at hv
      cases o <;> first | rfl | (simp at hv)
  obtain ⟨o, ho, hc⟩ := hb
  exact (World.cell?_of_block (w := A) (w' := B) ((h.cells _ o ho hc h1 h2).trans ho.symm)).trans hv
end Go.Proofs.YtnbjealpcjfllaaGreatDoor

namespace Go.Proofs.YtnbjealpcjfllaaGreatDoor
set_option linter.unusedVariables false
set_option linter.unusedSimpArgs false
open Go.RowKit Go.Shelf
attribute [local go_sem] Oper.semAt_some
def Pn.val (p : Pn) : Value := .agg #[.int .i64 (p).a0, .int .i64 (p).a1, .int .i64 (p).a2, .int .i64 (p).b0, .int .i64 (p).b1, .int .i64 (p).b2, .int .i64 (p).c0, .int .i64 (p).c1, .int .i64 (p).c2]
/-- What the rounds of a loop over parts keep: blocks that are set apart. -/
structure Rnd (n0 : Nat) (Kp : World → World → Prop) (Sp : World → Nat → Prop) : Prop where
  tr : ∀ {A B C : World}, Kp A B → Kp B C → Kp A C
  kept : ∀ {A B : World}, Kept A B → Kp A B
  le : ∀ {A B : World}, Kp A B → A.heap.size ≤ B.heap.size
  new : ∀ {B : World} {k : Nat} {cs : Array Value} {T : TypeId}, n0 ≤ k → B.heap[k]? = some (.cells cs T (0, 0)) → T ≠ 44 → Sp B k
  same : ∀ {A B : World} {k : Nat} {o : Obj}, Kp A B → Sp A k → A.heap[k]? = some o → o.isCells = true → B.heap[k]? = some o ∧ Sp B k
def JOn (J : List Pn → World → Prop) : Prop := ∀ (s : List Pn) (A B : World), J s A → Kept A B → J s B
theorem cells_of {w : World} {a : Addr} {v : Value} (hv : w.cell? a = some v) : ∃ o, w.heap[a.block]? = some o ∧ o.isCells = true := by
  unfold World.cell? at hv
  cases ho : w.heap[a.block]? with
  | none => rw [ho] at hv; simp at hv
  | some o =>
    refine ⟨o, rfl, ?_⟩
    rw [ho] at hv
    cases o <;> first | rfl | (simp at hv)
section
variable {n0 : Nat} {Kp : World → World → Prop} {Sp : World → Nat → Prop}
theorem Rnd.cell (R : Rnd n0 Kp Sp) {A B : World} (h : Kp A B) {p : Addr} (hs : Sp A p.block) {v : Value} (hv : A.cell? p = some v) : B.cell? p = some v ∧ Sp B p.block := by
  obtain ⟨o, ho, hc⟩ := cells_of hv
  obtain ⟨h1, h2⟩ := R.same h hs ho hc
  exact ⟨(World.cell?_of_block (w := A) (w' := B) (h1.trans ho.symm)).trans hv, h2⟩
end
theorem wide_room (k : Nat) : Fence.wide.room k := fun d h => by cases h
theorem YieldAt.any {m : Nat} (m' : Nat) {P : Program} {l : Nat} {args : Array Value} {W : World} {R : Ending → World → Prop} (h : YieldAt Fence.wide m P l args W R) : YieldAt Fence.wide m' P l args W R := by
  obtain ⟨fn, tmps, assign, body, hy, hR⟩ := h
  exact ⟨fn, tmps, assign, body, hy, hR.1, fun c cs _ => hR.2 c cs (wide_room _)⟩
/-- The closure that visits, with its boxes. -/
def visitV (Yb Vb : Nat) : Value := .func (.func 295) #[] #[.pointer (some ⟨Yb, 0, none⟩), .pointer (some ⟨Vb, 0, none⟩)]
structure VisI (n0 : Nat) (Sp : World → Nat → Prop) (l Yb Vb : Nat) (W : World) : Prop where
  n : n0 ≤ W.heap.size
  y : W.cell? ⟨Yb, 0, none⟩ = some (.func (.yield l) #[] #[])
  ys : Sp W Yb
  v : W.cell? ⟨Vb, 0, none⟩ = some (visitV Yb Vb)
  vs : Sp W Vb
theorem VisI.on {n0 : Nat} {Kp : World → World → Prop} {Sp : World → Nat → Prop} (R : Rnd n0 Kp Sp) {l Yb Vb : Nat} {A B : World} (h : VisI n0 Sp l Yb Vb A) (k : Kp A B) : VisI n0 Sp l Yb Vb B :=
  ⟨Nat.le_trans h.n (R.le k), (R.cell k h.ys h.y).1, (R.cell k h.ys h.y).2, (R.cell k h.vs h.v).1, (R.cell k h.vs h.v).2⟩
def VisR (Kp : World → World → Prop) (J Jx : List Pn → World → Prop) (pre xs : List Pn) (W : World) (e : Ending) (W' : World) : Prop :=
  (e = .returned (.bool true) ∧ J (pre ++ xs) W' ∧ Kp W W') ∨ (e = .returned (.bool false) ∧ ∃ q, q <+: xs ∧ Jx (pre ++ q) W')
def Visits (n0 : Nat) (Kp : World → World → Prop) (Sp : World → Nat → Prop) (J Jx : List Pn → World → Prop) (G : Pn → Prop) (l Yb Vb N : Nat) (d : Nat) : Prop :=
  d ≤ 3 → ∀ (p : Pn) (m : Int) (pre : List Pn) (W : World), (∀ x ∈ cutL d p, G x) → p.bd m → m * 2 ^ d ≤ 1024 → VisI n0 Sp l Yb Vb W → J pre W → pre.length + 4 ^ d ≤ N →
    Calls Tryz.prog 295 #[p.val, .int .i64 d, .pointer (some ⟨Yb, 0, none⟩), .pointer (some ⟨Vb, 0, none⟩)] W (VisR Kp J Jx pre (cutL d p) W)
set_option maxRecDepth 100000 in
set_option maxHeartbeats 4000000 in
theorem visit_zero {n0 : Nat} {Kp : World → World → Prop} {Sp : World → Nat → Prop} {J Jx : List Pn → World → Prop} {G : Pn → Prop} (R : Rnd n0 Kp Sp) (JO : JOn J) (l Yb Vb N : Nat)
    (hY : ∀ m pre x W, J pre W → G x → pre.length < N → YieldAt Fence.wide m Tryz.prog l #[Pn.val x] W fun e W' => (e = .returned (.bool true) ∧ J (pre ++ [x]) W' ∧ Kp W W') ∨ (e = .returned (.bool false) ∧ Jx (pre ++ [x]) W')) :
    Visits n0 Kp Sp J Jx G l Yb Vb N 0 := by
  intro _ p m pre W hG hb hm hV hJ hN
  obtain ⟨-, cy, -, -, -⟩ := hV
  have LY : Lower Yb W.heap.size := ⟨cell_lt cy⟩
  have hk : Kept W (W.alloc (.cells #[.int .i64 p.a0, .int .i64 p.a1, .int .i64 p.a2, .int .i64 p.b0, .int .i64 p.b1, .int .i64 p.b2, .int .i64 p.c0, .int .i64 p.c1, .int .i64 p.c2] 207)) := by (repeat (first | exact Kept.refl _ | assumption | refine Kept.alloc ?_ _ | refine Kept.ext ?_ _ | refine Kept.drew ?_ | refine Kept.drewN ?_ _))
  refine (callsIn_wide (n := 9)).1 ?_
  obtain ⟨fn, tmps, assign, body, hy, hR⟩ := hY 8 pre p _ (JO _ _ _ hJ hk) (hG p (by simp [cutL])) (by simp at hN; omega)
  dsimp only [Pn.val] at hy
  have hd : Fence.wide.fn 295 := trivial
  refine callsIn_of_wp Tryz.func295 rfl hd ?_ rfl
  simp only [Tryz.ntmps295, List.size_toArray, List.length_cons, List.length_nil, Nat.reduceAdd, Nat.reduceSub, Array.replicate_succ, Array.replicate_zero, List.push_toArray, List.append_toArray, List.nil_append, List.cons_append]
  unfold Pn.val
  gi_wp2
  refine hR.mono ?_
  rintro e W' (⟨rfl, hJ', hk'⟩ | ⟨rfl, hJx'⟩)
  · gi_wp2
    go_ret
    exact .inl ⟨rfl, hJ', R.tr (R.kept hk) hk'⟩
  · gi_wp2
    go_ret
    exact .inr ⟨rfl, [p], List.prefix_refl _, hJx'⟩
/-- The parts of the first q parts. -/
def someC (d : Nat) (p : Pn) : Nat → List Pn
  | 0 => []
  | 1 => cutL d p.s0
  | 2 => cutL d p.s0 ++ cutL d p.s1
  | 3 => cutL d p.s0 ++ (cutL d p.s1 ++ cutL d p.s2)
  | _ => cutL (d + 1) p
theorem someC_len (d : Nat) (p : Pn) (q : Nat) (h : q ≤ 4) : (someC d p q).length = q * 4 ^ d := by
  rcases (show q = 0 ∨ q = 1 ∨ q = 2 ∨ q = 3 ∨ q = 4 by omega) with rfl | rfl | rfl | rfl | rfl
  · simp [someC]
  · simp [someC, cutL_len]
  · simp [someC, cutL_len]; omega
  · simp [someC, cutL_len]; omega
  · simp [someC, cutL_len]; rw [Nat.pow_succ]; omega
def Pn.part (p : Pn) : Nat → Pn
  | 0 => p.s0
  | 1 => p.s1
  | 2 => p.s2
  | _ => p.s3
theorem someC_step (d : Nat) (p : Pn) (q : Nat) (h : q < 4) : someC d p q ++ cutL d (p.part q) = someC d p (q + 1) := by
  rcases (show q = 0 ∨ q = 1 ∨ q = 2 ∨ q = 3 by omega) with rfl | rfl | rfl | rfl
  · rfl
  · rfl
  · exact List.append_assoc _ _ _
  · show (cutL d p.s0 ++ (cutL d p.s1 ++ cutL d p.s2)) ++ cutL d p.s3 = cutL d p.s0 ++ (cutL d p.s1 ++ (cutL d p.s2 ++ cutL d p.s3))
    simp only [List.append_assoc]
theorem someC_le (d : Nat) (p : Pn) (q : Nat) (h : q ≤ 4) : someC d p q <+: cutL (d + 1) p := by
  show someC d p q <+: cutL d p.s0 ++ (cutL d p.s1 ++ (cutL d p.s2 ++ cutL d p.s3))
  rcases (show q = 0 ∨ q = 1 ∨ q = 2 ∨ q = 3 ∨ q = 4 by omega) with rfl | rfl | rfl | rfl | rfl
  · exact List.nil_prefix
  · exact List.prefix_append _ _
  · exact ⟨cutL d p.s2 ++ cutL d p.s3, by simp [someC]⟩
  · exact ⟨cutL d p.s3, by simp [someC]⟩
  · exact List.prefix_refl _
theorem someC_pre {d : Nat} {p : Pn} {q : Nat} {x : List Pn} (h : q < 4) (hx : x <+: cutL d (p.part q)) : someC d p q ++ x <+: cutL (d + 1) p := by
  obtain ⟨r, hr⟩ := hx
  refine List.IsPrefix.trans ⟨r, ?_⟩ (someC_le d p (q + 1) (by omega))
  rw [List.append_assoc, hr, someC_step d p q h]
theorem mem_part (d : Nat) (p : Pn) (q : Nat) {x : Pn} (hx : x ∈ cutL d (p.part q)) : x ∈ cutL (d + 1) p := by
  show x ∈ cutL d p.s0 ++ (cutL d p.s1 ++ (cutL d p.s2 ++ cutL d p.s3))
  simp only [List.mem_append]
  match q, hx with
  | 0, h => exact .inl h
  | 1, h => exact .inr (.inl h)
  | 2, h => exact .inr (.inr (.inl h))
  | _ + 3, h => exact .inr (.inr (.inr h))
theorem cell_blk {w : World} {b o : Nat} {cs : Array Value} {T : TypeId} {v : Value} (h : w.heap[b]? = some (.cells cs T (0, 0))) (hv : cs[o]? = some v) : w.cell? ⟨b, o, none⟩ = some v := by
  unfold World.cell?
  simp [h, hv]
set_option maxRecDepth 100000 in
set_option maxHeartbeats 16000000 in
theorem visit_succ {n0 : Nat} {Kp : World → World → Prop} {Sp : World → Nat → Prop} {J Jx : List Pn → World → Prop} {G : Pn → Prop} (R : Rnd n0 Kp Sp) (JO : JOn J) (l Yb Vb N d : Nat) (ih : Visits n0 Kp Sp J Jx G l Yb Vb N d) : Visits n0 Kp Sp J Jx G l Yb Vb N (d + 1) := by
  intro d3 p m pre W hG hb hm hV hJ hN
  have HG := Lib.hid hG
  have IH := Lib.hid (ih (by omega))
  have HJ := Lib.hid hJ
  have HV := Lib.hid hV
  have RR := Lib.hid R
  have JJ := Lib.hid JO
  have HN := Lib.hid hN
  have hm0 : 0 ≤ m := by have := hb.1.1; omega
  have hd1 : (1 : Int) ≤ 2 ^ d := by
    have : (0 : Int) < 2 ^ d := Int.pow_pos (by decide)
    omega
  have hm2 : m ≤ 512 := by
    rw [Int.pow_succ, ← Int.mul_assoc] at hm
    have := Int.mul_le_mul_of_nonneg_left hd1 hm0
    omega
  have hsub := Pn.bd_sub hb
  have hmd : 2 * m * 2 ^ d ≤ 1024 := by
    rw [Int.pow_succ] at hm
    have e : 2 * m * 2 ^ d = m * (2 ^ d * 2) := by rw [Int.mul_comm 2 m, Int.mul_assoc, Int.mul_comm 2 (2 ^ d)]
    omega
  have HS := Lib.hid hsub
  have HMD := Lib.hid hmd
  have bb : p.bd 512 := by
    obtain ⟨⟨a, b, c⟩, ⟨e, f, g⟩, x, y, z⟩ := hb
    exact ⟨⟨by omega, by omega, by omega⟩, ⟨by omega, by omega, by omega⟩, by omega, by omega, by omega⟩
  obtain ⟨⟨a0, a1, a2⟩, ⟨b0, b1, b2⟩, c0, c1, c2⟩ := bb
  have hdd : (((d + 1 : Nat) : Int) == 0) = false := by simp; omega
  have hd2 : ((d + 1 : Nat) : Int) - 1 = d := by omega
  clear ih hV hJ R JO hN hG hsub hmd hm hb hd1 hm2 hm0
  unfold Pn.val
  go_enter Tryz.func295, Tryz.ntmps295
  go_wp2_with fail
  have hF : frsB [.q, .q, .q, .q, .q, .q, .q, .q, .q, .s, .s, .s, .s, .s, .s] [⟨9, 12, 136, #[.int .i64 0, .int .i64 0, .int .i64 0], #[.int .i64 (2 * p.a0), .int .i64 (2 * p.a1), .int .i64 (2 * p.a2)]⟩, ⟨10, 13, 136, #[.int .i64 0, .int .i64 0, .int .i64 0], #[.int .i64 (2 * p.b0), .int .i64 (2 * p.b1), .int .i64 (2 * p.b2)]⟩, ⟨11, 14, 136, #[.int .i64 0, .int .i64 0, .int .i64 0], #[.int .i64 (2 * p.c0), .int .i64 (2 * p.c1), .int .i64 (2 * p.c2)]⟩] = true := by kernel_rfl
  refine wp_region_frs _ _ (by kernel_rfl) (by kernel_rfl) hF (fun b => by kernel_rfl) ?_
  apply Exists.intro
  refine ⟨?_, ?_, ?_, ?_⟩
  · rintro b' W9 ⟨yy, rfl⟩
    simp only [swapL, Nat.reduceAdd]
    repeat (go_big_quiet_step ((go_at_call 257; exact Calls.kept_of (ftimes_any _ _ _ _ _ (by omega)))))
    refine wpQuiet_nil ?_
    rfl
  · simp only [EachS, and_true]
    refine ⟨?_, ?_, ?_, ?_, ?_, ?_⟩
    · exact fun L b' w' hd hL hI => FI.tells_alloc hF 0 rfl hI hL (by go_simp)
    · exact fun L b' w' hd hL hI => FI.tells_alloc hF 1 rfl hI hL (by go_simp)
    · exact fun L b' w' hd hL hI => FI.tells_alloc hF 2 rfl hI hL (by go_simp)
    · exact fun L b' w' hd hL hI => FI.tells_store hF 0 rfl hI hL (hd { on := 9, ground := .data } (by simp) rfl) 136 (.tmp 7) (.tmp 22) rfl rfl rfl (by kernel_rfl) rfl (by kernel_rfl)
    · exact fun L b' w' hd hL hI => FI.tells_store hF 1 rfl hI hL (hd { on := 10, ground := .data } (by simp) rfl) 136 (.tmp 8) (.tmp 25) rfl rfl rfl (by kernel_rfl) rfl (by kernel_rfl)
    · exact fun L b' w' hd hL hI => FI.tells_store hF 2 rfl hI hL (hd { on := 11, ground := .data } (by simp) rfl) 136 (.tmp 9) (.tmp 28) rfl rfl rfl (by kernel_rfl) rfl (by kernel_rfl)
  · intro b1 b2 d hd
    simp [callSlots, dullOp] at hd
    rcases hd with rfl | rfl | rfl <;> rfl
  intro L b' w1 hL hI
  obtain ⟨k0, e0, l0, h0⟩ := hI.ends 0 rfl (hL 9 (by decide)) (hL 12 (by decide))
  have e0' : b' 9 = _ := e0
  obtain ⟨k1, e1, l1, h1⟩ := hI.ends 1 rfl (hL 10 (by decide)) (hL 13 (by decide))
  have e1' : b' 10 = _ := e1
  obtain ⟨k2, e2, l2, h2⟩ := hI.ends 2 rfl (hL 11 (by decide)) (hL 14 (by decide))
  have e2' : b' 11 = _ := e2
  clear hF
  have hk1 := hI.kept
  clear hI hL e0 e1 e2 l0 l1 l2
  simp only [e0', e1', e2']
  clear e0' e1' e2'
  obtain ⟨x00, x01, x02⟩ := cells3 h0
  have H0 := Lib.hid h0
  haveI : Lower k0 w1.heap.size := ⟨cell_lt x00⟩
  obtain ⟨x10, x11, x12⟩ := cells3 h1
  have H1 := Lib.hid h1
  haveI : Lower k1 w1.heap.size := ⟨cell_lt x10⟩
  obtain ⟨x20, x21, x22⟩ := cells3 h2
  have H2 := Lib.hid h2
  haveI : Lower k2 w1.heap.size := ⟨cell_lt x20⟩
  have y00 : w1.cell? ⟨W.heap.size, 0, none⟩ = some (.int .i64 p.a0) := kp_cell (w := W.alloc (.cells #[.int .i64 p.a0, .int .i64 p.a1, .int .i64 p.a2, .int .i64 p.b0, .int .i64 p.b1, .int .i64 p.b2, .int .i64 p.c0, .int .i64 p.c1, .int .i64 p.c2] 207)) (by go_simp) hk1
  have y01 : w1.cell? ⟨W.heap.size, 1, none⟩ = some (.int .i64 p.a1) := kp_cell (w := W.alloc (.cells #[.int .i64 p.a0, .int .i64 p.a1, .int .i64 p.a2, .int .i64 p.b0, .int .i64 p.b1, .int .i64 p.b2, .int .i64 p.c0, .int .i64 p.c1, .int .i64 p.c2] 207)) (by go_simp) hk1
  have y02 : w1.cell? ⟨W.heap.size, 2, none⟩ = some (.int .i64 p.a2) := kp_cell (w := W.alloc (.cells #[.int .i64 p.a0, .int .i64 p.a1, .int .i64 p.a2, .int .i64 p.b0, .int .i64 p.b1, .int .i64 p.b2, .int .i64 p.c0, .int .i64 p.c1, .int .i64 p.c2] 207)) (by go_simp) hk1
  have y10 : w1.cell? ⟨W.heap.size, 3, none⟩ = some (.int .i64 p.b0) := kp_cell (w := W.alloc (.cells #[.int .i64 p.a0, .int .i64 p.a1, .int .i64 p.a2, .int .i64 p.b0, .int .i64 p.b1, .int .i64 p.b2, .int .i64 p.c0, .int .i64 p.c1, .int .i64 p.c2] 207)) (by go_simp) hk1
  have y11 : w1.cell? ⟨W.heap.size, 4, none⟩ = some (.int .i64 p.b1) := kp_cell (w := W.alloc (.cells #[.int .i64 p.a0, .int .i64 p.a1, .int .i64 p.a2, .int .i64 p.b0, .int .i64 p.b1, .int .i64 p.b2, .int .i64 p.c0, .int .i64 p.c1, .int .i64 p.c2] 207)) (by go_simp) hk1
  have y12 : w1.cell? ⟨W.heap.size, 5, none⟩ = some (.int .i64 p.b2) := kp_cell (w := W.alloc (.cells #[.int .i64 p.a0, .int .i64 p.a1, .int .i64 p.a2, .int .i64 p.b0, .int .i64 p.b1, .int .i64 p.b2, .int .i64 p.c0, .int .i64 p.c1, .int .i64 p.c2] 207)) (by go_simp) hk1
  have y20 : w1.cell? ⟨W.heap.size, 6, none⟩ = some (.int .i64 p.c0) := kp_cell (w := W.alloc (.cells #[.int .i64 p.a0, .int .i64 p.a1, .int .i64 p.a2, .int .i64 p.b0, .int .i64 p.b1, .int .i64 p.b2, .int .i64 p.c0, .int .i64 p.c1, .int .i64 p.c2] 207)) (by go_simp) hk1
  have y21 : w1.cell? ⟨W.heap.size, 7, none⟩ = some (.int .i64 p.c1) := kp_cell (w := W.alloc (.cells #[.int .i64 p.a0, .int .i64 p.a1, .int .i64 p.a2, .int .i64 p.b0, .int .i64 p.b1, .int .i64 p.b2, .int .i64 p.c0, .int .i64 p.c1, .int .i64 p.c2] 207)) (by go_simp) hk1
  have y22 : w1.cell? ⟨W.heap.size, 8, none⟩ = some (.int .i64 p.c2) := kp_cell (w := W.alloc (.cells #[.int .i64 p.a0, .int .i64 p.a1, .int .i64 p.a2, .int .i64 p.b0, .int .i64 p.b1, .int .i64 p.b2, .int .i64 p.c0, .int .i64 p.c1, .int .i64 p.c2] 207)) (by go_simp) hk1
  haveI : Lower W.heap.size w1.heap.size := ⟨cell_lt y00⟩
  have HK1 := Lib.hid hk1
  clear hk1 h0 h1 h2
  go_wp2_with fail
  have hF : frsB [.q, .q, .q, .q, .q, .q, .q, .q, .q, .q, .q, .q, .q, .q, .q, .s, .s, .s, .s, .s, .s] [⟨15, 18, 136, #[.int .i64 0, .int .i64 0, .int .i64 0], #[.int .i64 (p.a0 + p.b0), .int .i64 (p.a1 + p.b1), .int .i64 (p.a2 + p.b2)]⟩, ⟨16, 19, 136, #[.int .i64 0, .int .i64 0, .int .i64 0], #[.int .i64 (p.b0 + p.c0), .int .i64 (p.b1 + p.c1), .int .i64 (p.b2 + p.c2)]⟩, ⟨17, 20, 136, #[.int .i64 0, .int .i64 0, .int .i64 0], #[.int .i64 (p.c0 + p.a0), .int .i64 (p.c1 + p.a1), .int .i64 (p.c2 + p.a2)]⟩] = true := by kernel_rfl
  refine wp_region_frs _ _ (by kernel_rfl) (by kernel_rfl) hF (fun b => by kernel_rfl) ?_
  apply Exists.intro
  refine ⟨?_, ?_, ?_, ?_⟩
  · rintro b' W9 ⟨yy, rfl⟩
    simp only [swapL, Nat.reduceAdd]
    repeat (go_big_quiet_step ((go_at_call 296; exact Calls.kept_of (fmid_any _ _ _ _ _ _ _ (by omega)))))
    refine wpQuiet_nil ?_
    rfl
  · simp only [EachS, and_true]
    refine ⟨?_, ?_, ?_, ?_, ?_, ?_⟩
    · exact fun L b' w' hd hL hI => FI.tells_alloc hF 0 rfl hI hL (by go_simp)
    · exact fun L b' w' hd hL hI => FI.tells_alloc hF 1 rfl hI hL (by go_simp)
    · exact fun L b' w' hd hL hI => FI.tells_alloc hF 2 rfl hI hL (by go_simp)
    · exact fun L b' w' hd hL hI => FI.tells_store hF 0 rfl hI hL (hd { on := 15, ground := .data } (by simp) rfl) 136 (.tmp 10) (.tmp 33) rfl rfl rfl (by kernel_rfl) rfl (by kernel_rfl)
    · exact fun L b' w' hd hL hI => FI.tells_store hF 1 rfl hI hL (hd { on := 16, ground := .data } (by simp) rfl) 136 (.tmp 11) (.tmp 38) rfl rfl rfl (by kernel_rfl) rfl (by kernel_rfl)
    · exact fun L b' w' hd hL hI => FI.tells_store hF 2 rfl hI hL (hd { on := 17, ground := .data } (by simp) rfl) 136 (.tmp 12) (.tmp 43) rfl rfl rfl (by kernel_rfl) rfl (by kernel_rfl)
  · intro b1 b2 d hd
    simp [callSlots, dullOp] at hd
    rcases hd with rfl | rfl | rfl <;> rfl
  intro L b' w2 hL hI
  obtain ⟨g0, e0, l0, h0⟩ := hI.ends 0 rfl (hL 15 (by decide)) (hL 18 (by decide))
  have e0' : b' 15 = _ := e0
  obtain ⟨g1, e1, l1, h1⟩ := hI.ends 1 rfl (hL 16 (by decide)) (hL 19 (by decide))
  have e1' : b' 16 = _ := e1
  obtain ⟨g2, e2, l2, h2⟩ := hI.ends 2 rfl (hL 17 (by decide)) (hL 20 (by decide))
  have e2' : b' 17 = _ := e2
  clear hF
  have hk2 := hI.kept
  clear hI hL e0 e1 e2 l0 l1 l2
  simp only [e0', e1', e2']
  clear e0' e1' e2'
  obtain ⟨z00, z01, z02⟩ := cells3 h0
  haveI : Lower g0 w2.heap.size := ⟨cell_lt z00⟩
  obtain ⟨u00, u01, u02⟩ := cells3 (fr_kept H0.out hk2)
  haveI : Lower k0 w2.heap.size := ⟨cell_lt u00⟩
  obtain ⟨z10, z11, z12⟩ := cells3 h1
  haveI : Lower g1 w2.heap.size := ⟨cell_lt z10⟩
  obtain ⟨u10, u11, u12⟩ := cells3 (fr_kept H1.out hk2)
  haveI : Lower k1 w2.heap.size := ⟨cell_lt u10⟩
  obtain ⟨z20, z21, z22⟩ := cells3 h2
  haveI : Lower g2 w2.heap.size := ⟨cell_lt z20⟩
  obtain ⟨u20, u21, u22⟩ := cells3 (fr_kept H2.out hk2)
  haveI : Lower k2 w2.heap.size := ⟨cell_lt u20⟩
  have hk3 := HK1.out.trans hk2
  have hkw : Kept W w2 := ((Kept.refl W).alloc _).trans hk3
  clear hk2 hk3 h0 h1 h2 H0 H1 H2 HK1 x00 y00 x01 y01 x02 y02 x10 y10 x11 y11 x12 y12 x20 y20 x21 y21 x22 y22
  have hv2 : VisI n0 Sp l Yb Vb (w2.alloc (.cells #[.int .i64 (2 * p.a0), .int .i64 (2 * p.a1), .int .i64 (2 * p.a2), .int .i64 (p.a0 + p.b0), .int .i64 (p.a1 + p.b1), .int .i64 (p.a2 + p.b2), .int .i64 (p.c0 + p.a0), .int .i64 (p.c1 + p.a1), .int .i64 (p.c2 + p.a2), .int .i64 (p.a0 + p.b0), .int .i64 (p.a1 + p.b1), .int .i64 (p.a2 + p.b2), .int .i64 (2 * p.b0), .int .i64 (2 * p.b1), .int .i64 (2 * p.b2), .int .i64 (p.b0 + p.c0), .int .i64 (p.b1 + p.c1), .int .i64 (p.b2 + p.c2), .int .i64 (p.c0 + p.a0), .int .i64 (p.c1 + p.a1), .int .i64 (p.c2 + p.a2), .int .i64 (p.b0 + p.c0), .int .i64 (p.b1 + p.c1), .int .i64 (p.b2 + p.c2), .int .i64 (2 * p.c0), .int .i64 (2 * p.c1), .int .i64 (2 * p.c2), .int .i64 (p.a0 + p.b0), .int .i64 (p.a1 + p.b1), .int .i64 (p.a2 + p.b2), .int .i64 (p.b0 + p.c0), .int .i64 (p.b1 + p.c1), .int .i64 (p.b2 + p.c2), .int .i64 (p.c0 + p.a0), .int .i64 (p.c1 + p.a1), .int .i64 (p.c2 + p.a2)] 207)) := HV.out.on RR.out (RR.out.kept (hkw.alloc _))
  have hj2 : J pre (w2.alloc (.cells #[.int .i64 (2 * p.a0), .int .i64 (2 * p.a1), .int .i64 (2 * p.a2), .int .i64 (p.a0 + p.b0), .int .i64 (p.a1 + p.b1), .int .i64 (p.a2 + p.b2), .int .i64 (p.c0 + p.a0), .int .i64 (p.c1 + p.a1), .int .i64 (p.c2 + p.a2), .int .i64 (p.a0 + p.b0), .int .i64 (p.a1 + p.b1), .int .i64 (p.a2 + p.b2), .int .i64 (2 * p.b0), .int .i64 (2 * p.b1), .int .i64 (2 * p.b2), .int .i64 (p.b0 + p.c0), .int .i64 (p.b1 + p.c1), .int .i64 (p.b2 + p.c2), .int .i64 (p.c0 + p.a0), .int .i64 (p.c1 + p.a1), .int .i64 (p.c2 + p.a2), .int .i64 (p.b0 + p.c0), .int .i64 (p.b1 + p.c1), .int .i64 (p.b2 + p.c2), .int .i64 (2 * p.c0), .int .i64 (2 * p.c1), .int .i64 (2 * p.c2), .int .i64 (p.a0 + p.b0), .int .i64 (p.a1 + p.b1), .int .i64 (p.a2 + p.b2), .int .i64 (p.b0 + p.c0), .int .i64 (p.b1 + p.c1), .int .i64 (p.b2 + p.c2), .int .i64 (p.c0 + p.a0), .int .i64 (p.c1 + p.a1), .int .i64 (p.c2 + p.a2)] 207)) := JJ.out _ _ _ HJ.out (hkw.alloc _)
  have hp2 : Kp W (w2.alloc (.cells #[.int .i64 (2 * p.a0), .int .i64 (2 * p.a1), .int .i64 (2 * p.a2), .int .i64 (p.a0 + p.b0), .int .i64 (p.a1 + p.b1), .int .i64 (p.a2 + p.b2), .int .i64 (p.c0 + p.a0), .int .i64 (p.c1 + p.a1), .int .i64 (p.c2 + p.a2), .int .i64 (p.a0 + p.b0), .int .i64 (p.a1 + p.b1), .int .i64 (p.a2 + p.b2), .int .i64 (2 * p.b0), .int .i64 (2 * p.b1), .int .i64 (2 * p.b2), .int .i64 (p.b0 + p.c0), .int .i64 (p.b1 + p.c1), .int .i64 (p.b2 + p.c2), .int .i64 (p.c0 + p.a0), .int .i64 (p.c1 + p.a1), .int .i64 (p.c2 + p.a2), .int .i64 (p.b0 + p.c0), .int .i64 (p.b1 + p.c1), .int .i64 (p.b2 + p.c2), .int .i64 (2 * p.c0), .int .i64 (2 * p.c1), .int .i64 (2 * p.c2), .int .i64 (p.a0 + p.b0), .int .i64 (p.a1 + p.b1), .int .i64 (p.a2 + p.b2), .int .i64 (p.b0 + p.c0), .int .i64 (p.b1 + p.c1), .int .i64 (p.b2 + p.c2), .int .i64 (p.c0 + p.a0), .int .i64 (p.c1 + p.a1), .int .i64 (p.c2 + p.a2)] 207)) := RR.out.kept (hkw.alloc _)
  have hs2 : Sp (w2.alloc (.cells #[.int .i64 (2 * p.a0), .int .i64 (2 * p.a1), .int .i64 (2 * p.a2), .int .i64 (p.a0 + p.b0), .int .i64 (p.a1 + p.b1), .int .i64 (p.a2 + p.b2), .int .i64 (p.c0 + p.a0), .int .i64 (p.c1 + p.a1), .int .i64 (p.c2 + p.a2), .int .i64 (p.a0 + p.b0), .int .i64 (p.a1 + p.b1), .int .i64 (p.a2 + p.b2), .int .i64 (2 * p.b0), .int .i64 (2 * p.b1), .int .i64 (2 * p.b2), .int .i64 (p.b0 + p.c0), .int .i64 (p.b1 + p.c1), .int .i64 (p.b2 + p.c2), .int .i64 (p.c0 + p.a0), .int .i64 (p.c1 + p.a1), .int .i64 (p.c2 + p.a2), .int .i64 (p.b0 + p.c0), .int .i64 (p.b1 + p.c1), .int .i64 (p.b2 + p.c2), .int .i64 (2 * p.c0), .int .i64 (2 * p.c1), .int .i64 (2 * p.c2), .int .i64 (p.a0 + p.b0), .int .i64 (p.a1 + p.b1), .int .i64 (p.a2 + p.b2), .int .i64 (p.b0 + p.c0), .int .i64 (p.b1 + p.c1), .int .i64 (p.b2 + p.c2), .int .i64 (p.c0 + p.a0), .int .i64 (p.c1 + p.a1), .int .i64 (p.c2 + p.a2)] 207)) w2.heap.size := RR.out.new (Nat.le_trans HV.out.n hkw.below.size) (alloc_now w2 _ _) (by decide)
  have HV2 := Lib.hid hv2
  have HJ2 := Lib.hid hj2
  have HP2 := Lib.hid hp2
  have HS2 := Lib.hid hs2
  clear hv2 hj2 hp2 hs2 hkw
  go_wp2_with fail
  go_loopw [62] (fun i wr => ∃ q : Nat, q ≤ 4 ∧ i = .int .i64 q ∧ J (pre ++ someC d p q) wr ∧ Kp W wr ∧ VisI n0 Sp l Yb Vb wr ∧ wr.heap[w2.heap.size]? = some (.cells #[.int .i64 (2 * p.a0), .int .i64 (2 * p.a1), .int .i64 (2 * p.a2), .int .i64 (p.a0 + p.b0), .int .i64 (p.a1 + p.b1), .int .i64 (p.a2 + p.b2), .int .i64 (p.c0 + p.a0), .int .i64 (p.c1 + p.a1), .int .i64 (p.c2 + p.a2), .int .i64 (p.a0 + p.b0), .int .i64 (p.a1 + p.b1), .int .i64 (p.a2 + p.b2), .int .i64 (2 * p.b0), .int .i64 (2 * p.b1), .int .i64 (2 * p.b2), .int .i64 (p.b0 + p.c0), .int .i64 (p.b1 + p.c1), .int .i64 (p.b2 + p.c2), .int .i64 (p.c0 + p.a0), .int .i64 (p.c1 + p.a1), .int .i64 (p.c2 + p.a2), .int .i64 (p.b0 + p.c0), .int .i64 (p.b1 + p.c1), .int .i64 (p.b2 + p.c2), .int .i64 (2 * p.c0), .int .i64 (2 * p.c1), .int .i64 (2 * p.c2), .int .i64 (p.a0 + p.b0), .int .i64 (p.a1 + p.b1), .int .i64 (p.a2 + p.b2), .int .i64 (p.b0 + p.c0), .int .i64 (p.b1 + p.c1), .int .i64 (p.b2 + p.c2), .int .i64 (p.c0 + p.a0), .int .i64 (p.c1 + p.a1), .int .i64 (p.c2 + p.a2)] 207 (0, 0)) ∧ Sp wr w2.heap.size) (fun i _ => 4 - (intOf i).toNat)
  case atStart => exact ⟨0, by omega, rfl, by simpa [someC] using HJ2.out, HP2.out, HV2.out, alloc_now _ _ _, HS2.out⟩
  case round =>
    obtain ⟨q, hq, rfl, hj, hp, hv, hl, hs⟩ := hrel
    have HJ3 := Lib.hid hj
    have HP3 := Lib.hid hp
    have HV3 := Lib.hid hv
    have HL3 := Lib.hid hl
    have HS3 := Lib.hid hs
    have cv := hv.v
    have cy := hv.y
    unfold visitV at cv
    haveI : Lower Yb wr.heap.size := ⟨cell_lt cy⟩
    haveI : Lower Vb wr.heap.size := ⟨cell_lt cv⟩
    clear hj hp hv hs HJ2 HP2 HV2 HS2 HJ HV
    rcases (show q = 0 ∨ q = 1 ∨ q = 2 ∨ q = 3 ∨ q = 4 by omega) with rfl | rfl | rfl | rfl | rfl
    · haveI : Lower w2.heap.size wr.heap.size := ⟨(Array.getElem?_eq_some_iff.1 hl).1⟩
      have f0 : wr.cell? ⟨w2.heap.size, 0, none⟩ = some (.int .i64 (2 * p.a0)) := cell_blk hl rfl
      have f1 : wr.cell? ⟨w2.heap.size, 1, none⟩ = some (.int .i64 (2 * p.a1)) := cell_blk hl rfl
      have f2 : wr.cell? ⟨w2.heap.size, 2, none⟩ = some (.int .i64 (2 * p.a2)) := cell_blk hl rfl
      have f3 : wr.cell? ⟨w2.heap.size, 3, none⟩ = some (.int .i64 (p.a0 + p.b0)) := cell_blk hl rfl
      have f4 : wr.cell? ⟨w2.heap.size, 4, none⟩ = some (.int .i64 (p.a1 + p.b1)) := cell_blk hl rfl
      have f5 : wr.cell? ⟨w2.heap.size, 5, none⟩ = some (.int .i64 (p.a2 + p.b2)) := cell_blk hl rfl
      have f6 : wr.cell? ⟨w2.heap.size, 6, none⟩ = some (.int .i64 (p.c0 + p.a0)) := cell_blk hl rfl
      have f7 : wr.cell? ⟨w2.heap.size, 7, none⟩ = some (.int .i64 (p.c1 + p.a1)) := cell_blk hl rfl
      have f8 : wr.cell? ⟨w2.heap.size, 8, none⟩ = some (.int .i64 (p.c2 + p.a2)) := cell_blk hl rfl
      have hc : ∀ w', Kept wr w' → Calls Tryz.prog 295 #[.agg #[.int .i64 (2 * p.a0), .int .i64 (2 * p.a1), .int .i64 (2 * p.a2), .int .i64 (p.a0 + p.b0), .int .i64 (p.a1 + p.b1), .int .i64 (p.a2 + p.b2), .int .i64 (p.c0 + p.a0), .int .i64 (p.c1 + p.a1), .int .i64 (p.c2 + p.a2)], .int .i64 d, .pointer (some ⟨Yb, 0, none⟩), .pointer (some ⟨Vb, 0, none⟩)] w' (VisR Kp J Jx (pre ++ someC d p 0) (cutL d p.s0) w') := fun w' hk => IH.out p.s0 (2 * m) _ w' (fun x hx => HG.out x (mem_part d p 0 hx)) HS.out.1 HMD.out (HV3.out.on RR.out (RR.out.kept hk)) (JJ.out _ _ _ HJ3.out hk) (by have := HN.out; rw [List.length_append, someC_len d p 0 (by omega), Nat.add_assoc]; rw [Nat.pow_succ] at this; omega)
      have HC := Lib.hid hc
      clear hc hl
      go_wp2_with (go_at_call 295; refine (HC.out _ (by (repeat (first | exact Kept.refl _ | assumption | refine Kept.alloc ?_ _ | refine Kept.ext ?_ _ | refine Kept.drew ?_ | refine Kept.drewN ?_ _)))).mono ?_; rintro e w3 (⟨rfl, hJ3, hk3⟩ | ⟨rfl, q3, hq3, hx3⟩))
      · go_roundw
        case rel =>
          have hk4 := RR.out.tr (RR.out.kept (show Kept wr (wr.alloc (.cells #[.int .i64 (2 * p.a0), .int .i64 (2 * p.a1), .int .i64 (2 * p.a2), .int .i64 (p.a0 + p.b0), .int .i64 (p.a1 + p.b1), .int .i64 (p.a2 + p.b2), .int .i64 (p.c0 + p.a0), .int .i64 (p.c1 + p.a1), .int .i64 (p.c2 + p.a2)] 207)) by (repeat (first | exact Kept.refl _ | assumption | refine Kept.alloc ?_ _ | refine Kept.ext ?_ _ | refine Kept.drew ?_ | refine Kept.drewN ?_ _)))) hk3
          have hl4 := RR.out.same hk4 HS3.out HL3.out rfl
          exact ⟨1, by omega, by go_num, by rw [← someC_step d p 0 (by omega), ← List.append_assoc]; exact hJ3, RR.out.tr HP3.out hk4, HV3.out.on RR.out hk4, hl4.1, hl4.2⟩
        case measure =>
          simp [intOf]
      · go_ret
        exact .inr ⟨rfl, someC d p 0 ++ q3, someC_pre (by omega) hq3, by rw [← List.append_assoc]; exact hx3⟩
    · haveI : Lower w2.heap.size wr.heap.size := ⟨(Array.getElem?_eq_some_iff.1 hl).1⟩
      have f0 : wr.cell? ⟨w2.heap.size, 9, none⟩ = some (.int .i64 (p.a0 + p.b0)) := cell_blk hl rfl
      have f1 : wr.cell? ⟨w2.heap.size, 10, none⟩ = some (.int .i64 (p.a1 + p.b1)) := cell_blk hl rfl
      have f2 : wr.cell? ⟨w2.heap.size, 11, none⟩ = some (.int .i64 (p.a2 + p.b2)) := cell_blk hl rfl
      have f3 : wr.cell? ⟨w2.heap.size, 12, none⟩ = some (.int .i64 (2 * p.b0)) := cell_blk hl rfl
      have f4 : wr.cell? ⟨w2.heap.size, 13, none⟩ = some (.int .i64 (2 * p.b1)) := cell_blk hl rfl
      have f5 : wr.cell? ⟨w2.heap.size, 14, none⟩ = some (.int .i64 (2 * p.b2)) := cell_blk hl rfl
      have f6 : wr.cell? ⟨w2.heap.size, 15, none⟩ = some (.int .i64 (p.b0 + p.c0)) := cell_blk hl rfl
      have f7 : wr.cell? ⟨w2.heap.size, 16, none⟩ = some (.int .i64 (p.b1 + p.c1)) := cell_blk hl rfl
      have f8 : wr.cell? ⟨w2.heap.size, 17, none⟩ = some (.int .i64 (p.b2 + p.c2)) := cell_blk hl rfl
      have hc : ∀ w', Kept wr w' → Calls Tryz.prog 295 #[.agg #[.int .i64 (p.a0 + p.b0), .int .i64 (p.a1 + p.b1), .int .i64 (p.a2 + p.b2), .int .i64 (2 * p.b0), .int .i64 (2 * p.b1), .int .i64 (2 * p.b2), .int .i64 (p.b0 + p.c0), .int .i64 (p.b1 + p.c1), .int .i64 (p.b2 + p.c2)], .int .i64 d, .pointer (some ⟨Yb, 0, none⟩), .pointer (some ⟨Vb, 0, none⟩)] w' (VisR Kp J Jx (pre ++ someC d p 1) (cutL d p.s1) w') := fun w' hk => IH.out p.s1 (2 * m) _ w' (fun x hx => HG.out x (mem_part d p 1 hx)) HS.out.2.1 HMD.out (HV3.out.on RR.out (RR.out.kept hk)) (JJ.out _ _ _ HJ3.out hk) (by have := HN.out; rw [List.length_append, someC_len d p 1 (by omega), Nat.add_assoc]; rw [Nat.pow_succ] at this; omega)
      have HC := Lib.hid hc
      clear hc hl
      go_wp2_with (go_at_call 295; refine (HC.out _ (by (repeat (first | exact Kept.refl _ | assumption | refine Kept.alloc ?_ _ | refine Kept.ext ?_ _ | refine Kept.drew ?_ | refine Kept.drewN ?_ _)))).mono ?_; rintro e w3 (⟨rfl, hJ3, hk3⟩ | ⟨rfl, q3, hq3, hx3⟩))
      · go_roundw
        case rel =>
          have hk4 := RR.out.tr (RR.out.kept (show Kept wr (wr.alloc (.cells #[.int .i64 (p.a0 + p.b0), .int .i64 (p.a1 + p.b1), .int .i64 (p.a2 + p.b2), .int .i64 (2 * p.b0), .int .i64 (2 * p.b1), .int .i64 (2 * p.b2), .int .i64 (p.b0 + p.c0), .int .i64 (p.b1 + p.c1), .int .i64 (p.b2 + p.c2)] 207)) by (repeat (first | exact Kept.refl _ | assumption | refine Kept.alloc ?_ _ | refine Kept.ext ?_ _ | refine Kept.drew ?_ | refine Kept.drewN ?_ _)))) hk3
          have hl4 := RR.out.same hk4 HS3.out HL3.out rfl
          exact ⟨2, by omega, by go_num, by rw [← someC_step d p 1 (by omega), ← List.append_assoc]; exact hJ3, RR.out.tr HP3.out hk4, HV3.out.on RR.out hk4, hl4.1, hl4.2⟩
        case measure =>
          simp [intOf]
      · go_ret
        exact .inr ⟨rfl, someC d p 1 ++ q3, someC_pre (by omega) hq3, by rw [← List.append_assoc]; exact hx3⟩
    · haveI : Lower w2.heap.size wr.heap.size := ⟨(Array.getElem?_eq_some_iff.1 hl).1⟩
      have f0 : wr.cell? ⟨w2.heap.size, 18, none⟩ = some (.int .i64 (p.c0 + p.a0)) := cell_blk hl rfl
      have f1 : wr.cell? ⟨w2.heap.size, 19, none⟩ = some (.int .i64 (p.c1 + p.a1)) := cell_blk hl rfl
      have f2 : wr.cell? ⟨w2.heap.size, 20, none⟩ = some (.int .i64 (p.c2 + p.a2)) := cell_blk hl rfl
      have f3 : wr.cell? ⟨w2.heap.size, 21, none⟩ = some (.int .i64 (p.b0 + p.c0)) := cell_blk hl rfl
      have f4 : wr.cell? ⟨w2.heap.size, 22, none⟩ = some (.int .i64 (p.b1 + p.c1)) := cell_blk hl rfl
      have f5 : wr.cell? ⟨w2.heap.size, 23, none⟩ = some (.int .i64 (p.b2 + p.c2)) := cell_blk hl rfl
      have f6 : wr.cell? ⟨w2.heap.size, 24, none⟩ = some (.int .i64 (2 * p.c0)) := cell_blk hl rfl
      have f7 : wr.cell? ⟨w2.heap.size, 25, none⟩ = some (.int .i64 (2 * p.c1)) := cell_blk hl rfl
      have f8 : wr.cell? ⟨w2.heap.size, 26, none⟩ = some (.int .i64 (2 * p.c2)) := cell_blk hl rfl
      have hc : ∀ w', Kept wr w' → Calls Tryz.prog 295 #[.agg #[.int .i64 (p.c0 + p.a0), .int .i64 (p.c1 + p.a1), .int .i64 (p.c2 + p.a2), .int .i64 (p.b0 + p.c0), .int .i64 (p.b1 + p.c1), .int .i64 (p.b2 + p.c2), .int .i64 (2 * p.c0), .int .i64 (2 * p.c1), .int .i64 (2 * p.c2)], .int .i64 d, .pointer (some ⟨Yb, 0, none⟩), .pointer (some ⟨Vb, 0, none⟩)] w' (VisR Kp J Jx (pre ++ someC d p 2) (cutL d p.s2) w') := fun w' hk => IH.out p.s2 (2 * m) _ w' (fun x hx => HG.out x (mem_part d p 2 hx)) HS.out.2.2.1 HMD.out (HV3.out.on RR.out (RR.out.kept hk)) (JJ.out _ _ _ HJ3.out hk) (by have := HN.out; rw [List.length_append, someC_len d p 2 (by omega), Nat.add_assoc]; rw [Nat.pow_succ] at this; omega)
      have HC := Lib.hid hc
      clear hc hl
      go_wp2_with (go_at_call 295; refine (HC.out _ (by (repeat (first | exact Kept.refl _ | assumption | refine Kept.alloc ?_ _ | refine Kept.ext ?_ _ | refine Kept.drew ?_ | refine Kept.drewN ?_ _)))).mono ?_; rintro e w3 (⟨rfl, hJ3, hk3⟩ | ⟨rfl, q3, hq3, hx3⟩))
      · go_roundw
        case rel =>
          have hk4 := RR.out.tr (RR.out.kept (show Kept wr (wr.alloc (.cells #[.int .i64 (p.c0 + p.a0), .int .i64 (p.c1 + p.a1), .int .i64 (p.c2 + p.a2), .int .i64 (p.b0 + p.c0), .int .i64 (p.b1 + p.c1), .int .i64 (p.b2 + p.c2), .int .i64 (2 * p.c0), .int .i64 (2 * p.c1), .int .i64 (2 * p.c2)] 207)) by (repeat (first | exact Kept.refl _ | assumption | refine Kept.alloc ?_ _ | refine Kept.ext ?_ _ | refine Kept.drew ?_ | refine Kept.drewN ?_ _)))) hk3
          have hl4 := RR.out.same hk4 HS3.out HL3.out rfl
          exact ⟨3, by omega, by go_num, by rw [← someC_step d p 2 (by omega), ← List.append_assoc]; exact hJ3, RR.out.tr HP3.out hk4, HV3.out.on RR.out hk4, hl4.1, hl4.2⟩
        case measure =>
          simp [intOf]
      · go_ret
        exact .inr ⟨rfl, someC d p 2 ++ q3, someC_pre (by omega) hq3, by rw [← List.append_assoc]; exact hx3⟩
    · haveI : Lower w2.heap.size wr.heap.size := ⟨(Array.getElem?_eq_some_iff.1 hl).1⟩
      have f0 : wr.cell? ⟨w2.heap.size, 27, none⟩ = some (.int .i64 (p.a0 + p.b0)) := cell_blk hl rfl
      have f1 : wr.cell? ⟨w2.heap.size, 28, none⟩ = some (.int .i64 (p.a1 + p.b1)) := cell_blk hl rfl
      have f2 : wr.cell? ⟨w2.heap.size, 29, none⟩ = some (.int .i64 (p.a2 + p.b2)) := cell_blk hl rfl
      have f3 : wr.cell? ⟨w2.heap.size, 30, none⟩ = some (.int .i64 (p.b0 + p.c0)) := cell_blk hl rfl
      have f4 : wr.cell? ⟨w2.heap.size, 31, none⟩ = some (.int .i64 (p.b1 + p.c1)) := cell_blk hl rfl
      have f5 : wr.cell? ⟨w2.heap.size, 32, none⟩ = some (.int .i64 (p.b2 + p.c2)) := cell_blk hl rfl
      have f6 : wr.cell? ⟨w2.heap.size, 33, none⟩ = some (.int .i64 (p.c0 + p.a0)) := cell_blk hl rfl
      have f7 : wr.cell? ⟨w2.heap.size, 34, none⟩ = some (.int .i64 (p.c1 + p.a1)) := cell_blk hl rfl
      have f8 : wr.cell? ⟨w2.heap.size, 35, none⟩ = some (.int .i64 (p.c2 + p.a2)) := cell_blk hl rfl
      have hc : ∀ w', Kept wr w' → Calls Tryz.prog 295 #[.agg #[.int .i64 (p.a0 + p.b0), .int .i64 (p.a1 + p.b1), .int .i64 (p.a2 + p.b2), .int .i64 (p.b0 + p.c0), .int .i64 (p.b1 + p.c1), .int .i64 (p.b2 + p.c2), .int .i64 (p.c0 + p.a0), .int .i64 (p.c1 + p.a1), .int .i64 (p.c2 + p.a2)], .int .i64 d, .pointer (some ⟨Yb, 0, none⟩), .pointer (some ⟨Vb, 0, none⟩)] w' (VisR Kp J Jx (pre ++ someC d p 3) (cutL d p.s3) w') := fun w' hk => IH.out p.s3 (2 * m) _ w' (fun x hx => HG.out x (mem_part d p 3 hx)) HS.out.2.2.2 HMD.out (HV3.out.on RR.out (RR.out.kept hk)) (JJ.out _ _ _ HJ3.out hk) (by have := HN.out; rw [List.length_append, someC_len d p 3 (by omega), Nat.add_assoc]; rw [Nat.pow_succ] at this; omega)
      have HC := Lib.hid hc
      clear hc hl
      go_wp2_with (go_at_call 295; refine (HC.out _ (by (repeat (first | exact Kept.refl _ | assumption | refine Kept.alloc ?_ _ | refine Kept.ext ?_ _ | refine Kept.drew ?_ | refine Kept.drewN ?_ _)))).mono ?_; rintro e w3 (⟨rfl, hJ3, hk3⟩ | ⟨rfl, q3, hq3, hx3⟩))
      · go_roundw
        case rel =>
          have hk4 := RR.out.tr (RR.out.kept (show Kept wr (wr.alloc (.cells #[.int .i64 (p.a0 + p.b0), .int .i64 (p.a1 + p.b1), .int .i64 (p.a2 + p.b2), .int .i64 (p.b0 + p.c0), .int .i64 (p.b1 + p.c1), .int .i64 (p.b2 + p.c2), .int .i64 (p.c0 + p.a0), .int .i64 (p.c1 + p.a1), .int .i64 (p.c2 + p.a2)] 207)) by (repeat (first | exact Kept.refl _ | assumption | refine Kept.alloc ?_ _ | refine Kept.ext ?_ _ | refine Kept.drew ?_ | refine Kept.drewN ?_ _)))) hk3
          have hl4 := RR.out.same hk4 HS3.out HL3.out rfl
          exact ⟨4, by omega, by go_num, by rw [← someC_step d p 3 (by omega), ← List.append_assoc]; exact hJ3, RR.out.tr HP3.out hk4, HV3.out.on RR.out hk4, hl4.1, hl4.2⟩
        case measure =>
          simp [intOf]
      · go_ret
        exact .inr ⟨rfl, someC d p 3 ++ q3, someC_pre (by omega) hq3, by rw [← List.append_assoc]; exact hx3⟩
    · clear hl
      go_wp2_with fail
      go_ret
      exact .inl ⟨rfl, HJ3.out, HP3.out⟩
theorem visits_all {n0 : Nat} {Kp : World → World → Prop} {Sp : World → Nat → Prop} {J Jx : List Pn → World → Prop} {G : Pn → Prop} (R : Rnd n0 Kp Sp) (JO : JOn J) (l Yb Vb N : Nat)
    (hY : ∀ m pre x W, J pre W → G x → pre.length < N → YieldAt Fence.wide m Tryz.prog l #[Pn.val x] W fun e W' => (e = .returned (.bool true) ∧ J (pre ++ [x]) W' ∧ Kp W W') ∨ (e = .returned (.bool false) ∧ Jx (pre ++ [x]) W')) :
    ∀ d, Visits n0 Kp Sp J Jx G l Yb Vb N d
  | 0 => visit_zero R JO l Yb Vb N hY
  | d + 1 => visit_succ R JO l Yb Vb N d (visits_all R JO l Yb Vb N hY d)
end Go.Proofs.YtnbjealpcjfllaaGreatDoor

namespace Go.Proofs.YtnbjealpcjfllaaGreatDoor
set_option linter.unusedVariables false
set_option linter.unusedSimpArgs false
open Go.RowKit Go.Shelf
attribute [local go_sem] Oper.semAt_some
/-- What a round keeps that stores into two boxes, and into lists of spans. -/
structure KpS (e1 e2 : Nat) (A B : World) : Prop where
  os : B.os = A.os
  tape : B.tape = A.tape
  output : B.output = A.output
  size : A.heap.size ≤ B.heap.size
  cells : ∀ k cs T o, A.heap[k]? = some (.cells cs T o) → k ≠ e1 → k ≠ e2 → T ≠ 44 → B.heap[k]? = some (.cells cs T o)
theorem KpS.refl (e1 e2 : Nat) (A : World) : KpS e1 e2 A A := ⟨rfl, rfl, rfl, Nat.le_refl _, fun _ _ _ _ h _ _ _ => h⟩
theorem KpS.trans {e1 e2 : Nat} {A B C : World} (h : KpS e1 e2 A B) (k : KpS e1 e2 B C) : KpS e1 e2 A C :=
  ⟨k.os.trans h.os, k.tape.trans h.tape, k.output.trans h.output, Nat.le_trans h.size k.size, fun i cs T o hi h1 h2 h3 => k.cells i cs T o (h.cells i cs T o hi h1 h2 h3) h1 h2 h3⟩
theorem KpS.kept {e1 e2 : Nat} {A B : World} (h : Kept A B) : KpS e1 e2 A B :=
  ⟨h.below.os, h.below.tape, h.below.output, h.below.size, fun k _ _ _ hk _ _ _ => (h.below.block k (Array.getElem?_eq_some_iff.1 hk).1).trans hk⟩
theorem KpS.alloc {e1 e2 : Nat} {A B : World} (h : KpS e1 e2 A B) (o : Obj) : KpS e1 e2 A (B.alloc o) := h.trans (KpS.kept ((Kept.refl B).alloc o))
theorem KpS.on {e1 e2 : Nat} {A B C : World} (h : KpS e1 e2 A B) (k : Kept B C) : KpS e1 e2 A C := h.trans (KpS.kept k)
theorem KpS.put {e1 e2 : Nat} {A B : World} (h : KpS e1 e2 A B) {p : Addr} (hp : p.block = e1 ∨ p.block = e2) (u : Value) : KpS e1 e2 A (B.setCell p u) :=
  h.trans ⟨((Below.refl 0 B).setCell (p := p) (Nat.zero_le _) u).os, ((Below.refl 0 B).setCell (p := p) (Nat.zero_le _) u).tape, ((Below.refl 0 B).setCell (p := p) (Nat.zero_le _) u).output, ((Below.refl 0 B).setCell (p := p) (Nat.zero_le _) u).size,
    fun k _ _ _ hk h1 h2 _ => (Below.heap_setCell B p u k (by rcases hp with e | e <;> rw [e] <;> assumption)).trans hk⟩
/-- A list of spans that grows. -/
theorem KpS.grown {e1 e2 : Nat} {A B C : World} (h : KpS e1 e2 A B) {base c n : Nat} {v : Value} {xs : List Value} (hv : B.ownsRow base 44 c v n xs) (hg : B.grownBy C v.ownBlock) : KpS e1 e2 A C :=
  h.trans ⟨hg.os, hg.tape, hg.output, hg.size, fun k cs T o hk _ _ h3 => by
    refine (hg.block k (Array.getElem?_eq_some_iff.1 hk).1 (fun e => ?_)).trans hk
    rcases hv.2 with ⟨rfl, -⟩ | ⟨g, cap, cur, rfl, -, hgc, -⟩
    · cases e
    · simp only [Value.ownBlock, Option.some.injEq] at e
      subst e
      rw [hgc] at hk
      simp only [Option.some.injEq, Obj.cells.injEq] at hk
      exact h3 hk.2.1.symm⟩
theorem kpS_b {e1 e2 : Nat} (W : World) (l : Nat) (o o' : Obj) (h : W.heap[l]? = some o) (hc : o.isCells = false) : KpS e1 e2 W (W.putObj l o') := by
  have g := grownBy_putObj' W l o'
  have b := (Below.refl 0 W).grown g (Nat.zero_le _) (fun _ _ => Nat.zero_le _)
  refine ⟨b.os, b.tape, b.output, b.size, fun k cs T q hk _ _ _ => ?_⟩
  refine (World.putObj_heap_other (fun e => ?_)).trans hk
  subst e
  rw [h] at hk
  cases hk
  cases hc
theorem KpS.cell {e1 e2 : Nat} {A B : World} (h : KpS e1 e2 A B) {b : Nat} {cs : Array Value} {T : TypeId} {o : Nat × Nat} (hb : A.heap[b]? = some (.cells cs T o)) (h1 : b ≠ e1) (h2 : b ≠ e2) (h3 : T ≠ 44) : B.heap[b]? = some (.cells cs T o) := h.cells b cs T o hb h1 h2 h3
def SpS (n0 : Nat) (A : World) (k : Nat) : Prop := n0 ≤ k ∧ ∃ cs T o, A.heap[k]? = some (.cells cs T o) ∧ T ≠ 44
theorem rndS {e1 e2 n0 : Nat} (h1 : e1 < n0) (h2 : e2 < n0) : Rnd n0 (KpS e1 e2) (SpS n0) where
  tr h k := h.trans k
  kept h := KpS.kept h
  le h := h.size
  new hk hb hT := ⟨hk, _, _, _, hb, hT⟩
  same h hs hk _ := by
    obtain ⟨hn, cs, T, o, hb, hT⟩ := hs
    have := h.cells _ _ _ _ hb (by omega) (by omega) hT
    refine ⟨?_, hn, cs, T, o, this, hT⟩
    rw [this, ← hb]
    exact hk
set_option maxRecDepth 100000 in
set_option maxHeartbeats 4000000 in
theorem cut1_any {n0 : Nat} {Kp : World → World → Prop} {Sp : World → Nat → Prop} {J Jx : List Pn → World → Prop} {G : Pn → Prop} (R : Rnd n0 Kp Sp) (JO : JOn J) (l Bp Bd N d : Nat) (p : Pn) (m : Int) (W : World)
    (hY : ∀ m pre x W, J pre W → G x → pre.length < N → YieldAt Fence.wide m Tryz.prog l #[Pn.val x] W fun e W' => (e = .returned (.bool true) ∧ J (pre ++ [x]) W' ∧ Kp W W') ∨ (e = .returned (.bool false) ∧ Jx (pre ++ [x]) W'))
    (hG : ∀ x ∈ cutL d p, G x) (hd : d ≤ 3) (hb : p.bd m) (hm : m * 2 ^ d ≤ 1024) (hN : 4 ^ d ≤ N) (hn : n0 ≤ W.heap.size) (h0 : J [] W)
    (hp : W.heap[Bp]? = some (.cells #[.int .i64 p.a0, .int .i64 p.a1, .int .i64 p.a2, .int .i64 p.b0, .int .i64 p.b1, .int .i64 p.b2, .int .i64 p.c0, .int .i64 p.c1, .int .i64 p.c2] 207 (0, 0))) (hdb : W.heap[Bd]? = some (.cells #[.int .i64 d] 3 (0, 0))) :
    Calls Tryz.prog 294 #[.func (.yield l) #[] #[], .pointer (some ⟨Bp, 0, none⟩), .pointer (some ⟨Bd, 0, none⟩)] W fun e W' => (∃ v, e = .returned v) ∧ ((∃ xs, xs = cutL d p ∧ J xs W') ∨ (∃ pre, pre <+: cutL d p ∧ Jx pre W')) := by
  have hall := visits_all (Jx := Jx) R JO l W.heap.size (W.heap.size + 1) N hY d hd p m [] 
  have x0 : W.cell? ⟨Bd, 0, none⟩ = some (.int .i64 d) := cell_blk hdb rfl
  have y0 : W.cell? ⟨Bp, 0, none⟩ = some (.int .i64 p.a0) := cell_blk hp rfl
  have y1 : W.cell? ⟨Bp, 1, none⟩ = some (.int .i64 p.a1) := cell_blk hp rfl
  have y2 : W.cell? ⟨Bp, 2, none⟩ = some (.int .i64 p.a2) := cell_blk hp rfl
  have y3 : W.cell? ⟨Bp, 3, none⟩ = some (.int .i64 p.b0) := cell_blk hp rfl
  have y4 : W.cell? ⟨Bp, 4, none⟩ = some (.int .i64 p.b1) := cell_blk hp rfl
  have y5 : W.cell? ⟨Bp, 5, none⟩ = some (.int .i64 p.b2) := cell_blk hp rfl
  have y6 : W.cell? ⟨Bp, 6, none⟩ = some (.int .i64 p.c0) := cell_blk hp rfl
  have y7 : W.cell? ⟨Bp, 7, none⟩ = some (.int .i64 p.c1) := cell_blk hp rfl
  have y8 : W.cell? ⟨Bp, 8, none⟩ = some (.int .i64 p.c2) := cell_blk hp rfl
  haveI : Lower Bp W.heap.size := ⟨cell_lt y0⟩
  haveI : Lower Bd W.heap.size := ⟨cell_lt x0⟩
  have HALL := Lib.hid hall
  have HJ := Lib.hid h0
  have hmf : ∀ (fn : Fn) (first cap : Array Value) (w : World), (Instr.makeFunc fn first cap).run Tryz.prog w = .ok (.func fn first cap) w := fun _ _ _ _ => rfl
  clear hall h0 hp hdb hY
  go_enter Tryz.func294, Tryz.ntmps294
  go_wp2_with fail
  refine (HALL.out _ hG hb hm ?hv ?hj (by simpa using hN)).mono ?_
  case hv =>
    refine ⟨?_, ?_, ?_, ?_, ?_⟩
    · simp; omega
    · go_simp
    · exact R.new hn (T := 351) (cs := #[.func (.yield l) #[] #[]]) (fr_kept (alloc_now W _ _) (by (repeat (first | exact Kept.refl _ | assumption | refine Kept.alloc ?_ _ | refine Kept.ext ?_ _ | refine Kept.drew ?_ | refine Kept.drewN ?_ _)))) (by decide)
    · go_simp
      rfl
    · exact R.new (by omega) (T := 352) (cs := #[visitV W.heap.size (W.heap.size + 1)]) (by exact alloc_now (W.alloc (.cells #[.func (.yield l) #[] #[]] 351)) _ (W.heap.size + 1)) (by decide)
  case hj => exact JO _ _ _ HJ.out (by (repeat (first | exact Kept.refl _ | assumption | refine Kept.alloc ?_ _ | refine Kept.ext ?_ _ | refine Kept.drew ?_ | refine Kept.drewN ?_ _)))
  rintro e w3 (⟨rfl, hJ3, hk3⟩ | ⟨rfl, q3, hq3, hx3⟩)
  · go_wp2_with fail
    go_end0
    exact ⟨⟨_, rfl⟩, .inl ⟨_, rfl, hJ3⟩⟩
  · go_wp2_with fail
    go_end0
    exact ⟨⟨_, rfl⟩, .inr ⟨q3, hq3, hx3⟩⟩
theorem fcut_any (p0 p1 p2 p3 p4 p5 p6 p7 p8 d : Int) (w : World) :
    Calls Tryz.prog 258 #[.agg #[.int .i64 p0, .int .i64 p1, .int .i64 p2, .int .i64 p3, .int .i64 p4, .int .i64 p5, .int .i64 p6, .int .i64 p7, .int .i64 p8], .int .i64 d] w fun e w' => e = .returned (.func (.func 294) #[] #[.pointer (some ⟨w.heap.size, 0, none⟩), .pointer (some ⟨w.heap.size + 1, 0, none⟩)]) ∧ w' = (w.alloc (.cells #[.int .i64 p0, .int .i64 p1, .int .i64 p2, .int .i64 p3, .int .i64 p4, .int .i64 p5, .int .i64 p6, .int .i64 p7, .int .i64 p8] 207)).alloc (.cells #[.int .i64 d] 3) := by
  have hmf : ∀ (fn : Fn) (first cap : Array Value) (w : World), (Instr.makeFunc fn first cap).run Tryz.prog w = .ok (.func fn first cap) w := fun _ _ _ _ => rfl
  go_enter Tryz.func258, Tryz.ntmps258
  go_wp2_with fail
  go_ret
  exact ⟨rfl, rfl⟩
/-- A part of a panel. -/
abbrev PtP (G : Pn → Prop) := { x : Pn // G x }
def valsP {G : Pn → Prop} (l : List (PtP G)) : List Pn := l.map (·.1)
/-- The parts of a panel, one a round. -/
theorem cut_stops {n0 n : Nat} {Kp : World → World → Prop} {Sp : World → Nat → Prop} {G : Pn → Prop} (R : Rnd n0 Kp Sp) (Bp Bd d : Nat) (p : Pn) (m : Int) (w : World) (hG : ∀ x ∈ cutL d p, G x) (hd : d ≤ 3) (hb : p.bd m) (hm : m * 2 ^ d ≤ 1024) (hn : n0 ≤ w.heap.size)
    (hp : w.heap[Bp]? = some (.cells #[.int .i64 p.a0, .int .i64 p.a1, .int .i64 p.a2, .int .i64 p.b0, .int .i64 p.b1, .int .i64 p.b2, .int .i64 p.c0, .int .i64 p.c1, .int .i64 p.c2] 207 (0, 0))) (hdb : w.heap[Bd]? = some (.cells #[.int .i64 d] 3 (0, 0))) :
    SeqStopsK Fence.wide n Tryz.prog 294 #[.pointer (some ⟨Bp, 0, none⟩), .pointer (some ⟨Bd, 0, none⟩)] (fun x : PtP G => #[x.1.val]) Kp (fun ys => valsP ys = cutL d p) (fun pre => valsP pre <+: cutL d p) (4 ^ d) w := fun l J Jx W hW hJ _ hY h0 => by
  refine callsIn_wide.2 ((cut1_any (J := fun s w => ∃ s' : List (PtP G), valsP s' = s ∧ J s' w) (Jx := fun s w => ∃ s' : List (PtP G), valsP s' = s ∧ Jx s' w) (G := G) R ?_ l Bp Bd (4 ^ d) d p m W ?_ hG hd hb hm (Nat.le_refl _) (Nat.le_trans hn hW.size) ⟨[], rfl, h0⟩
    ((hW.block Bp (Array.getElem?_eq_some_iff.1 hp).1).trans hp) ((hW.block Bd (Array.getElem?_eq_some_iff.1 hdb).1).trans hdb)).mono ?_)
  · rintro s A B ⟨s', e, hs⟩ hk
    exact ⟨s', e, hJ s' A B none hs hk.grown (fun r e => by cases e)⟩
  · rintro m pre x W ⟨s', rfl, h1⟩ hx h2
    refine YieldAt.any m (YieldAt.mono (hY s' ⟨x, hx⟩ W h1 (by simpa [valsP] using h2)) fun e w' h => ?_)
    rcases h with ⟨he, hj, hk⟩ | ⟨he, hj⟩
    · exact .inl ⟨he, ⟨_, by simp [valsP], hj⟩, hk⟩
    · exact .inr ⟨he, ⟨_, by simp [valsP], hj⟩⟩
  · rintro e w' ⟨hv, ⟨xs, hx, s', hs, hj⟩ | ⟨pre, hp, s', hs, hj⟩⟩
    · exact ⟨hv, .inl ⟨s', hs.trans hx, hj⟩⟩
    · exact ⟨hv, .inr ⟨s', by show valsP s' <+: _; rw [hs]; exact hp, hj⟩⟩
end Go.Proofs.YtnbjealpcjfllaaGreatDoor

