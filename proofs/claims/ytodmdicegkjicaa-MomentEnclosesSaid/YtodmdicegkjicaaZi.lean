/- Contract: the moments of charged panels about a center, of the reference. No conditions but those of each theorem. Contracts: terms of far fields, of the reference. Conditions: those of each theorem. Contract: a term of far fields, of the reference. No conditions. Contract: the terms of a far field added up, of the reference. No conditions. Contracts: what the higher orders are worth, of the program. No conditions. Contracts: what the higher orders are worth, of the reference. No conditions. The sanity check of the statements about moments returns true. No conditions. For every input the statement MomentFars returns true and leaves its arguments as they were. No conditions. Contracts: the greatest squared distance of a corner from a center, of the program and of the reference. No conditions but those of each theorem. -/
import Derived.Test.YtodmdicegkjicaaZh
import Derived.Test.YtodmdicegkjicaaZf
import Derived.Test.YtodmdicegkjicaaZg
import Derived.Test.YtodmdicegkjicaaZq
import Derived.Test.YtodmdicegkjicaaZd
import Derived.LoopN
namespace Go.Proofs.Ytodmdicegkjicaa
set_option linter.unusedVariables false
set_option linter.unusedSimpArgs false
open Go.ChangeShapes Go.WideShapes Go.ChangeAt Go.RowKit
attribute [local go_sem ↓] Go.wp_at_zero Go.wp_at_succ
end Go.Proofs.Ytodmdicegkjicaa

namespace Go.Proofs.Ytodmdicegkjicaa
set_option linter.unusedVariables false
set_option linter.unusedSimpArgs false
open Go.ChangeShapes Go.WideShapes Go.ChangeAt Go.RowKit
end Go.Proofs.Ytodmdicegkjicaa
namespace Go.Proofs.Ytodmdicegkjicaa
set_option linter.unusedVariables false
set_option linter.unusedSimpArgs false
open Go.ChangeShapes Go.WideShapes Go.ChangeAt Go.RowKit
end Go.Proofs.Ytodmdicegkjicaa

namespace Go.Proofs.Ytodmdicegkjicaa
set_option linter.unusedVariables false
set_option linter.unusedSimpArgs false
open Go.ChangeShapes Go.WideShapes Go.ChangeAt Go.RowKit Go.Deep
end Go.Proofs.Ytodmdicegkjicaa

namespace Go.Proofs.Ytodmdicegkjicaa
set_option linter.unusedVariables false
set_option linter.unusedSimpArgs false
open Go.RowKit
set_option maxRecDepth 100000 in
set_option maxHeartbeats 8000000 in
theorem mrest_any (g0 g1 u0 u1 u2 g2 : Int) (w : World) :
    Calls Try.prog 25 #[.int .i64 g0, .int .i64 g1, .agg #[.int .i64 u0, .int .i64 u1, .int .i64 u2], .int .i64 g2] w fun r w' => r = .returned (.tuple #[.int .i64 (restS g0 g1 u0 u1 u2 g2).v, .int .i64 (restS g0 g1 u0 u1 u2 g2).e]) ∧ Kept w w' := by
  cases h0 : frB g0 0 1048576
  · have e : restS g0 g1 u0 u1 u2 g2 = ⟨0, 1⟩ := by simp [restS, h0]
    rw [e]
    clear e
    go_enter Try.func25, Try.ntmps25
    go_wp2_with (first | (go_at_call 44; refine (mfrom_any _ _ _ _).mono ?_; rintro e w1 ⟨rfl, rfl⟩) | (go_at_call 29; refine (mnear_any _ _ _ _ _ (by omega)).mono ?_; rintro e w1 ⟨rfl, x, rfl⟩))
    go_ret2
    exact ⟨rfl, by (repeat (first | exact Kept.refl _ | assumption | refine Kept.alloc ?_ _ | refine Kept.ext ?_ _ | refine Kept.drew ?_ | refine Kept.drewN ?_ _))⟩
  have c0 := frB_true h0
  cases h1 : frB g1 0 131072
  · have e : restS g0 g1 u0 u1 u2 g2 = ⟨0, 1⟩ := by simp [restS, h1]
    rw [e]
    clear e
    go_enter Try.func25, Try.ntmps25
    go_wp2_with (first | (go_at_call 44; refine (mfrom_any _ _ _ _).mono ?_; rintro e w1 ⟨rfl, rfl⟩) | (go_at_call 29; refine (mnear_any _ _ _ _ _ (by omega)).mono ?_; rintro e w1 ⟨rfl, x, rfl⟩))
    go_ret2
    exact ⟨rfl, by (repeat (first | exact Kept.refl _ | assumption | refine Kept.alloc ?_ _ | refine Kept.ext ?_ _ | refine Kept.drew ?_ | refine Kept.drewN ?_ _))⟩
  have c1 := frB_true h1
  cases h2 : inB u0 u1 u2 384
  · have e : restS g0 g1 u0 u1 u2 g2 = ⟨0, 1⟩ := by simp [restS, h2]
    rw [e]
    clear e
    go_enter Try.func25, Try.ntmps25
    go_wp2_with (first | (go_at_call 44; refine (mfrom_any _ _ _ _).mono ?_; rintro e w1 ⟨rfl, rfl⟩) | (go_at_call 29; refine (mnear_any _ _ _ _ _ (by omega)).mono ?_; rintro e w1 ⟨rfl, x, rfl⟩))
    go_ret2
    exact ⟨rfl, by (repeat (first | exact Kept.refl _ | assumption | refine Kept.alloc ?_ _ | refine Kept.ext ?_ _ | refine Kept.drew ?_ | refine Kept.drewN ?_ _))⟩
  cases h3 : frB g2 0 2
  · have e : restS g0 g1 u0 u1 u2 g2 = ⟨0, 1⟩ := by simp [restS, h3]
    rw [e]
    clear e
    go_enter Try.func25, Try.ntmps25
    go_wp2_with (first | (go_at_call 44; refine (mfrom_any _ _ _ _).mono ?_; rintro e w1 ⟨rfl, rfl⟩) | (go_at_call 29; refine (mnear_any _ _ _ _ _ (by omega)).mono ?_; rintro e w1 ⟨rfl, x, rfl⟩))
    go_ret2
    exact ⟨rfl, by (repeat (first | exact Kept.refl _ | assumption | refine Kept.alloc ?_ _ | refine Kept.ext ?_ _ | refine Kept.drew ?_ | refine Kept.drewN ?_ _))⟩
  have c3 := frB_true h3
  have b2 := inB_true h2
  have e : restS g0 g1 u0 u1 u2 g2 = restV g0 (rootUpS (g1 * 1048576 * 1048576)) (sqrtS ((u0 * u0 + u1 * u1 + u2 * u2) * 1048576 * 1048576)) g2.toNat := by simp [restS, h0, h1, h2, h3]
  rw [e]
  clear e
  have p0 := mul_sq 384 147456 (show -384 ≤ u0 ∧ u0 ≤ 384 by omega) (show -384 ≤ u0 ∧ u0 ≤ 384 by omega) rfl
  have p1 := mul_sq 384 147456 (show -384 ≤ u1 ∧ u1 ≤ 384 by omega) (show -384 ≤ u1 ∧ u1 ≤ 384 by omega) rfl
  have p2 := mul_sq 384 147456 (show -384 ≤ u2 ∧ u2 ≤ 384 by omega) (show -384 ≤ u2 ∧ u2 ≤ 384 by omega) rfl
  have p3 : 0 ≤ u0 * u0 := sq_nn u0
  have p4 : 0 ≤ u1 * u1 := sq_nn u1
  have p5 : 0 ≤ u2 * u2 := sq_nn u2
  obtain ⟨s0, s1, s2⟩ := sqrtS_spec (show 0 ≤ g1 * 1048576 * 1048576 by omega)
  obtain ⟨t0, t1, t2⟩ := sqrtS_spec (show 0 ≤ (u0 * u0 + u1 * u1 + u2 * u2) * 1048576 * 1048576 by omega)
  have s3 : sqrtS (g1 * 1048576 * 1048576) ≤ 1073741824 := of_sq_le (by decide) (by omega)
  have t3 : sqrtS ((u0 * u0 + u1 * u1 + u2 * u2) * 1048576 * 1048576) ≤ 1073741824 := of_sq_le (by decide) (by omega)
  have s4 := Int.mul_nonneg s0 s0
  have U : rootUpS (g1 * 1048576 * 1048576) = if sqrtS (g1 * 1048576 * 1048576) * sqrtS (g1 * 1048576 * 1048576) < g1 * 1048576 * 1048576 then sqrtS (g1 * 1048576 * 1048576) + 1 else sqrtS (g1 * 1048576 * 1048576) := rfl
  clear t1 t2
  obtain ⟨r, hr⟩ : ∃ r, sqrtS ((u0 * u0 + u1 * u1 + u2 * u2) * 1048576 * 1048576) = r := ⟨_, rfl⟩
  rw [hr] at t0 t3 ⊢
  by_cases hs : sqrtS (g1 * 1048576 * 1048576) * sqrtS (g1 * 1048576 * 1048576) < g1 * 1048576 * 1048576
  · rw [if_pos hs] at U
    rw [U]
    clear U s2 s1
    obtain ⟨a0, ha⟩ : ∃ a, sqrtS (g1 * 1048576 * 1048576) = a := ⟨_, rfl⟩
    rw [ha] at s0 s3 s4 hs ⊢
    obtain ⟨a, ha2⟩ : ∃ a, a0 + 1 = a := ⟨_, rfl⟩
    rw [ha2]
    by_cases hra : r ≤ a
    · have e : restV g0 a r g2.toNat = ⟨0, 10⟩ := if_pos hra
      rw [e]
      clear e
      go_enter Try.func25, Try.ntmps25
      go_wp2_with (first | (go_at_call 44; refine (mfrom_any _ _ _ _).mono ?_; rintro e w1 ⟨rfl, rfl⟩) | (go_at_call 29; refine (mnear_any _ _ _ _ _ (by omega)).mono ?_; rintro e w1 ⟨rfl, x, rfl⟩) | (go_at_call 45; refine (mroot_any _ _ (by omega)).mono ?_; rintro e w1 ⟨rfl, rfl⟩) | (go_at_call 17; refine (mdot_any _ _ _ _ _ _ _ (by omega)).mono ?_; rintro e w1 ⟨rfl, x, rfl⟩) | (go_at_call 46; refine (mup_any _ _ _ (by omega)).mono ?_; rintro e w1 ⟨rfl, rfl⟩))
      go_ret2
      exact ⟨rfl, by (repeat (first | exact Kept.refl _ | assumption | refine Kept.alloc ?_ _ | refine Kept.ext ?_ _ | refine Kept.drew ?_ | refine Kept.drewN ?_ _))⟩
    · have tb := upS_bd (n := a * 1048576) (d := r) (m := 1048576) (by omega) (by omega) (by omega)
      rcases (show g2 = 0 ∨ g2 = 1 ∨ g2 = 2 by omega) with rfl | rfl | rfl
      · have eb1 := eS_bd tb 0
        have eb2 := eS_bd tb 1
        have eb3 := eS_bd tb 2
        simp only [eS] at eb1 eb2 eb3
        have mb := mul_bd (a := g0) (b := upS (a * 1048576) r) (A := 1048576) (B := 1048576) 1099511627776 (by omega) (by omega) rfl
        have mn := Int.mul_nonneg (show 0 ≤ g0 by omega) (show 0 ≤ upS (a * 1048576) r by omega)
        by_cases hl : 1099511627776 < upS (g0 * upS (a * 1048576) r * 1048576) (r - a)
        · have e : restV g0 a r (Int.toNat 0) = ⟨0, 4⟩ := by show restV g0 a r 0 = _; unfold restV; rw [if_neg hra]; exact if_pos hl
          rw [e]
          clear e
          go_enter Try.func25, Try.ntmps25
          go_wp2_with (first | (go_at_call 44; refine (mfrom_any _ _ _ _).mono ?_; rintro e w1 ⟨rfl, rfl⟩) | (go_at_call 29; refine (mnear_any _ _ _ _ _ (by omega)).mono ?_; rintro e w1 ⟨rfl, x, rfl⟩) | (go_at_call 45; refine (mroot_any _ _ (by omega)).mono ?_; rintro e w1 ⟨rfl, rfl⟩) | (go_at_call 17; refine (mdot_any _ _ _ _ _ _ _ (by omega)).mono ?_; rintro e w1 ⟨rfl, x, rfl⟩) | (go_at_call 46; refine (mup_any _ _ _ (by omega)).mono ?_; rintro e w1 ⟨rfl, rfl⟩))
          refine wp_loop_rounds 1 ?_
          rw [rounds_succ]
          go_wp2_with (first | (go_at_call 44; refine (mfrom_any _ _ _ _).mono ?_; rintro e w1 ⟨rfl, rfl⟩) | (go_at_call 29; refine (mnear_any _ _ _ _ _ (by omega)).mono ?_; rintro e w1 ⟨rfl, x, rfl⟩) | (go_at_call 45; refine (mroot_any _ _ (by omega)).mono ?_; rintro e w1 ⟨rfl, rfl⟩) | (go_at_call 17; refine (mdot_any _ _ _ _ _ _ _ (by omega)).mono ?_; rintro e w1 ⟨rfl, x, rfl⟩) | (go_at_call 46; refine (mup_any _ _ _ (by omega)).mono ?_; rintro e w1 ⟨rfl, rfl⟩))
          go_ret2
          exact ⟨rfl, by (repeat (first | exact Kept.refl _ | assumption | refine Kept.alloc ?_ _ | refine Kept.ext ?_ _ | refine Kept.drew ?_ | refine Kept.drewN ?_ _))⟩
        · have e : restV g0 a r (Int.toNat 0) = ⟨upS (g0 * upS (a * 1048576) r * 1048576) (r - a), 0⟩ := by show restV g0 a r 0 = _; unfold restV; rw [if_neg hra]; exact if_neg hl
          rw [e]
          clear e
          go_enter Try.func25, Try.ntmps25
          go_wp2_with (first | (go_at_call 44; refine (mfrom_any _ _ _ _).mono ?_; rintro e w1 ⟨rfl, rfl⟩) | (go_at_call 29; refine (mnear_any _ _ _ _ _ (by omega)).mono ?_; rintro e w1 ⟨rfl, x, rfl⟩) | (go_at_call 45; refine (mroot_any _ _ (by omega)).mono ?_; rintro e w1 ⟨rfl, rfl⟩) | (go_at_call 17; refine (mdot_any _ _ _ _ _ _ _ (by omega)).mono ?_; rintro e w1 ⟨rfl, x, rfl⟩) | (go_at_call 46; refine (mup_any _ _ _ (by omega)).mono ?_; rintro e w1 ⟨rfl, rfl⟩))
          refine wp_loop_rounds 1 ?_
          rw [rounds_succ]
          go_wp2_with (first | (go_at_call 44; refine (mfrom_any _ _ _ _).mono ?_; rintro e w1 ⟨rfl, rfl⟩) | (go_at_call 29; refine (mnear_any _ _ _ _ _ (by omega)).mono ?_; rintro e w1 ⟨rfl, x, rfl⟩) | (go_at_call 45; refine (mroot_any _ _ (by omega)).mono ?_; rintro e w1 ⟨rfl, rfl⟩) | (go_at_call 17; refine (mdot_any _ _ _ _ _ _ _ (by omega)).mono ?_; rintro e w1 ⟨rfl, x, rfl⟩) | (go_at_call 46; refine (mup_any _ _ _ (by omega)).mono ?_; rintro e w1 ⟨rfl, rfl⟩))
          go_ret2
          exact ⟨rfl, by (repeat (first | exact Kept.refl _ | assumption | refine Kept.alloc ?_ _ | refine Kept.ext ?_ _ | refine Kept.drew ?_ | refine Kept.drewN ?_ _))⟩
      · have eb1 := eS_bd tb 0
        have eb2 := eS_bd tb 1
        have eb3 := eS_bd tb 2
        simp only [eS] at eb1 eb2 eb3
        have mb := mul_bd (a := g0) (b := upS (upS (a * 1048576) r * upS (a * 1048576) r) 1048576) (A := 1048576) (B := 1048576) 1099511627776 (by omega) (by omega) rfl
        have mn := Int.mul_nonneg (show 0 ≤ g0 by omega) (show 0 ≤ upS (upS (a * 1048576) r * upS (a * 1048576) r) 1048576 by omega)
        by_cases hl : 1099511627776 < upS (g0 * upS (upS (a * 1048576) r * upS (a * 1048576) r) 1048576 * 1048576) (r - a)
        · have e : restV g0 a r (Int.toNat 1) = ⟨0, 4⟩ := by show restV g0 a r 1 = _; unfold restV; rw [if_neg hra]; exact if_pos hl
          rw [e]
          clear e
          go_enter Try.func25, Try.ntmps25
          go_wp2_with (first | (go_at_call 44; refine (mfrom_any _ _ _ _).mono ?_; rintro e w1 ⟨rfl, rfl⟩) | (go_at_call 29; refine (mnear_any _ _ _ _ _ (by omega)).mono ?_; rintro e w1 ⟨rfl, x, rfl⟩) | (go_at_call 45; refine (mroot_any _ _ (by omega)).mono ?_; rintro e w1 ⟨rfl, rfl⟩) | (go_at_call 17; refine (mdot_any _ _ _ _ _ _ _ (by omega)).mono ?_; rintro e w1 ⟨rfl, x, rfl⟩) | (go_at_call 46; refine (mup_any _ _ _ (by omega)).mono ?_; rintro e w1 ⟨rfl, rfl⟩))
          refine wp_loop_rounds 2 ?_
          rw [rounds_succ]
          go_wp2_with (first | (go_at_call 44; refine (mfrom_any _ _ _ _).mono ?_; rintro e w1 ⟨rfl, rfl⟩) | (go_at_call 29; refine (mnear_any _ _ _ _ _ (by omega)).mono ?_; rintro e w1 ⟨rfl, x, rfl⟩) | (go_at_call 45; refine (mroot_any _ _ (by omega)).mono ?_; rintro e w1 ⟨rfl, rfl⟩) | (go_at_call 17; refine (mdot_any _ _ _ _ _ _ _ (by omega)).mono ?_; rintro e w1 ⟨rfl, x, rfl⟩) | (go_at_call 46; refine (mup_any _ _ _ (by omega)).mono ?_; rintro e w1 ⟨rfl, rfl⟩))
          rw [rounds_succ]
          go_wp2_with (first | (go_at_call 44; refine (mfrom_any _ _ _ _).mono ?_; rintro e w1 ⟨rfl, rfl⟩) | (go_at_call 29; refine (mnear_any _ _ _ _ _ (by omega)).mono ?_; rintro e w1 ⟨rfl, x, rfl⟩) | (go_at_call 45; refine (mroot_any _ _ (by omega)).mono ?_; rintro e w1 ⟨rfl, rfl⟩) | (go_at_call 17; refine (mdot_any _ _ _ _ _ _ _ (by omega)).mono ?_; rintro e w1 ⟨rfl, x, rfl⟩) | (go_at_call 46; refine (mup_any _ _ _ (by omega)).mono ?_; rintro e w1 ⟨rfl, rfl⟩))
          go_ret2
          exact ⟨rfl, by (repeat (first | exact Kept.refl _ | assumption | refine Kept.alloc ?_ _ | refine Kept.ext ?_ _ | refine Kept.drew ?_ | refine Kept.drewN ?_ _))⟩
        · have e : restV g0 a r (Int.toNat 1) = ⟨upS (g0 * upS (upS (a * 1048576) r * upS (a * 1048576) r) 1048576 * 1048576) (r - a), 0⟩ := by show restV g0 a r 1 = _; unfold restV; rw [if_neg hra]; exact if_neg hl
          rw [e]
          clear e
          go_enter Try.func25, Try.ntmps25
          go_wp2_with (first | (go_at_call 44; refine (mfrom_any _ _ _ _).mono ?_; rintro e w1 ⟨rfl, rfl⟩) | (go_at_call 29; refine (mnear_any _ _ _ _ _ (by omega)).mono ?_; rintro e w1 ⟨rfl, x, rfl⟩) | (go_at_call 45; refine (mroot_any _ _ (by omega)).mono ?_; rintro e w1 ⟨rfl, rfl⟩) | (go_at_call 17; refine (mdot_any _ _ _ _ _ _ _ (by omega)).mono ?_; rintro e w1 ⟨rfl, x, rfl⟩) | (go_at_call 46; refine (mup_any _ _ _ (by omega)).mono ?_; rintro e w1 ⟨rfl, rfl⟩))
          refine wp_loop_rounds 2 ?_
          rw [rounds_succ]
          go_wp2_with (first | (go_at_call 44; refine (mfrom_any _ _ _ _).mono ?_; rintro e w1 ⟨rfl, rfl⟩) | (go_at_call 29; refine (mnear_any _ _ _ _ _ (by omega)).mono ?_; rintro e w1 ⟨rfl, x, rfl⟩) | (go_at_call 45; refine (mroot_any _ _ (by omega)).mono ?_; rintro e w1 ⟨rfl, rfl⟩) | (go_at_call 17; refine (mdot_any _ _ _ _ _ _ _ (by omega)).mono ?_; rintro e w1 ⟨rfl, x, rfl⟩) | (go_at_call 46; refine (mup_any _ _ _ (by omega)).mono ?_; rintro e w1 ⟨rfl, rfl⟩))
          rw [rounds_succ]
          go_wp2_with (first | (go_at_call 44; refine (mfrom_any _ _ _ _).mono ?_; rintro e w1 ⟨rfl, rfl⟩) | (go_at_call 29; refine (mnear_any _ _ _ _ _ (by omega)).mono ?_; rintro e w1 ⟨rfl, x, rfl⟩) | (go_at_call 45; refine (mroot_any _ _ (by omega)).mono ?_; rintro e w1 ⟨rfl, rfl⟩) | (go_at_call 17; refine (mdot_any _ _ _ _ _ _ _ (by omega)).mono ?_; rintro e w1 ⟨rfl, x, rfl⟩) | (go_at_call 46; refine (mup_any _ _ _ (by omega)).mono ?_; rintro e w1 ⟨rfl, rfl⟩))
          go_ret2
          exact ⟨rfl, by (repeat (first | exact Kept.refl _ | assumption | refine Kept.alloc ?_ _ | refine Kept.ext ?_ _ | refine Kept.drew ?_ | refine Kept.drewN ?_ _))⟩
      · have eb1 := eS_bd tb 0
        have eb2 := eS_bd tb 1
        have eb3 := eS_bd tb 2
        simp only [eS] at eb1 eb2 eb3
        have mb := mul_bd (a := g0) (b := upS (upS (upS (a * 1048576) r * upS (a * 1048576) r) 1048576 * upS (a * 1048576) r) 1048576) (A := 1048576) (B := 1048576) 1099511627776 (by omega) (by omega) rfl
        have mn := Int.mul_nonneg (show 0 ≤ g0 by omega) (show 0 ≤ upS (upS (upS (a * 1048576) r * upS (a * 1048576) r) 1048576 * upS (a * 1048576) r) 1048576 by omega)
        by_cases hl : 1099511627776 < upS (g0 * upS (upS (upS (a * 1048576) r * upS (a * 1048576) r) 1048576 * upS (a * 1048576) r) 1048576 * 1048576) (r - a)
        · have e : restV g0 a r (Int.toNat 2) = ⟨0, 4⟩ := by show restV g0 a r 2 = _; unfold restV; rw [if_neg hra]; exact if_pos hl
          rw [e]
          clear e
          go_enter Try.func25, Try.ntmps25
          go_wp2_with (first | (go_at_call 44; refine (mfrom_any _ _ _ _).mono ?_; rintro e w1 ⟨rfl, rfl⟩) | (go_at_call 29; refine (mnear_any _ _ _ _ _ (by omega)).mono ?_; rintro e w1 ⟨rfl, x, rfl⟩) | (go_at_call 45; refine (mroot_any _ _ (by omega)).mono ?_; rintro e w1 ⟨rfl, rfl⟩) | (go_at_call 17; refine (mdot_any _ _ _ _ _ _ _ (by omega)).mono ?_; rintro e w1 ⟨rfl, x, rfl⟩) | (go_at_call 46; refine (mup_any _ _ _ (by omega)).mono ?_; rintro e w1 ⟨rfl, rfl⟩))
          refine wp_loop_rounds 3 ?_
          rw [rounds_succ]
          go_wp2_with (first | (go_at_call 44; refine (mfrom_any _ _ _ _).mono ?_; rintro e w1 ⟨rfl, rfl⟩) | (go_at_call 29; refine (mnear_any _ _ _ _ _ (by omega)).mono ?_; rintro e w1 ⟨rfl, x, rfl⟩) | (go_at_call 45; refine (mroot_any _ _ (by omega)).mono ?_; rintro e w1 ⟨rfl, rfl⟩) | (go_at_call 17; refine (mdot_any _ _ _ _ _ _ _ (by omega)).mono ?_; rintro e w1 ⟨rfl, x, rfl⟩) | (go_at_call 46; refine (mup_any _ _ _ (by omega)).mono ?_; rintro e w1 ⟨rfl, rfl⟩))
          rw [rounds_succ]
          go_wp2_with (first | (go_at_call 44; refine (mfrom_any _ _ _ _).mono ?_; rintro e w1 ⟨rfl, rfl⟩) | (go_at_call 29; refine (mnear_any _ _ _ _ _ (by omega)).mono ?_; rintro e w1 ⟨rfl, x, rfl⟩) | (go_at_call 45; refine (mroot_any _ _ (by omega)).mono ?_; rintro e w1 ⟨rfl, rfl⟩) | (go_at_call 17; refine (mdot_any _ _ _ _ _ _ _ (by omega)).mono ?_; rintro e w1 ⟨rfl, x, rfl⟩) | (go_at_call 46; refine (mup_any _ _ _ (by omega)).mono ?_; rintro e w1 ⟨rfl, rfl⟩))
          rw [rounds_succ]
          go_wp2_with (first | (go_at_call 44; refine (mfrom_any _ _ _ _).mono ?_; rintro e w1 ⟨rfl, rfl⟩) | (go_at_call 29; refine (mnear_any _ _ _ _ _ (by omega)).mono ?_; rintro e w1 ⟨rfl, x, rfl⟩) | (go_at_call 45; refine (mroot_any _ _ (by omega)).mono ?_; rintro e w1 ⟨rfl, rfl⟩) | (go_at_call 17; refine (mdot_any _ _ _ _ _ _ _ (by omega)).mono ?_; rintro e w1 ⟨rfl, x, rfl⟩) | (go_at_call 46; refine (mup_any _ _ _ (by omega)).mono ?_; rintro e w1 ⟨rfl, rfl⟩))
          go_ret2
          exact ⟨rfl, by (repeat (first | exact Kept.refl _ | assumption | refine Kept.alloc ?_ _ | refine Kept.ext ?_ _ | refine Kept.drew ?_ | refine Kept.drewN ?_ _))⟩
        · have e : restV g0 a r (Int.toNat 2) = ⟨upS (g0 * upS (upS (upS (a * 1048576) r * upS (a * 1048576) r) 1048576 * upS (a * 1048576) r) 1048576 * 1048576) (r - a), 0⟩ := by show restV g0 a r 2 = _; unfold restV; rw [if_neg hra]; exact if_neg hl
          rw [e]
          clear e
          go_enter Try.func25, Try.ntmps25
          go_wp2_with (first | (go_at_call 44; refine (mfrom_any _ _ _ _).mono ?_; rintro e w1 ⟨rfl, rfl⟩) | (go_at_call 29; refine (mnear_any _ _ _ _ _ (by omega)).mono ?_; rintro e w1 ⟨rfl, x, rfl⟩) | (go_at_call 45; refine (mroot_any _ _ (by omega)).mono ?_; rintro e w1 ⟨rfl, rfl⟩) | (go_at_call 17; refine (mdot_any _ _ _ _ _ _ _ (by omega)).mono ?_; rintro e w1 ⟨rfl, x, rfl⟩) | (go_at_call 46; refine (mup_any _ _ _ (by omega)).mono ?_; rintro e w1 ⟨rfl, rfl⟩))
          refine wp_loop_rounds 3 ?_
          rw [rounds_succ]
          go_wp2_with (first | (go_at_call 44; refine (mfrom_any _ _ _ _).mono ?_; rintro e w1 ⟨rfl, rfl⟩) | (go_at_call 29; refine (mnear_any _ _ _ _ _ (by omega)).mono ?_; rintro e w1 ⟨rfl, x, rfl⟩) | (go_at_call 45; refine (mroot_any _ _ (by omega)).mono ?_; rintro e w1 ⟨rfl, rfl⟩) | (go_at_call 17; refine (mdot_any _ _ _ _ _ _ _ (by omega)).mono ?_; rintro e w1 ⟨rfl, x, rfl⟩) | (go_at_call 46; refine (mup_any _ _ _ (by omega)).mono ?_; rintro e w1 ⟨rfl, rfl⟩))
          rw [rounds_succ]
          go_wp2_with (first | (go_at_call 44; refine (mfrom_any _ _ _ _).mono ?_; rintro e w1 ⟨rfl, rfl⟩) | (go_at_call 29; refine (mnear_any _ _ _ _ _ (by omega)).mono ?_; rintro e w1 ⟨rfl, x, rfl⟩) | (go_at_call 45; refine (mroot_any _ _ (by omega)).mono ?_; rintro e w1 ⟨rfl, rfl⟩) | (go_at_call 17; refine (mdot_any _ _ _ _ _ _ _ (by omega)).mono ?_; rintro e w1 ⟨rfl, x, rfl⟩) | (go_at_call 46; refine (mup_any _ _ _ (by omega)).mono ?_; rintro e w1 ⟨rfl, rfl⟩))
          rw [rounds_succ]
          go_wp2_with (first | (go_at_call 44; refine (mfrom_any _ _ _ _).mono ?_; rintro e w1 ⟨rfl, rfl⟩) | (go_at_call 29; refine (mnear_any _ _ _ _ _ (by omega)).mono ?_; rintro e w1 ⟨rfl, x, rfl⟩) | (go_at_call 45; refine (mroot_any _ _ (by omega)).mono ?_; rintro e w1 ⟨rfl, rfl⟩) | (go_at_call 17; refine (mdot_any _ _ _ _ _ _ _ (by omega)).mono ?_; rintro e w1 ⟨rfl, x, rfl⟩) | (go_at_call 46; refine (mup_any _ _ _ (by omega)).mono ?_; rintro e w1 ⟨rfl, rfl⟩))
          go_ret2
          exact ⟨rfl, by (repeat (first | exact Kept.refl _ | assumption | refine Kept.alloc ?_ _ | refine Kept.ext ?_ _ | refine Kept.drew ?_ | refine Kept.drewN ?_ _))⟩
  · rw [if_neg hs] at U
    rw [U]
    clear U s2
    obtain ⟨a, ha⟩ : ∃ a, sqrtS (g1 * 1048576 * 1048576) = a := ⟨_, rfl⟩
    rw [ha] at s0 s1 s3 s4 hs ⊢
    by_cases hra : r ≤ a
    · have e : restV g0 a r g2.toNat = ⟨0, 10⟩ := if_pos hra
      rw [e]
      clear e
      go_enter Try.func25, Try.ntmps25
      go_wp2_with (first | (go_at_call 44; refine (mfrom_any _ _ _ _).mono ?_; rintro e w1 ⟨rfl, rfl⟩) | (go_at_call 29; refine (mnear_any _ _ _ _ _ (by omega)).mono ?_; rintro e w1 ⟨rfl, x, rfl⟩) | (go_at_call 45; refine (mroot_any _ _ (by omega)).mono ?_; rintro e w1 ⟨rfl, rfl⟩) | (go_at_call 17; refine (mdot_any _ _ _ _ _ _ _ (by omega)).mono ?_; rintro e w1 ⟨rfl, x, rfl⟩) | (go_at_call 46; refine (mup_any _ _ _ (by omega)).mono ?_; rintro e w1 ⟨rfl, rfl⟩))
      go_ret2
      exact ⟨rfl, by (repeat (first | exact Kept.refl _ | assumption | refine Kept.alloc ?_ _ | refine Kept.ext ?_ _ | refine Kept.drew ?_ | refine Kept.drewN ?_ _))⟩
    · have tb := upS_bd (n := a * 1048576) (d := r) (m := 1048576) (by omega) (by omega) (by omega)
      rcases (show g2 = 0 ∨ g2 = 1 ∨ g2 = 2 by omega) with rfl | rfl | rfl
      · have eb1 := eS_bd tb 0
        have eb2 := eS_bd tb 1
        have eb3 := eS_bd tb 2
        simp only [eS] at eb1 eb2 eb3
        have mb := mul_bd (a := g0) (b := upS (a * 1048576) r) (A := 1048576) (B := 1048576) 1099511627776 (by omega) (by omega) rfl
        have mn := Int.mul_nonneg (show 0 ≤ g0 by omega) (show 0 ≤ upS (a * 1048576) r by omega)
        by_cases hl : 1099511627776 < upS (g0 * upS (a * 1048576) r * 1048576) (r - a)
        · have e : restV g0 a r (Int.toNat 0) = ⟨0, 4⟩ := by show restV g0 a r 0 = _; unfold restV; rw [if_neg hra]; exact if_pos hl
          rw [e]
          clear e
          go_enter Try.func25, Try.ntmps25
          go_wp2_with (first | (go_at_call 44; refine (mfrom_any _ _ _ _).mono ?_; rintro e w1 ⟨rfl, rfl⟩) | (go_at_call 29; refine (mnear_any _ _ _ _ _ (by omega)).mono ?_; rintro e w1 ⟨rfl, x, rfl⟩) | (go_at_call 45; refine (mroot_any _ _ (by omega)).mono ?_; rintro e w1 ⟨rfl, rfl⟩) | (go_at_call 17; refine (mdot_any _ _ _ _ _ _ _ (by omega)).mono ?_; rintro e w1 ⟨rfl, x, rfl⟩) | (go_at_call 46; refine (mup_any _ _ _ (by omega)).mono ?_; rintro e w1 ⟨rfl, rfl⟩))
          refine wp_loop_rounds 1 ?_
          rw [rounds_succ]
          go_wp2_with (first | (go_at_call 44; refine (mfrom_any _ _ _ _).mono ?_; rintro e w1 ⟨rfl, rfl⟩) | (go_at_call 29; refine (mnear_any _ _ _ _ _ (by omega)).mono ?_; rintro e w1 ⟨rfl, x, rfl⟩) | (go_at_call 45; refine (mroot_any _ _ (by omega)).mono ?_; rintro e w1 ⟨rfl, rfl⟩) | (go_at_call 17; refine (mdot_any _ _ _ _ _ _ _ (by omega)).mono ?_; rintro e w1 ⟨rfl, x, rfl⟩) | (go_at_call 46; refine (mup_any _ _ _ (by omega)).mono ?_; rintro e w1 ⟨rfl, rfl⟩))
          go_ret2
          exact ⟨rfl, by (repeat (first | exact Kept.refl _ | assumption | refine Kept.alloc ?_ _ | refine Kept.ext ?_ _ | refine Kept.drew ?_ | refine Kept.drewN ?_ _))⟩
        · have e : restV g0 a r (Int.toNat 0) = ⟨upS (g0 * upS (a * 1048576) r * 1048576) (r - a), 0⟩ := by show restV g0 a r 0 = _; unfold restV; rw [if_neg hra]; exact if_neg hl
          rw [e]
          clear e
          go_enter Try.func25, Try.ntmps25
          go_wp2_with (first | (go_at_call 44; refine (mfrom_any _ _ _ _).mono ?_; rintro e w1 ⟨rfl, rfl⟩) | (go_at_call 29; refine (mnear_any _ _ _ _ _ (by omega)).mono ?_; rintro e w1 ⟨rfl, x, rfl⟩) | (go_at_call 45; refine (mroot_any _ _ (by omega)).mono ?_; rintro e w1 ⟨rfl, rfl⟩) | (go_at_call 17; refine (mdot_any _ _ _ _ _ _ _ (by omega)).mono ?_; rintro e w1 ⟨rfl, x, rfl⟩) | (go_at_call 46; refine (mup_any _ _ _ (by omega)).mono ?_; rintro e w1 ⟨rfl, rfl⟩))
          refine wp_loop_rounds 1 ?_
          rw [rounds_succ]
          go_wp2_with (first | (go_at_call 44; refine (mfrom_any _ _ _ _).mono ?_; rintro e w1 ⟨rfl, rfl⟩) | (go_at_call 29; refine (mnear_any _ _ _ _ _ (by omega)).mono ?_; rintro e w1 ⟨rfl, x, rfl⟩) | (go_at_call 45; refine (mroot_any _ _ (by omega)).mono ?_; rintro e w1 ⟨rfl, rfl⟩) | (go_at_call 17; refine (mdot_any _ _ _ _ _ _ _ (by omega)).mono ?_; rintro e w1 ⟨rfl, x, rfl⟩) | (go_at_call 46; refine (mup_any _ _ _ (by omega)).mono ?_; rintro e w1 ⟨rfl, rfl⟩))
          go_ret2
          exact ⟨rfl, by (repeat (first | exact Kept.refl _ | assumption | refine Kept.alloc ?_ _ | refine Kept.ext ?_ _ | refine Kept.drew ?_ | refine Kept.drewN ?_ _))⟩
      · have eb1 := eS_bd tb 0
        have eb2 := eS_bd tb 1
        have eb3 := eS_bd tb 2
        simp only [eS] at eb1 eb2 eb3
        have mb := mul_bd (a := g0) (b := upS (upS (a * 1048576) r * upS (a * 1048576) r) 1048576) (A := 1048576) (B := 1048576) 1099511627776 (by omega) (by omega) rfl
        have mn := Int.mul_nonneg (show 0 ≤ g0 by omega) (show 0 ≤ upS (upS (a * 1048576) r * upS (a * 1048576) r) 1048576 by omega)
        by_cases hl : 1099511627776 < upS (g0 * upS (upS (a * 1048576) r * upS (a * 1048576) r) 1048576 * 1048576) (r - a)
        · have e : restV g0 a r (Int.toNat 1) = ⟨0, 4⟩ := by show restV g0 a r 1 = _; unfold restV; rw [if_neg hra]; exact if_pos hl
          rw [e]
          clear e
          go_enter Try.func25, Try.ntmps25
          go_wp2_with (first | (go_at_call 44; refine (mfrom_any _ _ _ _).mono ?_; rintro e w1 ⟨rfl, rfl⟩) | (go_at_call 29; refine (mnear_any _ _ _ _ _ (by omega)).mono ?_; rintro e w1 ⟨rfl, x, rfl⟩) | (go_at_call 45; refine (mroot_any _ _ (by omega)).mono ?_; rintro e w1 ⟨rfl, rfl⟩) | (go_at_call 17; refine (mdot_any _ _ _ _ _ _ _ (by omega)).mono ?_; rintro e w1 ⟨rfl, x, rfl⟩) | (go_at_call 46; refine (mup_any _ _ _ (by omega)).mono ?_; rintro e w1 ⟨rfl, rfl⟩))
          refine wp_loop_rounds 2 ?_
          rw [rounds_succ]
          go_wp2_with (first | (go_at_call 44; refine (mfrom_any _ _ _ _).mono ?_; rintro e w1 ⟨rfl, rfl⟩) | (go_at_call 29; refine (mnear_any _ _ _ _ _ (by omega)).mono ?_; rintro e w1 ⟨rfl, x, rfl⟩) | (go_at_call 45; refine (mroot_any _ _ (by omega)).mono ?_; rintro e w1 ⟨rfl, rfl⟩) | (go_at_call 17; refine (mdot_any _ _ _ _ _ _ _ (by omega)).mono ?_; rintro e w1 ⟨rfl, x, rfl⟩) | (go_at_call 46; refine (mup_any _ _ _ (by omega)).mono ?_; rintro e w1 ⟨rfl, rfl⟩))
          rw [rounds_succ]
          go_wp2_with (first | (go_at_call 44; refine (mfrom_any _ _ _ _).mono ?_; rintro e w1 ⟨rfl, rfl⟩) | (go_at_call 29; refine (mnear_any _ _ _ _ _ (by omega)).mono ?_; rintro e w1 ⟨rfl, x, rfl⟩) | (go_at_call 45; refine (mroot_any _ _ (by omega)).mono ?_; rintro e w1 ⟨rfl, rfl⟩) | (go_at_call 17; refine (mdot_any _ _ _ _ _ _ _ (by omega)).mono ?_; rintro e w1 ⟨rfl, x, rfl⟩) | (go_at_call 46; refine (mup_any _ _ _ (by omega)).mono ?_; rintro e w1 ⟨rfl, rfl⟩))
          go_ret2
          exact ⟨rfl, by (repeat (first | exact Kept.refl _ | assumption | refine Kept.alloc ?_ _ | refine Kept.ext ?_ _ | refine Kept.drew ?_ | refine Kept.drewN ?_ _))⟩
        · have e : restV g0 a r (Int.toNat 1) = ⟨upS (g0 * upS (upS (a * 1048576) r * upS (a * 1048576) r) 1048576 * 1048576) (r - a), 0⟩ := by show restV g0 a r 1 = _; unfold restV; rw [if_neg hra]; exact if_neg hl
          rw [e]
          clear e
          go_enter Try.func25, Try.ntmps25
          go_wp2_with (first | (go_at_call 44; refine (mfrom_any _ _ _ _).mono ?_; rintro e w1 ⟨rfl, rfl⟩) | (go_at_call 29; refine (mnear_any _ _ _ _ _ (by omega)).mono ?_; rintro e w1 ⟨rfl, x, rfl⟩) | (go_at_call 45; refine (mroot_any _ _ (by omega)).mono ?_; rintro e w1 ⟨rfl, rfl⟩) | (go_at_call 17; refine (mdot_any _ _ _ _ _ _ _ (by omega)).mono ?_; rintro e w1 ⟨rfl, x, rfl⟩) | (go_at_call 46; refine (mup_any _ _ _ (by omega)).mono ?_; rintro e w1 ⟨rfl, rfl⟩))
          refine wp_loop_rounds 2 ?_
          rw [rounds_succ]
          go_wp2_with (first | (go_at_call 44; refine (mfrom_any _ _ _ _).mono ?_; rintro e w1 ⟨rfl, rfl⟩) | (go_at_call 29; refine (mnear_any _ _ _ _ _ (by omega)).mono ?_; rintro e w1 ⟨rfl, x, rfl⟩) | (go_at_call 45; refine (mroot_any _ _ (by omega)).mono ?_; rintro e w1 ⟨rfl, rfl⟩) | (go_at_call 17; refine (mdot_any _ _ _ _ _ _ _ (by omega)).mono ?_; rintro e w1 ⟨rfl, x, rfl⟩) | (go_at_call 46; refine (mup_any _ _ _ (by omega)).mono ?_; rintro e w1 ⟨rfl, rfl⟩))
          rw [rounds_succ]
          go_wp2_with (first | (go_at_call 44; refine (mfrom_any _ _ _ _).mono ?_; rintro e w1 ⟨rfl, rfl⟩) | (go_at_call 29; refine (mnear_any _ _ _ _ _ (by omega)).mono ?_; rintro e w1 ⟨rfl, x, rfl⟩) | (go_at_call 45; refine (mroot_any _ _ (by omega)).mono ?_; rintro e w1 ⟨rfl, rfl⟩) | (go_at_call 17; refine (mdot_any _ _ _ _ _ _ _ (by omega)).mono ?_; rintro e w1 ⟨rfl, x, rfl⟩) | (go_at_call 46; refine (mup_any _ _ _ (by omega)).mono ?_; rintro e w1 ⟨rfl, rfl⟩))
          go_ret2
          exact ⟨rfl, by (repeat (first | exact Kept.refl _ | assumption | refine Kept.alloc ?_ _ | refine Kept.ext ?_ _ | refine Kept.drew ?_ | refine Kept.drewN ?_ _))⟩
      · have eb1 := eS_bd tb 0
        have eb2 := eS_bd tb 1
        have eb3 := eS_bd tb 2
        simp only [eS] at eb1 eb2 eb3
        have mb := mul_bd (a := g0) (b := upS (upS (upS (a * 1048576) r * upS (a * 1048576) r) 1048576 * upS (a * 1048576) r) 1048576) (A := 1048576) (B := 1048576) 1099511627776 (by omega) (by omega) rfl
        have mn := Int.mul_nonneg (show 0 ≤ g0 by omega) (show 0 ≤ upS (upS (upS (a * 1048576) r * upS (a * 1048576) r) 1048576 * upS (a * 1048576) r) 1048576 by omega)
        by_cases hl : 1099511627776 < upS (g0 * upS (upS (upS (a * 1048576) r * upS (a * 1048576) r) 1048576 * upS (a * 1048576) r) 1048576 * 1048576) (r - a)
        · have e : restV g0 a r (Int.toNat 2) = ⟨0, 4⟩ := by show restV g0 a r 2 = _; unfold restV; rw [if_neg hra]; exact if_pos hl
          rw [e]
          clear e
          go_enter Try.func25, Try.ntmps25
          go_wp2_with (first | (go_at_call 44; refine (mfrom_any _ _ _ _).mono ?_; rintro e w1 ⟨rfl, rfl⟩) | (go_at_call 29; refine (mnear_any _ _ _ _ _ (by omega)).mono ?_; rintro e w1 ⟨rfl, x, rfl⟩) | (go_at_call 45; refine (mroot_any _ _ (by omega)).mono ?_; rintro e w1 ⟨rfl, rfl⟩) | (go_at_call 17; refine (mdot_any _ _ _ _ _ _ _ (by omega)).mono ?_; rintro e w1 ⟨rfl, x, rfl⟩) | (go_at_call 46; refine (mup_any _ _ _ (by omega)).mono ?_; rintro e w1 ⟨rfl, rfl⟩))
          refine wp_loop_rounds 3 ?_
          rw [rounds_succ]
          go_wp2_with (first | (go_at_call 44; refine (mfrom_any _ _ _ _).mono ?_; rintro e w1 ⟨rfl, rfl⟩) | (go_at_call 29; refine (mnear_any _ _ _ _ _ (by omega)).mono ?_; rintro e w1 ⟨rfl, x, rfl⟩) | (go_at_call 45; refine (mroot_any _ _ (by omega)).mono ?_; rintro e w1 ⟨rfl, rfl⟩) | (go_at_call 17; refine (mdot_any _ _ _ _ _ _ _ (by omega)).mono ?_; rintro e w1 ⟨rfl, x, rfl⟩) | (go_at_call 46; refine (mup_any _ _ _ (by omega)).mono ?_; rintro e w1 ⟨rfl, rfl⟩))
          rw [rounds_succ]
          go_wp2_with (first | (go_at_call 44; refine (mfrom_any _ _ _ _).mono ?_; rintro e w1 ⟨rfl, rfl⟩) | (go_at_call 29; refine (mnear_any _ _ _ _ _ (by omega)).mono ?_; rintro e w1 ⟨rfl, x, rfl⟩) | (go_at_call 45; refine (mroot_any _ _ (by omega)).mono ?_; rintro e w1 ⟨rfl, rfl⟩) | (go_at_call 17; refine (mdot_any _ _ _ _ _ _ _ (by omega)).mono ?_; rintro e w1 ⟨rfl, x, rfl⟩) | (go_at_call 46; refine (mup_any _ _ _ (by omega)).mono ?_; rintro e w1 ⟨rfl, rfl⟩))
          rw [rounds_succ]
          go_wp2_with (first | (go_at_call 44; refine (mfrom_any _ _ _ _).mono ?_; rintro e w1 ⟨rfl, rfl⟩) | (go_at_call 29; refine (mnear_any _ _ _ _ _ (by omega)).mono ?_; rintro e w1 ⟨rfl, x, rfl⟩) | (go_at_call 45; refine (mroot_any _ _ (by omega)).mono ?_; rintro e w1 ⟨rfl, rfl⟩) | (go_at_call 17; refine (mdot_any _ _ _ _ _ _ _ (by omega)).mono ?_; rintro e w1 ⟨rfl, x, rfl⟩) | (go_at_call 46; refine (mup_any _ _ _ (by omega)).mono ?_; rintro e w1 ⟨rfl, rfl⟩))
          go_ret2
          exact ⟨rfl, by (repeat (first | exact Kept.refl _ | assumption | refine Kept.alloc ?_ _ | refine Kept.ext ?_ _ | refine Kept.drew ?_ | refine Kept.drewN ?_ _))⟩
        · have e : restV g0 a r (Int.toNat 2) = ⟨upS (g0 * upS (upS (upS (a * 1048576) r * upS (a * 1048576) r) 1048576 * upS (a * 1048576) r) 1048576 * 1048576) (r - a), 0⟩ := by show restV g0 a r 2 = _; unfold restV; rw [if_neg hra]; exact if_neg hl
          rw [e]
          clear e
          go_enter Try.func25, Try.ntmps25
          go_wp2_with (first | (go_at_call 44; refine (mfrom_any _ _ _ _).mono ?_; rintro e w1 ⟨rfl, rfl⟩) | (go_at_call 29; refine (mnear_any _ _ _ _ _ (by omega)).mono ?_; rintro e w1 ⟨rfl, x, rfl⟩) | (go_at_call 45; refine (mroot_any _ _ (by omega)).mono ?_; rintro e w1 ⟨rfl, rfl⟩) | (go_at_call 17; refine (mdot_any _ _ _ _ _ _ _ (by omega)).mono ?_; rintro e w1 ⟨rfl, x, rfl⟩) | (go_at_call 46; refine (mup_any _ _ _ (by omega)).mono ?_; rintro e w1 ⟨rfl, rfl⟩))
          refine wp_loop_rounds 3 ?_
          rw [rounds_succ]
          go_wp2_with (first | (go_at_call 44; refine (mfrom_any _ _ _ _).mono ?_; rintro e w1 ⟨rfl, rfl⟩) | (go_at_call 29; refine (mnear_any _ _ _ _ _ (by omega)).mono ?_; rintro e w1 ⟨rfl, x, rfl⟩) | (go_at_call 45; refine (mroot_any _ _ (by omega)).mono ?_; rintro e w1 ⟨rfl, rfl⟩) | (go_at_call 17; refine (mdot_any _ _ _ _ _ _ _ (by omega)).mono ?_; rintro e w1 ⟨rfl, x, rfl⟩) | (go_at_call 46; refine (mup_any _ _ _ (by omega)).mono ?_; rintro e w1 ⟨rfl, rfl⟩))
          rw [rounds_succ]
          go_wp2_with (first | (go_at_call 44; refine (mfrom_any _ _ _ _).mono ?_; rintro e w1 ⟨rfl, rfl⟩) | (go_at_call 29; refine (mnear_any _ _ _ _ _ (by omega)).mono ?_; rintro e w1 ⟨rfl, x, rfl⟩) | (go_at_call 45; refine (mroot_any _ _ (by omega)).mono ?_; rintro e w1 ⟨rfl, rfl⟩) | (go_at_call 17; refine (mdot_any _ _ _ _ _ _ _ (by omega)).mono ?_; rintro e w1 ⟨rfl, x, rfl⟩) | (go_at_call 46; refine (mup_any _ _ _ (by omega)).mono ?_; rintro e w1 ⟨rfl, rfl⟩))
          rw [rounds_succ]
          go_wp2_with (first | (go_at_call 44; refine (mfrom_any _ _ _ _).mono ?_; rintro e w1 ⟨rfl, rfl⟩) | (go_at_call 29; refine (mnear_any _ _ _ _ _ (by omega)).mono ?_; rintro e w1 ⟨rfl, x, rfl⟩) | (go_at_call 45; refine (mroot_any _ _ (by omega)).mono ?_; rintro e w1 ⟨rfl, rfl⟩) | (go_at_call 17; refine (mdot_any _ _ _ _ _ _ _ (by omega)).mono ?_; rintro e w1 ⟨rfl, x, rfl⟩) | (go_at_call 46; refine (mup_any _ _ _ (by omega)).mono ?_; rintro e w1 ⟨rfl, rfl⟩))
          go_ret2
          exact ⟨rfl, by (repeat (first | exact Kept.refl _ | assumption | refine Kept.alloc ?_ _ | refine Kept.ext ?_ _ | refine Kept.drew ?_ | refine Kept.drewN ?_ _))⟩
end Go.Proofs.Ytodmdicegkjicaa
namespace Go.Proofs.Ytodmdicegkjicaa
set_option linter.unusedVariables false
set_option linter.unusedSimpArgs false
open Go.RowKit
end Go.Proofs.Ytodmdicegkjicaa

namespace Go.Proofs.Ytodmdicegkjicaa
set_option linter.unusedVariables false
set_option linter.unusedSimpArgs false
open Go.RowKit
def fS : Nat → Nat → Int := fun _ j => if j = 3 then 3 else if j = 7 then 3 else if j = 9 then 2 else 0
theorem sane_of : ofM 1 fS 0 0 0 = ⟨⟨2, 2, 6, 6, 0, 36, 18, 0, 36, 0, 0⟩, 0⟩ := by rfl
theorem sane_shift : shiftM ⟨2, 2, 6, 6, 0, 36, 18, 0, 36, 0, 0⟩ 1 1 0 = ⟨⟨2, 2, 0, 0, 0, 12, -6, 0, 12, 0, 0⟩, 0⟩ := by rfl
theorem sane_rows (w : World) (n : Nat) (hn : n = w.heap.size) : RowsAt (w.alloc (.cells #[.int .i64 0, .int .i64 0, .int .i64 0, .int .i64 3, .int .i64 0, .int .i64 0, .int .i64 0, .int .i64 3, .int .i64 0, .int .i64 2] 51)) (some ⟨n, 0, none⟩) 1 10 fS := by
  subst hn
  refine fun _ => ⟨_, 0, rfl, by simp, fun k hk j hj => ?_⟩
  obtain rfl : k = 0 := by omega
  rcases (show j = 0 ∨ j = 1 ∨ j = 2 ∨ j = 3 ∨ j = 4 ∨ j = 5 ∨ j = 6 ∨ j = 7 ∨ j = 8 ∨ j = 9 by omega) with rfl | rfl | rfl | rfl | rfl | rfl | rfl | rfl | rfl | rfl <;> refine ⟨?_, by unfold I64; decide⟩ <;> simp [fS, go_sem]
set_option maxRecDepth 100000 in
set_option maxHeartbeats 4000000 in
theorem sane_any (w : World) :
    Calls Try.prog 5 #[] w fun r w' => r = .returned (.bool true) ∧ Kept w w' := by
  have e1 := sane_of
  have e2 := sane_shift
  go_enter Try.func5, Try.ntmps5
  go_wp2_with fail
  refine (mof_any _ _ _ fS _ _ _ _ (by omega) (sane_rows _ _ (by simp))).mono ?_
  rintro r w1 ⟨rfl, x, rfl⟩
  rw [e1]
  go_wp2_with fail
  refine (mshift_any _ _ _ _ _ _ _ _ _ _ _ _ _ _ _).mono ?_
  rintro r w1 ⟨rfl, x, rfl⟩
  rw [e2]
  go_wp2_with fail
  go_ret
  exact ⟨rfl, by (repeat (first | exact Kept.refl _ | assumption | refine Kept.alloc ?_ _ | refine Kept.ext ?_ _ | refine Kept.drew ?_ | refine Kept.drewN ?_ _))⟩
end Go.Proofs.Ytodmdicegkjicaa

namespace Go.Proofs.Ytodmdicegkjicaa
set_option linter.unusedVariables false
set_option linter.unusedSimpArgs false
open Go.ChangeShapes Go.WideShapes Go.ChangeAt Go.RowKit
theorem rest_bd {g0 g1 u0 u1 u2 g2 : Int} (h : (restS g0 g1 u0 u1 u2 g2).e = 0) : 0 ≤ (restS g0 g1 u0 u1 u2 g2).v ∧ (restS g0 g1 u0 u1 u2 g2).v ≤ 1099511627776 := by
  unfold restS at h ⊢
  split at h
  · rename_i hc
    rw [if_pos hc]
    simp only [Bool.and_eq_true] at hc
    obtain ⟨⟨⟨h0, h1⟩, h2⟩, h3⟩ := hc
    have c0 := frB_true h0
    have c1 := frB_true h1
    have s0 := (sqrtS_spec (show 0 ≤ g1 * 1048576 * 1048576 by omega)).1
    have a0 : 0 ≤ rootUpS (g1 * 1048576 * 1048576) := by unfold rootUpS; split <;> omega
    generalize rootUpS (g1 * 1048576 * 1048576) = a at *
    generalize sqrtS ((u0 * u0 + u1 * u1 + u2 * u2) * 1048576 * 1048576) = r at *
    unfold restV at h ⊢
    split at h
    · cases h
    · rename_i hr
      rw [if_neg hr]
      split at h
      · cases h
      · rename_i hb
        rw [if_neg hb]
        have t := upS_bd (n := a * 1048576) (d := r) (m := 1048576) (by omega) (by omega) (by omega)
        have e := (eS_bd t g2.toNat).1
        have n0 := Int.mul_nonneg c0.1 e
        have n1 := Int.mul_nonneg n0 (show (0 : Int) ≤ 1048576 by decide)
        have n2 := Int.mul_le_mul_of_nonneg_left (show 1 ≤ r - a by omega) n1
        rw [Int.mul_one] at n2
        have u := upS_bd (n := g0 * eS (upS (a * 1048576) r) g2.toNat * 1048576) (d := r - a) (m := g0 * eS (upS (a * 1048576) r) g2.toNat * 1048576) (by omega) n1 n2
        exact ⟨u.1, by show upS _ _ ≤ _; omega⟩
  · cases h
theorem good_valV {m0 m1 m2 m3 m4 m5 m6 m7 m8 m9 m10 u0 u1 u2 k : Int} : good (valV ⟨m0, m1, m2, m3, m4, m5, m6, m7, m8, m9, m10⟩ u0 u1 u2 k) := by
  unfold valV v1 v2 v3
  split
  · split
    · exact good_res _ _
    · exact .inr rfl
  · split
    · split
      · exact good_res _ _
      · exact .inr rfl
    · split
      · exact good_res _ _
      · exact .inr rfl
theorem val_ok {m0 m1 m2 m3 m4 m5 m6 m7 m8 m9 m10 u0 u1 u2 k : Int} (h : (ValS ⟨m0, m1, m2, m3, m4, m5, m6, m7, m8, m9, m10⟩ u0 u1 u2 k).e = 0) : validB (ValS ⟨m0, m1, m2, m3, m4, m5, m6, m7, m8, m9, m10⟩ u0 u1 u2 k).lo (ValS ⟨m0, m1, m2, m3, m4, m5, m6, m7, m8, m9, m10⟩ u0 u1 u2 k).hi = true := by
  unfold ValS at h ⊢
  split at h
  · rename_i hr
    rw [if_pos hr]
    exact good_v good_valV h
  · rename_i hr
    exact absurd h hr
/-- The far field with its bound. -/
def farV (m : Mo) (g u0 u1 u2 k : Int) : R := if (ValS m u0 u1 u2 k).e = 0 then (if (restS m.t g u0 u1 u2 k).e = 0 then resultS ((ValS m u0 u1 u2 k).lo - (restS m.t g u0 u1 u2 k).v) ((ValS m u0 u1 u2 k).hi + (restS m.t g u0 u1 u2 k).v) else ⟨0, 0, (restS m.t g u0 u1 u2 k).e⟩) else ⟨0, 0, (ValS m u0 u1 u2 k).e⟩
set_option maxRecDepth 100000 in
set_option maxHeartbeats 8000000 in
theorem mFar_any (m0 m1 m2 m3 m4 m5 m6 m7 m8 m9 m10 g u0 u1 u2 k : Int) (w : World) :
    Calls Try.prog 10 #[.agg #[.int .i64 m0, .int .i64 m1, .int .i64 m2, .int .i64 m3, .int .i64 m4, .int .i64 m5, .int .i64 m6, .int .i64 m7, .int .i64 m8, .int .i64 m9, .int .i64 m10], .int .i64 g, .agg #[.int .i64 u0, .int .i64 u1, .int .i64 u2], .int .i64 k] w fun e w' => e = .returned (.tuple #[.agg #[.int .i64 (farV ⟨m0, m1, m2, m3, m4, m5, m6, m7, m8, m9, m10⟩ g u0 u1 u2 k).lo, .int .i64 (farV ⟨m0, m1, m2, m3, m4, m5, m6, m7, m8, m9, m10⟩ g u0 u1 u2 k).hi], .int .i64 (farV ⟨m0, m1, m2, m3, m4, m5, m6, m7, m8, m9, m10⟩ g u0 u1 u2 k).e]) ∧ Kept w w' := by
  have hv : ∀ w, _ := fun w => mValue_any m0 m1 m2 m3 m4 m5 m6 m7 m8 m9 m10 u0 u1 u2 k w
  have hr : ∀ w, _ := fun w => mrest_any m1 g u0 u1 u2 k w
  by_cases h0 : (ValS ⟨m0, m1, m2, m3, m4, m5, m6, m7, m8, m9, m10⟩ u0 u1 u2 k).e = 0
  · have hb := valid_bd (val_ok h0)
    rw [h0] at hv
    by_cases h1 : (restS m1 g u0 u1 u2 k).e = 0
    · have hc := rest_bd h1
      rw [show farV ⟨m0, m1, m2, m3, m4, m5, m6, m7, m8, m9, m10⟩ g u0 u1 u2 k = resultS ((ValS ⟨m0, m1, m2, m3, m4, m5, m6, m7, m8, m9, m10⟩ u0 u1 u2 k).lo - (restS m1 g u0 u1 u2 k).v) ((ValS ⟨m0, m1, m2, m3, m4, m5, m6, m7, m8, m9, m10⟩ u0 u1 u2 k).hi + (restS m1 g u0 u1 u2 k).v) by unfold farV; rw [if_pos h0, if_pos h1]]
      rw [h1] at hr
      obtain ⟨x, hx⟩ : ∃ x, (ValS ⟨m0, m1, m2, m3, m4, m5, m6, m7, m8, m9, m10⟩ u0 u1 u2 k).lo = x := ⟨_, rfl⟩
      obtain ⟨y, hy⟩ : ∃ x, (ValS ⟨m0, m1, m2, m3, m4, m5, m6, m7, m8, m9, m10⟩ u0 u1 u2 k).hi = x := ⟨_, rfl⟩
      obtain ⟨z, hz⟩ : ∃ x, (restS m1 g u0 u1 u2 k).v = x := ⟨_, rfl⟩
      rw [hx, hy] at hv hb ⊢
      rw [hz] at hr hc ⊢
      have HV := Lib.hid hv
      have HR := Lib.hid hr
      clear hv hr h0 h1 hx hy hz
      unfold resultS
      cases hq : validB (x - z) (y + z)
      all_goals
        have HQ := Lib.hid hq
        clear hq
        go_enter Try.func10, Try.ntmps10
        go_wp2_with (first | (go_at_call 24; refine (HV.out _).mono ?_; rintro e w1 ⟨rfl, x1, rfl⟩) | (go_at_call 25; refine (HR.out _).mono ?_; rintro e w1 ⟨rfl, x2, rfl⟩) | (go_at_call 26; refine (valid_any _ _ _).mono ?_; rintro e w1 ⟨rfl, x3, rfl⟩; rw [HQ.out]))
        refine bodyPost_ret (by simp only [results, Try.results10]; go_simp; rfl) rfl ?_
        exact ⟨rfl, by (repeat (first | exact Kept.refl _ | assumption | refine Kept.alloc ?_ _ | refine Kept.ext ?_ _ | refine Kept.drew ?_ | refine Kept.drewN ?_ _))⟩
    · rw [show farV ⟨m0, m1, m2, m3, m4, m5, m6, m7, m8, m9, m10⟩ g u0 u1 u2 k = ⟨0, 0, (restS m1 g u0 u1 u2 k).e⟩ by unfold farV; rw [if_pos h0, if_neg h1]]
      obtain ⟨x, hx⟩ : ∃ x, (ValS ⟨m0, m1, m2, m3, m4, m5, m6, m7, m8, m9, m10⟩ u0 u1 u2 k).lo = x := ⟨_, rfl⟩
      obtain ⟨y, hy⟩ : ∃ x, (ValS ⟨m0, m1, m2, m3, m4, m5, m6, m7, m8, m9, m10⟩ u0 u1 u2 k).hi = x := ⟨_, rfl⟩
      obtain ⟨z, hz⟩ : ∃ x, (restS m1 g u0 u1 u2 k).v = x := ⟨_, rfl⟩
      obtain ⟨er, he⟩ : ∃ x, (restS m1 g u0 u1 u2 k).e = x := ⟨_, rfl⟩
      rw [hx, hy] at hv
      rw [hz, he] at hr
      rw [he] at h1 ⊢
      have HV := Lib.hid hv
      have HR := Lib.hid hr
      have g1 : (er == 0) = false := by simpa using h1
      have g2 : decide (er = 0) = false := by simpa using h1
      clear hv hr h0 h1 hx hy hz he hb
      go_enter Try.func10, Try.ntmps10
      go_wp2_with (first | (go_at_call 24; refine (HV.out _).mono ?_; rintro e w1 ⟨rfl, x1, rfl⟩) | (go_at_call 25; refine (HR.out _).mono ?_; rintro e w1 ⟨rfl, x2, rfl⟩))
      refine bodyPost_ret (by simp only [results, Try.results10]; go_simp; rfl) rfl ?_
      exact ⟨rfl, by (repeat (first | exact Kept.refl _ | assumption | refine Kept.alloc ?_ _ | refine Kept.ext ?_ _ | refine Kept.drew ?_ | refine Kept.drewN ?_ _))⟩
  · rw [show farV ⟨m0, m1, m2, m3, m4, m5, m6, m7, m8, m9, m10⟩ g u0 u1 u2 k = ⟨0, 0, (ValS ⟨m0, m1, m2, m3, m4, m5, m6, m7, m8, m9, m10⟩ u0 u1 u2 k).e⟩ from if_neg h0]
    obtain ⟨x, hx⟩ : ∃ x, (ValS ⟨m0, m1, m2, m3, m4, m5, m6, m7, m8, m9, m10⟩ u0 u1 u2 k).lo = x := ⟨_, rfl⟩
    obtain ⟨y, hy⟩ : ∃ x, (ValS ⟨m0, m1, m2, m3, m4, m5, m6, m7, m8, m9, m10⟩ u0 u1 u2 k).hi = x := ⟨_, rfl⟩
    obtain ⟨er, he⟩ : ∃ x, (ValS ⟨m0, m1, m2, m3, m4, m5, m6, m7, m8, m9, m10⟩ u0 u1 u2 k).e = x := ⟨_, rfl⟩
    rw [hx, hy, he] at hv
    rw [he] at h0 ⊢
    have HV := Lib.hid hv
    have g1 : (er == 0) = false := by simpa using h0
    have g2 : decide (er = 0) = false := by simpa using h0
    clear hv hr h0 hx hy he
    go_enter Try.func10, Try.ntmps10
    go_wp2_with (go_at_call 24; refine (HV.out _).mono ?_; rintro e w1 ⟨rfl, x1, rfl⟩)
    refine bodyPost_ret (by simp only [results, Try.results10]; go_simp; rfl) rfl ?_
    exact ⟨rfl, by (repeat (first | exact Kept.refl _ | assumption | refine Kept.alloc ?_ _ | refine Kept.ext ?_ _ | refine Kept.drew ?_ | refine Kept.drewN ?_ _))⟩
end Go.Proofs.Ytodmdicegkjicaa

namespace Go.Proofs.Ytodmdicegkjicaa
set_option linter.unusedVariables false
set_option linter.unusedSimpArgs false
open Go.ChangeShapes Go.WideShapes Go.ChangeAt Go.RowKit
attribute [local go_sem ↓] Go.wp_at_zero Go.wp_at_succ
def sqd (x y z : Int) : Int := x * x + y * y + z * z
def radF (f : Nat → Nat → Int) (c0 c1 c2 : Int) : Nat → Int
  | 0 => 0
  | k + 1 => max (max (max (radF f c0 c1 c2 k) (sqd (f k 0 - c0) (f k 1 - c1) (f k 2 - c2))) (sqd (f k 3 - c0) (f k 4 - c1) (f k 5 - c2))) (sqd (f k 6 - c0) (f k 7 - c1) (f k 8 - c2))
def radV (n : Nat) (f : Nat → Nat → Int) (c0 c1 c2 : Int) : Int := if givE n f c0 c1 c2 = 0 then radF f c0 c1 c2 n else 0
set_option maxRecDepth 100000 in
set_option maxHeartbeats 8000000 in
theorem mrad_any (A : Option Addr) (n cap : Nat) (f : Nat → Nat → Int) (c0 c1 c2 : Int) (w : World) (hn : n ≤ 9223372036854775807) (hs : RowsAt w A n 10 f) :
    Calls Try.prog 7 #[.slice A n cap, .agg #[.int .i64 c0, .int .i64 c1, .int .i64 c2]] w fun r w' => r = .returned (.tuple #[.int .i64 (radV n f c0 c1 c2), .int .i64 (givE n f c0 c1 c2)]) ∧ Kept w w' := by
  have HS := Lib.hid hs
  by_cases v0 : givE n f c0 c1 c2 = 0
  · have e : radV n f c0 c1 c2 = radF f c0 c1 c2 n := if_pos v0
    rw [e, v0]
    clear e
    obtain ⟨n0, n1, n2⟩ := givE_ok v0
    have N1 := Lib.hid n1
    have bc := inB_true n2
    have g1 : (givE n f c0 c1 c2 != 0) = false := by simpa using v0
    clear v0 n1 n2
    rcases Nat.eq_zero_or_pos n with rfl | h0
    · clear hs
      go_enter Try.func7, Try.ntmps7
      go_wp2_with fail
      refine (mcharged_any _ _ _ f _ _ _ _ (by omega) (HS.out.of (by (repeat (first | exact Kept.refl _ | assumption | refine Kept.alloc ?_ _ | refine Kept.ext ?_ _ | refine Kept.drew ?_ | refine Kept.drewN ?_ _))))).mono ?_
      rintro e w1 ⟨rfl, x0, rfl⟩
      go_wp2_with fail
      refine wp_loop_rounds 1 ?_
      rw [rounds_succ]
      go_wp2_with fail
      refine bodyPost_ret (by simp only [results, Try.results7]; go_simp; rfl) rfl ?_
      exact ⟨rfl, by (repeat (first | exact Kept.refl _ | assumption | refine Kept.alloc ?_ _ | refine Kept.ext ?_ _ | refine Kept.drew ?_ | refine Kept.drewN ?_ _))⟩
    · obtain ⟨b, off, rfl, hb, hcell⟩ := hs h0
      have HC := Lib.hid hcell
      clear hs hcell
      have LB : Lower b w.heap.size := ⟨hb⟩
      go_enter Try.func7, Try.ntmps7
      go_wp2_with fail
      refine (mcharged_any _ _ _ f _ _ _ _ (by omega) (HS.out.of (by (repeat (first | exact Kept.refl _ | assumption | refine Kept.alloc ?_ _ | refine Kept.ext ?_ _ | refine Kept.drew ?_ | refine Kept.drewN ?_ _))))).mono ?_
      rintro e w1 ⟨rfl, x0, rfl⟩
      go_wp2_with fail
      go_loopw [7, 21] (fun m i wr => ∃ k : Nat, k ≤ n ∧ i = .int .i64 k ∧ m = .int .i64 (radF f c0 c1 c2 k) ∧ Kept (ext (w.alloc (.cells #[.int .i64 c0, .int .i64 c1, .int .i64 c2] 24)) x0) wr) (fun m i _ => n - (intOf i).toNat)
      case atStart => exact ⟨0, by omega, rfl, rfl, by (repeat (first | exact Kept.refl _ | assumption | refine Kept.alloc ?_ _ | refine Kept.ext ?_ _ | refine Kept.drew ?_ | refine Kept.drewN ?_ _))⟩
      case round =>
        obtain ⟨k, hk, rfl, rfl, y, rfl⟩ := hrel
        by_cases hlt : k < n
        · have hcell := HC.out
          have cx0 := (hcell k hlt 0 (by omega)).1
          have cx1 := (hcell k hlt 1 (by omega)).1
          have cx2 := (hcell k hlt 2 (by omega)).1
          have cx3 := (hcell k hlt 3 (by omega)).1
          have cx4 := (hcell k hlt 4 (by omega)).1
          have cx5 := (hcell k hlt 5 (by omega)).1
          have cx6 := (hcell k hlt 6 (by omega)).1
          have cx7 := (hcell k hlt 7 (by omega)).1
          have cx8 := (hcell k hlt 8 (by omega)).1
          have cx9 := (hcell k hlt 9 (by omega)).1
          simp only [Nat.add_zero] at cx0
          clear hcell
          have bf := chE_bd (chE_at hlt N1.out)
          obtain ⟨v0, v1, v2, v3, v4, v5, v6, v7, v8, v9⟩ := bf
          have hr : radF f c0 c1 c2 (k + 1) = max (max (max (radF f c0 c1 c2 k) (sqd (f k 0 - c0) (f k 1 - c1) (f k 2 - c2))) (sqd (f k 3 - c0) (f k 4 - c1) (f k 5 - c2))) (sqd (f k 6 - c0) (f k 7 - c1) (f k 8 - c2)) := rfl
          unfold sqd at hr
          generalize f k 0 = p0 at cx0 v0 hr
          generalize f k 1 = p1 at cx1 v1 hr
          generalize f k 2 = p2 at cx2 v2 hr
          generalize f k 3 = p3 at cx3 v3 hr
          generalize f k 4 = p4 at cx4 v4 hr
          generalize f k 5 = p5 at cx5 v5 hr
          generalize f k 6 = p6 at cx6 v6 hr
          generalize f k 7 = p7 at cx7 v7 hr
          generalize f k 8 = p8 at cx8 v8 hr
          generalize f k 9 = q at cx9 v9 hr
          generalize radF f c0 c1 c2 k = m at hr ⊢
          have HR := Lib.hid hr
          clear hr
          go_wp2_with fail
          refine wp_loop_rounds 4 ?_
          rw [rounds_succ]
          go_wp2_with (first | (go_at_call 16; refine (mminus_any _ _ _ _ _ _ _ (by omega)).mono ?_; rintro e w1 ⟨rfl, x, rfl⟩) | (go_at_call 17; refine (mdot_any _ _ _ _ _ _ _ (by omega)).mono ?_; rintro e w1 ⟨rfl, x, rfl⟩))
          rw [rounds_succ]
          go_wp2_with (first | (go_at_call 16; refine (mminus_any _ _ _ _ _ _ _ (by omega)).mono ?_; rintro e w1 ⟨rfl, x, rfl⟩) | (go_at_call 17; refine (mdot_any _ _ _ _ _ _ _ (by omega)).mono ?_; rintro e w1 ⟨rfl, x, rfl⟩))
          rw [rounds_succ]
          go_wp2_with (first | (go_at_call 16; refine (mminus_any _ _ _ _ _ _ _ (by omega)).mono ?_; rintro e w1 ⟨rfl, x, rfl⟩) | (go_at_call 17; refine (mdot_any _ _ _ _ _ _ _ (by omega)).mono ?_; rintro e w1 ⟨rfl, x, rfl⟩))
          rw [rounds_succ]
          go_wp2_with (first | (go_at_call 16; refine (mminus_any _ _ _ _ _ _ _ (by omega)).mono ?_; rintro e w1 ⟨rfl, x, rfl⟩) | (go_at_call 17; refine (mdot_any _ _ _ _ _ _ _ (by omega)).mono ?_; rintro e w1 ⟨rfl, x, rfl⟩))
          go_roundw
          case rel => exact ⟨k + 1, by omega, by go_num, by rw [HR.out]; simp only [Int.max_assoc], by (repeat (first | exact Kept.refl _ | assumption | refine Kept.alloc ?_ _ | refine Kept.ext ?_ _ | refine Kept.drew ?_ | refine Kept.drewN ?_ _))⟩
          case measure => simp [intOf]; omega
        · obtain rfl : k = n := by omega
          go_wp2_with fail
          refine bodyPost_ret (by simp only [results, Try.results7]; go_simp; rfl) rfl ?_
          exact ⟨rfl, by (repeat (first | exact Kept.refl _ | assumption | refine Kept.alloc ?_ _ | refine Kept.ext ?_ _ | refine Kept.drew ?_ | refine Kept.drewN ?_ _))⟩
  · have e : radV n f c0 c1 c2 = 0 := if_neg v0
    rw [e]
    clear e hs
    have g1 : (givE n f c0 c1 c2 != 0) = true := by simpa using v0
    clear v0
    go_enter Try.func7, Try.ntmps7
    go_wp2_with fail
    refine (mcharged_any _ _ _ f _ _ _ _ (by omega) (HS.out.of (by (repeat (first | exact Kept.refl _ | assumption | refine Kept.alloc ?_ _ | refine Kept.ext ?_ _ | refine Kept.drew ?_ | refine Kept.drewN ?_ _))))).mono ?_
    rintro e w1 ⟨rfl, x0, rfl⟩
    go_wp2_with fail
    refine bodyPost_ret (by simp only [results, Try.results7]; go_simp; rfl) rfl ?_
    exact ⟨rfl, by (repeat (first | exact Kept.refl _ | assumption | refine Kept.alloc ?_ _ | refine Kept.ext ?_ _ | refine Kept.drew ?_ | refine Kept.drewN ?_ _))⟩
end Go.Proofs.Ytodmdicegkjicaa

