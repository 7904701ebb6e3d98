/- Contracts: what the higher orders are worth, of the program. No conditions. Contracts: what the higher orders are worth, of the reference. No conditions. -/
import Derived.Test.YtldchncnadllpaaRst
import Derived.LoopN
namespace Go.Proofs.Ytldchncnadllpaa
set_option linter.unusedVariables false
set_option linter.unusedSimpArgs false
open Go.RowKit
set_option maxRecDepth 100000 in
set_option maxHeartbeats 8000000 in
theorem mrest_any (g0 g1 u0 u1 u2 g2 : Int) (w : World) :
    Calls Try.prog 27 #[.int .i64 g0, .int .i64 g1, .agg #[.int .i64 u0, .int .i64 u1, .int .i64 u2], .int .i64 g2] w fun r w' => r = .returned (.tuple #[.int .i64 (restS g0 g1 u0 u1 u2 g2).v, .int .i64 (restS g0 g1 u0 u1 u2 g2).e]) ∧ Kept w w' := by
  cases h0 : frB g0 0 1048576
  · have e : restS g0 g1 u0 u1 u2 g2 = ⟨0, 1⟩ := by simp [restS, h0]
    rw [e]
    clear e
    go_enter Try.func27, Try.ntmps27
    go_wp2_with (first | (go_at_call 55; refine (mfrom_any _ _ _ _).mono ?_; rintro e w1 ⟨rfl, rfl⟩) | (go_at_call 51; refine (mnear_any _ _ _ _ _ (by omega)).mono ?_; rintro e w1 ⟨rfl, x, rfl⟩))
    go_ret2
    exact ⟨rfl, by (repeat (first | exact Kept.refl _ | assumption | refine Kept.alloc ?_ _ | refine Kept.ext ?_ _ | refine Kept.drew ?_ | refine Kept.drewN ?_ _))⟩
  have c0 := frB_true h0
  cases h1 : frB g1 0 131072
  · have e : restS g0 g1 u0 u1 u2 g2 = ⟨0, 1⟩ := by simp [restS, h1]
    rw [e]
    clear e
    go_enter Try.func27, Try.ntmps27
    go_wp2_with (first | (go_at_call 55; refine (mfrom_any _ _ _ _).mono ?_; rintro e w1 ⟨rfl, rfl⟩) | (go_at_call 51; refine (mnear_any _ _ _ _ _ (by omega)).mono ?_; rintro e w1 ⟨rfl, x, rfl⟩))
    go_ret2
    exact ⟨rfl, by (repeat (first | exact Kept.refl _ | assumption | refine Kept.alloc ?_ _ | refine Kept.ext ?_ _ | refine Kept.drew ?_ | refine Kept.drewN ?_ _))⟩
  have c1 := frB_true h1
  cases h2 : inB u0 u1 u2 384
  · have e : restS g0 g1 u0 u1 u2 g2 = ⟨0, 1⟩ := by simp [restS, h2]
    rw [e]
    clear e
    go_enter Try.func27, Try.ntmps27
    go_wp2_with (first | (go_at_call 55; refine (mfrom_any _ _ _ _).mono ?_; rintro e w1 ⟨rfl, rfl⟩) | (go_at_call 51; refine (mnear_any _ _ _ _ _ (by omega)).mono ?_; rintro e w1 ⟨rfl, x, rfl⟩))
    go_ret2
    exact ⟨rfl, by (repeat (first | exact Kept.refl _ | assumption | refine Kept.alloc ?_ _ | refine Kept.ext ?_ _ | refine Kept.drew ?_ | refine Kept.drewN ?_ _))⟩
  cases h3 : frB g2 0 2
  · have e : restS g0 g1 u0 u1 u2 g2 = ⟨0, 1⟩ := by simp [restS, h3]
    rw [e]
    clear e
    go_enter Try.func27, Try.ntmps27
    go_wp2_with (first | (go_at_call 55; refine (mfrom_any _ _ _ _).mono ?_; rintro e w1 ⟨rfl, rfl⟩) | (go_at_call 51; refine (mnear_any _ _ _ _ _ (by omega)).mono ?_; rintro e w1 ⟨rfl, x, rfl⟩))
    go_ret2
    exact ⟨rfl, by (repeat (first | exact Kept.refl _ | assumption | refine Kept.alloc ?_ _ | refine Kept.ext ?_ _ | refine Kept.drew ?_ | refine Kept.drewN ?_ _))⟩
  have c3 := frB_true h3
  have b2 := inB_true h2
  have e : restS g0 g1 u0 u1 u2 g2 = restV g0 (rootUpS (g1 * 1048576 * 1048576)) (sqrtS ((u0 * u0 + u1 * u1 + u2 * u2) * 1048576 * 1048576)) g2.toNat := by simp [restS, h0, h1, h2, h3]
  rw [e]
  clear e
  have p0 := mul_sq 384 147456 (show -384 ≤ u0 ∧ u0 ≤ 384 by omega) (show -384 ≤ u0 ∧ u0 ≤ 384 by omega) rfl
  have p1 := mul_sq 384 147456 (show -384 ≤ u1 ∧ u1 ≤ 384 by omega) (show -384 ≤ u1 ∧ u1 ≤ 384 by omega) rfl
  have p2 := mul_sq 384 147456 (show -384 ≤ u2 ∧ u2 ≤ 384 by omega) (show -384 ≤ u2 ∧ u2 ≤ 384 by omega) rfl
  have p3 : 0 ≤ u0 * u0 := sq_nn u0
  have p4 : 0 ≤ u1 * u1 := sq_nn u1
  have p5 : 0 ≤ u2 * u2 := sq_nn u2
  obtain ⟨s0, s1, s2⟩ := sqrtS_spec (show 0 ≤ g1 * 1048576 * 1048576 by omega)
  obtain ⟨t0, t1, t2⟩ := sqrtS_spec (show 0 ≤ (u0 * u0 + u1 * u1 + u2 * u2) * 1048576 * 1048576 by omega)
  have s3 : sqrtS (g1 * 1048576 * 1048576) ≤ 1073741824 := of_sq_le (by decide) (by omega)
  have t3 : sqrtS ((u0 * u0 + u1 * u1 + u2 * u2) * 1048576 * 1048576) ≤ 1073741824 := of_sq_le (by decide) (by omega)
  have s4 := Int.mul_nonneg s0 s0
  have U : rootUpS (g1 * 1048576 * 1048576) = if sqrtS (g1 * 1048576 * 1048576) * sqrtS (g1 * 1048576 * 1048576) < g1 * 1048576 * 1048576 then sqrtS (g1 * 1048576 * 1048576) + 1 else sqrtS (g1 * 1048576 * 1048576) := rfl
  clear t1 t2
  obtain ⟨r, hr⟩ : ∃ r, sqrtS ((u0 * u0 + u1 * u1 + u2 * u2) * 1048576 * 1048576) = r := ⟨_, rfl⟩
  rw [hr] at t0 t3 ⊢
  by_cases hs : sqrtS (g1 * 1048576 * 1048576) * sqrtS (g1 * 1048576 * 1048576) < g1 * 1048576 * 1048576
  · rw [if_pos hs] at U
    rw [U]
    clear U s2 s1
    obtain ⟨a0, ha⟩ : ∃ a, sqrtS (g1 * 1048576 * 1048576) = a := ⟨_, rfl⟩
    rw [ha] at s0 s3 s4 hs ⊢
    obtain ⟨a, ha2⟩ : ∃ a, a0 + 1 = a := ⟨_, rfl⟩
    rw [ha2]
    by_cases hra : r ≤ a
    · have e : restV g0 a r g2.toNat = ⟨0, 10⟩ := if_pos hra
      rw [e]
      clear e
      go_enter Try.func27, Try.ntmps27
      go_wp2_with (first | (go_at_call 55; refine (mfrom_any _ _ _ _).mono ?_; rintro e w1 ⟨rfl, rfl⟩) | (go_at_call 51; refine (mnear_any _ _ _ _ _ (by omega)).mono ?_; rintro e w1 ⟨rfl, x, rfl⟩) | (go_at_call 56; refine (mroot_any _ _ (by omega)).mono ?_; rintro e w1 ⟨rfl, rfl⟩) | (go_at_call 33; refine (mdot_any _ _ _ _ _ _ _ (by omega)).mono ?_; rintro e w1 ⟨rfl, x, rfl⟩) | (go_at_call 57; refine (mup_any _ _ _ (by omega)).mono ?_; rintro e w1 ⟨rfl, rfl⟩))
      go_ret2
      exact ⟨rfl, by (repeat (first | exact Kept.refl _ | assumption | refine Kept.alloc ?_ _ | refine Kept.ext ?_ _ | refine Kept.drew ?_ | refine Kept.drewN ?_ _))⟩
    · have tb := upS_bd (n := a * 1048576) (d := r) (m := 1048576) (by omega) (by omega) (by omega)
      rcases (show g2 = 0 ∨ g2 = 1 ∨ g2 = 2 by omega) with rfl | rfl | rfl
      · have eb1 := eS_bd tb 0
        have eb2 := eS_bd tb 1
        have eb3 := eS_bd tb 2
        simp only [eS] at eb1 eb2 eb3
        have mb := mul_bd (a := g0) (b := upS (a * 1048576) r) (A := 1048576) (B := 1048576) 1099511627776 (by omega) (by omega) rfl
        have mn := Int.mul_nonneg (show 0 ≤ g0 by omega) (show 0 ≤ upS (a * 1048576) r by omega)
        by_cases hl : 1099511627776 < upS (g0 * upS (a * 1048576) r * 1048576) (r - a)
        · have e : restV g0 a r (Int.toNat 0) = ⟨0, 4⟩ := by show restV g0 a r 0 = _; unfold restV; rw [if_neg hra]; exact if_pos hl
          rw [e]
          clear e
          go_enter Try.func27, Try.ntmps27
          go_wp2_with (first | (go_at_call 55; refine (mfrom_any _ _ _ _).mono ?_; rintro e w1 ⟨rfl, rfl⟩) | (go_at_call 51; refine (mnear_any _ _ _ _ _ (by omega)).mono ?_; rintro e w1 ⟨rfl, x, rfl⟩) | (go_at_call 56; refine (mroot_any _ _ (by omega)).mono ?_; rintro e w1 ⟨rfl, rfl⟩) | (go_at_call 33; refine (mdot_any _ _ _ _ _ _ _ (by omega)).mono ?_; rintro e w1 ⟨rfl, x, rfl⟩) | (go_at_call 57; refine (mup_any _ _ _ (by omega)).mono ?_; rintro e w1 ⟨rfl, rfl⟩))
          refine wp_loop_rounds 1 ?_
          rw [rounds_succ]
          go_wp2_with (first | (go_at_call 55; refine (mfrom_any _ _ _ _).mono ?_; rintro e w1 ⟨rfl, rfl⟩) | (go_at_call 51; refine (mnear_any _ _ _ _ _ (by omega)).mono ?_; rintro e w1 ⟨rfl, x, rfl⟩) | (go_at_call 56; refine (mroot_any _ _ (by omega)).mono ?_; rintro e w1 ⟨rfl, rfl⟩) | (go_at_call 33; refine (mdot_any _ _ _ _ _ _ _ (by omega)).mono ?_; rintro e w1 ⟨rfl, x, rfl⟩) | (go_at_call 57; refine (mup_any _ _ _ (by omega)).mono ?_; rintro e w1 ⟨rfl, rfl⟩))
          go_ret2
          exact ⟨rfl, by (repeat (first | exact Kept.refl _ | assumption | refine Kept.alloc ?_ _ | refine Kept.ext ?_ _ | refine Kept.drew ?_ | refine Kept.drewN ?_ _))⟩
        · have e : restV g0 a r (Int.toNat 0) = ⟨upS (g0 * upS (a * 1048576) r * 1048576) (r - a), 0⟩ := by show restV g0 a r 0 = _; unfold restV; rw [if_neg hra]; exact if_neg hl
          rw [e]
          clear e
          go_enter Try.func27, Try.ntmps27
          go_wp2_with (first | (go_at_call 55; refine (mfrom_any _ _ _ _).mono ?_; rintro e w1 ⟨rfl, rfl⟩) | (go_at_call 51; refine (mnear_any _ _ _ _ _ (by omega)).mono ?_; rintro e w1 ⟨rfl, x, rfl⟩) | (go_at_call 56; refine (mroot_any _ _ (by omega)).mono ?_; rintro e w1 ⟨rfl, rfl⟩) | (go_at_call 33; refine (mdot_any _ _ _ _ _ _ _ (by omega)).mono ?_; rintro e w1 ⟨rfl, x, rfl⟩) | (go_at_call 57; refine (mup_any _ _ _ (by omega)).mono ?_; rintro e w1 ⟨rfl, rfl⟩))
          refine wp_loop_rounds 1 ?_
          rw [rounds_succ]
          go_wp2_with (first | (go_at_call 55; refine (mfrom_any _ _ _ _).mono ?_; rintro e w1 ⟨rfl, rfl⟩) | (go_at_call 51; refine (mnear_any _ _ _ _ _ (by omega)).mono ?_; rintro e w1 ⟨rfl, x, rfl⟩) | (go_at_call 56; refine (mroot_any _ _ (by omega)).mono ?_; rintro e w1 ⟨rfl, rfl⟩) | (go_at_call 33; refine (mdot_any _ _ _ _ _ _ _ (by omega)).mono ?_; rintro e w1 ⟨rfl, x, rfl⟩) | (go_at_call 57; refine (mup_any _ _ _ (by omega)).mono ?_; rintro e w1 ⟨rfl, rfl⟩))
          go_ret2
          exact ⟨rfl, by (repeat (first | exact Kept.refl _ | assumption | refine Kept.alloc ?_ _ | refine Kept.ext ?_ _ | refine Kept.drew ?_ | refine Kept.drewN ?_ _))⟩
      · have eb1 := eS_bd tb 0
        have eb2 := eS_bd tb 1
        have eb3 := eS_bd tb 2
        simp only [eS] at eb1 eb2 eb3
        have mb := mul_bd (a := g0) (b := upS (upS (a * 1048576) r * upS (a * 1048576) r) 1048576) (A := 1048576) (B := 1048576) 1099511627776 (by omega) (by omega) rfl
        have mn := Int.mul_nonneg (show 0 ≤ g0 by omega) (show 0 ≤ upS (upS (a * 1048576) r * upS (a * 1048576) r) 1048576 by omega)
        by_cases hl : 1099511627776 < upS (g0 * upS (upS (a * 1048576) r * upS (a * 1048576) r) 1048576 * 1048576) (r - a)
        · have e : restV g0 a r (Int.toNat 1) = ⟨0, 4⟩ := by show restV g0 a r 1 = _; unfold restV; rw [if_neg hra]; exact if_pos hl
          rw [e]
          clear e
          go_enter Try.func27, Try.ntmps27
          go_wp2_with (first | (go_at_call 55; refine (mfrom_any _ _ _ _).mono ?_; rintro e w1 ⟨rfl, rfl⟩) | (go_at_call 51; refine (mnear_any _ _ _ _ _ (by omega)).mono ?_; rintro e w1 ⟨rfl, x, rfl⟩) | (go_at_call 56; refine (mroot_any _ _ (by omega)).mono ?_; rintro e w1 ⟨rfl, rfl⟩) | (go_at_call 33; refine (mdot_any _ _ _ _ _ _ _ (by omega)).mono ?_; rintro e w1 ⟨rfl, x, rfl⟩) | (go_at_call 57; refine (mup_any _ _ _ (by omega)).mono ?_; rintro e w1 ⟨rfl, rfl⟩))
          refine wp_loop_rounds 2 ?_
          rw [rounds_succ]
          go_wp2_with (first | (go_at_call 55; refine (mfrom_any _ _ _ _).mono ?_; rintro e w1 ⟨rfl, rfl⟩) | (go_at_call 51; refine (mnear_any _ _ _ _ _ (by omega)).mono ?_; rintro e w1 ⟨rfl, x, rfl⟩) | (go_at_call 56; refine (mroot_any _ _ (by omega)).mono ?_; rintro e w1 ⟨rfl, rfl⟩) | (go_at_call 33; refine (mdot_any _ _ _ _ _ _ _ (by omega)).mono ?_; rintro e w1 ⟨rfl, x, rfl⟩) | (go_at_call 57; refine (mup_any _ _ _ (by omega)).mono ?_; rintro e w1 ⟨rfl, rfl⟩))
          rw [rounds_succ]
          go_wp2_with (first | (go_at_call 55; refine (mfrom_any _ _ _ _).mono ?_; rintro e w1 ⟨rfl, rfl⟩) | (go_at_call 51; refine (mnear_any _ _ _ _ _ (by omega)).mono ?_; rintro e w1 ⟨rfl, x, rfl⟩) | (go_at_call 56; refine (mroot_any _ _ (by omega)).mono ?_; rintro e w1 ⟨rfl, rfl⟩) | (go_at_call 33; refine (mdot_any _ _ _ _ _ _ _ (by omega)).mono ?_; rintro e w1 ⟨rfl, x, rfl⟩) | (go_at_call 57; refine (mup_any _ _ _ (by omega)).mono ?_; rintro e w1 ⟨rfl, rfl⟩))
          go_ret2
          exact ⟨rfl, by (repeat (first | exact Kept.refl _ | assumption | refine Kept.alloc ?_ _ | refine Kept.ext ?_ _ | refine Kept.drew ?_ | refine Kept.drewN ?_ _))⟩
        · have e : restV g0 a r (Int.toNat 1) = ⟨upS (g0 * upS (upS (a * 1048576) r * upS (a * 1048576) r) 1048576 * 1048576) (r - a), 0⟩ := by show restV g0 a r 1 = _; unfold restV; rw [if_neg hra]; exact if_neg hl
          rw [e]
          clear e
          go_enter Try.func27, Try.ntmps27
          go_wp2_with (first | (go_at_call 55; refine (mfrom_any _ _ _ _).mono ?_; rintro e w1 ⟨rfl, rfl⟩) | (go_at_call 51; refine (mnear_any _ _ _ _ _ (by omega)).mono ?_; rintro e w1 ⟨rfl, x, rfl⟩) | (go_at_call 56; refine (mroot_any _ _ (by omega)).mono ?_; rintro e w1 ⟨rfl, rfl⟩) | (go_at_call 33; refine (mdot_any _ _ _ _ _ _ _ (by omega)).mono ?_; rintro e w1 ⟨rfl, x, rfl⟩) | (go_at_call 57; refine (mup_any _ _ _ (by omega)).mono ?_; rintro e w1 ⟨rfl, rfl⟩))
          refine wp_loop_rounds 2 ?_
          rw [rounds_succ]
          go_wp2_with (first | (go_at_call 55; refine (mfrom_any _ _ _ _).mono ?_; rintro e w1 ⟨rfl, rfl⟩) | (go_at_call 51; refine (mnear_any _ _ _ _ _ (by omega)).mono ?_; rintro e w1 ⟨rfl, x, rfl⟩) | (go_at_call 56; refine (mroot_any _ _ (by omega)).mono ?_; rintro e w1 ⟨rfl, rfl⟩) | (go_at_call 33; refine (mdot_any _ _ _ _ _ _ _ (by omega)).mono ?_; rintro e w1 ⟨rfl, x, rfl⟩) | (go_at_call 57; refine (mup_any _ _ _ (by omega)).mono ?_; rintro e w1 ⟨rfl, rfl⟩))
          rw [rounds_succ]
          go_wp2_with (first | (go_at_call 55; refine (mfrom_any _ _ _ _).mono ?_; rintro e w1 ⟨rfl, rfl⟩) | (go_at_call 51; refine (mnear_any _ _ _ _ _ (by omega)).mono ?_; rintro e w1 ⟨rfl, x, rfl⟩) | (go_at_call 56; refine (mroot_any _ _ (by omega)).mono ?_; rintro e w1 ⟨rfl, rfl⟩) | (go_at_call 33; refine (mdot_any _ _ _ _ _ _ _ (by omega)).mono ?_; rintro e w1 ⟨rfl, x, rfl⟩) | (go_at_call 57; refine (mup_any _ _ _ (by omega)).mono ?_; rintro e w1 ⟨rfl, rfl⟩))
          go_ret2
          exact ⟨rfl, by (repeat (first | exact Kept.refl _ | assumption | refine Kept.alloc ?_ _ | refine Kept.ext ?_ _ | refine Kept.drew ?_ | refine Kept.drewN ?_ _))⟩
      · have eb1 := eS_bd tb 0
        have eb2 := eS_bd tb 1
        have eb3 := eS_bd tb 2
        simp only [eS] at eb1 eb2 eb3
        have mb := mul_bd (a := g0) (b := upS (upS (upS (a * 1048576) r * upS (a * 1048576) r) 1048576 * upS (a * 1048576) r) 1048576) (A := 1048576) (B := 1048576) 1099511627776 (by omega) (by omega) rfl
        have mn := Int.mul_nonneg (show 0 ≤ g0 by omega) (show 0 ≤ upS (upS (upS (a * 1048576) r * upS (a * 1048576) r) 1048576 * upS (a * 1048576) r) 1048576 by omega)
        by_cases hl : 1099511627776 < upS (g0 * upS (upS (upS (a * 1048576) r * upS (a * 1048576) r) 1048576 * upS (a * 1048576) r) 1048576 * 1048576) (r - a)
        · have e : restV g0 a r (Int.toNat 2) = ⟨0, 4⟩ := by show restV g0 a r 2 = _; unfold restV; rw [if_neg hra]; exact if_pos hl
          rw [e]
          clear e
          go_enter Try.func27, Try.ntmps27
          go_wp2_with (first | (go_at_call 55; refine (mfrom_any _ _ _ _).mono ?_; rintro e w1 ⟨rfl, rfl⟩) | (go_at_call 51; refine (mnear_any _ _ _ _ _ (by omega)).mono ?_; rintro e w1 ⟨rfl, x, rfl⟩) | (go_at_call 56; refine (mroot_any _ _ (by omega)).mono ?_; rintro e w1 ⟨rfl, rfl⟩) | (go_at_call 33; refine (mdot_any _ _ _ _ _ _ _ (by omega)).mono ?_; rintro e w1 ⟨rfl, x, rfl⟩) | (go_at_call 57; refine (mup_any _ _ _ (by omega)).mono ?_; rintro e w1 ⟨rfl, rfl⟩))
          refine wp_loop_rounds 3 ?_
          rw [rounds_succ]
          go_wp2_with (first | (go_at_call 55; refine (mfrom_any _ _ _ _).mono ?_; rintro e w1 ⟨rfl, rfl⟩) | (go_at_call 51; refine (mnear_any _ _ _ _ _ (by omega)).mono ?_; rintro e w1 ⟨rfl, x, rfl⟩) | (go_at_call 56; refine (mroot_any _ _ (by omega)).mono ?_; rintro e w1 ⟨rfl, rfl⟩) | (go_at_call 33; refine (mdot_any _ _ _ _ _ _ _ (by omega)).mono ?_; rintro e w1 ⟨rfl, x, rfl⟩) | (go_at_call 57; refine (mup_any _ _ _ (by omega)).mono ?_; rintro e w1 ⟨rfl, rfl⟩))
          rw [rounds_succ]
          go_wp2_with (first | (go_at_call 55; refine (mfrom_any _ _ _ _).mono ?_; rintro e w1 ⟨rfl, rfl⟩) | (go_at_call 51; refine (mnear_any _ _ _ _ _ (by omega)).mono ?_; rintro e w1 ⟨rfl, x, rfl⟩) | (go_at_call 56; refine (mroot_any _ _ (by omega)).mono ?_; rintro e w1 ⟨rfl, rfl⟩) | (go_at_call 33; refine (mdot_any _ _ _ _ _ _ _ (by omega)).mono ?_; rintro e w1 ⟨rfl, x, rfl⟩) | (go_at_call 57; refine (mup_any _ _ _ (by omega)).mono ?_; rintro e w1 ⟨rfl, rfl⟩))
          rw [rounds_succ]
          go_wp2_with (first | (go_at_call 55; refine (mfrom_any _ _ _ _).mono ?_; rintro e w1 ⟨rfl, rfl⟩) | (go_at_call 51; refine (mnear_any _ _ _ _ _ (by omega)).mono ?_; rintro e w1 ⟨rfl, x, rfl⟩) | (go_at_call 56; refine (mroot_any _ _ (by omega)).mono ?_; rintro e w1 ⟨rfl, rfl⟩) | (go_at_call 33; refine (mdot_any _ _ _ _ _ _ _ (by omega)).mono ?_; rintro e w1 ⟨rfl, x, rfl⟩) | (go_at_call 57; refine (mup_any _ _ _ (by omega)).mono ?_; rintro e w1 ⟨rfl, rfl⟩))
          go_ret2
          exact ⟨rfl, by (repeat (first | exact Kept.refl _ | assumption | refine Kept.alloc ?_ _ | refine Kept.ext ?_ _ | refine Kept.drew ?_ | refine Kept.drewN ?_ _))⟩
        · have e : restV g0 a r (Int.toNat 2) = ⟨upS (g0 * upS (upS (upS (a * 1048576) r * upS (a * 1048576) r) 1048576 * upS (a * 1048576) r) 1048576 * 1048576) (r - a), 0⟩ := by show restV g0 a r 2 = _; unfold restV; rw [if_neg hra]; exact if_neg hl
          rw [e]
          clear e
          go_enter Try.func27, Try.ntmps27
          go_wp2_with (first | (go_at_call 55; refine (mfrom_any _ _ _ _).mono ?_; rintro e w1 ⟨rfl, rfl⟩) | (go_at_call 51; refine (mnear_any _ _ _ _ _ (by omega)).mono ?_; rintro e w1 ⟨rfl, x, rfl⟩) | (go_at_call 56; refine (mroot_any _ _ (by omega)).mono ?_; rintro e w1 ⟨rfl, rfl⟩) | (go_at_call 33; refine (mdot_any _ _ _ _ _ _ _ (by omega)).mono ?_; rintro e w1 ⟨rfl, x, rfl⟩) | (go_at_call 57; refine (mup_any _ _ _ (by omega)).mono ?_; rintro e w1 ⟨rfl, rfl⟩))
          refine wp_loop_rounds 3 ?_
          rw [rounds_succ]
          go_wp2_with (first | (go_at_call 55; refine (mfrom_any _ _ _ _).mono ?_; rintro e w1 ⟨rfl, rfl⟩) | (go_at_call 51; refine (mnear_any _ _ _ _ _ (by omega)).mono ?_; rintro e w1 ⟨rfl, x, rfl⟩) | (go_at_call 56; refine (mroot_any _ _ (by omega)).mono ?_; rintro e w1 ⟨rfl, rfl⟩) | (go_at_call 33; refine (mdot_any _ _ _ _ _ _ _ (by omega)).mono ?_; rintro e w1 ⟨rfl, x, rfl⟩) | (go_at_call 57; refine (mup_any _ _ _ (by omega)).mono ?_; rintro e w1 ⟨rfl, rfl⟩))
          rw [rounds_succ]
          go_wp2_with (first | (go_at_call 55; refine (mfrom_any _ _ _ _).mono ?_; rintro e w1 ⟨rfl, rfl⟩) | (go_at_call 51; refine (mnear_any _ _ _ _ _ (by omega)).mono ?_; rintro e w1 ⟨rfl, x, rfl⟩) | (go_at_call 56; refine (mroot_any _ _ (by omega)).mono ?_; rintro e w1 ⟨rfl, rfl⟩) | (go_at_call 33; refine (mdot_any _ _ _ _ _ _ _ (by omega)).mono ?_; rintro e w1 ⟨rfl, x, rfl⟩) | (go_at_call 57; refine (mup_any _ _ _ (by omega)).mono ?_; rintro e w1 ⟨rfl, rfl⟩))
          rw [rounds_succ]
          go_wp2_with (first | (go_at_call 55; refine (mfrom_any _ _ _ _).mono ?_; rintro e w1 ⟨rfl, rfl⟩) | (go_at_call 51; refine (mnear_any _ _ _ _ _ (by omega)).mono ?_; rintro e w1 ⟨rfl, x, rfl⟩) | (go_at_call 56; refine (mroot_any _ _ (by omega)).mono ?_; rintro e w1 ⟨rfl, rfl⟩) | (go_at_call 33; refine (mdot_any _ _ _ _ _ _ _ (by omega)).mono ?_; rintro e w1 ⟨rfl, x, rfl⟩) | (go_at_call 57; refine (mup_any _ _ _ (by omega)).mono ?_; rintro e w1 ⟨rfl, rfl⟩))
          go_ret2
          exact ⟨rfl, by (repeat (first | exact Kept.refl _ | assumption | refine Kept.alloc ?_ _ | refine Kept.ext ?_ _ | refine Kept.drew ?_ | refine Kept.drewN ?_ _))⟩
  · rw [if_neg hs] at U
    rw [U]
    clear U s2
    obtain ⟨a, ha⟩ : ∃ a, sqrtS (g1 * 1048576 * 1048576) = a := ⟨_, rfl⟩
    rw [ha] at s0 s1 s3 s4 hs ⊢
    by_cases hra : r ≤ a
    · have e : restV g0 a r g2.toNat = ⟨0, 10⟩ := if_pos hra
      rw [e]
      clear e
      go_enter Try.func27, Try.ntmps27
      go_wp2_with (first | (go_at_call 55; refine (mfrom_any _ _ _ _).mono ?_; rintro e w1 ⟨rfl, rfl⟩) | (go_at_call 51; refine (mnear_any _ _ _ _ _ (by omega)).mono ?_; rintro e w1 ⟨rfl, x, rfl⟩) | (go_at_call 56; refine (mroot_any _ _ (by omega)).mono ?_; rintro e w1 ⟨rfl, rfl⟩) | (go_at_call 33; refine (mdot_any _ _ _ _ _ _ _ (by omega)).mono ?_; rintro e w1 ⟨rfl, x, rfl⟩) | (go_at_call 57; refine (mup_any _ _ _ (by omega)).mono ?_; rintro e w1 ⟨rfl, rfl⟩))
      go_ret2
      exact ⟨rfl, by (repeat (first | exact Kept.refl _ | assumption | refine Kept.alloc ?_ _ | refine Kept.ext ?_ _ | refine Kept.drew ?_ | refine Kept.drewN ?_ _))⟩
    · have tb := upS_bd (n := a * 1048576) (d := r) (m := 1048576) (by omega) (by omega) (by omega)
      rcases (show g2 = 0 ∨ g2 = 1 ∨ g2 = 2 by omega) with rfl | rfl | rfl
      · have eb1 := eS_bd tb 0
        have eb2 := eS_bd tb 1
        have eb3 := eS_bd tb 2
        simp only [eS] at eb1 eb2 eb3
        have mb := mul_bd (a := g0) (b := upS (a * 1048576) r) (A := 1048576) (B := 1048576) 1099511627776 (by omega) (by omega) rfl
        have mn := Int.mul_nonneg (show 0 ≤ g0 by omega) (show 0 ≤ upS (a * 1048576) r by omega)
        by_cases hl : 1099511627776 < upS (g0 * upS (a * 1048576) r * 1048576) (r - a)
        · have e : restV g0 a r (Int.toNat 0) = ⟨0, 4⟩ := by show restV g0 a r 0 = _; unfold restV; rw [if_neg hra]; exact if_pos hl
          rw [e]
          clear e
          go_enter Try.func27, Try.ntmps27
          go_wp2_with (first | (go_at_call 55; refine (mfrom_any _ _ _ _).mono ?_; rintro e w1 ⟨rfl, rfl⟩) | (go_at_call 51; refine (mnear_any _ _ _ _ _ (by omega)).mono ?_; rintro e w1 ⟨rfl, x, rfl⟩) | (go_at_call 56; refine (mroot_any _ _ (by omega)).mono ?_; rintro e w1 ⟨rfl, rfl⟩) | (go_at_call 33; refine (mdot_any _ _ _ _ _ _ _ (by omega)).mono ?_; rintro e w1 ⟨rfl, x, rfl⟩) | (go_at_call 57; refine (mup_any _ _ _ (by omega)).mono ?_; rintro e w1 ⟨rfl, rfl⟩))
          refine wp_loop_rounds 1 ?_
          rw [rounds_succ]
          go_wp2_with (first | (go_at_call 55; refine (mfrom_any _ _ _ _).mono ?_; rintro e w1 ⟨rfl, rfl⟩) | (go_at_call 51; refine (mnear_any _ _ _ _ _ (by omega)).mono ?_; rintro e w1 ⟨rfl, x, rfl⟩) | (go_at_call 56; refine (mroot_any _ _ (by omega)).mono ?_; rintro e w1 ⟨rfl, rfl⟩) | (go_at_call 33; refine (mdot_any _ _ _ _ _ _ _ (by omega)).mono ?_; rintro e w1 ⟨rfl, x, rfl⟩) | (go_at_call 57; refine (mup_any _ _ _ (by omega)).mono ?_; rintro e w1 ⟨rfl, rfl⟩))
          go_ret2
          exact ⟨rfl, by (repeat (first | exact Kept.refl _ | assumption | refine Kept.alloc ?_ _ | refine Kept.ext ?_ _ | refine Kept.drew ?_ | refine Kept.drewN ?_ _))⟩
        · have e : restV g0 a r (Int.toNat 0) = ⟨upS (g0 * upS (a * 1048576) r * 1048576) (r - a), 0⟩ := by show restV g0 a r 0 = _; unfold restV; rw [if_neg hra]; exact if_neg hl
          rw [e]
          clear e
          go_enter Try.func27, Try.ntmps27
          go_wp2_with (first | (go_at_call 55; refine (mfrom_any _ _ _ _).mono ?_; rintro e w1 ⟨rfl, rfl⟩) | (go_at_call 51; refine (mnear_any _ _ _ _ _ (by omega)).mono ?_; rintro e w1 ⟨rfl, x, rfl⟩) | (go_at_call 56; refine (mroot_any _ _ (by omega)).mono ?_; rintro e w1 ⟨rfl, rfl⟩) | (go_at_call 33; refine (mdot_any _ _ _ _ _ _ _ (by omega)).mono ?_; rintro e w1 ⟨rfl, x, rfl⟩) | (go_at_call 57; refine (mup_any _ _ _ (by omega)).mono ?_; rintro e w1 ⟨rfl, rfl⟩))
          refine wp_loop_rounds 1 ?_
          rw [rounds_succ]
          go_wp2_with (first | (go_at_call 55; refine (mfrom_any _ _ _ _).mono ?_; rintro e w1 ⟨rfl, rfl⟩) | (go_at_call 51; refine (mnear_any _ _ _ _ _ (by omega)).mono ?_; rintro e w1 ⟨rfl, x, rfl⟩) | (go_at_call 56; refine (mroot_any _ _ (by omega)).mono ?_; rintro e w1 ⟨rfl, rfl⟩) | (go_at_call 33; refine (mdot_any _ _ _ _ _ _ _ (by omega)).mono ?_; rintro e w1 ⟨rfl, x, rfl⟩) | (go_at_call 57; refine (mup_any _ _ _ (by omega)).mono ?_; rintro e w1 ⟨rfl, rfl⟩))
          go_ret2
          exact ⟨rfl, by (repeat (first | exact Kept.refl _ | assumption | refine Kept.alloc ?_ _ | refine Kept.ext ?_ _ | refine Kept.drew ?_ | refine Kept.drewN ?_ _))⟩
      · have eb1 := eS_bd tb 0
        have eb2 := eS_bd tb 1
        have eb3 := eS_bd tb 2
        simp only [eS] at eb1 eb2 eb3
        have mb := mul_bd (a := g0) (b := upS (upS (a * 1048576) r * upS (a * 1048576) r) 1048576) (A := 1048576) (B := 1048576) 1099511627776 (by omega) (by omega) rfl
        have mn := Int.mul_nonneg (show 0 ≤ g0 by omega) (show 0 ≤ upS (upS (a * 1048576) r * upS (a * 1048576) r) 1048576 by omega)
        by_cases hl : 1099511627776 < upS (g0 * upS (upS (a * 1048576) r * upS (a * 1048576) r) 1048576 * 1048576) (r - a)
        · have e : restV g0 a r (Int.toNat 1) = ⟨0, 4⟩ := by show restV g0 a r 1 = _; unfold restV; rw [if_neg hra]; exact if_pos hl
          rw [e]
          clear e
          go_enter Try.func27, Try.ntmps27
          go_wp2_with (first | (go_at_call 55; refine (mfrom_any _ _ _ _).mono ?_; rintro e w1 ⟨rfl, rfl⟩) | (go_at_call 51; refine (mnear_any _ _ _ _ _ (by omega)).mono ?_; rintro e w1 ⟨rfl, x, rfl⟩) | (go_at_call 56; refine (mroot_any _ _ (by omega)).mono ?_; rintro e w1 ⟨rfl, rfl⟩) | (go_at_call 33; refine (mdot_any _ _ _ _ _ _ _ (by omega)).mono ?_; rintro e w1 ⟨rfl, x, rfl⟩) | (go_at_call 57; refine (mup_any _ _ _ (by omega)).mono ?_; rintro e w1 ⟨rfl, rfl⟩))
          refine wp_loop_rounds 2 ?_
          rw [rounds_succ]
          go_wp2_with (first | (go_at_call 55; refine (mfrom_any _ _ _ _).mono ?_; rintro e w1 ⟨rfl, rfl⟩) | (go_at_call 51; refine (mnear_any _ _ _ _ _ (by omega)).mono ?_; rintro e w1 ⟨rfl, x, rfl⟩) | (go_at_call 56; refine (mroot_any _ _ (by omega)).mono ?_; rintro e w1 ⟨rfl, rfl⟩) | (go_at_call 33; refine (mdot_any _ _ _ _ _ _ _ (by omega)).mono ?_; rintro e w1 ⟨rfl, x, rfl⟩) | (go_at_call 57; refine (mup_any _ _ _ (by omega)).mono ?_; rintro e w1 ⟨rfl, rfl⟩))
          rw [rounds_succ]
          go_wp2_with (first | (go_at_call 55; refine (mfrom_any _ _ _ _).mono ?_; rintro e w1 ⟨rfl, rfl⟩) | (go_at_call 51; refine (mnear_any _ _ _ _ _ (by omega)).mono ?_; rintro e w1 ⟨rfl, x, rfl⟩) | (go_at_call 56; refine (mroot_any _ _ (by omega)).mono ?_; rintro e w1 ⟨rfl, rfl⟩) | (go_at_call 33; refine (mdot_any _ _ _ _ _ _ _ (by omega)).mono ?_; rintro e w1 ⟨rfl, x, rfl⟩) | (go_at_call 57; refine (mup_any _ _ _ (by omega)).mono ?_; rintro e w1 ⟨rfl, rfl⟩))
          go_ret2
          exact ⟨rfl, by (repeat (first | exact Kept.refl _ | assumption | refine Kept.alloc ?_ _ | refine Kept.ext ?_ _ | refine Kept.drew ?_ | refine Kept.drewN ?_ _))⟩
        · have e : restV g0 a r (Int.toNat 1) = ⟨upS (g0 * upS (upS (a * 1048576) r * upS (a * 1048576) r) 1048576 * 1048576) (r - a), 0⟩ := by show restV g0 a r 1 = _; unfold restV; rw [if_neg hra]; exact if_neg hl
          rw [e]
          clear e
          go_enter Try.func27, Try.ntmps27
          go_wp2_with (first | (go_at_call 55; refine (mfrom_any _ _ _ _).mono ?_; rintro e w1 ⟨rfl, rfl⟩) | (go_at_call 51; refine (mnear_any _ _ _ _ _ (by omega)).mono ?_; rintro e w1 ⟨rfl, x, rfl⟩) | (go_at_call 56; refine (mroot_any _ _ (by omega)).mono ?_; rintro e w1 ⟨rfl, rfl⟩) | (go_at_call 33; refine (mdot_any _ _ _ _ _ _ _ (by omega)).mono ?_; rintro e w1 ⟨rfl, x, rfl⟩) | (go_at_call 57; refine (mup_any _ _ _ (by omega)).mono ?_; rintro e w1 ⟨rfl, rfl⟩))
          refine wp_loop_rounds 2 ?_
          rw [rounds_succ]
          go_wp2_with (first | (go_at_call 55; refine (mfrom_any _ _ _ _).mono ?_; rintro e w1 ⟨rfl, rfl⟩) | (go_at_call 51; refine (mnear_any _ _ _ _ _ (by omega)).mono ?_; rintro e w1 ⟨rfl, x, rfl⟩) | (go_at_call 56; refine (mroot_any _ _ (by omega)).mono ?_; rintro e w1 ⟨rfl, rfl⟩) | (go_at_call 33; refine (mdot_any _ _ _ _ _ _ _ (by omega)).mono ?_; rintro e w1 ⟨rfl, x, rfl⟩) | (go_at_call 57; refine (mup_any _ _ _ (by omega)).mono ?_; rintro e w1 ⟨rfl, rfl⟩))
          rw [rounds_succ]
          go_wp2_with (first | (go_at_call 55; refine (mfrom_any _ _ _ _).mono ?_; rintro e w1 ⟨rfl, rfl⟩) | (go_at_call 51; refine (mnear_any _ _ _ _ _ (by omega)).mono ?_; rintro e w1 ⟨rfl, x, rfl⟩) | (go_at_call 56; refine (mroot_any _ _ (by omega)).mono ?_; rintro e w1 ⟨rfl, rfl⟩) | (go_at_call 33; refine (mdot_any _ _ _ _ _ _ _ (by omega)).mono ?_; rintro e w1 ⟨rfl, x, rfl⟩) | (go_at_call 57; refine (mup_any _ _ _ (by omega)).mono ?_; rintro e w1 ⟨rfl, rfl⟩))
          go_ret2
          exact ⟨rfl, by (repeat (first | exact Kept.refl _ | assumption | refine Kept.alloc ?_ _ | refine Kept.ext ?_ _ | refine Kept.drew ?_ | refine Kept.drewN ?_ _))⟩
      · have eb1 := eS_bd tb 0
        have eb2 := eS_bd tb 1
        have eb3 := eS_bd tb 2
        simp only [eS] at eb1 eb2 eb3
        have mb := mul_bd (a := g0) (b := upS (upS (upS (a * 1048576) r * upS (a * 1048576) r) 1048576 * upS (a * 1048576) r) 1048576) (A := 1048576) (B := 1048576) 1099511627776 (by omega) (by omega) rfl
        have mn := Int.mul_nonneg (show 0 ≤ g0 by omega) (show 0 ≤ upS (upS (upS (a * 1048576) r * upS (a * 1048576) r) 1048576 * upS (a * 1048576) r) 1048576 by omega)
        by_cases hl : 1099511627776 < upS (g0 * upS (upS (upS (a * 1048576) r * upS (a * 1048576) r) 1048576 * upS (a * 1048576) r) 1048576 * 1048576) (r - a)
        · have e : restV g0 a r (Int.toNat 2) = ⟨0, 4⟩ := by show restV g0 a r 2 = _; unfold restV; rw [if_neg hra]; exact if_pos hl
          rw [e]
          clear e
          go_enter Try.func27, Try.ntmps27
          go_wp2_with (first | (go_at_call 55; refine (mfrom_any _ _ _ _).mono ?_; rintro e w1 ⟨rfl, rfl⟩) | (go_at_call 51; refine (mnear_any _ _ _ _ _ (by omega)).mono ?_; rintro e w1 ⟨rfl, x, rfl⟩) | (go_at_call 56; refine (mroot_any _ _ (by omega)).mono ?_; rintro e w1 ⟨rfl, rfl⟩) | (go_at_call 33; refine (mdot_any _ _ _ _ _ _ _ (by omega)).mono ?_; rintro e w1 ⟨rfl, x, rfl⟩) | (go_at_call 57; refine (mup_any _ _ _ (by omega)).mono ?_; rintro e w1 ⟨rfl, rfl⟩))
          refine wp_loop_rounds 3 ?_
          rw [rounds_succ]
          go_wp2_with (first | (go_at_call 55; refine (mfrom_any _ _ _ _).mono ?_; rintro e w1 ⟨rfl, rfl⟩) | (go_at_call 51; refine (mnear_any _ _ _ _ _ (by omega)).mono ?_; rintro e w1 ⟨rfl, x, rfl⟩) | (go_at_call 56; refine (mroot_any _ _ (by omega)).mono ?_; rintro e w1 ⟨rfl, rfl⟩) | (go_at_call 33; refine (mdot_any _ _ _ _ _ _ _ (by omega)).mono ?_; rintro e w1 ⟨rfl, x, rfl⟩) | (go_at_call 57; refine (mup_any _ _ _ (by omega)).mono ?_; rintro e w1 ⟨rfl, rfl⟩))
          rw [rounds_succ]
          go_wp2_with (first | (go_at_call 55; refine (mfrom_any _ _ _ _).mono ?_; rintro e w1 ⟨rfl, rfl⟩) | (go_at_call 51; refine (mnear_any _ _ _ _ _ (by omega)).mono ?_; rintro e w1 ⟨rfl, x, rfl⟩) | (go_at_call 56; refine (mroot_any _ _ (by omega)).mono ?_; rintro e w1 ⟨rfl, rfl⟩) | (go_at_call 33; refine (mdot_any _ _ _ _ _ _ _ (by omega)).mono ?_; rintro e w1 ⟨rfl, x, rfl⟩) | (go_at_call 57; refine (mup_any _ _ _ (by omega)).mono ?_; rintro e w1 ⟨rfl, rfl⟩))
          rw [rounds_succ]
          go_wp2_with (first | (go_at_call 55; refine (mfrom_any _ _ _ _).mono ?_; rintro e w1 ⟨rfl, rfl⟩) | (go_at_call 51; refine (mnear_any _ _ _ _ _ (by omega)).mono ?_; rintro e w1 ⟨rfl, x, rfl⟩) | (go_at_call 56; refine (mroot_any _ _ (by omega)).mono ?_; rintro e w1 ⟨rfl, rfl⟩) | (go_at_call 33; refine (mdot_any _ _ _ _ _ _ _ (by omega)).mono ?_; rintro e w1 ⟨rfl, x, rfl⟩) | (go_at_call 57; refine (mup_any _ _ _ (by omega)).mono ?_; rintro e w1 ⟨rfl, rfl⟩))
          go_ret2
          exact ⟨rfl, by (repeat (first | exact Kept.refl _ | assumption | refine Kept.alloc ?_ _ | refine Kept.ext ?_ _ | refine Kept.drew ?_ | refine Kept.drewN ?_ _))⟩
        · have e : restV g0 a r (Int.toNat 2) = ⟨upS (g0 * upS (upS (upS (a * 1048576) r * upS (a * 1048576) r) 1048576 * upS (a * 1048576) r) 1048576 * 1048576) (r - a), 0⟩ := by show restV g0 a r 2 = _; unfold restV; rw [if_neg hra]; exact if_neg hl
          rw [e]
          clear e
          go_enter Try.func27, Try.ntmps27
          go_wp2_with (first | (go_at_call 55; refine (mfrom_any _ _ _ _).mono ?_; rintro e w1 ⟨rfl, rfl⟩) | (go_at_call 51; refine (mnear_any _ _ _ _ _ (by omega)).mono ?_; rintro e w1 ⟨rfl, x, rfl⟩) | (go_at_call 56; refine (mroot_any _ _ (by omega)).mono ?_; rintro e w1 ⟨rfl, rfl⟩) | (go_at_call 33; refine (mdot_any _ _ _ _ _ _ _ (by omega)).mono ?_; rintro e w1 ⟨rfl, x, rfl⟩) | (go_at_call 57; refine (mup_any _ _ _ (by omega)).mono ?_; rintro e w1 ⟨rfl, rfl⟩))
          refine wp_loop_rounds 3 ?_
          rw [rounds_succ]
          go_wp2_with (first | (go_at_call 55; refine (mfrom_any _ _ _ _).mono ?_; rintro e w1 ⟨rfl, rfl⟩) | (go_at_call 51; refine (mnear_any _ _ _ _ _ (by omega)).mono ?_; rintro e w1 ⟨rfl, x, rfl⟩) | (go_at_call 56; refine (mroot_any _ _ (by omega)).mono ?_; rintro e w1 ⟨rfl, rfl⟩) | (go_at_call 33; refine (mdot_any _ _ _ _ _ _ _ (by omega)).mono ?_; rintro e w1 ⟨rfl, x, rfl⟩) | (go_at_call 57; refine (mup_any _ _ _ (by omega)).mono ?_; rintro e w1 ⟨rfl, rfl⟩))
          rw [rounds_succ]
          go_wp2_with (first | (go_at_call 55; refine (mfrom_any _ _ _ _).mono ?_; rintro e w1 ⟨rfl, rfl⟩) | (go_at_call 51; refine (mnear_any _ _ _ _ _ (by omega)).mono ?_; rintro e w1 ⟨rfl, x, rfl⟩) | (go_at_call 56; refine (mroot_any _ _ (by omega)).mono ?_; rintro e w1 ⟨rfl, rfl⟩) | (go_at_call 33; refine (mdot_any _ _ _ _ _ _ _ (by omega)).mono ?_; rintro e w1 ⟨rfl, x, rfl⟩) | (go_at_call 57; refine (mup_any _ _ _ (by omega)).mono ?_; rintro e w1 ⟨rfl, rfl⟩))
          rw [rounds_succ]
          go_wp2_with (first | (go_at_call 55; refine (mfrom_any _ _ _ _).mono ?_; rintro e w1 ⟨rfl, rfl⟩) | (go_at_call 51; refine (mnear_any _ _ _ _ _ (by omega)).mono ?_; rintro e w1 ⟨rfl, x, rfl⟩) | (go_at_call 56; refine (mroot_any _ _ (by omega)).mono ?_; rintro e w1 ⟨rfl, rfl⟩) | (go_at_call 33; refine (mdot_any _ _ _ _ _ _ _ (by omega)).mono ?_; rintro e w1 ⟨rfl, x, rfl⟩) | (go_at_call 57; refine (mup_any _ _ _ (by omega)).mono ?_; rintro e w1 ⟨rfl, rfl⟩))
          go_ret2
          exact ⟨rfl, by (repeat (first | exact Kept.refl _ | assumption | refine Kept.alloc ?_ _ | refine Kept.ext ?_ _ | refine Kept.drew ?_ | refine Kept.drewN ?_ _))⟩
end Go.Proofs.Ytldchncnadllpaa
namespace Go.Proofs.Ytldchncnadllpaa
set_option linter.unusedVariables false
set_option linter.unusedSimpArgs false
open Go.RowKit
set_option maxRecDepth 100000 in
set_option maxHeartbeats 8000000 in
theorem r4rest_any (g0 g1 u0 u1 u2 g2 : Int) (w : World) :
    Calls Try.prog 29 #[.int .i64 g0, .int .i64 g1, .agg #[.int .i64 u0, .int .i64 u1, .int .i64 u2], .int .i64 g2] w fun r w' => r = .returned (.tuple #[.int .i64 (restS g0 g1 u0 u1 u2 g2).v, .int .i64 (restS g0 g1 u0 u1 u2 g2).e]) ∧ Kept w w' := by
  cases h0 : frB g0 0 1048576
  · have e : restS g0 g1 u0 u1 u2 g2 = ⟨0, 1⟩ := by simp [restS, h0]
    rw [e]
    clear e
    rcases frB_false h0 with k | k
    all_goals
      clear h0
      go_enter Try.func29, Try.ntmps29
      go_wp2_with (first | (go_at_call 15; refine (small_any _ _ _ _ _ (by omega)).mono ?_; rintro e w1 ⟨rfl, x, rfl⟩))
      go_ret2
      exact ⟨rfl, by (repeat (first | exact Kept.refl _ | assumption | refine Kept.alloc ?_ _ | refine Kept.ext ?_ _ | refine Kept.drew ?_ | refine Kept.drewN ?_ _))⟩
  have c0 := frB_true h0
  cases h1 : frB g1 0 131072
  · have e : restS g0 g1 u0 u1 u2 g2 = ⟨0, 1⟩ := by simp [restS, h1]
    rw [e]
    clear e
    rcases frB_false h1 with k | k
    all_goals
      clear h1
      go_enter Try.func29, Try.ntmps29
      go_wp2_with (first | (go_at_call 15; refine (small_any _ _ _ _ _ (by omega)).mono ?_; rintro e w1 ⟨rfl, x, rfl⟩))
      go_ret2
      exact ⟨rfl, by (repeat (first | exact Kept.refl _ | assumption | refine Kept.alloc ?_ _ | refine Kept.ext ?_ _ | refine Kept.drew ?_ | refine Kept.drewN ?_ _))⟩
  have c1 := frB_true h1
  cases h2 : inB u0 u1 u2 384
  · have e : restS g0 g1 u0 u1 u2 g2 = ⟨0, 1⟩ := by simp [restS, h2]
    rw [e]
    clear e
    go_enter Try.func29, Try.ntmps29
    go_wp2_with (first | (go_at_call 15; refine (small_any _ _ _ _ _ (by omega)).mono ?_; rintro e w1 ⟨rfl, x, rfl⟩))
    go_ret2
    exact ⟨rfl, by (repeat (first | exact Kept.refl _ | assumption | refine Kept.alloc ?_ _ | refine Kept.ext ?_ _ | refine Kept.drew ?_ | refine Kept.drewN ?_ _))⟩
  cases h3 : frB g2 0 2
  · have e : restS g0 g1 u0 u1 u2 g2 = ⟨0, 1⟩ := by simp [restS, h3]
    rw [e]
    clear e
    rcases frB_false h3 with k | k
    all_goals
      clear h3
      go_enter Try.func29, Try.ntmps29
      go_wp2_with (first | (go_at_call 15; refine (small_any _ _ _ _ _ (by omega)).mono ?_; rintro e w1 ⟨rfl, x, rfl⟩))
      go_ret2
      exact ⟨rfl, by (repeat (first | exact Kept.refl _ | assumption | refine Kept.alloc ?_ _ | refine Kept.ext ?_ _ | refine Kept.drew ?_ | refine Kept.drewN ?_ _))⟩
  have c3 := frB_true h3
  have b2 := inB_true h2
  have e : restS g0 g1 u0 u1 u2 g2 = restV g0 (rootUpS (g1 * 1048576 * 1048576)) (sqrtS ((u0 * u0 + u1 * u1 + u2 * u2) * 1048576 * 1048576)) g2.toNat := by simp [restS, h0, h1, h2, h3]
  rw [e]
  clear e
  have p0 := mul_sq 384 147456 (show -384 ≤ u0 ∧ u0 ≤ 384 by omega) (show -384 ≤ u0 ∧ u0 ≤ 384 by omega) rfl
  have p1 := mul_sq 384 147456 (show -384 ≤ u1 ∧ u1 ≤ 384 by omega) (show -384 ≤ u1 ∧ u1 ≤ 384 by omega) rfl
  have p2 := mul_sq 384 147456 (show -384 ≤ u2 ∧ u2 ≤ 384 by omega) (show -384 ≤ u2 ∧ u2 ≤ 384 by omega) rfl
  have p3 : 0 ≤ u0 * u0 := sq_nn u0
  have p4 : 0 ≤ u1 * u1 := sq_nn u1
  have p5 : 0 ≤ u2 * u2 := sq_nn u2
  obtain ⟨s0, s1, s2⟩ := sqrtS_spec (show 0 ≤ g1 * 1048576 * 1048576 by omega)
  obtain ⟨t0, t1, t2⟩ := sqrtS_spec (show 0 ≤ (u0 * u0 + u1 * u1 + u2 * u2) * 1048576 * 1048576 by omega)
  have s3 : sqrtS (g1 * 1048576 * 1048576) ≤ 1073741824 := of_sq_le (by decide) (by omega)
  have t3 : sqrtS ((u0 * u0 + u1 * u1 + u2 * u2) * 1048576 * 1048576) ≤ 1073741824 := of_sq_le (by decide) (by omega)
  have s4 := Int.mul_nonneg s0 s0
  have U : rootUpS (g1 * 1048576 * 1048576) = if sqrtS (g1 * 1048576 * 1048576) * sqrtS (g1 * 1048576 * 1048576) < g1 * 1048576 * 1048576 then sqrtS (g1 * 1048576 * 1048576) + 1 else sqrtS (g1 * 1048576 * 1048576) := rfl
  clear s1 t1 t2
  obtain ⟨r, hr⟩ : ∃ r, sqrtS ((u0 * u0 + u1 * u1 + u2 * u2) * 1048576 * 1048576) = r := ⟨_, rfl⟩
  rw [hr] at t0 t3 ⊢
  obtain ⟨a, ha⟩ : ∃ a, rootUpS (g1 * 1048576 * 1048576) = a := ⟨_, rfl⟩
  have ab : 0 ≤ a ∧ a ≤ 1073741825 := by
    rw [← ha, U]
    split <;> omega
  rw [ha]
  clear U s2 s0 s3 s4
  by_cases hra : r ≤ a
  · have e : restV g0 a r g2.toNat = ⟨0, 10⟩ := if_pos hra
    rw [e]
    clear e
    go_enter Try.func29, Try.ntmps29
    go_wp2_with (first | (go_at_call 15; refine (small_any _ _ _ _ _ (by omega)).mono ?_; rintro e w1 ⟨rfl, x, rfl⟩) | (go_at_call 60; refine (r4up_any _ _ _ (by omega)).mono ?_; rintro e w1 ⟨rfl, rfl⟩))
    ((first | (with_reducible refine wp_region_kept2 (by kernel_rfl) (by kernel_rfl) ?_) | refine wp_region_kept (by kernel_rfl) (by kernel_rfl) ?_); (repeat (go_big_quiet_step (first | (go_at_call 58; exact Calls.kept_same (r4above_any _ _ (by omega))) | (go_at_call 59; exact Calls.kept_same (r4below_any _ _ (by omega))) | (go_at_call 16; exact Calls.kept_of (r4square_any _ _ _ _ (by omega)))))); refine wpQuiet_nil ?_; intro x)
    go_wp2_with (first | (go_at_call 15; refine (small_any _ _ _ _ _ (by omega)).mono ?_; rintro e w1 ⟨rfl, x, rfl⟩) | (go_at_call 60; refine (r4up_any _ _ _ (by omega)).mono ?_; rintro e w1 ⟨rfl, rfl⟩))
    go_ret2
    exact ⟨rfl, by (repeat (first | exact Kept.refl _ | assumption | refine Kept.alloc ?_ _ | refine Kept.ext ?_ _ | refine Kept.drew ?_ | refine Kept.drewN ?_ _))⟩
  · have tb := upS_bd (n := a * 1048576) (d := r) (m := 1048576) (by omega) (by omega) (by omega)
    rcases (show g2 = 0 ∨ g2 = 1 ∨ g2 = 2 by omega) with rfl | rfl | rfl
    · have eb1 := eS_bd tb 0
      have eb2 := eS_bd tb 1
      have eb3 := eS_bd tb 2
      simp only [eS] at eb1 eb2 eb3
      have mb := mul_bd (a := g0) (b := upS (a * 1048576) r) (A := 1048576) (B := 1048576) 1099511627776 (by omega) (by omega) rfl
      have mn := Int.mul_nonneg (show 0 ≤ g0 by omega) (show 0 ≤ upS (a * 1048576) r by omega)
      by_cases hl : 1099511627776 < upS (g0 * upS (a * 1048576) r * 1048576) (r - a)
      · have e : restV g0 a r (Int.toNat 0) = ⟨0, 4⟩ := by show restV g0 a r 0 = _; unfold restV; rw [if_neg hra]; exact if_pos hl
        rw [e]
        clear e
        go_enter Try.func29, Try.ntmps29
        go_wp2_with (first | (go_at_call 15; refine (small_any _ _ _ _ _ (by omega)).mono ?_; rintro e w1 ⟨rfl, x, rfl⟩) | (go_at_call 60; refine (r4up_any _ _ _ (by omega)).mono ?_; rintro e w1 ⟨rfl, rfl⟩))
        ((first | (with_reducible refine wp_region_kept2 (by kernel_rfl) (by kernel_rfl) ?_) | refine wp_region_kept (by kernel_rfl) (by kernel_rfl) ?_); (repeat (go_big_quiet_step (first | (go_at_call 58; exact Calls.kept_same (r4above_any _ _ (by omega))) | (go_at_call 59; exact Calls.kept_same (r4below_any _ _ (by omega))) | (go_at_call 16; exact Calls.kept_of (r4square_any _ _ _ _ (by omega)))))); refine wpQuiet_nil ?_; intro x)
        go_wp2_with (first | (go_at_call 15; refine (small_any _ _ _ _ _ (by omega)).mono ?_; rintro e w1 ⟨rfl, x, rfl⟩) | (go_at_call 60; refine (r4up_any _ _ _ (by omega)).mono ?_; rintro e w1 ⟨rfl, rfl⟩))
        refine wp_loop_rounds 1 ?_
        rw [rounds_succ]
        go_wp2_with (first | (go_at_call 15; refine (small_any _ _ _ _ _ (by omega)).mono ?_; rintro e w1 ⟨rfl, x, rfl⟩) | (go_at_call 60; refine (r4up_any _ _ _ (by omega)).mono ?_; rintro e w1 ⟨rfl, rfl⟩))
        go_ret2
        exact ⟨rfl, by (repeat (first | exact Kept.refl _ | assumption | refine Kept.alloc ?_ _ | refine Kept.ext ?_ _ | refine Kept.drew ?_ | refine Kept.drewN ?_ _))⟩
      · have e : restV g0 a r (Int.toNat 0) = ⟨upS (g0 * upS (a * 1048576) r * 1048576) (r - a), 0⟩ := by show restV g0 a r 0 = _; unfold restV; rw [if_neg hra]; exact if_neg hl
        rw [e]
        clear e
        go_enter Try.func29, Try.ntmps29
        go_wp2_with (first | (go_at_call 15; refine (small_any _ _ _ _ _ (by omega)).mono ?_; rintro e w1 ⟨rfl, x, rfl⟩) | (go_at_call 60; refine (r4up_any _ _ _ (by omega)).mono ?_; rintro e w1 ⟨rfl, rfl⟩))
        ((first | (with_reducible refine wp_region_kept2 (by kernel_rfl) (by kernel_rfl) ?_) | refine wp_region_kept (by kernel_rfl) (by kernel_rfl) ?_); (repeat (go_big_quiet_step (first | (go_at_call 58; exact Calls.kept_same (r4above_any _ _ (by omega))) | (go_at_call 59; exact Calls.kept_same (r4below_any _ _ (by omega))) | (go_at_call 16; exact Calls.kept_of (r4square_any _ _ _ _ (by omega)))))); refine wpQuiet_nil ?_; intro x)
        go_wp2_with (first | (go_at_call 15; refine (small_any _ _ _ _ _ (by omega)).mono ?_; rintro e w1 ⟨rfl, x, rfl⟩) | (go_at_call 60; refine (r4up_any _ _ _ (by omega)).mono ?_; rintro e w1 ⟨rfl, rfl⟩))
        refine wp_loop_rounds 1 ?_
        rw [rounds_succ]
        go_wp2_with (first | (go_at_call 15; refine (small_any _ _ _ _ _ (by omega)).mono ?_; rintro e w1 ⟨rfl, x, rfl⟩) | (go_at_call 60; refine (r4up_any _ _ _ (by omega)).mono ?_; rintro e w1 ⟨rfl, rfl⟩))
        go_ret2
        exact ⟨rfl, by (repeat (first | exact Kept.refl _ | assumption | refine Kept.alloc ?_ _ | refine Kept.ext ?_ _ | refine Kept.drew ?_ | refine Kept.drewN ?_ _))⟩
    · have eb1 := eS_bd tb 0
      have eb2 := eS_bd tb 1
      have eb3 := eS_bd tb 2
      simp only [eS] at eb1 eb2 eb3
      have mb := mul_bd (a := g0) (b := upS (upS (a * 1048576) r * upS (a * 1048576) r) 1048576) (A := 1048576) (B := 1048576) 1099511627776 (by omega) (by omega) rfl
      have mn := Int.mul_nonneg (show 0 ≤ g0 by omega) (show 0 ≤ upS (upS (a * 1048576) r * upS (a * 1048576) r) 1048576 by omega)
      by_cases hl : 1099511627776 < upS (g0 * upS (upS (a * 1048576) r * upS (a * 1048576) r) 1048576 * 1048576) (r - a)
      · have e : restV g0 a r (Int.toNat 1) = ⟨0, 4⟩ := by show restV g0 a r 1 = _; unfold restV; rw [if_neg hra]; exact if_pos hl
        rw [e]
        clear e
        go_enter Try.func29, Try.ntmps29
        go_wp2_with (first | (go_at_call 15; refine (small_any _ _ _ _ _ (by omega)).mono ?_; rintro e w1 ⟨rfl, x, rfl⟩) | (go_at_call 60; refine (r4up_any _ _ _ (by omega)).mono ?_; rintro e w1 ⟨rfl, rfl⟩))
        ((first | (with_reducible refine wp_region_kept2 (by kernel_rfl) (by kernel_rfl) ?_) | refine wp_region_kept (by kernel_rfl) (by kernel_rfl) ?_); (repeat (go_big_quiet_step (first | (go_at_call 58; exact Calls.kept_same (r4above_any _ _ (by omega))) | (go_at_call 59; exact Calls.kept_same (r4below_any _ _ (by omega))) | (go_at_call 16; exact Calls.kept_of (r4square_any _ _ _ _ (by omega)))))); refine wpQuiet_nil ?_; intro x)
        go_wp2_with (first | (go_at_call 15; refine (small_any _ _ _ _ _ (by omega)).mono ?_; rintro e w1 ⟨rfl, x, rfl⟩) | (go_at_call 60; refine (r4up_any _ _ _ (by omega)).mono ?_; rintro e w1 ⟨rfl, rfl⟩))
        refine wp_loop_rounds 2 ?_
        rw [rounds_succ]
        go_wp2_with (first | (go_at_call 15; refine (small_any _ _ _ _ _ (by omega)).mono ?_; rintro e w1 ⟨rfl, x, rfl⟩) | (go_at_call 60; refine (r4up_any _ _ _ (by omega)).mono ?_; rintro e w1 ⟨rfl, rfl⟩))
        rw [rounds_succ]
        go_wp2_with (first | (go_at_call 15; refine (small_any _ _ _ _ _ (by omega)).mono ?_; rintro e w1 ⟨rfl, x, rfl⟩) | (go_at_call 60; refine (r4up_any _ _ _ (by omega)).mono ?_; rintro e w1 ⟨rfl, rfl⟩))
        go_ret2
        exact ⟨rfl, by (repeat (first | exact Kept.refl _ | assumption | refine Kept.alloc ?_ _ | refine Kept.ext ?_ _ | refine Kept.drew ?_ | refine Kept.drewN ?_ _))⟩
      · have e : restV g0 a r (Int.toNat 1) = ⟨upS (g0 * upS (upS (a * 1048576) r * upS (a * 1048576) r) 1048576 * 1048576) (r - a), 0⟩ := by show restV g0 a r 1 = _; unfold restV; rw [if_neg hra]; exact if_neg hl
        rw [e]
        clear e
        go_enter Try.func29, Try.ntmps29
        go_wp2_with (first | (go_at_call 15; refine (small_any _ _ _ _ _ (by omega)).mono ?_; rintro e w1 ⟨rfl, x, rfl⟩) | (go_at_call 60; refine (r4up_any _ _ _ (by omega)).mono ?_; rintro e w1 ⟨rfl, rfl⟩))
        ((first | (with_reducible refine wp_region_kept2 (by kernel_rfl) (by kernel_rfl) ?_) | refine wp_region_kept (by kernel_rfl) (by kernel_rfl) ?_); (repeat (go_big_quiet_step (first | (go_at_call 58; exact Calls.kept_same (r4above_any _ _ (by omega))) | (go_at_call 59; exact Calls.kept_same (r4below_any _ _ (by omega))) | (go_at_call 16; exact Calls.kept_of (r4square_any _ _ _ _ (by omega)))))); refine wpQuiet_nil ?_; intro x)
        go_wp2_with (first | (go_at_call 15; refine (small_any _ _ _ _ _ (by omega)).mono ?_; rintro e w1 ⟨rfl, x, rfl⟩) | (go_at_call 60; refine (r4up_any _ _ _ (by omega)).mono ?_; rintro e w1 ⟨rfl, rfl⟩))
        refine wp_loop_rounds 2 ?_
        rw [rounds_succ]
        go_wp2_with (first | (go_at_call 15; refine (small_any _ _ _ _ _ (by omega)).mono ?_; rintro e w1 ⟨rfl, x, rfl⟩) | (go_at_call 60; refine (r4up_any _ _ _ (by omega)).mono ?_; rintro e w1 ⟨rfl, rfl⟩))
        rw [rounds_succ]
        go_wp2_with (first | (go_at_call 15; refine (small_any _ _ _ _ _ (by omega)).mono ?_; rintro e w1 ⟨rfl, x, rfl⟩) | (go_at_call 60; refine (r4up_any _ _ _ (by omega)).mono ?_; rintro e w1 ⟨rfl, rfl⟩))
        go_ret2
        exact ⟨rfl, by (repeat (first | exact Kept.refl _ | assumption | refine Kept.alloc ?_ _ | refine Kept.ext ?_ _ | refine Kept.drew ?_ | refine Kept.drewN ?_ _))⟩
    · have eb1 := eS_bd tb 0
      have eb2 := eS_bd tb 1
      have eb3 := eS_bd tb 2
      simp only [eS] at eb1 eb2 eb3
      have mb := mul_bd (a := g0) (b := upS (upS (upS (a * 1048576) r * upS (a * 1048576) r) 1048576 * upS (a * 1048576) r) 1048576) (A := 1048576) (B := 1048576) 1099511627776 (by omega) (by omega) rfl
      have mn := Int.mul_nonneg (show 0 ≤ g0 by omega) (show 0 ≤ upS (upS (upS (a * 1048576) r * upS (a * 1048576) r) 1048576 * upS (a * 1048576) r) 1048576 by omega)
      by_cases hl : 1099511627776 < upS (g0 * upS (upS (upS (a * 1048576) r * upS (a * 1048576) r) 1048576 * upS (a * 1048576) r) 1048576 * 1048576) (r - a)
      · have e : restV g0 a r (Int.toNat 2) = ⟨0, 4⟩ := by show restV g0 a r 2 = _; unfold restV; rw [if_neg hra]; exact if_pos hl
        rw [e]
        clear e
        go_enter Try.func29, Try.ntmps29
        go_wp2_with (first | (go_at_call 15; refine (small_any _ _ _ _ _ (by omega)).mono ?_; rintro e w1 ⟨rfl, x, rfl⟩) | (go_at_call 60; refine (r4up_any _ _ _ (by omega)).mono ?_; rintro e w1 ⟨rfl, rfl⟩))
        ((first | (with_reducible refine wp_region_kept2 (by kernel_rfl) (by kernel_rfl) ?_) | refine wp_region_kept (by kernel_rfl) (by kernel_rfl) ?_); (repeat (go_big_quiet_step (first | (go_at_call 58; exact Calls.kept_same (r4above_any _ _ (by omega))) | (go_at_call 59; exact Calls.kept_same (r4below_any _ _ (by omega))) | (go_at_call 16; exact Calls.kept_of (r4square_any _ _ _ _ (by omega)))))); refine wpQuiet_nil ?_; intro x)
        go_wp2_with (first | (go_at_call 15; refine (small_any _ _ _ _ _ (by omega)).mono ?_; rintro e w1 ⟨rfl, x, rfl⟩) | (go_at_call 60; refine (r4up_any _ _ _ (by omega)).mono ?_; rintro e w1 ⟨rfl, rfl⟩))
        refine wp_loop_rounds 3 ?_
        rw [rounds_succ]
        go_wp2_with (first | (go_at_call 15; refine (small_any _ _ _ _ _ (by omega)).mono ?_; rintro e w1 ⟨rfl, x, rfl⟩) | (go_at_call 60; refine (r4up_any _ _ _ (by omega)).mono ?_; rintro e w1 ⟨rfl, rfl⟩))
        rw [rounds_succ]
        go_wp2_with (first | (go_at_call 15; refine (small_any _ _ _ _ _ (by omega)).mono ?_; rintro e w1 ⟨rfl, x, rfl⟩) | (go_at_call 60; refine (r4up_any _ _ _ (by omega)).mono ?_; rintro e w1 ⟨rfl, rfl⟩))
        rw [rounds_succ]
        go_wp2_with (first | (go_at_call 15; refine (small_any _ _ _ _ _ (by omega)).mono ?_; rintro e w1 ⟨rfl, x, rfl⟩) | (go_at_call 60; refine (r4up_any _ _ _ (by omega)).mono ?_; rintro e w1 ⟨rfl, rfl⟩))
        go_ret2
        exact ⟨rfl, by (repeat (first | exact Kept.refl _ | assumption | refine Kept.alloc ?_ _ | refine Kept.ext ?_ _ | refine Kept.drew ?_ | refine Kept.drewN ?_ _))⟩
      · have e : restV g0 a r (Int.toNat 2) = ⟨upS (g0 * upS (upS (upS (a * 1048576) r * upS (a * 1048576) r) 1048576 * upS (a * 1048576) r) 1048576 * 1048576) (r - a), 0⟩ := by show restV g0 a r 2 = _; unfold restV; rw [if_neg hra]; exact if_neg hl
        rw [e]
        clear e
        go_enter Try.func29, Try.ntmps29
        go_wp2_with (first | (go_at_call 15; refine (small_any _ _ _ _ _ (by omega)).mono ?_; rintro e w1 ⟨rfl, x, rfl⟩) | (go_at_call 60; refine (r4up_any _ _ _ (by omega)).mono ?_; rintro e w1 ⟨rfl, rfl⟩))
        ((first | (with_reducible refine wp_region_kept2 (by kernel_rfl) (by kernel_rfl) ?_) | refine wp_region_kept (by kernel_rfl) (by kernel_rfl) ?_); (repeat (go_big_quiet_step (first | (go_at_call 58; exact Calls.kept_same (r4above_any _ _ (by omega))) | (go_at_call 59; exact Calls.kept_same (r4below_any _ _ (by omega))) | (go_at_call 16; exact Calls.kept_of (r4square_any _ _ _ _ (by omega)))))); refine wpQuiet_nil ?_; intro x)
        go_wp2_with (first | (go_at_call 15; refine (small_any _ _ _ _ _ (by omega)).mono ?_; rintro e w1 ⟨rfl, x, rfl⟩) | (go_at_call 60; refine (r4up_any _ _ _ (by omega)).mono ?_; rintro e w1 ⟨rfl, rfl⟩))
        refine wp_loop_rounds 3 ?_
        rw [rounds_succ]
        go_wp2_with (first | (go_at_call 15; refine (small_any _ _ _ _ _ (by omega)).mono ?_; rintro e w1 ⟨rfl, x, rfl⟩) | (go_at_call 60; refine (r4up_any _ _ _ (by omega)).mono ?_; rintro e w1 ⟨rfl, rfl⟩))
        rw [rounds_succ]
        go_wp2_with (first | (go_at_call 15; refine (small_any _ _ _ _ _ (by omega)).mono ?_; rintro e w1 ⟨rfl, x, rfl⟩) | (go_at_call 60; refine (r4up_any _ _ _ (by omega)).mono ?_; rintro e w1 ⟨rfl, rfl⟩))
        rw [rounds_succ]
        go_wp2_with (first | (go_at_call 15; refine (small_any _ _ _ _ _ (by omega)).mono ?_; rintro e w1 ⟨rfl, x, rfl⟩) | (go_at_call 60; refine (r4up_any _ _ _ (by omega)).mono ?_; rintro e w1 ⟨rfl, rfl⟩))
        go_ret2
        exact ⟨rfl, by (repeat (first | exact Kept.refl _ | assumption | refine Kept.alloc ?_ _ | refine Kept.ext ?_ _ | refine Kept.drew ?_ | refine Kept.drewN ?_ _))⟩
end Go.Proofs.Ytldchncnadllpaa
