/- Contracts: inverse roots and their cubes, of the program and of the reference. Under the premises of each theorem. -/
import Derived.Test.YtldchncnadllpaaRoot
namespace Go.Proofs.Ytldchncnadllpaa
set_option linter.unusedVariables false
set_option linter.unusedSimpArgs false
open Go.ChangeShapes Go.WideShapes Go.ChangeAt Go.RowKit
def invS (t n : Int) : R := if sqrtS (t / n) * sqrtS (t / n) * n = t then resultS (sqrtS (t / n)) (sqrtS (t / n)) else resultS (sqrtS (t / n)) (sqrtS (t / n) + 1)
theorem inv_bd {t n : Int} (h : (0 ≤ t ∧ t ≤ 1152921504606846976) ∧ (1 ≤ n ∧ n ≤ 1152921504606846976)) :
    0 ≤ t / n ∧ t / n ≤ 1152921504606846976 ∧ 0 ≤ sqrtS (t / n) ∧ sqrtS (t / n) ≤ 1073741824 ∧ 0 ≤ sqrtS (t / n) * sqrtS (t / n) ∧ sqrtS (t / n) * sqrtS (t / n) ≤ t / n ∧ 0 ≤ sqrtS (t / n) * sqrtS (t / n) * n ∧ sqrtS (t / n) * sqrtS (t / n) * n ≤ t ∧ t.tdiv n = t / n ∧ t.tmod n = t % n ∧ 0 ≤ t % n ∧ t % n < n ∧ n * (t / n) + t % n = t := by
  obtain ⟨⟨t0, t1⟩, n0, n1⟩ := h
  have q0 : 0 ≤ t / n := Int.ediv_nonneg t0 (by omega)
  have q1 : t / n ≤ t := Int.ediv_le_self n t0
  obtain ⟨s0, s1, s2⟩ := sqrtS_spec q0
  have s3 : sqrtS (t / n) ≤ 1073741824 := of_sq_le (by decide) (by omega)
  have s4 := Int.mul_nonneg s0 s0
  have s5 := Int.mul_nonneg s4 (show 0 ≤ n by omega)
  have s6 := Int.mul_le_mul_of_nonneg_right s1 (show 0 ≤ n by omega)
  have s7 := Int.ediv_mul_le t (show n ≠ 0 by omega)
  exact ⟨q0, by omega, s0, s3, s4, s1, s5, by omega, Int.tdiv_eq_ediv_of_nonneg t0, Int.tmod_eq_emod_of_nonneg t0, Int.emod_nonneg t (by omega), Int.emod_lt_of_pos t (by omega), Int.mul_ediv_add_emod t n⟩
set_option maxRecDepth 100000 in
set_option maxHeartbeats 1000000 in
theorem inverse_any (t n : Int) (w : World) (h : (0 ≤ t ∧ t ≤ 1152921504606846976) ∧ (1 ≤ n ∧ n ≤ 1152921504606846976)) :
    Calls Try.prog 61 #[.int .i64 t, .int .i64 n] w fun e w' => e = .returned (.tuple #[.agg #[.int .i64 (invS t n).lo, .int .i64 (invS t n).hi], .int .i64 (invS t n).e]) ∧ Kept w w' := by
  obtain ⟨q0, q1, k0, k1, k2, k3, k4, k5, d1, -⟩ := inv_bd h
  obtain ⟨⟨t0, t1⟩, n0, n1⟩ := h
  have z : (n == 0) = false := by simp; omega
  by_cases hk : sqrtS (t / n) * sqrtS (t / n) * n = t
  · rw [show invS t n = resultS (sqrtS (t / n)) (sqrtS (t / n)) from if_pos hk]
    have hk' : (sqrtS (t / n) * sqrtS (t / n) * n == t) = true := by simp [hk]
    clear hk
    go_enter Try.func61, Try.ntmps61
    go_wp2_with (first | (go_at_call 72; refine (root_any _ _ ⟨by omega, by omega⟩).mono ?_; rintro e w1 ⟨rfl, rfl⟩) | (go_at_call 47; refine (result_any _ _ _).mono ?_; rintro e w1 ⟨rfl, x, rfl⟩))
    refine bodyPost_ret (by simp only [results, Try.results61]; go_simp; rfl) rfl ?_
    refine ⟨rfl, ?_⟩
    (repeat (first | exact Kept.refl _ | assumption | refine Kept.alloc ?_ _ | refine Kept.ext ?_ _ | refine Kept.drew ?_ | refine Kept.drewN ?_ _))
  · rw [show invS t n = resultS (sqrtS (t / n)) (sqrtS (t / n) + 1) from if_neg hk]
    have hk' : (sqrtS (t / n) * sqrtS (t / n) * n == t) = false := by simp [hk]
    clear hk
    go_enter Try.func61, Try.ntmps61
    go_wp2_with (first | (go_at_call 72; refine (root_any _ _ ⟨by omega, by omega⟩).mono ?_; rintro e w1 ⟨rfl, rfl⟩) | (go_at_call 47; refine (result_any _ _ _).mono ?_; rintro e w1 ⟨rfl, x, rfl⟩))
    refine bodyPost_ret (by simp only [results, Try.results61]; go_simp; rfl) rfl ?_
    refine ⟨rfl, ?_⟩
    (repeat (first | exact Kept.refl _ | assumption | refine Kept.alloc ?_ _ | refine Kept.ext ?_ _ | refine Kept.drew ?_ | refine Kept.drewN ?_ _))
set_option maxRecDepth 100000 in
set_option maxHeartbeats 1000000 in
theorem below_any (t n : Int) (w : World) (h : (0 ≤ t ∧ t ≤ 1152921504606846976) ∧ (1 ≤ n ∧ n ≤ 1152921504606846976)) :
    Calls Try.prog 41 #[.int .i64 t, .int .i64 n] w fun e w' => e = .returned (.tuple #[.agg #[.int .i64 (invS t n).lo, .int .i64 (invS t n).hi], .int .i64 (invS t n).e]) ∧ Kept w w' := by
  obtain ⟨q0, q1, k0, k1, k2, k3, k4, k5, d1, d2, m0, m1, m2⟩ := inv_bd h
  obtain ⟨⟨t0, t1⟩, n0, n1⟩ := h
  have z : (n == 0) = false := by simp; omega
  by_cases hm : t % n = 0
  · have hm' : (t % n == 0) = true := by simp [hm]
    by_cases hk : sqrtS (t / n) * sqrtS (t / n) = t / n
    · have e : sqrtS (t / n) * sqrtS (t / n) * n = t := by rw [hk, Int.mul_comm]; omega
      rw [show invS t n = resultS (sqrtS (t / n)) (sqrtS (t / n)) from if_pos e]
      have hk' : (sqrtS (t / n) * sqrtS (t / n) == t / n) = true := by simp [hk]
      clear hk e hm m2
      go_enter Try.func41, Try.ntmps41
      go_wp2_with (first | (go_at_call 67; refine (floor_any _ _ ⟨by omega, by omega⟩).mono ?_; rintro e w1 ⟨rfl, rfl⟩) | (go_at_call 42; refine (told_any _ _ _).mono ?_; rintro e w1 ⟨rfl, x, rfl⟩))
      refine bodyPost_ret (by simp only [results, Try.results41]; go_simp; rfl) rfl ?_
      refine ⟨rfl, ?_⟩
      (repeat (first | exact Kept.refl _ | assumption | refine Kept.alloc ?_ _ | refine Kept.ext ?_ _ | refine Kept.drew ?_ | refine Kept.drewN ?_ _))
    · have e : ¬ sqrtS (t / n) * sqrtS (t / n) * n = t := by
        intro e
        apply hk
        have : sqrtS (t / n) * sqrtS (t / n) * n / n = t / n := by rw [e]
        rw [Int.mul_ediv_cancel _ (by omega)] at this
        exact this
      rw [show invS t n = resultS (sqrtS (t / n)) (sqrtS (t / n) + 1) from if_neg e]
      have hk' : (sqrtS (t / n) * sqrtS (t / n) == t / n) = false := by simp [hk]
      clear hk e hm m2
      go_enter Try.func41, Try.ntmps41
      go_wp2_with (first | (go_at_call 67; refine (floor_any _ _ ⟨by omega, by omega⟩).mono ?_; rintro e w1 ⟨rfl, rfl⟩) | (go_at_call 42; refine (told_any _ _ _).mono ?_; rintro e w1 ⟨rfl, x, rfl⟩))
      refine bodyPost_ret (by simp only [results, Try.results41]; go_simp; rfl) rfl ?_
      refine ⟨rfl, ?_⟩
      (repeat (first | exact Kept.refl _ | assumption | refine Kept.alloc ?_ _ | refine Kept.ext ?_ _ | refine Kept.drew ?_ | refine Kept.drewN ?_ _))
  · have hm' : (t % n == 0) = false := by simp [hm]
    have e : ¬ sqrtS (t / n) * sqrtS (t / n) * n = t := by
      intro e
      apply hm
      rw [← Int.mul_emod_left (sqrtS (t / n) * sqrtS (t / n)) n, e]
    rw [show invS t n = resultS (sqrtS (t / n)) (sqrtS (t / n) + 1) from if_neg e]
    clear e hm m2
    go_enter Try.func41, Try.ntmps41
    go_wp2_with (first | (go_at_call 67; refine (floor_any _ _ ⟨by omega, by omega⟩).mono ?_; rintro e w1 ⟨rfl, rfl⟩) | (go_at_call 42; refine (told_any _ _ _).mono ?_; rintro e w1 ⟨rfl, x, rfl⟩))
    refine bodyPost_ret (by simp only [results, Try.results41]; go_simp; rfl) rfl ?_
    refine ⟨rfl, ?_⟩
    (repeat (first | exact Kept.refl _ | assumption | refine Kept.alloc ?_ _ | refine Kept.ext ?_ _ | refine Kept.drew ?_ | refine Kept.drewN ?_ _))
end Go.Proofs.Ytldchncnadllpaa
