/- Contracts: roots of whole numbers, of the program and of the reference. No conditions. -/
import Derived.Test.YtbhcjdgfcinpcaaRoot
import Derived.Test.YtbhcjdgfcinpcaaRef
namespace Go.Proofs.Ytbhcjdgfcinpcaa
set_option linter.unusedVariables false
set_option linter.unusedSimpArgs false
open Go.ChangeShapes Go.WideShapes Go.ChangeAt Go.RowKit
def lenS (n : Int) : R := if 0 ≤ n ∧ n ≤ 1099511627776 then (if sqrtS (n * 1099511627776) * sqrtS (n * 1099511627776) = n * 1099511627776 then resultS (sqrtS (n * 1099511627776)) (sqrtS (n * 1099511627776)) else resultS (sqrtS (n * 1099511627776)) (sqrtS (n * 1099511627776) + 1)) else ⟨0, 0, 1⟩
theorem len_sq (a f : Int) : (a * 1048576 + f) * (a * 1048576 + f) = a * a * 1099511627776 + (2 * a * f * 1048576 + f * f) := by grind
theorem len_end {n a f : Int} (a0 : 0 ≤ a) (f0 : 0 ≤ f) (h1 : 2 * a * f * 1048576 + f * f ≤ (n - a * a) * 1099511627776)
    (h2 : (n - a * a) * 1099511627776 < 2 * a * (f + 1) * 1048576 + (f + 1) * (f + 1)) : sqrtS (n * 1099511627776) = a * 1048576 + f := by
  have e1 := len_sq a f
  have e2 := len_sq a (f + 1)
  refine (sqrtS_unique (by omega) ?_ ?_).symm
  · omega
  · rw [show a * 1048576 + f + 1 = a * 1048576 + (f + 1) by omega]
    omega
/-- What holds of the fraction f when m bits are left. -/
def LenJ (n a : Int) (m : Nat) (f : Int) : Prop := 0 ≤ f ∧ f + powS m ≤ 1048576 ∧ 2 * a * f * 1048576 + f * f ≤ (n - a * a) * 1099511627776 ∧ (n - a * a) * 1099511627776 < 2 * a * (f + powS m) * 1048576 + (f + powS m) * (f + powS m) ∧ m ≤ 20
theorem len_bd {a g : Int} (h : 0 ≤ a ∧ a ≤ 1048576) (hg : 0 ≤ g ∧ g ≤ 1048576) : 0 ≤ 2 * a * g ∧ 2 * a * g ≤ 2199023255552 ∧ 0 ≤ g * g ∧ g * g ≤ 1099511627776 := by
  have h1 : 0 ≤ 2 * a * g := Int.mul_nonneg (by omega) hg.1
  have h2 : 2 * a * g ≤ 2097152 * 1048576 := Int.mul_le_mul (by omega) hg.2 hg.1 (by omega)
  have h3 : 0 ≤ g * g := Int.mul_nonneg hg.1 hg.1
  have h4 : g * g ≤ 1048576 * 1048576 := Int.mul_le_mul hg.2 hg.2 hg.1 (by omega)
  exact ⟨h1, by omega, h3, by omega⟩
set_option maxRecDepth 100000 in
set_option maxHeartbeats 4000000 in
theorem len_any (n : Int) (w : World) :
    Calls Try.prog 30 #[.int .i64 n] w fun e w' => e = .returned (.tuple #[.agg #[.int .i64 (lenS n).lo, .int .i64 (lenS n).hi], .int .i64 (lenS n).e]) ∧ Kept w w' := by
  by_cases b1 : n < 0
  · have e : lenS n = ⟨0, 0, 1⟩ := if_neg (by omega)
    rw [e]
    clear e
    go_enter Try.func30, Try.ntmps30
    go_wp2
    all_goals (refine bodyPost_ret (by simp only [results, Try.results30]; go_simp; rfl) rfl ?_; refine ⟨rfl, ?_⟩; (repeat (first | exact Kept.refl _ | assumption | refine Kept.alloc ?_ _ | refine Kept.ext ?_ _ | refine Kept.drew ?_ | refine Kept.drewN ?_ _)))
  by_cases b2 : 1099511627776 < n
  · have e : lenS n = ⟨0, 0, 1⟩ := if_neg (by omega)
    rw [e]
    clear e
    go_enter Try.func30, Try.ntmps30
    go_wp2
    all_goals (refine bodyPost_ret (by simp only [results, Try.results30]; go_simp; rfl) rfl ?_; refine ⟨rfl, ?_⟩; (repeat (first | exact Kept.refl _ | assumption | refine Kept.alloc ?_ _ | refine Kept.ext ?_ _ | refine Kept.drew ?_ | refine Kept.drewN ?_ _)))
  obtain ⟨s0, s1, s2⟩ := sqrtS_spec (show 0 ≤ n by omega)
  have s3 : sqrtS n ≤ 1048576 := of_sq_le (by decide) (by omega)
  have s4 := Int.mul_nonneg s0 s0
  have s5 : (sqrtS n + 1) * (sqrtS n + 1) = sqrtS n * sqrtS n + 2 * sqrtS n + 1 := by grind
  obtain ⟨a, ha⟩ : ∃ a, sqrtS n = a := ⟨_, rfl⟩
  rw [ha] at s0 s1 s2 s3 s4 s5
  go_enter Try.func30, Try.ntmps30
  go_wp2_with (first | (go_at_call 63; refine (root_any _ _ ⟨by omega, by omega⟩).mono ?_; rintro e w1 ⟨rfl, rfl⟩))
  go_loopw [6, 7] (fun f b wr => ∃ (m : Nat) (g : Int), f = .int .i64 g ∧ b = .int .i64 (bitAt m) ∧ LenJ n a m g ∧ wr = w.alloc (.cells #[.int .i64 0, .int .i64 0] 39)) (fun _ b _ => (intOf b).toNat)
  case atStart =>
    refine ⟨20, 0, rfl, rfl, ⟨by omega, by decide, by omega, ?_, by omega⟩, rfl⟩
    show (n - a * a) * 1099511627776 < 2 * a * (0 + 1048576) * 1048576 + (0 + 1048576) * (0 + 1048576)
    omega
  case round =>
    obtain ⟨m, g, rfl, rfl, ⟨g0, g1, g2, g3, g4⟩, rfl⟩ := hrel
    cases m with
    | zero =>
      have p : powS 0 = 1 := rfl
      rw [p] at g1 g3
      rw [show bitAt 0 = 0 from rfl]
      have q := len_end s0 g0 g2 g3
      have r := len_sq a g
      obtain ⟨c1, c2, c3, c4⟩ := len_bd ⟨s0, s3⟩ (show 0 ≤ g ∧ g ≤ 1048576 by omega)
      have E : lenS n = if (a * 1048576 + g) * (a * 1048576 + g) = n * 1099511627776 then resultS (a * 1048576 + g) (a * 1048576 + g) else resultS (a * 1048576 + g) (a * 1048576 + g + 1) := by rw [← q]; exact if_pos (by omega)
      by_cases hk : (a * 1048576 + g) * (a * 1048576 + g) = n * 1099511627776
      · rw [if_pos hk] at E
        have hk' : (2 * a * g * 1048576 + g * g == (n - a * a) * 1099511627776) = true := by simp; omega
        clear hk q r ha
        go_wp2_with (first | (go_at_call 42; refine (result_any _ _ _).mono ?_; rintro e w1 ⟨rfl, x, rfl⟩))
        refine bodyPost_ret (by simp only [results, Try.results30]; go_simp; rfl) rfl ?_
        refine ⟨ret_R3 E.symm, ?_⟩
        (repeat (first | exact Kept.refl _ | assumption | refine Kept.alloc ?_ _ | refine Kept.ext ?_ _ | refine Kept.drew ?_ | refine Kept.drewN ?_ _))
      · rw [if_neg hk] at E
        have hk' : (2 * a * g * 1048576 + g * g == (n - a * a) * 1099511627776) = false := by simp; omega
        clear hk q r ha
        go_wp2_with (first | (go_at_call 42; refine (result_any _ _ _).mono ?_; rintro e w1 ⟨rfl, x, rfl⟩))
        refine bodyPost_ret (by simp only [results, Try.results30]; go_simp; rfl) rfl ?_
        refine ⟨ret_R3 E.symm, ?_⟩
        (repeat (first | exact Kept.refl _ | assumption | refine Kept.alloc ?_ _ | refine Kept.ext ?_ _ | refine Kept.drew ?_ | refine Kept.drewN ?_ _))
    | succ j =>
      have e : bitAt (j + 1) = powS j := rfl
      rw [e]
      rw [powS_succ] at g1 g3
      obtain ⟨p0, p1⟩ := powS_half j
      obtain ⟨c1, c2, c3, c4⟩ := len_bd ⟨s0, s3⟩ (show 0 ≤ g + powS j ∧ g + powS j ≤ 1048576 by omega)
      by_cases hle : 2 * a * (g + powS j) * 1048576 + (g + powS j) * (g + powS j) ≤ (n - a * a) * 1099511627776
      · go_wp2
        refine ⟨⟨j, _, rfl, by rw [p1], ⟨by omega, by omega, hle, by rw [show g + powS j + powS j = g + 2 * powS j by omega]; exact g3, by omega⟩, trivial⟩, ?_⟩
        simp only [intOf]
        omega
      · go_wp2
        refine ⟨⟨j, _, rfl, by rw [p1], ⟨g0, by omega, g2, by omega, by omega⟩, trivial⟩, ?_⟩
        simp only [intOf]
        omega
theorem hilo_le {x y h l h' l' : Int} {M N : Nat} (e1 : h = hi64 M M) (e2 : l = lo64 M M) (e3 : h' = hi64 N 1099511627776) (e4 : l' = lo64 N 1099511627776) (ex : x = M) (ey : y = N) :
    (h < h' ∨ h = h' ∧ l ≤ l') ↔ x * x ≤ y * 1099511627776 := by
  subst ex ey e1 e2 e3 e4
  have k1 : ((M * M : Nat) : Int) = (M : Int) * M := by simp
  have k2 : ((N * 1099511627776 : Nat) : Int) = (N : Int) * 1099511627776 := by omega
  unfold hi64 lo64
  rw [← k1, ← k2]
  generalize M * M = p
  generalize N * 1099511627776 = q
  omega
theorem hilo_eq {h' l' : Int} {M N : Nat} (e3 : h' = hi64 N 1099511627776) (e4 : l' = lo64 N 1099511627776) : (hi64 M M = h' ∧ lo64 M M = l') ↔ (M : Int) * M = (N : Int) * 1099511627776 := by
  subst e3 e4
  have k1 : ((M * M : Nat) : Int) = (M : Int) * M := by simp
  have k2 : ((N * 1099511627776 : Nat) : Int) = (N : Int) * 1099511627776 := by omega
  unfold hi64 lo64
  rw [← k1, ← k2]
  generalize M * M = p
  generalize N * 1099511627776 = q
  omega
end Go.Proofs.Ytbhcjdgfcinpcaa
