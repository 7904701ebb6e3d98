/- Plain facts on square roots of whole numbers, and on quotients rounded up. No program in sight. Contracts: what the higher orders are worth, of the program and of the reference. No conditions. -/
import Derived.Test.YtldchncnadllpaaNumb
import Derived.Test.YtldchncnadllpaaRoot
import Derived.Test.YtldchncnadllpaaMr
namespace Go.Proofs.Ytldchncnadllpaa
set_option linter.unusedVariables false
set_option linter.unusedSimpArgs false
def upS (n d : Int) : Int := (n + d - 1) / d
theorem upS_bd {n d m : Int} (hd : 1 ≤ d) (h0 : 0 ≤ n) (h : n ≤ m * d) : 0 ≤ upS n d ∧ upS n d ≤ m := by
  unfold upS
  refine ⟨Int.ediv_nonneg (by omega) (by omega), ?_⟩
  have : (n + d - 1) / d < m + 1 := Int.ediv_lt_of_lt_mul (by omega) (by rw [Int.add_mul]; omega)
  omega
end Go.Proofs.Ytldchncnadllpaa
namespace Go.Proofs.Ytldchncnadllpaa
set_option linter.unusedVariables false
set_option linter.unusedSimpArgs false
open Go.RowKit
theorem mroot_any (n : Int) (w : World) (hn : 0 ≤ n ∧ n < 4611686018427387904) :
    Calls Try.prog 56 #[.int .i64 n] w fun e w' => e = .returned (.int .i64 (sqrtS n)) ∧ w = w' := by
  obtain ⟨n0, n1⟩ := hn
  go_enter Try.func56, Try.ntmps56
  go_wp2
  go_loopw [3, 4] (fun l h wr => ∃ lo hi : Int, l = .int .i64 lo ∧ h = .int .i64 hi ∧ 0 ≤ lo ∧ lo < hi ∧ hi ≤ 2147483648 ∧ lo * lo ≤ n ∧ n < hi * hi ∧ wr = w) (fun l h _ => (intOf h - intOf l).toNat)
  case atStart => exact ⟨0, 2147483648, rfl, rfl, by omega, by omega, by omega, by omega, by omega, rfl⟩
  case round =>
    obtain ⟨lo, hi, rfl, rfl, a0, a1, a2, a3, a4, rfl⟩ := hrel
    by_cases hlt : 1 < hi - lo
    · have hmm := mul_bd 4611686018427387904 (show -2147483648 ≤ (lo + hi) / 2 ∧ (lo + hi) / 2 ≤ 2147483648 by omega) (show -2147483648 ≤ (lo + hi) / 2 ∧ (lo + hi) / 2 ≤ 2147483648 by omega) rfl
      go_wp2
      · rename_i hle
        refine ⟨⟨_, _, rfl, rfl, by omega, by omega, a2, hle, a4, trivial⟩, ?_⟩
        simp only [intOf]
        omega
      · rename_i hle
        refine ⟨⟨_, _, rfl, rfl, by omega, by omega, by omega, a3, hle, trivial⟩, ?_⟩
        simp only [intOf]
        omega
    · obtain rfl : hi = lo + 1 := by omega
      go_wp2
      go_ret
      exact ⟨by rw [← sqrtS_unique a0 a3 a4]; rfl, rfl⟩
def BelJ (n : Int) (m : Nat) (k : Int) : Prop := 0 ≤ k ∧ k * k ≤ n ∧ n < (k + powS m) * (k + powS m) ∧ m ≤ 31 ∧ k + powS m ≤ 2147483648
theorem r4below_any (n : Int) (w : World) (hn : 0 ≤ n ∧ n < 4611686018427387904) :
    Calls Try.prog 59 #[.int .i64 n] w fun e w' => e = .returned (.int .i64 (sqrtS n)) ∧ w = w' := by
  obtain ⟨n0, n1⟩ := hn
  go_enter Try.func59, Try.ntmps59
  go_wp2
  go_loopw [3, 4] (fun l h wr => ∃ (m : Nat) (k : Int), l = .int .i64 k ∧ h = .int .i64 (bitAt m) ∧ BelJ n m k ∧ wr = w) (fun _ h _ => (intOf h).toNat)
  case atStart => exact ⟨31, 0, rfl, rfl, ⟨by omega, by omega, by show n < (0 + 2147483648) * (0 + 2147483648); omega, by omega, by decide⟩, rfl⟩
  case round =>
    obtain ⟨m, k, rfl, rfl, ⟨h0, h1, h2, h3, h4⟩, rfl⟩ := hrel
    cases m with
    | zero =>
      rw [show bitAt 0 = 0 from rfl]
      go_wp2
      go_ret
      exact ⟨by rw [← sqrtS_unique h0 h1 h2]; rfl, rfl⟩
    | succ j =>
      have e : bitAt (j + 1) = powS j := rfl
      rw [e]
      rw [powS_succ] at h2 h4
      obtain ⟨p0, p1⟩ := powS_half j
      have hmm := mul_bd 4611686018427387904 (show -2147483648 ≤ k + powS j ∧ k + powS j ≤ 2147483648 by omega) (show -2147483648 ≤ k + powS j ∧ k + powS j ≤ 2147483648 by omega) rfl
      go_wp2
      · rename_i hle
        refine ⟨⟨j, _, rfl, by rw [p1], ⟨by omega, hle, by rw [show k + powS j + powS j = k + 2 * powS j by omega]; exact h2, by omega, by omega⟩, trivial⟩, ?_⟩
        simp only [intOf]
        omega
      · rename_i hle
        refine ⟨⟨j, _, rfl, by rw [p1], ⟨h0, h1, hle, by omega, by omega⟩, trivial⟩, ?_⟩
        simp only [intOf]
        omega
theorem mup_any (n d : Int) (w : World) (h : 0 ≤ n ∧ n ≤ 4611686018427387904 ∧ 1 ≤ d ∧ d ≤ 4611686018427387903) :
    Calls Try.prog 57 #[.int .i64 n, .int .i64 d] w fun e w' => e = .returned (.int .i64 (upS n d)) ∧ w = w' := by
  obtain ⟨h0, h1, h2, h3⟩ := h
  have z : (d == 0) = false := by simp; omega
  go_enter Try.func57, Try.ntmps57
  go_wp2
  go_ret
  exact ⟨rfl, rfl⟩
theorem r4up_any (n d : Int) (w : World) (h : 0 ≤ n ∧ n ≤ 4611686018427387904 ∧ 1 ≤ d ∧ d ≤ 4611686018427387903) :
    Calls Try.prog 60 #[.int .i64 n, .int .i64 d] w fun e w' => e = .returned (.int .i64 (upS n d)) ∧ w = w' := by
  obtain ⟨h0, h1, h2, h3⟩ := h
  have z : (d == 0) = false := by simp; omega
  go_enter Try.func60, Try.ntmps60
  go_wp2
  go_ret
  exact ⟨rfl, rfl⟩
theorem r4above_any (n : Int) (w : World) (hn : 0 ≤ n ∧ n < 4611686018427387904) :
    Calls Try.prog 58 #[.int .i64 n] w fun e w' => e = .returned (.int .i64 (rootUpS n)) ∧ w = w' := by
  obtain ⟨n0, n1⟩ := hn
  obtain ⟨s0, s1, s2⟩ := sqrtS_spec n0
  have s3 : sqrtS n ≤ 2147483648 := of_sq_le (by decide) (by omega)
  have s4 := Int.mul_nonneg s0 s0
  by_cases h : sqrtS n * sqrtS n < n
  · rw [show rootUpS n = sqrtS n + 1 from if_pos h]
    go_enter Try.func58, Try.ntmps58
    go_wp2_with (first | (go_at_call 59; refine (r4below_any _ _ (by omega)).mono ?_; rintro e w1 ⟨rfl, rfl⟩))
    go_ret
    exact ⟨rfl, rfl⟩
  · rw [show rootUpS n = sqrtS n from if_neg h]
    go_enter Try.func58, Try.ntmps58
    go_wp2_with (first | (go_at_call 59; refine (r4below_any _ _ (by omega)).mono ?_; rintro e w1 ⟨rfl, rfl⟩))
    go_ret
    exact ⟨rfl, rfl⟩
/-- A number with an error number. -/
structure NE where
  v : Int
  e : Int
theorem sq_nn (x : Int) : 0 ≤ x * x := by
  have := @Int.natAbs_mul_self x
  omega
def eS (t : Int) : Nat → Int
  | 0 => t
  | k + 1 => upS (eS t k * t) 1048576
def restV (g0 a r : Int) (k : Nat) : NE := if r ≤ a then ⟨0, 10⟩ else if 1099511627776 < upS (g0 * eS (upS (a * 1048576) r) k * 1048576) (r - a) then ⟨0, 4⟩ else ⟨upS (g0 * eS (upS (a * 1048576) r) k * 1048576) (r - a), 0⟩
def restS (g0 g1 u0 u1 u2 g2 : Int) : NE := if frB g0 0 1048576 && frB g1 0 131072 && inB u0 u1 u2 384 && frB g2 0 2 then restV g0 (rootUpS (g1 * 1048576 * 1048576)) (sqrtS ((u0 * u0 + u1 * u1 + u2 * u2) * 1048576 * 1048576)) g2.toNat else ⟨0, 1⟩
theorem eS_bd {t : Int} (h : 0 ≤ t ∧ t ≤ 1048576) (k : Nat) : 0 ≤ eS t k ∧ eS t k ≤ 1048576 ∧ 0 ≤ eS t k * t ∧ eS t k * t ≤ 1099511627776 := by
  induction k with
  | zero =>
    have a := Int.mul_nonneg h.1 h.1
    have b : t * t ≤ 1048576 * 1048576 := Int.mul_le_mul h.2 h.2 h.1 (by decide)
    exact ⟨h.1, h.2, a, by show t * t ≤ _; omega⟩
  | succ k ih =>
    obtain ⟨a, b, c, d⟩ := ih
    have u := upS_bd (d := 1048576) (by omega) c (show eS t k * t ≤ 1048576 * 1048576 by omega)
    have e := Int.mul_nonneg u.1 h.1
    have f : eS t (k + 1) * t ≤ 1048576 * 1048576 := Int.mul_le_mul u.2 h.2 h.1 (by decide)
    exact ⟨u.1, u.2, e, by omega⟩
end Go.Proofs.Ytldchncnadllpaa
