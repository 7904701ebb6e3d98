/- Plain facts on square roots of whole numbers, and on quotients rounded up. No program in sight. -/
import Derived.Test.YtiedpdlbjjjpeaaNumb
namespace Go.Proofs.Ytiedpdlbjjjpeaa
set_option linter.unusedVariables false
set_option linter.unusedSimpArgs false
def sqrtN : Nat → Nat
  | 0 => 0
  | n + 1 => if (sqrtN n + 1) * (sqrtN n + 1) ≤ n + 1 then sqrtN n + 1 else sqrtN n
theorem sqrtN_spec (n : Nat) : sqrtN n * sqrtN n ≤ n ∧ n < (sqrtN n + 1) * (sqrtN n + 1) := by
  induction n with
  | zero => simp [sqrtN]
  | succ n ih =>
    obtain ⟨h1, h2⟩ := ih
    unfold sqrtN
    split
    · rename_i h
      refine ⟨h, ?_⟩
      have : (sqrtN n + 1 + 1) * (sqrtN n + 1 + 1) = (sqrtN n + 1) * (sqrtN n + 1) + 2 * (sqrtN n + 1) + 1 := by
        rw [Nat.add_mul, Nat.mul_add]; omega
      omega
    · omega
/-- The greatest number whose square is at most n. -/
def sqrtS (n : Int) : Int := sqrtN n.toNat
theorem sqrtS_spec {n : Int} (h : 0 ≤ n) : 0 ≤ sqrtS n ∧ sqrtS n * sqrtS n ≤ n ∧ n < (sqrtS n + 1) * (sqrtS n + 1) := by
  have := sqrtN_spec n.toNat
  unfold sqrtS
  refine ⟨by omega, ?_, ?_⟩
  · have := this.1
    have e : ((sqrtN n.toNat * sqrtN n.toNat : Nat) : Int) = (sqrtN n.toNat : Int) * (sqrtN n.toNat : Int) := by simp
    omega
  · have := this.2
    have e : (((sqrtN n.toNat + 1) * (sqrtN n.toNat + 1) : Nat) : Int) = ((sqrtN n.toNat : Int) + 1) * ((sqrtN n.toNat : Int) + 1) := by simp
    omega
theorem sq_le_sq {a b : Int} (h0 : 0 ≤ a) (h : a ≤ b) : a * a ≤ b * b := Int.mul_le_mul h h h0 (by omega)
theorem of_sq_lt {a b : Int} (h0 : 0 ≤ b) (h : a * a < b * b) : a < b := by
  apply Classical.byContradiction
  intro k
  have := sq_le_sq h0 (show b ≤ a by omega)
  omega
theorem of_sq_le {a b : Int} (h0 : 0 ≤ b) (h : a * a ≤ b * b) : a ≤ b := by
  apply Classical.byContradiction
  intro k
  have h1 := sq_le_sq (show 0 ≤ b + 1 by omega) (show b + 1 ≤ a by omega)
  have h2 : (b + 1) * (b + 1) = b * b + b + b + 1 := by rw [Int.add_mul, Int.mul_add]; omega
  omega
theorem sqrtS_unique {n k : Int} (h0 : 0 ≤ k) (h1 : k * k ≤ n) (h2 : n < (k + 1) * (k + 1)) : k = sqrtS n := by
  have hn : 0 ≤ n := Int.le_trans (Int.mul_nonneg h0 h0) h1
  obtain ⟨s0, s1, s2⟩ := sqrtS_spec hn
  have a := of_sq_lt (show 0 ≤ sqrtS n + 1 by omega) (show k * k < _ by omega)
  have b := of_sq_lt (show 0 ≤ k + 1 by omega) (show sqrtS n * sqrtS n < _ by omega)
  omega
def powS (m : Nat) : Int := ((2 ^ m : Nat) : Int)
/-- The bit that is tried when m bits are left. -/
def bitAt : Nat → Int
  | 0 => 0
  | m + 1 => powS m
theorem powS_succ (j : Nat) : powS (j + 1) = 2 * powS j := by unfold powS; rw [Nat.pow_succ]; omega
theorem powS_le {i j : Nat} (h : i ≤ j) : powS i ≤ powS j := by
  have := Nat.pow_le_pow_right (show 0 < 2 by decide) h
  unfold powS; omega
theorem powS_half (j : Nat) : 0 < powS j ∧ powS j / 2 = bitAt j := by
  refine ⟨?_, ?_⟩
  · have := powS_le (Nat.zero_le j)
    have e : powS 0 = 1 := rfl
    omega
  · cases j with
    | zero => rfl
    | succ i =>
      rw [powS_succ]
      show 2 * powS i / 2 = powS i
      omega
/-- The square root, rounded up. -/
def rootUpS (n : Int) : Int := if sqrtS n * sqrtS n < n then sqrtS n + 1 else sqrtS n
def upS (n d : Int) : Int := (n + d - 1) / d
theorem upS_bd {n d m : Int} (hd : 1 ≤ d) (h0 : 0 ≤ n) (h : n ≤ m * d) : 0 ≤ upS n d ∧ upS n d ≤ m := by
  unfold upS
  refine ⟨Int.ediv_nonneg (by omega) (by omega), ?_⟩
  have : (n + d - 1) / d < m + 1 := Int.ediv_lt_of_lt_mul (by omega) (by rw [Int.add_mul]; omega)
  omega
end Go.Proofs.Ytiedpdlbjjjpeaa
