/- The square roots of the program and of the reference: the greatest number whose square is at most n. Under the premises of each theorem. -/
import Derived.Test.YtbhcjdgfcinpcaaChk
import Derived.Test.YtbhcjdgfcinpcaaNmb
import Derived.Test.YtbhcjdgfcinpcaaBas
import Derived.WalkMore
import Derived.ScopeJumps
namespace Go.Proofs.Ytbhcjdgfcinpcaa
set_option linter.unusedVariables false
set_option linter.unusedSimpArgs false
open Go.ChangeShapes Go.WideShapes Go.ChangeAt Go.RowKit
def sqrtN : Nat → Nat
  | 0 => 0
  | n + 1 => if (sqrtN n + 1) * (sqrtN n + 1) ≤ n + 1 then sqrtN n + 1 else sqrtN n
theorem sqrtN_spec (n : Nat) : sqrtN n * sqrtN n ≤ n ∧ n < (sqrtN n + 1) * (sqrtN n + 1) := by
  induction n with
  | zero => simp [sqrtN]
  | succ n ih =>
    obtain ⟨h1, h2⟩ := ih
    unfold sqrtN
    split
    · rename_i h
      refine ⟨h, ?_⟩
      have : (sqrtN n + 1 + 1) * (sqrtN n + 1 + 1) = (sqrtN n + 1) * (sqrtN n + 1) + 2 * (sqrtN n + 1) + 1 := by
        rw [Nat.add_mul, Nat.mul_add]; omega
      omega
    · omega
/-- The greatest number whose square is at most n. -/
def sqrtS (n : Int) : Int := sqrtN n.toNat
theorem sqrtS_spec {n : Int} (h : 0 ≤ n) : 0 ≤ sqrtS n ∧ sqrtS n * sqrtS n ≤ n ∧ n < (sqrtS n + 1) * (sqrtS n + 1) := by
  have := sqrtN_spec n.toNat
  unfold sqrtS
  refine ⟨by omega, ?_, ?_⟩
  · have := this.1
    have e : ((sqrtN n.toNat * sqrtN n.toNat : Nat) : Int) = (sqrtN n.toNat : Int) * (sqrtN n.toNat : Int) := by simp
    omega
  · have := this.2
    have e : (((sqrtN n.toNat + 1) * (sqrtN n.toNat + 1) : Nat) : Int) = ((sqrtN n.toNat : Int) + 1) * ((sqrtN n.toNat : Int) + 1) := by simp
    omega
theorem sq_le_sq {a b : Int} (h0 : 0 ≤ a) (h : a ≤ b) : a * a ≤ b * b := Int.mul_le_mul h h h0 (by omega)
theorem of_sq_lt {a b : Int} (h0 : 0 ≤ b) (h : a * a < b * b) : a < b := by
  apply Classical.byContradiction
  intro k
  have := sq_le_sq h0 (show b ≤ a by omega)
  omega
theorem of_sq_le {a b : Int} (h0 : 0 ≤ b) (h : a * a ≤ b * b) : a ≤ b := by
  apply Classical.byContradiction
  intro k
  have h1 := sq_le_sq (show 0 ≤ b + 1 by omega) (show b + 1 ≤ a by omega)
  have h2 : (b + 1) * (b + 1) = b * b + b + b + 1 := by rw [Int.add_mul, Int.mul_add]; omega
  omega
theorem sqrtS_unique {n k : Int} (h0 : 0 ≤ k) (h1 : k * k ≤ n) (h2 : n < (k + 1) * (k + 1)) : k = sqrtS n := by
  have hn : 0 ≤ n := Int.le_trans (Int.mul_nonneg h0 h0) h1
  obtain ⟨s0, s1, s2⟩ := sqrtS_spec hn
  have a := of_sq_lt (show 0 ≤ sqrtS n + 1 by omega) (show k * k < _ by omega)
  have b := of_sq_lt (show 0 ≤ k + 1 by omega) (show sqrtS n * sqrtS n < _ by omega)
  omega
def powS (m : Nat) : Int := ((2 ^ m : Nat) : Int)
/-- The bit that is tried when m bits are left. -/
def bitAt : Nat → Int
  | 0 => 0
  | m + 1 => powS m
theorem powS_succ (j : Nat) : powS (j + 1) = 2 * powS j := by unfold powS; rw [Nat.pow_succ]; omega
theorem powS_le {i j : Nat} (h : i ≤ j) : powS i ≤ powS j := by
  have := Nat.pow_le_pow_right (show 0 < 2 by decide) h
  unfold powS; omega
theorem powS_half (j : Nat) : 0 < powS j ∧ powS j / 2 = bitAt j := by
  refine ⟨?_, ?_⟩
  · have := powS_le (Nat.zero_le j)
    have e : powS 0 = 1 := rfl
    omega
  · cases j with
    | zero => rfl
    | succ i =>
      rw [powS_succ]
      show 2 * powS i / 2 = powS i
      omega
/-- What holds when m bits are left to be tried. -/
def RootJ (n : Int) (m : Nat) (k : Int) : Prop := 0 ≤ k ∧ k * k ≤ n ∧ n < (k + powS m) * (k + powS m) ∧ m ≤ 32 ∧ (k = 0 ∨ m ≤ 31)
set_option maxRecDepth 1000000 in
theorem root_any (n : Int) (w : World) (hn : 0 ≤ n ∧ n ≤ 1152921504606846976) :
    Calls Try.prog 63 #[.int .i64 n] w fun e w' => e = .returned (.int .i64 (sqrtS n)) ∧ w = w' := by
  obtain ⟨n0, n1⟩ := hn
  go_enter Try.func63, Try.ntmps63
  go_wp2
  refine wp_scope_jumps 0 (fun a' w' => w' = w ∧ ∃ (m : Nat) (k : Int) (u5 u6 u7 u8 u9 u10 u11 u12 u13 u14 u15 u16 u17 u18 u19 u20 u21 : Value), a' = { tmps := #[.int .i64 n, undef, .int .i64 0, .int .i64 k, .int .i64 (bitAt m), u5, u6, u7, u8, u9, u10, u11, u12, u13, u14, u15, u16, u17, u18, u19, u20, u21], defers := [] } ∧ RootJ n m k) (fun a' _ => (intOf (a'.tmps.getD 4 undef)).toNat) rfl ?_ ?_
  · go_wp2
    go_step3
    go_wp2
    go_step3
    refine ⟨rfl, rfl, 31, 0, _, _, _, _, _, _, _, _, _, _, _, _, _, _, _, _, _, rfl, ?_⟩
    refine ⟨by omega, by omega, ?_, by omega, .inl rfl⟩
    show n < 4611686018427387904
    omega
  · rintro a' w' ⟨rfl, m, k, u5, u6, u7, u8, u9, u10, u11, u12, u13, u14, u15, u16, u17, u18, u19, u20, u21, rfl, h0, h1, h2, h3, h4⟩
    cases m with
    | zero =>
      rw [show bitAt 0 = 0 from rfl]
      go_wp2
      simp only [Exit.jump]
      go_ret
      exact ⟨by rw [← sqrtS_unique h0 h1 h2]; rfl, rfl⟩
    | succ j =>
      have e : bitAt (j + 1) = powS j := rfl
      rw [e]
      rw [powS_succ] at h2
      obtain ⟨p0, p1⟩ := powS_half j
      have k0 : k ≤ 1073741824 := of_sq_le (by decide) (by omega)
      have p2 : powS j ≤ 2147483648 := powS_le (show j ≤ 31 by omega)
      have p3 : k + powS j ≤ 2147483648 := by
        rcases h4 with rfl | h4
        · omega
        · have : powS j ≤ 1073741824 := powS_le (show j ≤ 30 by omega)
          omega
      have hmm := mul_bd 4611686018427387904 (show -2147483648 ≤ k + powS j ∧ k + powS j ≤ 2147483648 by omega) (show -2147483648 ≤ k + powS j ∧ k + powS j ≤ 2147483648 by omega) rfl
      go_wp2
      · rename_i hle
        go_step3
        refine ⟨rfl, ⟨rfl, j, _, _, _, _, _, _, _, _, _, _, _, _, _, _, _, _, _, _, rfl, ?_⟩, ?_⟩
        · refine ⟨by omega, hle, by rw [show k + powS j + powS j = k + 2 * powS j by omega]; exact h2, by omega, .inr (by omega)⟩
        · show (bitAt j).toNat < (powS j).toNat
          omega
      · rename_i hle
        go_step3
        refine ⟨rfl, ⟨rfl, j, _, _, _, _, _, _, _, _, _, _, _, _, _, _, _, _, _, _, rfl, ?_⟩, ?_⟩
        · refine ⟨h0, h1, hle, by omega, .inr (by omega)⟩
        · show (bitAt j).toNat < (powS j).toNat
          omega
/-- The square root, rounded up. -/
def rootUpS (n : Int) : Int := if sqrtS n * sqrtS n < n then sqrtS n + 1 else sqrtS n
def rootS (al ah : Int) : R := if validB al ah && decide (0 ≤ al) then resultS (sqrtS (al * 1048576)) (rootUpS (ah * 1048576)) else ⟨0, 0, 1⟩
end Go.Proofs.Ytbhcjdgfcinpcaa
