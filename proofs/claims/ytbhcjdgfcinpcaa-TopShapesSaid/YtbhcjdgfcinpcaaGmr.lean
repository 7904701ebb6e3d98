/- Contracts: a mesh turned, scaled, moved, mirrored, of the reference. Conditions: the lists' lengths are ints. -/
import Derived.Test.YtbhcjdgfcinpcaaGcq
import Derived.Test.YtbhcjdgfcinpcaaGwl
namespace Go.Proofs.Ytbhcjdgfcinpcaa
set_option linter.unusedVariables false
set_option linter.unusedSimpArgs false
open Go.RowKit Go.Deep
theorem turn_I {P : Nat → Nat → Int} {n : Nat} (h : ∀ i, i < n → -64 ≤ P i 0 ∧ P i 0 ≤ 64 ∧ -64 ≤ P i 1 ∧ P i 1 ≤ 64 ∧ -64 ≤ P i 2 ∧ P i 2 ≤ 64) : ∀ k, k < n → ∀ j, j < 3 → I64 (turnP P k j) := by
  intro k hk j hj
  have := h k hk
  unfold turnP I64
  rcases (show j = 0 ∨ j = 1 ∨ j = 2 by omega) with rfl | rfl | rfl <;> simp <;> omega
theorem mir_I {P : Nat → Nat → Int} {n : Nat} (h : ∀ i, i < n → -64 ≤ P i 0 ∧ P i 0 ≤ 64 ∧ -64 ≤ P i 1 ∧ P i 1 ≤ 64 ∧ -64 ≤ P i 2 ∧ P i 2 ≤ 64) : ∀ k, k < n → ∀ j, j < 3 → I64 (mirP P k j) := by
  intro k hk j hj
  have := h k hk
  unfold mirP I64
  rcases (show j = 0 ∨ j = 1 ∨ j = 2 by omega) with rfl | rfl | rfl <;> simp <;> omega
theorem mov_I {P : Nat → Nat → Int} {n : Nat} {v0 v1 v2 : Int} (hv : (-128 ≤ v0 ∧ v0 ≤ 128) ∧ (-128 ≤ v1 ∧ v1 ≤ 128) ∧ (-128 ≤ v2 ∧ v2 ≤ 128)) (h : ∀ i, i < n → -64 ≤ P i 0 ∧ P i 0 ≤ 64 ∧ -64 ≤ P i 1 ∧ P i 1 ≤ 64 ∧ -64 ≤ P i 2 ∧ P i 2 ≤ 64) : ∀ k, k < n → ∀ j, j < 3 → I64 (movP P v0 v1 v2 k j) := by
  intro k hk j hj
  have := h k hk
  unfold movP I64
  rcases (show j = 0 ∨ j = 1 ∨ j = 2 by omega) with rfl | rfl | rfl <;> simp <;> omega
theorem scl_I {P : Nat → Nat → Int} {n : Nat} {k0 : Int} (hv : -128 ≤ k0 ∧ k0 ≤ 128) (h : ∀ i, i < n → -64 ≤ P i 0 ∧ P i 0 ≤ 64 ∧ -64 ≤ P i 1 ∧ P i 1 ≤ 64 ∧ -64 ≤ P i 2 ∧ P i 2 ≤ 64) : ∀ k, k < n → ∀ j, j < 3 → I64 (sclP P k0 k j) := by
  intro k hk j hj
  have := h k hk
  have q0 := mul_bd 8192 hv (show -64 ≤ P k 0 ∧ P k 0 ≤ 64 by omega) rfl
  have q1 := mul_bd 8192 hv (show -64 ≤ P k 1 ∧ P k 1 ≤ 64 by omega) rfl
  have q2 := mul_bd 8192 hv (show -64 ≤ P k 2 ∧ P k 2 ≤ 64 by omega) rfl
  unfold sclP I64
  rcases (show j = 0 ∨ j = 1 ∨ j = 2 by omega) with rfl | rfl | rfl <;> omega
theorem mirF_I {F : Nat → Nat → Int} {m : Nat} (h : ∀ k, k < m → ∀ j, j < 3 → I64 (F k j)) : ∀ k, k < m → ∀ j, j < 3 → I64 (mirF F k j) := by
  intro k hk j hj
  unfold mirF
  rcases (show j = 0 ∨ j = 1 ∨ j = 2 by omega) with rfl | rfl | rfl
  · exact h k hk 0 (by omega)
  · exact h k hk 2 (by omega)
  · exact h k hk 1 (by omega)
theorem r2timesX_any (a0 a1 a2 k : Int) (w : World) (h : (-1099511627776 ≤ k * a0 ∧ k * a0 ≤ 1099511627776) ∧ (-1099511627776 ≤ k * a1 ∧ k * a1 ≤ 1099511627776) ∧ (-1099511627776 ≤ k * a2 ∧ k * a2 ≤ 1099511627776)) :
    Calls Try.prog 12 #[.agg #[.int .i64 a0, .int .i64 a1, .int .i64 a2], .int .i64 k] w fun e w' => e = .returned (.agg #[.int .i64 (k * a0), .int .i64 (k * a1), .int .i64 (k * a2)]) ∧ Kept w w' := by
  obtain ⟨⟨h0, h1⟩, ⟨h2, h3⟩, h4, h5⟩ := h
  go_enter Try.func12, Try.ntmps12
  go_wp2
  refine bodyPost_ret (by simp only [results, Try.results12]; go_simp; rfl) rfl ?_
  exact ⟨rfl, by (repeat (first | exact Kept.refl _ | assumption | refine Kept.alloc ?_ _ | refine Kept.ext ?_ _ | refine Kept.drew ?_ | refine Kept.drewN ?_ _))⟩
theorem mir_put {P : Nat → Nat → Int} {n k : Nat} : ∀ i, i < n → ∀ j, j < 3 → setF (mixF k (mirP P) P) k 0 (-P k 0) i j = mixF (k + 1) (mirP P) P i j := by
  intro i _ j hj
  unfold setF mixF mirP
  by_cases q : i = k
  · subst q
    rcases (show j = 0 ∨ j = 1 ∨ j = 2 by omega) with rfl | rfl | rfl <;> simp
  · rw [if_neg (fun h => q h.1)]
    by_cases q2 : i < k
    · rw [if_pos q2, if_pos (show i < k + 1 by omega)]
    · rw [if_neg q2, if_neg (show ¬ i < k + 1 by omega)]
end Go.Proofs.Ytbhcjdgfcinpcaa
