/- Contracts: the greatest minors and the rank with their errors, of the program and of the reference. Conditions: the list's length is an int. -/
import Derived.Test.YtjadpehpempjoaaRv
namespace Go.Proofs.Ytjadpehpempjoaa
set_option linter.unusedVariables false
set_option linter.unusedSimpArgs false
open Go.RowKit Go.Deep
def sizE (n : Nat) (m : Nat → Nat) (f : Nat → Nat → Int) (k : Int) : Int := if valE n m f = 0 then (if 0 ≤ k ∧ k ≤ ((min n (m 0) : Nat) : Int) then 0 else 1) else valE n m f
theorem sizE_0 {n : Nat} {m : Nat → Nat} {f : Nat → Nat → Int} {k : Int} (h : sizE n m f k = 0) : valE n m f = 0 ∧ 0 ≤ k ∧ k ≤ ((min n (m 0) : Nat) : Int) := by
  unfold sizE at h
  split at h
  · rename_i hv
    split at h
    · rename_i hk; exact ⟨hv, hk⟩
    · cases h
  · rename_i hv; exact absurd h hv
def volV (n : Nat) (m : Nat → Nat) (f : Nat → Nat → Int) (k : Int) : Int := if sizE n m f k = 0 then volS f n (m 0) k else 0
/-- A choice with the greatest minor. -/
def BstC (f : Nat → Nat → Int) (n M : Nat) (k : Int) (b : Nat) (vr vc : Value) (w : World) : Prop :=
  ∃ r c, r < 2 ^ n ∧ c < 2 ^ M ∧ ((bl r n).length : Int) = k ∧ ((bl c M).length : Int) = k ∧ volS f n M k = dV f n M r c ∧
    w.ownsRow b 3 1 vr (bl r n).length (rowC 1 (blF r n) (bl r n).length) ∧ w.ownsRow b 3 1 vc (bl c M).length (rowC 1 (blF c M) (bl c M).length)
theorem Bst.c {f : Nat → Nat → Int} {n M : Nat} {k : Int} {b : Nat} {vr vc : Value} {w : World} (hk : 0 ≤ k ∧ k ≤ ((min n M : Nat) : Int)) (h : Bst f n M k b vr vc (vmat f n M k (-1) (2 ^ n)) w) : BstC f n M k b vr vc w := by
  rw [volS_eq hk] at h
  rcases h with ⟨h, -⟩ | h
  · have := volS_pos (f := f) (n := n) (M := M) (k := k)
    omega
  · exact h
end Go.Proofs.Ytjadpehpempjoaa
