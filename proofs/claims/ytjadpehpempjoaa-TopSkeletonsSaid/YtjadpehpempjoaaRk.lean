/- Contracts: the rank of a matrix, of the program and of the reference. Conditions: the list's length is an int. -/
import Derived.Test.YtjadpehpempjoaaVs
namespace Go.Proofs.Ytjadpehpempjoaa
set_option linter.unusedVariables false
set_option linter.unusedSimpArgs false
open Go.RowKit Go.Deep
/-- The greatest number up to q with a minor that isn't 0. -/
def rkP (f : Nat → Nat → Int) (n M : Nat) : Nat → Nat
  | 0 => 0
  | q + 1 => if 0 < volS f n M ((q + 1 : Nat) : Int) then q + 1 else rkP f n M q
theorem rkP_le {f : Nat → Nat → Int} {n M : Nat} : ∀ q, rkP f n M q ≤ q
  | 0 => Nat.le_refl _
  | q + 1 => by
    have := rkP_le (f := f) (n := n) (M := M) q
    unfold rkP
    split <;> omega
def rankV (n : Nat) (m : Nat → Nat) (f : Nat → Nat → Int) : Nat := if valE n m f = 0 then rkP f n (m 0) (min n (m 0)) else 0
end Go.Proofs.Ytjadpehpempjoaa
