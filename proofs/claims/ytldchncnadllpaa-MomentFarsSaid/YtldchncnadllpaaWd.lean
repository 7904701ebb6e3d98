/- Contracts: the bits of a word, sums and differences of words, a quotient of 128 bits by 64. Conditions: those of each theorem. -/
import Derived.Test.YtldchncnadllpaaDgp
import Derived.Test.YtldchncnadllpaaLz
import Derived.Shelf.Spec.BitsCarry
import Derived.Test.YtldchncnadllpaaTail
import Derived.Test.YtldchncnadllpaaMu
namespace Go.Proofs.Ytldchncnadllpaa
set_option linter.unusedVariables false
set_option linter.unusedSimpArgs false
open Go.RowKit
theorem wmul64_any (x y : Nat) (w : World) (hx : x < 18446744073709551616) (hy : y < 18446744073709551616) :
    Calls Try.prog 68 #[.int .u64 x, .int .u64 y] w fun e w' => e = .returned (.tuple #[.int .u64 (hi64 x y), .int .u64 (lo64 x y)]) ∧ w = w' := mul64_any x y w hx hy
theorem zeros64_any (x : Int) (w : World) (h0 : 0 ≤ x) (h1 : x ≤ 18446744073709551615) :
    Calls Try.prog 77 #[.int .u64 x] w fun e w' => e = .returned (.int .i64 (64 - (Lib.bitLen x.toNat : Int))) ∧ w = w' := by
  have l : Lib.bitLen x.toNat ≤ 64 := Lib.bitLen_le x.toNat 64 (by omega) (by omega)
  have e8 : (64 - (Lib.bitLen x.toNat : Int) + 9223372036854775808) % 18446744073709551616 - 9223372036854775808 = 64 - (Lib.bitLen x.toNat : Int) := by omega
  go_enter Try.func77, Try.ntmps77
  go_wp2_with (go_at_call 81; refine (len64_any x _ h0 h1).mono ?_; rintro e w' ⟨rfl, rfl⟩)
  go_ret
  refine ⟨?_, rfl⟩
  rw [← e8]
  try rfl
def bor (x y : Int) : Int := if x < y then 1 else 0
end Go.Proofs.Ytldchncnadllpaa
