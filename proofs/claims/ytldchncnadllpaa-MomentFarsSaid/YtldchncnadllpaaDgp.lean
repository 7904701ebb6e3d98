/- One digit of a long division with two-digit divisors: plain facts about numbers. No conditions but those of each theorem. -/
import Derived.Test.YtldchncnadllpaaBase
namespace Go.Proofs.Ytldchncnadllpaa
set_option linter.unusedVariables false
set_option linter.unusedSimpArgs false
/-- What holds of a digit q and its rest r while it may still be too great. -/
structure Dg (U y u q r : Nat) : Prop where
  e : q * (y / 4294967296) + r = U
  ge : (U * 4294967296 + u) / y ≤ q
  le : q ≤ 4294967297
  lt : r < 4294967296
section
variable {U y u q r : Nat}
theorem dg_split (y q : Nat) : q * y = q * (y / 4294967296) * 4294967296 + q * (y % 4294967296) := by
  have := Nat.div_add_mod y 4294967296
  conv => lhs; rw [← this]
  rw [Nat.mul_add, Nat.mul_comm 4294967296, ← Nat.mul_assoc]
theorem dg_top (hU : U < y) (hu : u < 4294967296) : (U * 4294967296 + u) / y < 4294967296 := by
  rw [Nat.div_lt_iff_lt_mul (by omega)]
  omega
theorem dg_start (h1 : 9223372036854775808 ≤ y) (h2 : y < 18446744073709551616) (hU : U < y) (hu : u < 4294967296) : Dg U y u (U / (y / 4294967296)) (U - U / (y / 4294967296) * (y / 4294967296)) := by
  have hy1 : 2147483648 ≤ y / 4294967296 ∧ y / 4294967296 < 4294967296 := by omega
  generalize hd : y / 4294967296 = d at *
  have hdm := Nat.div_add_mod U d
  have hml := Nat.mod_lt U (show 0 < d by omega)
  rw [Nat.mul_comm] at hdm
  refine ⟨by rw [hd]; omega, ?_, ?_, by omega⟩
  · have a := Nat.div_mul_le_self (U * 4294967296 + u) y
    have b := dg_split y ((U * 4294967296 + u) / y)
    rw [hd] at b
    generalize (U * 4294967296 + u) / y = Q at *
    rw [Nat.le_div_iff_mul_le (by omega)]
    generalize Q * d = z at *
    omega
  · have : U < (4294967298) * d := by omega
    have := (Nat.div_lt_iff_lt_mul (show 0 < d by omega)).2 this
    omega
theorem Dg.more (h : Dg U y u q r) (hU : U < y) (hu : u < 4294967296) (ht : 4294967296 ≤ q ∨ 4294967296 * r + u < q * (y % 4294967296)) : (U * 4294967296 + u) / y + 1 ≤ q := by
  have := h.ge
  rcases ht with ht | ht
  · have := dg_top hU hu
    omega
  · have a := h.e
    have b := dg_split y q
    refine (Nat.div_lt_iff_lt_mul (by omega)).2 ?_
    rw [b]
    generalize q * (y / 4294967296) = z at *
    omega
theorem Dg.done (h : Dg U y u q r) (hU : U < y) (ht : q * (y % 4294967296) ≤ 4294967296 * r + u) : q = (U * 4294967296 + u) / y := by
  refine Nat.le_antisymm ?_ h.ge
  rw [Nat.le_div_iff_mul_le (by omega), dg_split y q]
  have a := h.e
  generalize q * (y / 4294967296) = z at *
  omega
theorem Dg.next (h : Dg U y u q r) (hU : U < y) (hu : u < 4294967296) (ht : 4294967296 ≤ q ∨ 4294967296 * r + u < q * (y % 4294967296)) (hr : r + y / 4294967296 < 4294967296) : Dg U y u (q - 1) (r + y / 4294967296) := by
  have h1 := h.more hU hu ht
  have hq : 0 < q := Nat.lt_of_lt_of_le (Nat.succ_pos _) h1
  have h2 := h.le
  have h3 := h.e
  refine ⟨?_, by omega, by omega, hr⟩
  rw [Nat.sub_mul, Nat.one_mul]
  have : y / 4294967296 ≤ q * (y / 4294967296) := Nat.le_mul_of_pos_left _ hq
  omega
theorem Dg.last (h : Dg U y u q r) (hU : U < y) (hu : u < 4294967296) (ht : 4294967296 ≤ q ∨ 4294967296 * r + u < q * (y % 4294967296)) (hr : ¬ r + y / 4294967296 < 4294967296) : q - 1 = (U * 4294967296 + u) / y := by
  have h1 := h.more hU hu ht
  have hq : 0 < q := Nat.lt_of_lt_of_le (Nat.succ_pos _) h1
  have h2 := h.le
  have h3 := h.e
  refine Nat.le_antisymm ?_ (by omega)
  rw [Nat.le_div_iff_mul_le (by omega), dg_split y (q - 1)]
  have a : (q - 1) * (y % 4294967296) ≤ 4294967296 * (y % 4294967296) := Nat.mul_le_mul_right _ (by omega)
  have b : (q - 1) * (y / 4294967296) + (r + y / 4294967296) = U := by
    rw [Nat.sub_mul, Nat.one_mul]
    have : y / 4294967296 ≤ q * (y / 4294967296) := Nat.le_mul_of_pos_left _ hq
    omega
  generalize (q - 1) * (y / 4294967296) = z at *
  omega
end
/-- What is left behind a digit. -/
theorem dg_rest (U y u : Nat) : U * 4294967296 + u - (U * 4294967296 + u) / y * y = (U * 4294967296 + u) % y := by
  have := Nat.div_add_mod (U * 4294967296 + u) y
  rw [Nat.mul_comm] at this
  omega
/-- Two digits. -/
theorem dg_two {U y u v : Nat} (hy : 0 < y) : (U * 4294967296 + u) / y * 4294967296 + ((U * 4294967296 + u) % y * 4294967296 + v) / y = ((U * 4294967296 + u) * 4294967296 + v) / y := by
  have := Nat.div_add_mod (U * 4294967296 + u) y
  conv => rhs; rw [← this]
  rw [show (y * ((U * 4294967296 + u) / y) + (U * 4294967296 + u) % y) * 4294967296 + v = (U * 4294967296 + u) % y * 4294967296 + v + y * ((U * 4294967296 + u) / y * 4294967296) by grind, Nat.add_mul_div_left _ _ hy]
  omega
/-- The shifted dividend has the same quotient. -/
theorem dg_shift {hi lo y s : Nat} (hy : 0 < y) : ((hi * 18446744073709551616 + lo) * 2 ^ s) / (y * 2 ^ s) = (hi * 18446744073709551616 + lo) / y :=
  Nat.mul_div_mul_right _ _ (Nat.two_pow_pos s)
end Go.Proofs.Ytldchncnadllpaa
