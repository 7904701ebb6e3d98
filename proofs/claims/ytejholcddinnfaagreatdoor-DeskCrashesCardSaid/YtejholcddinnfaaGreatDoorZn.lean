/- The square root by bits, and twins of the functions of capacities that take it as an argument: for evaluating at a closed input. No conditions. The capacity of the smallest octahedron with even charges at depth 0. No conditions. -/
import Derived.Test.YtejholcddinnfaaGreatDoorZe
import Derived.Test.YtejholcddinnfaaGreatDoorZa
import Derived.KernelRfl
namespace Go.Proofs.YtejholcddinnfaaGreatDoor
set_option linter.unusedVariables false
set_option linter.unusedSimpArgs false
def isqF : Nat → Nat → Nat → Nat
  | 0, _, k => k
  | b + 1, n, k => if (k + 2 ^ b) * (k + 2 ^ b) ≤ n then isqF b n (k + 2 ^ b) else isqF b n k
theorem isqF_spec : ∀ (b n k : Nat), k * k ≤ n → n < (k + 2 ^ b) * (k + 2 ^ b) → isqF b n k * isqF b n k ≤ n ∧ n < (isqF b n k + 1) * (isqF b n k + 1)
  | 0, n, k, h1, h2 => ⟨h1, h2⟩
  | b + 1, n, k, h1, h2 => by
    unfold isqF
    split
    · rename_i h
      refine isqF_spec b n _ h ?_
      have e : k + 2 ^ b + 2 ^ b = k + 2 ^ (b + 1) := by rw [Nat.pow_succ]; omega
      rw [e]
      exact h2
    · rename_i h
      exact isqF_spec b n k h1 (by omega)
def isqN (n : Nat) : Nat := isqF (n.log2 / 2 + 1) n 0
theorem isqN_spec (n : Nat) : isqN n * isqN n ≤ n ∧ n < (isqN n + 1) * (isqN n + 1) := by
  refine isqF_spec _ n 0 (by omega) ?_
  have h : n < 2 ^ (n.log2 + 1) := Nat.lt_log2_self
  have e : (0 + 2 ^ (n.log2 / 2 + 1)) * (0 + 2 ^ (n.log2 / 2 + 1)) = 2 ^ (2 * (n.log2 / 2 + 1)) := by
    rw [Nat.zero_add, ← Nat.pow_add]
    congr 1
    omega
  rw [e]
  exact Nat.lt_of_lt_of_le h (Nat.pow_le_pow_right (by omega) (by omega))
def isqS (n : Int) : Int := isqN n.toNat
theorem sqrt_isq : sqrtS = isqS := by
  funext n
  by_cases h : 0 ≤ n
  · obtain ⟨h1, h2⟩ := isqN_spec n.toNat
    have e : ((n.toNat : Nat) : Int) = n := Int.toNat_of_nonneg h
    refine (sqrtS_unique (show 0 ≤ isqS n by unfold isqS; omega) ?_ ?_).symm
    · unfold isqS
      rw [← Int.natCast_mul]
      omega
    · unfold isqS
      have : ((isqN n.toNat : Int) + 1) * ((isqN n.toNat : Int) + 1) = (((isqN n.toNat + 1) * (isqN n.toNat + 1) : Nat) : Int) := by simp
      rw [this]
      omega
  · have e : n.toNat = 0 := by omega
    unfold sqrtS isqS
    rw [e]
    rfl
def invSG (sq : Int → Int) (t n : Int) : R := if sq (t / n) * sq (t / n) * n = t then resultS (sq (t / n)) (sq (t / n)) else resultS (sq (t / n)) (sq (t / n) + 1)
def inverseSG (sq : Int → Int) (n s : Int) : R := if (1 ≤ n ∧ n ≤ 1099511627776) ∧ (1 ≤ s ∧ s ≤ 8) then invSG sq (s * s * 1099511627776) n else ⟨0, 0, 1⟩
def lenSG (sq : Int → Int) (n : Int) : R := if 0 ≤ n ∧ n ≤ 1099511627776 then (if sq (n * 1099511627776) * sq (n * 1099511627776) = n * 1099511627776 then resultS (sq (n * 1099511627776)) (sq (n * 1099511627776)) else resultS (sq (n * 1099511627776)) (sq (n * 1099511627776) + 1)) else ⟨0, 0, 1⟩
def rimNG (sq : Int → Int) (t : Int) (d : Nat) : Int := if sq (1099511627776 * 3217 * 4 ^ d / (128 * sq t)) * sq (1099511627776 * 3217 * 4 ^ d / (128 * sq t)) * (128 * sq t) < 1099511627776 * 3217 * 4 ^ d then sq (1099511627776 * 3217 * 4 ^ d / (128 * sq t)) + 1 else sq (1099511627776 * 3217 * 4 ^ d / (128 * sq t))
def lowPG (sq : Int → Int) (d : Nat) (q x : Pn) : Int := (inverseSG sq (farI x.at q.at 3 3) (2 ^ d)).lo
def higPG (sq : Int → Int) (d : Nat) (r : Int) (q x : Pn) : Int := if 0 < nearP x.at 3 q.at 3 then min r (inverseSG sq (nearP x.at 3 q.at 3) (2 ^ d)).hi else r
def seenSG (sq : Int → Int) (d : Nat) (p q : Pn) : R := partS (sumP (lowPG sq d q) (cutL d p)) (sumP (higPG sq d (rimNG sq p.nn d) q) (cutL d p)) (4 ^ d)
def betPG (sq : Int → Int) (d : Nat) (p q : Pn) : R := seenSG sq d p (q.mul (2 ^ d))
def mutPG (sq : Int → Int) (d : Nat) (p q : Pn) : R := meanS (4 ^ d) (fun k => (seenSG sq d p ((cutL d q).getD k default)).lo) (fun k => (seenSG sq d p ((cutL d q).getD k default)).hi)
def potRG (sq : Int → Int) (P F : Nat → Nat → Int) (d m : Nat) (c : Nat → Int) (j : Nat) : R := addR (fun i => betPG sq d (pnlF P F i) (pnlF P F j)) c m
def potLG (sq : Int → Int) (P F : Nat → Nat → Int) (d m : Nat) (c : Nat → Int) : Nat → Int
  | 0 => 0
  | j + 1 => if potLG sq P F d m c j ≠ 0 then potLG sq P F d m c j else (potRG sq P F d m c j).e
def enRG (sq : Int → Int) (P F : Nat → Nat → Int) (d m : Nat) (c : Nat → Int) : R := addR (fun k => mutPG sq d (pnlF P F (k / m)) (pnlF P F (k % m))) (fun k => c (k / m) * c (k % m)) (m * m)
def belNG (sq : Int → Int) (P F : Nat → Nat → Int) (d m : Nat) (c : Nat → Int) : Int := sumC c m * 1048576 * 1048576 / mostF (fun j => (potRG sq P F d m c j).hi) m
def aboNG (sq : Int → Int) (P F : Nat → Nat → Int) (d m : Nat) (c : Nat → Int) : Int := (sumC c m * 1048576 * 1048576 + leastF (fun j => (potRG sq P F d m c j).lo) m - 1) / leastF (fun j => (potRG sq P F d m c j).lo) m
def thoNG (sq : Int → Int) (P F : Nat → Nat → Int) (d m : Nat) (c : Nat → Int) : Int := sumC c m * 1048576 * 1048576 / (((enRG sq P F d m c).hi + sumC c m - 1) / sumC c m)
def ballVG (sq : Int → Int) (n : Nat) (P : Nat → Nat → Int) : Int := (lenSG sq (farB P ((boxLo P 0 n + boxHi P 0 n) / 2) ((boxLo P 1 n + boxHi P 1 n) / 2) ((boxLo P 2 n + boxHi P 2 n) / 2) n)).hi
def bndRG (sq : Int → Int) (n : Nat) (P : Nat → Nat → Int) (m : Nat) (F : Nat → Nat → Int) (d : Nat) (c : Nat → Int) : R :=
  if potLG sq P F d m c m ≠ 0 then ⟨0, 0, potLG sq P F d m c m⟩
  else if limE (belNG sq P F d m c) ≠ 0 then ⟨0, 0, limE (belNG sq P F d m c)⟩
  else if (enRG sq P F d m c).e ≠ 0 then ⟨0, 0, (enRG sq P F d m c).e⟩
  else if limE (thoNG sq P F d m c) ≠ 0 then ⟨0, 0, limE (thoNG sq P F d m c)⟩
  else if limE (aboNG sq P F d m c) ≠ 0 then ⟨0, 0, limE (aboNG sq P F d m c)⟩
  else ⟨max (belNG sq P F d m c) (thoNG sq P F d m c), min (aboNG sq P F d m c) (ballVG sq n P), 0⟩
theorem potL_twin (P F : Nat → Nat → Int) (d m : Nat) (c : Nat → Int) : ∀ k, potL P F d m c k = potLG sqrtS P F d m c k
  | 0 => rfl
  | k + 1 => by
    unfold potL potLG
    rw [potL_twin P F d m c k]
    rfl
theorem bnd_twin (n : Nat) (P : Nat → Nat → Int) (m : Nat) (F : Nat → Nat → Int) (d : Nat) (c : Nat → Int) : bndR n P m F d c = bndRG sqrtS n P m F d c := by
  unfold bndR bndRG
  rw [potL_twin]
  rfl
end Go.Proofs.YtejholcddinnfaaGreatDoor

namespace Go.Proofs.YtejholcddinnfaaGreatDoor
set_option linter.unusedVariables false
set_option linter.unusedSimpArgs false
theorem octa_bnd : bndR 6 (octaP 1) 8 octaF 0 (fun _ => 1) = ⟨209160, 1048576, 0⟩ := by
  rw [bnd_twin, sqrt_isq]
  kernel_rfl
end Go.Proofs.YtejholcddinnfaaGreatDoor

