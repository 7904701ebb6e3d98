/- Which face has which side: plain facts. Conditions: those of each theorem. -/
import Derived.Test.YtoadlneneijfaaaBfs
import Derived.Test.YtoadlneneijfaaaGln
namespace Go.Proofs.Ytoadlneneijfaaa
set_option linter.unusedVariables false
set_option linter.unusedSimpArgs false
/-- The face of the last of the first sides that is s. -/
def ownF (F : Nat → Nat → Int) : Nat → Int × Int → Int
  | 0 => fun _ => 0
  | a + 1 => fun s => if s = (tl F a, tl F (nxt a)) then ((a / 3 : Nat) : Int) else ownF F a s
theorem Oth.one {F : Nat → Nat → Int} {al : Nat → Nat} {m : Nat} (h : Oth F al m) {a b : Nat} (ha : a < 3 * m) (hb : b < 3 * m) (h1 : tl F a = tl F b) (h2 : tl F (nxt a) = tl F (nxt b)) : a = b := by
  obtain ⟨k1, k2, k3⟩ := h.nb a ha
  have := h.un (al a) b k1 hb (by rw [k3]; exact h1.symm) (by rw [k2]; exact h2.symm)
  rw [this, h.inv a ha]
theorem ownF_at {F : Nat → Nat → Int} {al : Nat → Nat} {m : Nat} (h : Oth F al m) {a : Nat} : ∀ {r : Nat}, r ≤ 3 * m → a < r → ownF F r (tl F a, tl F (nxt a)) = ((a / 3 : Nat) : Int)
  | 0, _, k => by omega
  | r + 1, hr, k => by
    show (if (tl F a, tl F (nxt a)) = (tl F r, tl F (nxt r)) then ((r / 3 : Nat) : Int) else ownF F r (tl F a, tl F (nxt a))) = _
    by_cases e : a = r
    · subst e
      rw [if_pos rfl]
    · rw [if_neg (fun q => e (h.one (by omega) (by omega) (congrArg Prod.fst q) (congrArg Prod.snd q)))]
      exact ownF_at h (by omega) (by omega)
/-- The face beyond side a. -/
theorem ownF_back {F : Nat → Nat → Int} {al : Nat → Nat} {m : Nat} (h : Oth F al m) {a : Nat} (ha : a < 3 * m) : ownF F (3 * m) (tl F (nxt a), tl F a) = ((al a / 3 : Nat) : Int) := by
  obtain ⟨k1, k2, k3⟩ := h.nb a ha
  rw [← k2, ← k3]
  exact ownF_at h (Nat.le_refl _) k1
theorem own3 (F : Nat → Nat → Int) (k : Nat) : ownF F (3 * k + 1) = (fun s => if s = (F k 0, F k 1) then (k : Int) else ownF F (3 * k) s) ∧ ownF F (3 * k + 2) = (fun s => if s = (F k 1, F k 2) then (k : Int) else ownF F (3 * k + 1) s) ∧ ownF F (3 * (k + 1)) = (fun s => if s = (F k 2, F k 0) then (k : Int) else ownF F (3 * k + 2) s) := by
  have a0 := tl_at F k 0 (by omega)
  have a1 := tl_at F k 1 (by omega)
  have a2 := tl_at F k 2 (by omega)
  have n0 := nxt_at k 0 (by omega)
  have n1 := nxt_at k 1 (by omega)
  have n2 := nxt_at k 2 (by omega)
  simp only [Nat.add_zero, Nat.zero_add, show 1 % 3 = 1 from rfl, show (1 + 1) % 3 = 2 from rfl, show (2 + 1) % 3 = 0 from rfl] at a0 n0 n1 n2
  refine ⟨?_, ?_, ?_⟩
  · show (fun s => if s = (tl F (3 * k), tl F (nxt (3 * k))) then ((3 * k / 3 : Nat) : Int) else ownF F (3 * k) s) = _
    rw [a0, n0, a1, show 3 * k / 3 = k by omega]
  · show (fun s => if s = (tl F (3 * k + 1), tl F (nxt (3 * k + 1))) then (((3 * k + 1) / 3 : Nat) : Int) else ownF F (3 * k + 1) s) = _
    rw [a1, n1, a2, show (3 * k + 1) / 3 = k by omega]
  · show (fun s => if s = (tl F (3 * k + 2), tl F (nxt (3 * k + 2))) then (((3 * k + 2) / 3 : Nat) : Int) else ownF F (3 * k + 2) s) = _
    rw [a2, n2, a0, show (3 * k + 2) / 3 = k by omega]
end Go.Proofs.Ytoadlneneijfaaa
