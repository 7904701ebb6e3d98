/- Handles of a closed surface, as they are counted. Plain facts. Conditions: those of each theorem. -/
import Derived.Test.YtoadlneneijfaaaGlg
namespace Go.Proofs.Ytoadlneneijfaaa
set_option linter.unusedVariables false
set_option linter.unusedSimpArgs false
/-- What a valid mesh's faces are. -/
structure Clo (n m : Nat) (F : Nat → Nat → Int) : Prop where
  inn : ∀ i, i < m → ∀ k, k < 3 → 0 ≤ F i k ∧ F i k < n
  dis : ∀ i, i < m → F i 0 ≠ F i 1 ∧ F i 1 ≠ F i 2 ∧ F i 2 ≠ F i 0
  opn : openB F m = false
theorem clo_of {n m : Nat} {P F : Nat → Nat → Int} (h : validE n P m F = 0) : Clo n m F := by
  unfold validE at h
  split at h
  · omega
  split at h
  · omega
  rename_i h2
  split at h
  · omega
  rename_i h3
  split at h
  · omega
  rename_i h4
  have hf : ∀ i, i < m → faceE n P F i = 0 := facesE_at (by simpa using h3)
  refine ⟨fun i hi k hk => ?_, fun i hi => ?_, by simpa using h4⟩
  · have h5 := (faceE_0 (hf i hi)).1
    simp only [cornB, Bool.and_eq_true, decide_eq_true_eq] at h5
    rcases (show k = 0 ∨ k = 1 ∨ k = 2 by omega) with rfl | rfl | rfl <;> omega
  · have h5 := (faceE_0 (hf i hi)).2
    unfold flatB at h5
    rw [decide_eq_false_iff_not] at h5
    refine ⟨fun e => h5 ?_, fun e => h5 ?_, fun e => h5 ?_⟩
    · simp only [co, e, nX, nY, nZ]
      refine ⟨?_, ?_, ?_⟩ <;> grind
    · simp only [co, e, nX, nY, nZ]
      refine ⟨?_, ?_, ?_⟩ <;> grind
    · simp only [co, e, nX, nY, nZ]
      refine ⟨?_, ?_, ?_⟩ <;> grind
/-- The other sides of a closed surface. -/
structure Oth (F : Nat → Nat → Int) (al : Nat → Nat) (m : Nat) : Prop where
  nb : ∀ a, a < 3 * m → al a < 3 * m ∧ tl F (al a) = tl F (nxt a) ∧ tl F (nxt (al a)) = tl F a
  inv : ∀ a, a < 3 * m → al (al a) = a
  ne : ∀ a, a < 3 * m → al a ≠ a
  un : ∀ a b, a < 3 * m → b < 3 * m → tl F b = tl F (nxt a) → tl F (nxt b) = tl F a → b = al a
theorem Clo.oth {n m : Nat} {F : Nat → Nat → Int} (h : Clo n m F) : ∃ al, Oth F al m := by
  obtain ⟨al, h1, h2, h3, h4⟩ := sides_al h.opn h.dis
  exact ⟨al, h1, h2, h3, h4⟩
/-- Fans, parts and handles. -/
theorem Clo.handles {n m : Nat} {F : Nat → Nat → Int} {al : Nat → Nat} (h : Clo n m F) (ho : Oth F al m) : ∃ c p d : Nat, (∀ fan : Nat → Nat, (∀ v, v < n → GrN (selV F v) (adjV F al m v) m (fan v)) → sumN fan n = c) ∧ GrN (fun _ => True) (adjF al m) m p ∧ 2 * c + 4 * d = m + 4 * p := by
  obtain ⟨E, c, p, d, h1, h2, h3, h4, h5, h6, h7, h8⟩ := Go.Proofs.Ytoadlneneijfaaa.handles (fun a ha => (ho.nb a ha).1) ho.inv ho.ne
  exact ⟨c, p, d, fun fan hf => fans_of h.inn h.dis ho.nb ho.inv h5 h6 hf, parts_of (fun a ha => (ho.nb a ha).1) ho.inv h1 h2 h3 h4 h7, h8⟩
theorem hand_num {n m c p d : Nat} (h : 2 * c + 4 * d = m + 4 * p) : (2 * (p : Int) - ((n : Int) - ((3 * m / 2 : Nat) : Int) + m + ((c : Int) - n))).tdiv 2 = d := by
  have e : (2 * (p : Int) - ((n : Int) - ((3 * m / 2 : Nat) : Int) + m + ((c : Int) - n))) = 2 * (d : Int) := by omega
  rw [e]
  exact Int.mul_tdiv_cancel_left _ (by omega)
end Go.Proofs.Ytoadlneneijfaaa
