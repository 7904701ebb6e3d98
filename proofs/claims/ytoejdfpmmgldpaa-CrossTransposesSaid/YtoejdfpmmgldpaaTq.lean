/- The residual of the transposed matrix: plain facts; a matrix of the call's own can be read. No conditions but those of each theorem. -/
import Derived.Test.YtoejdfpmmgldpaaTp
namespace Go.Proofs.Ytoejdfpmmgldpaa
set_option linter.unusedVariables false
set_option linter.unusedSimpArgs false
open Go.RowKit Go.Deep
theorem valE_of {n : Nat} {m : Nat → Nat} {f : Nat → Nat → Int} (h1 : 1 ≤ n ∧ n ≤ 6) (h2 : 1 ≤ m 0 ∧ m 0 ≤ 6) (h3 : ∀ k, k < n → m k = m 0) (h4 : ∀ k, k < n → ∀ j, j < m 0 → -100 ≤ f k j ∧ f k j ≤ 100) : valE n m f = 0 := by
  unfold valE
  rw [if_pos h1]
  have hb : (List.range n).any (badRow m f) = false := any_range_false.2 fun k hk => bad_none (by rw [h3 k hk]; exact h2) (h3 k hk) (fun j hj => by
    rw [h3 k hk] at hj
    unfold badE
    rw [decide_eq_true (h4 k hk j hj)]
    rfl)
  rw [hb]
  rfl
section
variable {n : Nat} {m : Nat → Nat} {f : Nat → Nat → Int}
theorem val_flip (h : valE n m f = 0) : valE (m 0) (fun _ => n) (fun i j => f j i) = 0 := by
  obtain ⟨h1, h2, h3, h4⟩ := valE_0 h
  exact valE_of h2 h1 (fun _ _ => rfl) (fun k hk j hj => h4 j hj k hk)
theorem sub_flip (l : Nat) (f R C : Nat → Nat → Int) : D l (subF (fun i j => f j i) C R) = D l (subF f R C) := D_flip l (subF f R C)
theorem cho_flip (h : valE n m f = 0) (rl cl : Nat) (R C : Nat → Nat → Int) : choE (m 0) (fun _ => n) (fun i j => f j i) cl C rl R = choE n m f rl R cl C := by
  unfold choE
  rw [if_pos h, if_pos (val_flip h)]
  have e : (setB (m 0) cl C && (setB n rl R && cl == rl)) = (setB n rl R && (setB (m 0) cl C && rl == cl)) := by
    rw [show (cl == rl) = (rl == cl) by rw [Bool.eq_iff_iff]; simp; exact ⟨fun h => h.symm, fun h => h.symm⟩]
    cases setB (m 0) cl C <;> cases setB n rl R <;> rfl
  show (if (setB (m 0) cl C && (setB n rl R && cl == rl)) = true then (0 : Int) else 1) = _
  rw [e]
theorem opn_flip (h : valE n m f = 0) (rl cl : Nat) (R C : Nat → Nat → Int) : opnE (m 0) (fun _ => n) (fun i j => f j i) cl C rl R = opnE n m f rl R cl C := by
  unfold opnE
  rw [cho_flip h]
  by_cases hc : choE n m f rl R cl C = 0
  · obtain ⟨-, -, -, rfl⟩ := choE_0 hc
    rw [if_pos hc, if_pos hc, sub_flip]
  · rw [if_neg hc, if_neg hc]
theorem left_flip (l : Nat) (R C : Nat → Nat → Int) (i j : Int) : leftV (fun i j => f j i) l C R j i = leftV f l R C i j := by
  unfold leftV
  rw [Bool.or_comm, sub_flip]
theorem res_flip (h : valE n m f = 0) (rl cl : Nat) (R C : Nat → Nat → Int) (i j : Int) :
    resE (m 0) (fun _ => n) (fun i j => f j i) cl C rl R j i = resE n m f rl R cl C i j ∧ resN (m 0) (fun _ => n) (fun i j => f j i) cl C rl R j i = resN n m f rl R cl C i j ∧ resD (m 0) (fun _ => n) (fun i j => f j i) cl C rl R j i = resD n m f rl R cl C i j := by
  have hE : resE (m 0) (fun _ => n) (fun i j => f j i) cl C rl R j i = resE n m f rl R cl C i j := by
    unfold resE
    rw [opn_flip h]
    have e : (if (0 ≤ j ∧ j ≤ (m 0 : Int) - 1) ∧ (0 ≤ i ∧ i ≤ (n : Int) - 1) then (0 : Int) else 5) = (if (0 ≤ i ∧ i ≤ (n : Int) - 1) ∧ (0 ≤ j ∧ j ≤ (m 0 : Int) - 1) then 0 else 5) := by
      by_cases hq : (0 ≤ i ∧ i ≤ (n : Int) - 1) ∧ (0 ≤ j ∧ j ≤ (m 0 : Int) - 1)
      · rw [if_pos hq, if_pos ⟨hq.2, hq.1⟩]
      · rw [if_neg hq, if_neg (fun q => hq ⟨q.2, q.1⟩)]
    show (if opnE n m f rl R cl C = 0 then (if (0 ≤ j ∧ j ≤ (m 0 : Int) - 1) ∧ (0 ≤ i ∧ i ≤ (n : Int) - 1) then (0 : Int) else 5) else opnE n m f rl R cl C) = _
    rw [e]
  refine ⟨hE, ?_, ?_⟩
  · unfold resN
    rw [hE]
    by_cases h0 : resE n m f rl R cl C i j = 0
    · rw [if_pos h0, if_pos h0]
      have hc : opnE n m f rl R cl C = 0 := by
        unfold resE at h0
        split at h0
        · assumption
        · exact h0
      obtain ⟨-, -, -, rfl⟩ := choE_0 (opnE_0 hc).1
      rw [left_flip, sub_flip]
    · rw [if_neg h0, if_neg h0]
  · unfold resD
    rw [hE]
    by_cases h0 : resE n m f rl R cl C i j = 0
    · rw [if_pos h0, if_pos h0]
      have hc : opnE n m f rl R cl C = 0 := by
        unfold resE at h0
        split at h0
        · assumption
        · exact h0
      obtain ⟨-, -, -, rfl⟩ := choE_0 (opnE_0 hc).1
      rw [left_flip, sub_flip]
    · rw [if_neg h0, if_neg h0]
end
def capOf : Value → Nat
  | .slice _ _ c => c
  | _ => 0
/-- A matrix of the call's own can be read. -/
theorem OwnM.read {W wr : World} {base g N l : Nat} {V : Nat → Value} {f : Nat → Nat → Int} (h : OwnM W base g N V (fun _ => l) f wr) (hI : ∀ i, i < N → ∀ j, j < l → I64 (f i j)) : ∃ B cp, MatAt wr (some ⟨g, 0, none⟩) N B (fun _ => l) cp f := by
  have key : ∀ i, i < N → V i = .slice (sliceAt (V i)) l (capOf (V i)) ∧ l ≤ capOf (V i) ∧ capOf (V i) ≤ maxLen := by
    intro i hi
    have hr := h.r i hi
    obtain ⟨A, cp, e⟩ := own_slice2 hr
    rw [e] at hr ⊢
    exact ⟨rfl, own_caps hr⟩
  exact ⟨fun i => sliceAt (V i), fun i => capOf (V i), h.mat (fun i hi => (key i hi).1) (fun _ _ => rfl) (fun i hi => (key i hi).2) hI⟩
end Go.Proofs.Ytoejdfpmmgldpaa
