/- Plain facts: a step of reading a notebook, as the program and as the reference take it. Conditions: those of each theorem. -/
import Derived.Test.YtnbjealpcjfllaaGreatDoorBk
namespace Go.Proofs.YtnbjealpcjfllaaGreatDoor
set_option linter.unusedVariables false
set_option linter.unusedSimpArgs false
theorem idx_none {c : UInt8} : ∀ {l : List UInt8}, brk c l = none → Lib.index l [c] = -1
  | [], _ => rfl
  | x :: l, h => by
    have h : (if x = c then some ([], l) else (brk c l).map fun r => (x :: r.1, r.2)) = none := h
    by_cases hx : x = c
    · rw [if_pos hx] at h; cases h
    · rw [if_neg hx] at h
      have hb : brk c l = none := by
        cases hq : brk c l with
        | none => rfl
        | some r => rw [hq] at h; cases h
      unfold Lib.index
      rw [if_neg (by simp [Ne.symm hx]), idx_none hb]
      rfl
theorem idx_some {c : UInt8} : ∀ (a b : List UInt8), c ∉ a → Lib.index (a ++ c :: b) [c] = a.length
  | [], b, _ => by
    unfold Lib.index
    simp
  | x :: a, b, h => by
    have hx : x ≠ c := fun e => h (by rw [e]; simp)
    have ih := idx_some a b (fun hm => h (List.mem_cons_of_mem _ hm))
    show Lib.index (x :: (a ++ c :: b)) [c] = _
    unfold Lib.index
    rw [if_neg (by simp [Ne.symm hx]), ih]
    have e : (((a.length : Int) == -1) = true) = False := by simp
    rw [if_neg (by rw [e]; exact id)]
    simp
theorem cut_none {c : UInt8} {l : List UInt8} (h : brk c l = none) : Lib.cut l [c] = (l, [], false) := by
  unfold Lib.cut
  rw [idx_none h, if_neg (by omega)]
theorem cut_some {c : UInt8} {l a b : List UInt8} (h : brk c l = some (a, b)) : Lib.cut l [c] = (a, b, true) := by
  obtain ⟨rfl, hn⟩ := brk_some h
  unfold Lib.cut
  rw [idx_some a b hn, if_pos (by omega)]
  simp
/-- One step of reading, as the program takes it. -/
def stepC (s : Int) (r : List UInt8) : Bool :=
  (Lib.cut r [10]).2.2 && (Lib.cut (Lib.cut r [10]).1 [32]).2.2 && rightB (Lib.cut (Lib.cut r [10]).1 [32]).2.1 && Lib.hasPrefix r (lineB s (Lib.cut (Lib.cut r [10]).1 [32]).2.1)
theorem stepC_yes {s : Int} {r : List UInt8} (h : stepC s r = true) : stepB s r = some ((Lib.cut (Lib.cut r [10]).1 [32]).2.1, r.drop (lineB s (Lib.cut (Lib.cut r [10]).1 [32]).2.1).length) := by
  unfold stepC at h
  simp only [Bool.and_eq_true] at h
  obtain ⟨⟨-, h3⟩, h4⟩ := h
  obtain ⟨o, ho⟩ : ∃ o, (Lib.cut (Lib.cut r [10]).1 [32]).2.1 = o := ⟨_, rfl⟩
  rw [ho] at h3 h4 ⊢
  obtain ⟨t, ht⟩ := List.isPrefixOf_iff_prefix.1 h4
  have := step_line h3 (s := s) t
  rw [ht] at this
  rw [this, ← ht, List.drop_left]
theorem stepC_no {s : Int} {r : List UInt8} (h : stepC s r = false) : stepB s r = none := by
  cases hb : stepB s r with
  | none => rfl
  | some p =>
    obtain ⟨o, t⟩ := p
    obtain ⟨e1, e2⟩ := step_some hb
    obtain ⟨h10, -⟩ := right_no e2
    have b1 : brk 10 r = some (Lib.itoa (sumB s o) ++ 32 :: o, t) := by
      rw [e1, show lineB s o ++ t = (Lib.itoa (sumB s o) ++ 32 :: o) ++ 10 :: t by unfold lineB; simp]
      exact brk_app t (by
        simp only [List.mem_append, List.mem_cons, not_or]
        exact ⟨itoa_noline _, by decide, h10⟩)
    have b2 : brk 32 (Lib.itoa (sumB s o) ++ 32 :: o) = some (Lib.itoa (sumB s o), o) := brk_app o (itoa_nospace _)
    have c1 := cut_some b1
    have c2 := cut_some b2
    exfalso
    have : stepC s r = true := by
      unfold stepC
      rw [c1]
      simp only [c2, e2, Bool.true_and, Bool.and_true]
      exact List.isPrefixOf_iff_prefix.2 ⟨t, e1.symm⟩
    rw [this] at h
    cases h
theorem readB_yes {k : Nat} {s : Int} {r o t : List UInt8} (h : stepB s r = some (o, t)) : readB (k + 1) s r = (o :: (readB k (sumB s o) t).1, (readB k (sumB s o) t).2) := by
  show (match stepB s r with
    | none => ([], r)
    | some (o, r) => (o :: (readB k (sumB s o) r).1, (readB k (sumB s o) r).2)) = _
  rw [h]
theorem readB_no {k : Nat} {s : Int} {r : List UInt8} (h : stepB s r = none) : readB (k + 1) s r = ([], r) := by
  show (match stepB s r with
    | none => ([], r)
    | some (o, r) => (o :: (readB k (sumB s o) r).1, (readB k (sumB s o) r).2)) = _
  rw [h]
end Go.Proofs.YtnbjealpcjfllaaGreatDoor
