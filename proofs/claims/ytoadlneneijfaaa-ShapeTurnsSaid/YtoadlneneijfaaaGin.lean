/- A mesh that is turned or mirrored is valid as it was. No conditions but those of each theorem. -/
import Derived.Test.YtoadlneneijfaaaGcm
namespace Go.Proofs.Ytoadlneneijfaaa
set_option linter.unusedVariables false
set_option linter.unusedSimpArgs false
open Go.RowKit
theorem valid_of {n m : Nat} {P F P' F' : Nat → Nat → Int} (h : validE n P m F = 0) (hb : ptsBad P' n = false) (hf : ∀ i, i < m → faceE n P' F' i = 0) (ho : openB F' m = openB F m) (hl : looseB F' m n = looseB F m n) (hv : vol P' F' m = vol P F m) : validE n P' m F' = 0 := by
  obtain ⟨h1, h2, -, -, h5, h6, h7⟩ := validE_ok h
  rw [validE_v h1 h2 hb (facesE_zero hf) (by rw [ho, h5]) (by rw [hl, h6]), hv, if_neg (by omega)]
theorem pts_of {n : Nat} {P P' : Nat → Nat → Int} (h : ptsBad P n = false) (hi : ∀ i, i < n → inB (P i 0) (P i 1) (P i 2) 64 = true → inB (P' i 0) (P' i 1) (P' i 2) 64 = true) (he : ∀ i k, i < n → k < i → eqPt P' i k = true → eqPt P i k = true) : ptsBad P' n = false := by
  refine any_false fun i hin => ?_
  have := of_any_false h i hin
  unfold ptBad at this ⊢
  rw [Bool.or_eq_false_iff] at this ⊢
  refine ⟨?_, any_false fun k hk => ?_⟩
  · have a := this.1
    simp only [Bool.not_eq_false'] at a ⊢
    exact hi i hin a
  · have b := of_any_false this.2 k hk
    cases hc : eqPt P' i k with
    | false => rfl
    | true => rw [he i k hin hk hc] at b; cases b
theorem inB_of {x y z m : Int} (h : -m ≤ x ∧ x ≤ m ∧ -m ≤ y ∧ y ≤ m ∧ -m ≤ z ∧ z ≤ m) : inB x y z m = true := by
  unfold inB frB
  simp only [Bool.and_eq_true, decide_eq_true_eq]
  omega
theorem face_of {n m i : Nat} {P F P' F' : Nat → Nat → Int} (h : validE n P m F = 0) (hi : i < m) (hc : cornB n F i = true → cornB n F' i = true) (hf : flatB P' F' i = true → flatB P F i = true) : faceE n P' F' i = 0 := by
  obtain ⟨-, -, -, h4, -⟩ := validE_ok h
  obtain ⟨c, f⟩ := faceE_0 (facesE_at h4 i hi)
  unfold faceE
  rw [if_pos (hc c), if_neg]
  intro q
  rw [hf q] at f
  cases f
theorem vol_of {P F P' F' : Nat → Nat → Int} : ∀ {m : Nat}, (∀ i, i < m → prF P' F' i = prF P F i) → vol P' F' m = vol P F m
  | 0, _ => rfl
  | m + 1, h => by
    unfold vol
    rw [vol_of fun i hi => h i (by omega), h m (by omega)]
theorem flat_iff (P F : Nat → Nat → Int) (i : Nat) : flatB P F i = true ↔ (nX (co P F i 0 0) (co P F i 0 1) (co P F i 0 2) (co P F i 1 0) (co P F i 1 1) (co P F i 1 2) (co P F i 2 0) (co P F i 2 1) (co P F i 2 2) = 0 ∧
    nY (co P F i 0 0) (co P F i 0 1) (co P F i 0 2) (co P F i 1 0) (co P F i 1 1) (co P F i 1 2) (co P F i 2 0) (co P F i 2 1) (co P F i 2 2) = 0 ∧
    nZ (co P F i 0 0) (co P F i 0 1) (co P F i 0 2) (co P F i 1 0) (co P F i 1 1) (co P F i 1 2) (co P F i 2 0) (co P F i 2 1) (co P F i 2 2) = 0) := by
  unfold flatB
  exact decide_eq_true_iff
/-- A turned mesh. -/
theorem turn_co (P F : Nat → Nat → Int) (i k : Nat) : co (turnP P) F i k 0 = -co P F i k 1 ∧ co (turnP P) F i k 1 = co P F i k 0 ∧ co (turnP P) F i k 2 = co P F i k 2 := ⟨rfl, rfl, rfl⟩
theorem turn_valid {n m : Nat} {P F : Nat → Nat → Int} (h : validE n P m F = 0) : validE n (turnP P) m F = 0 := by
  obtain ⟨-, -, h3, -⟩ := validE_ok h
  refine valid_of h (pts_of h3 ?_ ?_) (fun i hi => face_of h hi id ?_) rfl rfl (vol_of fun i hi => ?_)
  · intro i hi hb
    have := inB_true hb
    refine inB_of ?_
    simp only [turnP, if_true, if_false, Nat.one_ne_zero, Nat.reduceEqDiff]
    omega
  · intro i k _ _ he
    unfold eqPt at he ⊢
    simp only [turnP, Bool.and_eq_true, decide_eq_true_eq, if_true, if_false, Nat.one_ne_zero, Nat.reduceEqDiff] at he ⊢
    omega
  · rw [flat_iff, flat_iff]
    rw [(turn_co P F i 0).1, (turn_co P F i 0).2.1, (turn_co P F i 0).2.2, (turn_co P F i 1).1, (turn_co P F i 1).2.1, (turn_co P F i 1).2.2, (turn_co P F i 2).1, (turn_co P F i 2).2.1, (turn_co P F i 2).2.2]
    generalize co P F i 0 0 = p0, co P F i 0 1 = p1, co P F i 0 2 = p2, co P F i 1 0 = p3, co P F i 1 1 = p4, co P F i 1 2 = p5, co P F i 2 0 = p6, co P F i 2 1 = p7, co P F i 2 2 = p8
    rintro ⟨e0, e1, e2⟩
    refine ⟨?_, ?_, ?_⟩
    · rw [← e1]; unfold nX nY; grind
    · have : nY p0 p1 p2 p3 p4 p5 p6 p7 p8 = -nX (-p1) p0 p2 (-p4) p3 p5 (-p7) p6 p8 := by unfold nX nY; grind
      rw [this, e0]; rfl
    · rw [← e2]; unfold nZ; grind
  · unfold prF
    rw [(turn_co P F i 0).1, (turn_co P F i 0).2.1, (turn_co P F i 0).2.2, (turn_co P F i 1).1, (turn_co P F i 1).2.1, (turn_co P F i 1).2.2, (turn_co P F i 2).1, (turn_co P F i 2).2.1, (turn_co P F i 2).2.2]
    unfold pr9
    grind
/-- A mirrored mesh. -/
theorem mir_co (P F : Nat → Nat → Int) (i : Nat) : (co (mirP P) (mirF F) i 0 0 = -co P F i 0 0 ∧ co (mirP P) (mirF F) i 0 1 = co P F i 0 1 ∧ co (mirP P) (mirF F) i 0 2 = co P F i 0 2) ∧
    (co (mirP P) (mirF F) i 1 0 = -co P F i 2 0 ∧ co (mirP P) (mirF F) i 1 1 = co P F i 2 1 ∧ co (mirP P) (mirF F) i 1 2 = co P F i 2 2) ∧
    (co (mirP P) (mirF F) i 2 0 = -co P F i 1 0 ∧ co (mirP P) (mirF F) i 2 1 = co P F i 1 1 ∧ co (mirP P) (mirF F) i 2 2 = co P F i 1 2) := ⟨⟨rfl, rfl, rfl⟩, ⟨rfl, rfl, rfl⟩, rfl, rfl, rfl⟩
theorem ind_rev (a b p q : Int) : ind a b p q = ind b a q p := by
  unfold ind
  by_cases h : a = p ∧ b = q
  · rw [if_pos h, if_pos ⟨h.2, h.1⟩]
  · rw [if_neg h, if_neg fun e => h ⟨e.2, e.1⟩]
theorem mir_cnt (F : Nat → Nat → Int) (p q : Int) : ∀ m : Nat, cnt (mirF F) m p q = cnt F m q p
  | 0 => rfl
  | m + 1 => by
    unfold cnt
    rw [mir_cnt F p q m, show mirF F m 0 = F m 0 from rfl, show mirF F m 1 = F m 2 from rfl, show mirF F m 2 = F m 1 from rfl, ind_rev (F m 0) (F m 2) p q, ind_rev (F m 2) (F m 1) p q, ind_rev (F m 1) (F m 0) p q]
    omega
theorem side_sym (F : Nat → Nat → Int) (m : Nat) (p q : Int) : sideBad F m p q = sideBad F m q p := by
  unfold sideBad
  exact Bool.or_comm _ _
theorem mir_side (F : Nat → Nat → Int) (m : Nat) (p q : Int) : sideBad (mirF F) m p q = sideBad F m p q := by
  rw [side_sym F]
  unfold sideBad
  rw [mir_cnt, mir_cnt]
theorem any_congr {n : Nat} {f g : Nat → Bool} (h : ∀ k, k < n → f k = g k) : (List.range n).any f = (List.range n).any g := by
  cases hg : (List.range n).any g with
  | false => exact any_false fun k hk => by rw [h k hk]; exact of_any_false hg k hk
  | true =>
    obtain ⟨k, hk, e⟩ := List.any_eq_true.1 hg
    exact any_true (List.mem_range.1 hk) (by rw [h k (List.mem_range.1 hk)]; exact e)
theorem mir_open (F : Nat → Nat → Int) (m : Nat) : openB (mirF F) m = openB F m := by
  unfold openB
  refine any_congr fun i _ => ?_
  unfold fOpen
  rw [mir_side, mir_side, mir_side, show mirF F i 0 = F i 0 from rfl, show mirF F i 1 = F i 2 from rfl, show mirF F i 2 = F i 1 from rfl, side_sym F m (F i 0) (F i 2), side_sym F m (F i 2) (F i 1), side_sym F m (F i 1) (F i 0)]
  cases sideBad F m (F i 2) (F i 0) <;> cases sideBad F m (F i 1) (F i 2) <;> cases sideBad F m (F i 0) (F i 1) <;> rfl
theorem mir_loose (F : Nat → Nat → Int) (m n : Nat) : looseB (mirF F) m n = looseB F m n := by
  unfold looseB
  refine any_congr fun p _ => ?_
  unfold usedB
  congr 1
  refine any_congr fun i _ => ?_
  rw [show mirF F i 0 = F i 0 from rfl, show mirF F i 1 = F i 2 from rfl, show mirF F i 2 = F i 1 from rfl]
  rw [Bool.or_comm (decide (F i 2 = ↑p))]
theorem mir_valid {n m : Nat} {P F : Nat → Nat → Int} (h : validE n P m F = 0) : validE n (mirP P) m (mirF F) = 0 := by
  obtain ⟨-, -, h3, -⟩ := validE_ok h
  refine valid_of h (pts_of h3 ?_ ?_) (fun i hi => face_of h hi ?_ ?_) (mir_open F m) (mir_loose F m n) (vol_of fun i hi => ?_)
  · intro i hi hb
    have := inB_true hb
    refine inB_of ?_
    simp only [mirP, if_true, if_false, Nat.one_ne_zero, Nat.reduceEqDiff]
    omega
  · intro i k _ _ he
    unfold eqPt at he ⊢
    simp only [mirP, Bool.and_eq_true, decide_eq_true_eq, if_true, if_false, Nat.one_ne_zero, Nat.reduceEqDiff] at he ⊢
    omega
  · intro hc
    obtain ⟨c0, c1, c2⟩ := cornB_true hc
    unfold cornB
    simp only [Bool.and_eq_true, decide_eq_true_eq]
    exact ⟨c0, c2, c1⟩
  · rw [flat_iff, flat_iff]
    obtain ⟨⟨a0, a1, a2⟩, ⟨b0, b1, b2⟩, d0, d1, d2⟩ := mir_co P F i
    rw [a0, a1, a2, b0, b1, b2, d0, d1, d2]
    generalize co P F i 0 0 = p0, co P F i 0 1 = p1, co P F i 0 2 = p2, co P F i 1 0 = p3, co P F i 1 1 = p4, co P F i 1 2 = p5, co P F i 2 0 = p6, co P F i 2 1 = p7, co P F i 2 2 = p8
    rintro ⟨e0, e1, e2⟩
    refine ⟨?_, ?_, ?_⟩
    · have : nX p0 p1 p2 p3 p4 p5 p6 p7 p8 = -nX (-p0) p1 p2 (-p6) p7 p8 (-p3) p4 p5 := by unfold nX; grind
      rw [this, e0]; rfl
    · rw [← e1]; unfold nY; grind
    · rw [← e2]; unfold nZ; grind
  · unfold prF
    obtain ⟨⟨a0, a1, a2⟩, ⟨b0, b1, b2⟩, d0, d1, d2⟩ := mir_co P F i
    rw [a0, a1, a2, b0, b1, b2, d0, d1, d2]
    unfold pr9
    grind
theorem turn4 (P : Nat → Nat → Int) : ∀ i j, j < 3 → turnP (turnP (turnP (turnP P))) i j = P i j := by
  intro i j hj
  rcases (show j = 0 ∨ j = 1 ∨ j = 2 by omega) with rfl | rfl | rfl <;> simp [turnP]
theorem mir2 (P : Nat → Nat → Int) : ∀ i j, j < 3 → mirP (mirP P) i j = P i j := by
  intro i j hj
  rcases (show j = 0 ∨ j = 1 ∨ j = 2 by omega) with rfl | rfl | rfl <;> simp [mirP]
theorem mirF2 (F : Nat → Nat → Int) : ∀ i j, j < 3 → mirF (mirF F) i j = F i j := by
  intro i j hj
  rcases (show j = 0 ∨ j = 1 ∨ j = 2 by omega) with rfl | rfl | rfl <;> simp [mirF]
theorem turn_e {n m : Nat} {P F : Nat → Nat → Int} : chgE n P m F false (turnP P) F = validE n P m F := by
  unfold chgE
  by_cases h : validE n P m F = 0
  · rw [if_neg (by simpa using h), if_neg (by simp), turn_valid h, h]
  · rw [if_pos h]
theorem mir_e {n m : Nat} {P F : Nat → Nat → Int} : chgE n P m F false (mirP P) (mirF F) = validE n P m F := by
  unfold chgE
  by_cases h : validE n P m F = 0
  · rw [if_neg (by simpa using h), if_neg (by simp), mir_valid h, h]
  · rw [if_pos h]
end Go.Proofs.Ytoadlneneijfaaa
