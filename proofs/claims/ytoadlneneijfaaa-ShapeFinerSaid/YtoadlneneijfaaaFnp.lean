/- A closed surface whose triangles are cut in four: points, faces, and how its sides are numbered. Plain facts. Conditions: those of each theorem. -/
import Derived.Test.YtoadlneneijfaaaUnp
namespace Go.Proofs.Ytoadlneneijfaaa
set_option linter.unusedVariables false
set_option linter.unusedSimpArgs false
/-- Side b comes ahead of its other. -/
def newB (al : Nat → Nat) (b : Nat) : Bool := decide (b < al b)
/-- How many points there are ahead of side a. -/
def npt (n : Nat) (al : Nat → Nat) (a : Nat) : Nat := n + cnB (newB al) a
/-- The number of the middle of side a. -/
def midN (n : Nat) (al : Nat → Nat) (a : Nat) : Nat := npt n al (min a (al a))
def finP (n m : Nat) (P F : Nat → Nat → Int) (al : Nat → Nat) : Nat → Nat → Int := fun i j =>
  if i < n then 2 * P i j else P (tl F (fsel (newB al) (3 * m) (i - n))).toNat j + P (tl F (nxt (fsel (newB al) (3 * m) (i - n)))).toNat j
/-- The corners of the four parts of a face. -/
def fin4 (f0 f1 f2 p q r : Int) (c j : Nat) : Int :=
  if c = 0 then (if j = 0 then f0 else if j = 1 then p else r) else if c = 1 then (if j = 0 then p else if j = 1 then f1 else q) else if c = 2 then (if j = 0 then r else if j = 1 then q else f2) else (if j = 0 then p else if j = 1 then q else r)
def finF (n : Nat) (F : Nat → Nat → Int) (al : Nat → Nat) : Nat → Nat → Int := fun x j =>
  fin4 (F (x / 4) 0) (F (x / 4) 1) (F (x / 4) 2) (midN n al (3 * (x / 4))) (midN n al (3 * (x / 4) + 1)) (midN n al (3 * (x / 4) + 2)) (x % 4) j
theorem cnB_inj {f : Nat → Nat} {M : Nat} {q : Nat → Bool} : ∀ {N : Nat} {p : Nat → Bool}, (∀ a, a < N → q a = true → f a < M ∧ p (f a) = true) → (∀ a b, a < N → b < N → q a = true → q b = true → f a = f b → a = b) → cnB q N ≤ cnB p M
  | 0, _, _, _ => Nat.zero_le _
  | N + 1, p, h1, h2 => by
    show cnB q N + (if q N = true then 1 else 0) ≤ _
    by_cases hq : q N = true
    · obtain ⟨k1, k2⟩ := h1 N (by omega) hq
      rw [if_pos hq, cnB_one (q := fun i => p i && !decide (i = f N)) k2 (by simp) k1 (fun i _ hi => by simp [hi])]
      have := cnB_inj (N := N) (p := fun i => p i && !decide (i = f N)) (fun a ha hqa => by
        obtain ⟨j1, j2⟩ := h1 a (by omega) hqa
        refine ⟨j1, ?_⟩
        have : f a ≠ f N := fun e => by
          have := h2 a N (by omega) (by omega) hqa hq e
          omega
        simp [j2, this]) (fun a b ha hb => h2 a b (by omega) (by omega))
      omega
    · rw [if_neg hq]
      exact cnB_inj (fun a ha => h1 a (by omega)) (fun a b ha hb => h2 a b (by omega) (by omega))
theorem cnB_not (p : Nat → Bool) : ∀ N, cnB p N + cnB (fun a => !p a) N = N
  | 0 => rfl
  | N + 1 => by
    have := cnB_not p N
    show cnB p N + (if p N = true then 1 else 0) + (cnB (fun a => !p a) N + (if (!p N) = true then 1 else 0)) = N + 1
    cases p N <;> simp <;> omega
theorem cnB_perm {s : Nat → Nat} {N : Nat} (h : Prm s N) (p : Nat → Bool) : cnB p N = cnB (fun a => p (s a)) N := by
  have a1 : cnB (fun a => p (s a)) N ≤ cnB p N := cnB_inj (f := s) (fun a ha hq => ⟨h.lt a ha, hq⟩) fun a b ha hb _ _ e => h.inj a b ha hb e
  have a2 : cnB (fun a => !p (s a)) N ≤ cnB (fun a => !p a) N := cnB_inj (f := s) (fun a ha hq => ⟨h.lt a ha, hq⟩) fun a b ha hb _ _ e => h.inj a b ha hb e
  have b1 := cnB_not p N
  have b2 := cnB_not (fun a => p (s a)) N
  omega
section
variable {F : Nat → Nat → Int} {al : Nat → Nat} {n m : Nat}
theorem npt_next (a : Nat) : npt n al (a + 1) = npt n al a + if a < al a then 1 else 0 := by
  unfold npt
  show n + (cnB (newB al) a + if newB al a = true then 1 else 0) = _
  unfold newB
  by_cases h : a < al a <;> simp [h] <;> omega
theorem mid_new {a : Nat} (h : a < al a) : midN n al a = npt n al a := by
  unfold midN
  rw [Nat.min_eq_left (by omega)]
theorem mid_old (ho : Oth F al m) {a : Nat} (ha : a < 3 * m) : midN n al (al a) = midN n al a := by
  unfold midN
  rw [ho.inv a ha, Nat.min_comm]
theorem mid_bd (ho : Oth F al m) {a r : Nat} (ha : a < 3 * m) (hr : a < r) : n ≤ midN n al a ∧ midN n al a < npt n al r := by
  obtain ⟨b1, -, -⟩ := ho.nb a ha
  have hne := ho.ne a ha
  unfold midN npt
  refine ⟨by omega, ?_⟩
  have hk : newB al (min a (al a)) = true := by
    unfold newB
    rw [decide_eq_true_eq]
    by_cases h : a < al a
    · rw [Nat.min_eq_left (by omega)]; exact h
    · rw [Nat.min_eq_right (by omega), ho.inv a ha]; omega
  have := cnB_lt (s := newB al) (i := min a (al a)) (r := r) (by omega) hk
  omega
/-- Sides with one middle are one side, or the other one. -/
theorem mid_inj (ho : Oth F al m) {a b : Nat} (ha : a < 3 * m) (hb : b < 3 * m) (h : midN n al a = midN n al b) : b = a ∨ b = al a := by
  have key : ∀ a, a < 3 * m → newB al (min a (al a)) = true := fun a ha => by
    have hne := ho.ne a ha
    unfold newB
    rw [decide_eq_true_eq]
    by_cases h : a < al a
    · rw [Nat.min_eq_left (by omega)]; exact h
    · rw [Nat.min_eq_right (by omega), ho.inv a ha]; omega
  have e : min a (al a) = min b (al b) := by
    unfold midN npt at h
    by_cases h1 : min a (al a) < min b (al b)
    · have := cnB_lt (s := newB al) h1 (key a ha)
      omega
    · by_cases h2 : min b (al b) < min a (al a)
      · have := cnB_lt (s := newB al) h2 (key b hb)
        omega
      · omega
  have hba : al (al b) = b := ho.inv b hb
  have haa : al (al a) = a := ho.inv a ha
  by_cases h1 : a < al a
  · rw [Nat.min_eq_left (by omega)] at e
    by_cases h2 : b < al b
    · rw [Nat.min_eq_left (by omega)] at e
      exact .inl e.symm
    · rw [Nat.min_eq_right (by omega)] at e
      right
      rw [e, hba]
  · rw [Nat.min_eq_right (by omega)] at e
    by_cases h2 : b < al b
    · rw [Nat.min_eq_left (by omega)] at e
      exact .inr e.symm
    · rw [Nat.min_eq_right (by omega)] at e
      left
      rw [← hba, ← e, haa]
/-- Half of the sides come ahead of their others. -/
theorem new_half (ho : Oth F al m) : 2 * cnB (newB al) (3 * m) = 3 * m := by
  have h1 : cnB (newB al) (3 * m) = cnB (fun a => newB al (al a)) (3 * m) := cnB_perm ⟨fun a ha => (ho.nb a ha).1, fun a b ha hb e => by rw [← ho.inv a ha, e, ho.inv b hb]⟩ _
  have h2 : ∀ r, r ≤ 3 * m → cnB (newB al) r + cnB (fun a => newB al (al a)) r = r := by
    intro r
    induction r with
    | zero => exact fun _ => rfl
    | succ r ih =>
      intro hr
      have hne := ho.ne r (by omega)
      have hi := ho.inv r (by omega)
      show cnB (newB al) r + (if newB al r = true then 1 else 0) + (cnB (fun a => newB al (al a)) r + (if newB al (al r) = true then 1 else 0)) = r + 1
      have := ih (by omega)
      unfold newB at *
      rw [hi]
      by_cases h : r < al r
      · simp only [h, decide_true, if_true, show ¬ al r < r by omega, decide_false, Bool.false_eq_true, if_false]
        omega
      · simp only [h, decide_false, Bool.false_eq_true, if_false, show al r < r by omega, decide_true, if_true]
        omega
  have := h2 (3 * m) (Nat.le_refl _)
  omega
end
end Go.Proofs.Ytoadlneneijfaaa
