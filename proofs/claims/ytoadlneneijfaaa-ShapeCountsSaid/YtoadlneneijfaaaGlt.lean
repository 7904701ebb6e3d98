/- The sides of a closed surface, each with its other: plain facts. Conditions: those of each theorem. -/
import Derived.Test.YtoadlneneijfaaaGls
import Derived.Test.YtoadlneneijfaaaGsp
namespace Go.Proofs.Ytoadlneneijfaaa
set_option linter.unusedVariables false
set_option linter.unusedSimpArgs false
/-- Where a side begins. -/
def tl (F : Nat → Nat → Int) (a : Nat) : Int := F (a / 3) (a % 3)
theorem tl_at (F : Nat → Nat → Int) (i k : Nat) (hk : k < 3) : tl F (3 * i + k) = F i k := by
  unfold tl
  rw [show (3 * i + k) / 3 = i by omega, show (3 * i + k) % 3 = k by omega]
theorem nxt_at (i k : Nat) (hk : k < 3) : nxt (3 * i + k) = 3 * i + (k + 1) % 3 := by
  unfold nxt
  rw [show (3 * i + k) / 3 = i by omega, show (3 * i + k) % 3 = k by omega]
def sdB (F : Nat → Nat → Int) (p q : Int) (a : Nat) : Bool := decide (tl F a = p) && decide (tl F (nxt a) = q)
theorem sdB_iff {F : Nat → Nat → Int} {p q : Int} {a : Nat} : sdB F p q a = true ↔ tl F a = p ∧ tl F (nxt a) = q := by
  unfold sdB
  rw [Bool.and_eq_true, decide_eq_true_iff, decide_eq_true_iff]
theorem cnt_cn (F : Nat → Nat → Int) (p q : Int) : ∀ m : Nat, cnt F m p q = (cnB (sdB F p q) (3 * m) : Nat)
  | 0 => rfl
  | m + 1 => by
    show cnt F m p q + ind (F m 0) (F m 1) p q + ind (F m 1) (F m 2) p q + ind (F m 2) (F m 0) p q = (cnB (sdB F p q) (3 * m + 1 + 1 + 1) : Nat)
    rw [cnt_cn F p q m]
    have e0 : ind (F m 0) (F m 1) p q = ((if sdB F p q (3 * m) = true then 1 else 0 : Nat) : Int) := by
      have a1 := tl_at F m 0 (by omega)
      have a2 := nxt_at m 0 (by omega)
      have a3 := tl_at F m 1 (by omega)
      simp only [Nat.add_zero] at a1 a2
      unfold ind sdB
      rw [a1, a2, show (0 + 1) % 3 = 1 from rfl, a3]
      by_cases h1 : F m 0 = p <;> by_cases h2 : F m 1 = q <;> simp [h1, h2]
    have e1 : ind (F m 1) (F m 2) p q = ((if sdB F p q (3 * m + 1) = true then 1 else 0 : Nat) : Int) := by
      have a1 := tl_at F m 1 (by omega)
      have a2 := nxt_at m 1 (by omega)
      have a3 := tl_at F m 2 (by omega)
      unfold ind sdB
      rw [a1, a2, show (1 + 1) % 3 = 2 from rfl, a3]
      by_cases h1 : F m 1 = p <;> by_cases h2 : F m 2 = q <;> simp [h1, h2]
    have e2 : ind (F m 2) (F m 0) p q = ((if sdB F p q (3 * m + 1 + 1) = true then 1 else 0 : Nat) : Int) := by
      have a1 := tl_at F m 2 (by omega)
      have a2 := nxt_at m 2 (by omega)
      have a3 := tl_at F m 0 (by omega)
      unfold ind sdB
      rw [show 3 * m + 1 + 1 = 3 * m + 2 from rfl, a1, a2, show (2 + 1) % 3 = 0 from rfl, a3]
      by_cases h1 : F m 2 = p <;> by_cases h2 : F m 0 = q <;> simp [h1, h2]
    have u : cnB (sdB F p q) (3 * m + 1 + 1 + 1) = cnB (sdB F p q) (3 * m) + (if sdB F p q (3 * m) = true then 1 else 0) + (if sdB F p q (3 * m + 1) = true then 1 else 0) + (if sdB F p q (3 * m + 1 + 1) = true then 1 else 0) := rfl
    rw [e0, e1, e2, u]
    generalize cnB (sdB F p q) (3 * m) = x
    generalize (if sdB F p q (3 * m) = true then 1 else 0 : Nat) = y
    generalize (if sdB F p q (3 * m + 1) = true then 1 else 0 : Nat) = z
    generalize (if sdB F p q (3 * m + 1 + 1) = true then 1 else 0 : Nat) = v
    omega
theorem cnB_pos {p : Nat → Bool} : ∀ {n : Nat}, 1 ≤ cnB p n → ∃ a, a < n ∧ p a = true
  | 0, h => by simp [cnB] at h
  | n + 1, h => by
    by_cases q : p n = true
    · exact ⟨n, by omega, q⟩
    · unfold cnB at h
      rw [if_neg q] at h
      obtain ⟨a, h1, h2⟩ := cnB_pos (n := n) (by omega)
      exact ⟨a, by omega, h2⟩
theorem cnB_uniq {p : Nat → Bool} {n a b : Nat} (h : cnB p n = 1) (ha : a < n) (hb : b < n) (pa : p a = true) (pb : p b = true) : a = b := by
  by_cases q : a = b
  · exact q
  · have h1 := cnB_one (p := p) (q := fun i => p i && !decide (i = a)) (k := a) pa (by simp) ha (fun i _ hi => by simp [hi])
    have h2 := cnB_one (p := fun i => p i && !decide (i = a)) (q := fun i => p i && !decide (i = a) && !decide (i = b)) (k := b) (by simp [pb]; omega) (by simp) hb (fun i _ hi => by simp [hi])
    omega
/-- Each side has another, in the opposite direction. -/
theorem sides_al {F : Nat → Nat → Int} {m : Nat} (hop : openB F m = false) (hds : ∀ i, i < m → F i 0 ≠ F i 1 ∧ F i 1 ≠ F i 2 ∧ F i 2 ≠ F i 0) :
    ∃ al : Nat → Nat, (∀ a, a < 3 * m → al a < 3 * m ∧ tl F (al a) = tl F (nxt a) ∧ tl F (nxt (al a)) = tl F a) ∧ (∀ a, a < 3 * m → al (al a) = a) ∧ (∀ a, a < 3 * m → al a ≠ a) ∧
      ∀ a b, a < 3 * m → b < 3 * m → tl F b = tl F (nxt a) → tl F (nxt b) = tl F a → b = al a := by
  have hc : ∀ a, a < 3 * m → cnB (sdB F (tl F a) (tl F (nxt a))) (3 * m) = 1 ∧ cnB (sdB F (tl F (nxt a)) (tl F a)) (3 * m) = 1 := fun a ha => by
    have h := of_any_false hop (a / 3) (by omega)
    simp only [fOpen, Bool.or_eq_false_iff, sideBad, Bool.not_eq_false', decide_eq_true_eq, cnt_cn] at h
    obtain ⟨⟨h0, h0'⟩, ⟨h1, h1'⟩, h2, h2'⟩ := h
    have ea : a = 3 * (a / 3) + a % 3 := by omega
    have hk : a % 3 < 3 := by omega
    have t1 : tl F a = F (a / 3) (a % 3) := rfl
    have t2 : tl F (nxt a) = F (a / 3) ((a % 3 + 1) % 3) := by
      rw [ea, nxt_at _ _ hk, tl_at _ _ _ (by omega), ← ea]
    rw [t1, t2]
    rcases (show a % 3 = 0 ∨ a % 3 = 1 ∨ a % 3 = 2 by omega) with e | e | e <;> rw [e]
    · show cnB (sdB F (F (a / 3) 0) (F (a / 3) 1)) (3 * m) = 1 ∧ cnB (sdB F (F (a / 3) 1) (F (a / 3) 0)) (3 * m) = 1
      exact ⟨by omega, by omega⟩
    · show cnB (sdB F (F (a / 3) 1) (F (a / 3) 2)) (3 * m) = 1 ∧ cnB (sdB F (F (a / 3) 2) (F (a / 3) 1)) (3 * m) = 1
      exact ⟨by omega, by omega⟩
    · show cnB (sdB F (F (a / 3) 2) (F (a / 3) 0)) (3 * m) = 1 ∧ cnB (sdB F (F (a / 3) 0) (F (a / 3) 2)) (3 * m) = 1
      exact ⟨by omega, by omega⟩
  have hex : ∀ a, ∃ b, a < 3 * m → b < 3 * m ∧ tl F b = tl F (nxt a) ∧ tl F (nxt b) = tl F a := fun a => by
    by_cases ha : a < 3 * m
    · obtain ⟨b, h1, h2⟩ := cnB_pos (Nat.le_of_eq (hc a ha).2.symm)
      exact ⟨b, fun _ => ⟨h1, sdB_iff.1 h2⟩⟩
    · exact ⟨0, fun h => absurd h ha⟩
  have hun : ∀ a b b', a < 3 * m → b < 3 * m → b' < 3 * m → tl F b = tl F (nxt a) → tl F (nxt b) = tl F a → tl F b' = tl F (nxt a) → tl F (nxt b') = tl F a → b = b' := fun a b b' ha hb hb' h1 h2 h3 h4 =>
    cnB_uniq (hc a ha).2 hb hb' (sdB_iff.2 ⟨h1, h2⟩) (sdB_iff.2 ⟨h3, h4⟩)
  have hal : ∀ a, a < 3 * m → (hex a).choose < 3 * m ∧ tl F (hex a).choose = tl F (nxt a) ∧ tl F (nxt (hex a).choose) = tl F a := fun a ha => (hex a).choose_spec ha
  refine ⟨fun a => (hex a).choose, hal, fun a ha => ?_, fun a ha e => ?_, fun a b ha hb h1 h2 => ?_⟩
  · obtain ⟨h1, h2, h3⟩ := hal a ha
    obtain ⟨k1, k2, k3⟩ := hal _ h1
    exact hun _ _ _ h1 k1 ha k2 k3 h3.symm h2.symm
  · have e : (hex a).choose = a := e
    obtain ⟨h1, h2, h3⟩ := hal a ha
    rw [e] at h2
    have hd := hds (a / 3) (by omega)
    have ea : a = 3 * (a / 3) + a % 3 := by omega
    have hk : a % 3 < 3 := by omega
    have t1 : tl F a = F (a / 3) (a % 3) := rfl
    have t2 : tl F (nxt a) = F (a / 3) ((a % 3 + 1) % 3) := by
      rw [ea, nxt_at _ _ hk, tl_at _ _ _ (by omega), ← ea]
    rw [t1, t2] at h2
    rcases (show a % 3 = 0 ∨ a % 3 = 1 ∨ a % 3 = 2 by omega) with e | e | e <;> rw [e] at h2
    · exact hd.1 h2
    · exact hd.2.1 h2
    · exact hd.2.2 h2
  · obtain ⟨k1, k2, k3⟩ := hal a ha
    exact hun _ _ _ ha hb k1 h1 h2 k2 k3
end Go.Proofs.Ytoadlneneijfaaa
