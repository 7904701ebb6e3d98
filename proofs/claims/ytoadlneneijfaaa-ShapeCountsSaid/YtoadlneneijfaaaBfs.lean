/- Groups that are counted by going from one to the next: what is known on the way. No conditions but those of each theorem. -/
import Derived.Test.YtoadlneneijfaaaGlg
namespace Go.Proofs.Ytoadlneneijfaaa
set_option linter.unusedVariables false
set_option linter.unusedSimpArgs false
/-- S was S0, first is met, W waits, i is looked at: those of D have been. -/
structure Bfs (adj : Nat → Nat → Prop) (m first : Nat) (S0 S : Nat → Bool) (W : List Nat) (i : Nat) (D : Nat → Prop) : Prop where
  old : ∀ j, S0 j = true → S j = true
  fst : S first = true
  wq : ∀ x, x ∈ W → x < m ∧ S x = true ∧ Go1 adj first x
  new : ∀ j, S j = true → S0 j = true ∨ Go1 adj first j
  clo : ∀ x y, S x = true → S0 x = false → x ∉ W → adj x y → (x = i → D y) → S y = true
def upd (S : Nat → Bool) (y : Nat) (j : Nat) : Bool := if j = y then true else S j
section
variable {adj : Nat → Nat → Prop} {m first : Nat} {S0 S : Nat → Bool} {W : List Nat} {i : Nat} {D D' : Nat → Prop}
theorem Bfs.start (hf : first < m) (i : Nat) : Bfs adj m first S0 (upd S0 first) [first] i (fun _ => True) := by
  refine ⟨fun j hj => ?_, ?_, fun x hx => ?_, fun j hj => ?_, fun x y hx h0 hw _ _ => ?_⟩
  · unfold upd; split <;> simp_all
  · unfold upd; simp
  · simp only [List.mem_singleton] at hx
    subst hx
    exact ⟨hf, by unfold upd; simp, Go1.refl _ _⟩
  · unfold upd at hj
    split at hj
    · rename_i e; subst e; exact .inr (Go1.refl _ _)
    · exact .inl hj
  · unfold upd at hx
    split at hx
    · rename_i e; subst e; simp at hw
    · rw [hx] at h0; cases h0
theorem Bfs.pop {x : Nat} (h : Bfs adj m first S0 S (x :: W) i (fun _ => True)) : Bfs adj m first S0 S W x (fun _ => False) ∧ x < m := by
  refine ⟨⟨h.old, h.fst, fun y hy => h.wq y (List.mem_cons_of_mem _ hy), h.new, fun a y ha h0 hw hy hd => ?_⟩, (h.wq x (by simp)).1⟩
  by_cases e : a = x
  · exact (hd e).elim
  · exact h.clo a y ha h0 (by simp [e, hw]) hy (fun _ => trivial)
theorem Bfs.put {y : Nat} (h : Bfs adj m first S0 S W i D) (hi : Go1 adj first i) (hy : y < m) (ha : adj i y) (hs : S y = false) : Bfs adj m first S0 (upd S y) (W ++ [y]) i (fun z => D z ∨ z = y) := by
  have hg : Go1 adj first y := hi.step ha
  have up : ∀ j, S j = true → upd S y j = true := fun j hj => by unfold upd; split <;> simp_all
  refine ⟨fun j hj => up j (h.old j hj), up _ h.fst, fun x hx => ?_, fun j hj => ?_, fun x z hx h0 hw hz hd => ?_⟩
  · rcases List.mem_append.1 hx with q | q
    · obtain ⟨a, b, c⟩ := h.wq x q
      exact ⟨a, up _ b, c⟩
    · simp only [List.mem_singleton] at q
      subst q
      exact ⟨hy, by unfold upd; simp, hg⟩
  · unfold upd at hj
    split at hj
    · rename_i e; subst e; exact .inr hg
    · exact h.new j hj
  · have hxy : x ≠ y := fun e => hw (by rw [e]; simp)
    unfold upd at hx
    rw [if_neg hxy] at hx
    by_cases ezy : z = y
    · subst ezy; unfold upd; simp
    · refine up _ (h.clo x z hx h0 (fun q => hw (List.mem_append_left _ q)) hz fun e => ?_)
      rcases hd e with k | k
      · exact k
      · exact absurd k ezy
theorem Bfs.weak (h : Bfs adj m first S0 S W i D) (hd : ∀ y, D' y → adj i y → D y ∨ S y = true) : Bfs adj m first S0 S W i D' := by
  refine ⟨h.old, h.fst, h.wq, h.new, fun x y hx h0 hw hy hD => ?_⟩
  by_cases e : x = i
  · subst e
    rcases hd y (hD rfl) hy with k | k
    · exact h.clo x y hx h0 hw hy fun _ => k
    · exact k
  · exact h.clo x y hx h0 hw hy fun q => absurd q e
theorem Bfs.fin (h : Bfs adj m first S0 S [] i (fun _ => True)) (hc : ∀ x y, S0 x = true → adj x y → S0 y = true) : ∀ j, S j = true ↔ (S0 j = true ∨ Go1 adj first j) := by
  intro j
  constructor
  · exact h.new j
  · rintro (k | k)
    · exact h.old j k
    · refine k (fun z => S z = true) h.fst fun x y hx hxy => ?_
      cases h0 : S0 x with
      | true => exact h.old y (hc x y h0 hxy)
      | false => exact h.clo x y hx h0 (by simp) hxy fun _ => trivial
theorem cnB_upd {y : Nat} (hy : y < m) (hs : S y = false) : cnB (fun j => !S j) m = cnB (fun j => !(upd S y j)) m + 1 :=
  cnB_one (k := y) (by simp [hs]) (by simp [upd]) hy fun j _ hj => by simp [upd, hj]
end
/-- The firsts of groups that have been counted. -/
structure Outs (sel : Nat → Prop) (adj : Nat → Nat → Prop) (p : Nat → Bool) (r : Nat) (S : Nat → Bool) (c : Nat) : Prop where
  met : ∀ j, S j = true ↔ ∃ k, k < r ∧ sel k ∧ Go1 adj k j
  num : c = cnB p r
section
variable {sel : Nat → Prop} {adj : Nat → Nat → Prop} {m r c : Nat} {p S S' : Nat → Bool}
theorem Outs.start : Outs sel adj p 0 (fun _ => false) 0 := ⟨fun j => ⟨fun h => (by cases h), fun ⟨k, h, _⟩ => (by omega)⟩, rfl⟩
theorem Outs.clo (h : Outs sel adj p r S c) : ∀ x y, S x = true → adj x y → S y = true := fun x y hx hxy => by
  obtain ⟨k, h1, h2, h3⟩ := (h.met x).1 hx
  exact (h.met y).2 ⟨k, h1, h2, h3.step hxy⟩
theorem Outs.none (h : Outs sel adj p r S c) (hp : p r = true ↔ sel r ∧ ∀ j, j < r → sel j → ¬ Go1 adj j r) (hs : ¬ sel r) : Outs sel adj p (r + 1) S c := by
  refine ⟨fun j => ?_, ?_⟩
  · rw [h.met j]
    constructor
    · rintro ⟨k, h1, h2⟩
      exact ⟨k, by omega, h2⟩
    · rintro ⟨k, h1, h2⟩
      by_cases e : k = r
      · subst e; exact absurd h2.1 hs
      · exact ⟨k, by omega, h2⟩
  · have : p r = false := by rw [← Bool.not_eq_true, hp]; exact fun q => hs q.1
    show c = cnB p r + _
    rw [this, h.num]
    rfl
theorem Outs.seen (h : Outs sel adj p r S c) (hp : p r = true ↔ sel r ∧ ∀ j, j < r → sel j → ¬ Go1 adj j r) (hs : S r = true) : Outs sel adj p (r + 1) S c := by
  obtain ⟨k0, a1, a2, a3⟩ := (h.met r).1 hs
  refine ⟨fun j => ?_, ?_⟩
  · rw [h.met j]
    constructor
    · rintro ⟨k, h1, h2⟩
      exact ⟨k, by omega, h2⟩
    · rintro ⟨k, h1, h2, h3⟩
      by_cases e : k = r
      · subst e; exact ⟨k0, a1, a2, a3.trans h3⟩
      · exact ⟨k, by omega, h2, h3⟩
  · have : p r = false := by rw [← Bool.not_eq_true, hp]; exact fun q => q.2 k0 a1 a2 a3
    show c = cnB p r + _
    rw [this, h.num]
    rfl
theorem Outs.one (h : Outs sel adj p r S c) (hp : p r = true ↔ sel r ∧ ∀ j, j < r → sel j → ¬ Go1 adj j r) (hsel : sel r) (hs : S r = false) (hS : ∀ j, S' j = true ↔ (S j = true ∨ Go1 adj r j)) : Outs sel adj p (r + 1) S' (c + 1) := by
  refine ⟨fun j => ?_, ?_⟩
  · rw [hS j, h.met j]
    constructor
    · rintro (⟨k, h1, h2⟩ | k)
      · exact ⟨k, by omega, h2⟩
      · exact ⟨r, by omega, hsel, k⟩
    · rintro ⟨k, h1, h2, h3⟩
      by_cases e : k = r
      · subst e; exact .inr h3
      · exact .inl ⟨k, by omega, h2, h3⟩
  · have : p r = true := by
      rw [hp]
      refine ⟨hsel, fun j hj hj2 g => ?_⟩
      have := (h.met r).2 ⟨j, hj, hj2, g⟩
      rw [hs] at this
      cases this
    show c + 1 = cnB p r + _
    rw [this, h.num]
    rfl
theorem GrN.ex (sel : Nat → Prop) (adj : Nat → Nat → Prop) : ∃ p : Nat → Bool, ∀ i, p i = true ↔ sel i ∧ ∀ j, j < i → sel j → ¬ Go1 adj j i := by
  have hd : ∀ i, ∃ b : Bool, b = true ↔ sel i ∧ ∀ j, j < i → sel j → ¬ Go1 adj j i := fun i => by
    by_cases h : sel i ∧ ∀ j, j < i → sel j → ¬ Go1 adj j i
    · exact ⟨true, fun _ => h, fun _ => rfl⟩
    · exact ⟨false, fun e => (by cases e), fun k => absurd k h⟩
  exact ⟨fun i => (hd i).choose, fun i => (hd i).choose_spec⟩
theorem Outs.fin (h : Outs sel adj p m S c) (hp : ∀ i, p i = true ↔ sel i ∧ ∀ j, j < i → sel j → ¬ Go1 adj j i) : GrN sel adj m c := ⟨p, fun i _ => hp i, h.num.symm⟩
end
end Go.Proofs.Ytoadlneneijfaaa
