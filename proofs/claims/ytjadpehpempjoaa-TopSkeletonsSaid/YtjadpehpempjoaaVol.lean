/- The greatest minors: what they are at least, and that it is one whether one starts below 0 or at 0. No conditions but those of each theorem. -/
import Derived.Test.YtjadpehpempjoaaSts
namespace Go.Proofs.Ytjadpehpempjoaa
set_option linter.unusedVariables false
set_option linter.unusedSimpArgs false
open Go.RowKit Go.Deep
theorem vcol_ge {f : Nat → Nat → Int} {n M : Nat} {k : Int} {r : Nat} {b : Int} : ∀ c, b ≤ vcol f n M k r b c ∧ ∀ q, q < c → ((bl q M).length : Int) = k → dV f n M r q ≤ vcol f n M k r b c
  | 0 => ⟨Int.le_refl _, fun q hq => absurd hq (by omega)⟩
  | c + 1 => by
    obtain ⟨h1, h2⟩ := vcol_ge (f := f) (n := n) (M := M) (k := k) (r := r) (b := b) c
    unfold vcol
    split
    · refine ⟨by omega, fun q hq hl => ?_⟩
      by_cases e : q = c
      · subst e; omega
      · have := h2 q (by omega) hl; omega
    · rename_i hs
      refine ⟨h1, fun q hq hl => ?_⟩
      by_cases e : q = c
      · subst e; exact absurd hl hs
      · exact h2 q (by omega) hl
theorem vmat_ge {f : Nat → Nat → Int} {n M : Nat} {k b : Int} : ∀ r, b ≤ vmat f n M k b r ∧ ∀ p, p < r → ((bl p n).length : Int) = k → ∀ q, q < 2 ^ M → ((bl q M).length : Int) = k → dV f n M p q ≤ vmat f n M k b r
  | 0 => ⟨Int.le_refl _, fun p hp => absurd hp (by omega)⟩
  | r + 1 => by
    obtain ⟨h1, h2⟩ := vmat_ge (f := f) (n := n) (M := M) (k := k) (b := b) r
    obtain ⟨h3, h4⟩ := vcol_ge (f := f) (n := n) (M := M) (k := k) (r := r) (b := vmat f n M k b r) (2 ^ M)
    unfold vmat
    split
    · refine ⟨by omega, fun p hp hl q hq hl2 => ?_⟩
      by_cases e : p = r
      · subst e; exact h4 q hq hl2
      · have := h2 p (by omega) hl q hq hl2; omega
    · rename_i hs
      refine ⟨h1, fun p hp hl q hq hl2 => ?_⟩
      by_cases e : p = r
      · subst e; exact absurd hl hs
      · exact h2 p (by omega) hl q hq hl2
theorem vcol_max0 {f : Nat → Nat → Int} {n M : Nat} {k : Int} {r : Nat} {b : Int} : ∀ c, vcol f n M k r (max 0 b) c = max 0 (vcol f n M k r b c)
  | 0 => rfl
  | c + 1 => by
    unfold vcol
    rw [vcol_max0 c]
    split
    · omega
    · rfl
theorem vmat_max0 {f : Nat → Nat → Int} {n M : Nat} {k : Int} : ∀ r, vmat f n M k 0 r = max 0 (vmat f n M k (-1) r)
  | 0 => rfl
  | r + 1 => by
    unfold vmat
    rw [vmat_max0 r, vcol_max0]
    split <;> rfl
theorem bl_some {n k : Nat} (h : k ≤ n) : ∃ r, r < 2 ^ n ∧ (bl r n).length = k := by
  obtain ⟨r, h1, h2⟩ := bl_all n k (fun x => x) (fun q hq => by omega) (fun q j hqj _ => hqj)
  exact ⟨r, h1, (bl_map h2).1⟩
theorem dV_pos {f : Nat → Nat → Int} {n M r c : Nat} : 0 ≤ dV f n M r c := by unfold dV; omega
/-- The greatest minor. -/
def volS (f : Nat → Nat → Int) (n M : Nat) (k : Int) : Int := vmat f n M k 0 (2 ^ n)
theorem volS_eq {f : Nat → Nat → Int} {n M : Nat} {k : Int} (h : 0 ≤ k ∧ k ≤ (min n M : Nat)) : vmat f n M k (-1) (2 ^ n) = volS f n M k := by
  obtain ⟨q, rfl⟩ : ∃ q : Nat, k = q := ⟨k.toNat, by omega⟩
  obtain ⟨r, h1, h2⟩ := bl_some (n := n) (k := q) (by omega)
  obtain ⟨c, h3, h4⟩ := bl_some (n := M) (k := q) (by omega)
  have := (vmat_ge (f := f) (n := n) (M := M) (k := q) (b := -1) (2 ^ n)).2 r h1 (by omega) c h3 (by omega)
  have h0 := dV_pos (f := f) (n := n) (M := M) (r := r) (c := c)
  unfold volS
  rw [vmat_max0]
  omega
theorem volS_ge {f : Nat → Nat → Int} {n M : Nat} {k : Int} {p q : Nat} (hp : p < 2 ^ n) (hl : ((bl p n).length : Int) = k) (hq : q < 2 ^ M) (hl2 : ((bl q M).length : Int) = k) : dV f n M p q ≤ volS f n M k :=
  (vmat_ge (2 ^ n)).2 p hp hl q hq hl2
theorem volS_pos {f : Nat → Nat → Int} {n M : Nat} {k : Int} : 0 ≤ volS f n M k := (vmat_ge (2 ^ n)).1
theorem vcol_or {f : Nat → Nat → Int} {n M : Nat} {k : Int} {r : Nat} {b : Int} : ∀ c, vcol f n M k r b c = b ∨ ∃ q, q < c ∧ ((bl q M).length : Int) = k ∧ vcol f n M k r b c = dV f n M r q
  | 0 => .inl rfl
  | c + 1 => by
    unfold vcol
    split
    · rename_i hs
      rcases Int.le_total (vcol f n M k r b c) (dV f n M r c) with h | h
      · exact .inr ⟨c, by omega, hs, by omega⟩
      · rcases vcol_or (f := f) (n := n) (M := M) (k := k) (r := r) (b := b) c with e | ⟨q, h1, h2, h3⟩
        · exact .inl (by omega)
        · exact .inr ⟨q, by omega, h2, by omega⟩
    · rcases vcol_or (f := f) (n := n) (M := M) (k := k) (r := r) (b := b) c with e | ⟨q, h1, h2, h3⟩
      · exact .inl e
      · exact .inr ⟨q, by omega, h2, h3⟩
theorem vmat_or {f : Nat → Nat → Int} {n M : Nat} {k b : Int} : ∀ r, vmat f n M k b r = b ∨ ∃ p q, p < r ∧ q < 2 ^ M ∧ ((bl p n).length : Int) = k ∧ ((bl q M).length : Int) = k ∧ vmat f n M k b r = dV f n M p q
  | 0 => .inl rfl
  | r + 1 => by
    unfold vmat
    split
    · rename_i hs
      rcases vcol_or (f := f) (n := n) (M := M) (k := k) (r := r) (b := vmat f n M k b r) (2 ^ M) with e | ⟨q, h1, h2, h3⟩
      · rcases vmat_or (f := f) (n := n) (M := M) (k := k) (b := b) r with e2 | ⟨p, q, h1, h2, h3, h4, h5⟩
        · exact .inl (by rw [e, e2])
        · exact .inr ⟨p, q, by omega, h2, h3, h4, by rw [e, h5]⟩
      · exact .inr ⟨r, q, by omega, h1, hs, h2, h3⟩
    · rcases vmat_or (f := f) (n := n) (M := M) (k := k) (b := b) r with e2 | ⟨p, q, h1, h2, h3, h4, h5⟩
      · exact .inl e2
      · exact .inr ⟨p, q, by omega, h2, h3, h4, h5⟩
theorem volS_0 {f : Nat → Nat → Int} {n M : Nat} : volS f n M 0 = 1 := by
  obtain ⟨r, h1, h2⟩ := bl_some (n := n) (k := 0) (by omega)
  obtain ⟨c, h3, h4⟩ := bl_some (n := M) (k := 0) (by omega)
  have hd : ∀ p q, (bl p n).length = 0 → dV f n M p q = 1 := fun p q h => by unfold dV; rw [h]; rfl
  have h5 := volS_ge (f := f) (n := n) (M := M) (k := 0) h1 (by omega) h3 (by omega)
  rw [hd r c h2] at h5
  rcases vmat_or (f := f) (n := n) (M := M) (k := 0) (b := 0) (2 ^ n) with e | ⟨p, q, -, -, h6, -, h8⟩
  · unfold volS at h5 ⊢; omega
  · unfold volS
    rw [h8, hd p q (by omega)]
/-- The same as the greatest one over lists of sets. -/
def lcol (f : Nat → Nat → Int) (n M r : Nat) (l : List Nat) (b : Int) : Nat → Int
  | 0 => b
  | j + 1 => max (lcol f n M r l b j) (dV f n M r (l.getD j 0))
def lmat (f : Nat → Nat → Int) (n M : Nat) (l l2 : List Nat) (b : Int) : Nat → Int
  | 0 => b
  | i + 1 => lcol f n M (l.getD i 0) l2 (lmat f n M l l2 b i) l2.length
theorem getD_app {l : List Nat} {x j : Nat} (h : j < l.length) : (l ++ [x]).getD j 0 = l.getD j 0 := by
  rw [List.getD_eq_getElem?_getD, List.getD_eq_getElem?_getD, List.getElem?_append_left h]
theorem getD_end {l : List Nat} {x : Nat} : (l ++ [x]).getD l.length 0 = x := by
  rw [List.getD_eq_getElem?_getD, List.getElem?_append_right (Nat.le_refl _)]; simp
theorem lcol_app {f : Nat → Nat → Int} {n M r : Nat} {l : List Nat} {b : Int} {x : Nat} : ∀ j, j ≤ l.length → lcol f n M r (l ++ [x]) b j = lcol f n M r l b j
  | 0, _ => rfl
  | j + 1, h => by
    unfold lcol
    rw [lcol_app j (by omega), getD_app (by omega)]
theorem lcol_eq {f : Nat → Nat → Int} {n M : Nat} {k : Int} {r : Nat} {b : Int} : ∀ c, lcol f n M r (slN M k c) b (slN M k c).length = vcol f n M k r b c
  | 0 => rfl
  | c + 1 => by
    unfold slN vcol
    split
    · rw [List.length_append, List.length_singleton]
      show max (lcol f n M r (slN M k c ++ [c]) b (slN M k c).length) (dV f n M r ((slN M k c ++ [c]).getD (slN M k c).length 0)) = _
      rw [lcol_app _ (Nat.le_refl _), lcol_eq c, getD_end]
    · exact lcol_eq c
theorem lmat_app {f : Nat → Nat → Int} {n M : Nat} {l l2 : List Nat} {b : Int} {x : Nat} : ∀ i, i ≤ l.length → lmat f n M (l ++ [x]) l2 b i = lmat f n M l l2 b i
  | 0, _ => rfl
  | i + 1, h => by
    unfold lmat
    rw [lmat_app i (by omega), getD_app (by omega)]
theorem lmat_eq {f : Nat → Nat → Int} {n M : Nat} {k b : Int} : ∀ r, lmat f n M (slN n k r) (slN M k (2 ^ M)) b (slN n k r).length = vmat f n M k b r
  | 0 => rfl
  | r + 1 => by
    unfold vmat
    rw [show slN n k (r + 1) = if ((bl r n).length : Int) = k then slN n k r ++ [r] else slN n k r from rfl]
    split
    · rw [List.length_append, List.length_singleton]
      show lcol f n M ((slN n k r ++ [r]).getD (slN n k r).length 0) (slN M k (2 ^ M)) (lmat f n M (slN n k r ++ [r]) (slN M k (2 ^ M)) b (slN n k r).length) (slN M k (2 ^ M)).length = _
      rw [getD_end, lmat_app _ (Nat.le_refl _), lmat_eq r, lcol_eq]
    · exact lmat_eq r
theorem slN_at {n : Nat} {k : Int} {r i : Nat} (h : i < (slN n k r).length) : (slN n k r).getD i 0 < r ∧ ((bl ((slN n k r).getD i 0) n).length : Int) = k := by
  have : (slN n k r).getD i 0 ∈ slN n k r := by
    rw [List.getD_eq_getElem?_getD, List.getElem?_eq_getElem h, Option.getD_some]
    exact List.getElem_mem h
  exact slN_mem.1 this
end Go.Proofs.Ytjadpehpempjoaa
