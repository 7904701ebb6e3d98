/- Choices with one more row and column, put in their places; bordered minors are at most the next volume; nothing is left exactly if there are as many rows as the rank. No conditions but those of each theorem. -/
import Derived.Test.YtoejdfpmmgldpaaSpn
import Derived.Test.YtoejdfpmmgldpaaRk
import Derived.Test.YtoejdfpmmgldpaaCk
namespace Go.Proofs.Ytoejdfpmmgldpaa
set_option linter.unusedVariables false
set_option linter.unusedSimpArgs false
open Go.RowKit Go.Deep
/-- The place of a number in an ascending list. -/
theorem ins_place {x : Nat → Nat} {z : Nat} : ∀ (L : Nat), (∀ k j, k < j → j < L → x k < x j) → (∀ k, k < L → x k ≠ z) → ∃ s, s ≤ L ∧ (∀ a, a < s → x a < z) ∧ ∀ a, s ≤ a → a < L → z < x a
  | 0, _, _ => ⟨0, Nat.le_refl _, fun a h => absurd h (by omega), fun a _ h => absurd h (by omega)⟩
  | L + 1, ha, hn => by
    obtain ⟨s, h1, h2, h3⟩ := ins_place L (fun k j hkj hj => ha k j hkj (by omega)) (fun k hk => hn k (by omega))
    by_cases hs : s < L
    · refine ⟨s, by omega, h2, fun a h4 h5 => ?_⟩
      by_cases e : a = L
      · subst e
        have := h3 s (Nat.le_refl _) hs
        have := ha s a hs (by omega)
        omega
      · exact h3 a h4 (by omega)
    · by_cases hz : z < x L
      · exact ⟨L, by omega, fun a h => h2 a (by omega), fun a h4 h5 => by
          obtain rfl : a = L := by omega
          exact hz⟩
      · have := hn L (by omega)
        refine ⟨L + 1, Nat.le_refl _, fun a h => ?_, fun a h4 h5 => absurd h5 (by omega)⟩
        by_cases e : a = L
        · subst e; omega
        · exact h2 a (by omega)
theorem ins_asc {x : Nat → Nat} {z s L : Nat} (hs : s ≤ L) (ha : ∀ k j, k < j → j < L → x k < x j) (h2 : ∀ a, a < s → x a < z) (h3 : ∀ a, s ≤ a → a < L → z < x a) : ∀ k j, k < j → j < L + 1 → insN s x z k < insN s x z j := by
  intro k j hkj hj
  unfold insN
  by_cases c1 : j < s
  · rw [if_pos c1, if_pos (by omega)]
    exact ha k j hkj (by omega)
  · rw [if_neg c1]
    by_cases c2 : j = s
    · rw [if_pos c2, if_pos (by omega)]
      exact h2 k (by omega)
    · rw [if_neg c2]
      by_cases c3 : k < s
      · rw [if_pos c3]
        have := h2 k c3
        have := h3 (j - 1) (by omega) (by omega)
        omega
      · rw [if_neg c3]
        by_cases c4 : k = s
        · rw [if_pos c4]
          exact h3 (j - 1) (by omega) (by omega)
        · rw [if_neg c4]
          exact ha (k - 1) (j - 1) (by omega) (by omega)
theorem ins_lt {x : Nat → Nat} {z s L n : Nat} (hs : s ≤ L) (hx : ∀ k, k < L → x k < n) (hz : z < n) : ∀ k, k < L + 1 → insN s x z k < n := by
  intro k hk
  unfold insN
  split
  · exact hx k (by omega)
  · split
    · exact hz
    · exact hx (k - 1) (by omega)
/-- A set with one more number is a set. -/
theorem ins_bl {n L z : Nat} {x : Nat → Nat} (hx : ∀ k, k < L → x k < n) (ha : ∀ k j, k < j → j < L → x k < x j) (hn : ∀ k, k < L → x k ≠ z) (hz : z < n) :
    ∃ r s, r < 2 ^ n ∧ (bl r n).length = L + 1 ∧ s ≤ L ∧ ∀ a, a < L + 1 → blN r n a = insN s x z a := by
  obtain ⟨s, h1, h2, h3⟩ := ins_place L ha hn
  obtain ⟨r, h4, h5⟩ := bl_all n (L + 1) (insN s x z) (ins_lt h1 hx hz) (ins_asc h1 ha h2 h3)
  obtain ⟨h6, h7⟩ := bl_map h5
  exact ⟨r, s, h4, h6, h1, h7⟩
theorem set_nat {N l : Nat} {x : Nat → Nat → Int} (h : setB N l x = true) : (∀ k, k < l → (x k 0).toNat < N) ∧ (∀ k j, k < j → j < l → (x k 0).toNat < (x j 0).toNat) := by
  refine ⟨fun k hk => ?_, fun k j hkj hj => ?_⟩
  · have := setB_at h hk; omega
  · have h1 := set_up h (j - k) k (by omega)
    rw [show k + (j - k) = j by omega] at h1
    have h2 := setB_at h (show k < l by omega)
    omega
/-- The numbers of a set. -/
def natF (x : Nat → Nat → Int) (k : Nat) : Nat := (x k 0).toNat
theorem addF_ins {l : Nat} {x : Nat → Nat → Int} {i : Nat} {k : Nat} (hk : k < l + 1) : (addF l x (i : Int) k 0).toNat = insN l (natF x) i k := by
  unfold addF insN natF
  by_cases h : k < l
  · rw [if_pos h, if_pos h]
  · rw [if_neg h, if_neg h, if_pos (by omega)]
    simp
theorem left_D {f : Nat → Nat → Int} {l : Nat} {R C : Nat → Nat → Int} {i j : Nat} : D (l + 1) (subF f (addF l R i) (addF l C j)) = D (l + 1) (fun a b => f (insN l (natF R) i a) (insN l (natF C) j b)) :=
  D_congr fun a ha b hb => by
    unfold subF
    rw [addF_ins ha, addF_ins hb]
theorem has_nat {N l : Nat} {x : Nat → Nat → Int} {i : Nat} (h : setB N l x = true) (hn : hasB l x i = false) : ∀ k, k < l → natF x k ≠ i := by
  intro k hk e
  have h1 := has_not hn k hk
  have h2 := setB_at h hk
  unfold natF at e
  omega
/-- A bordered minor has the size of a minor of a choice of the next size. -/
theorem left_dV {n M l : Nat} {f : Nat → Nat → Int} {R C : Nat → Nat → Int} {i j : Nat} (hs : setB n l R = true) (ht : setB M l C = true) (hi : i < n) (hj : j < M) (h1 : hasB l R i = false) (h2 : hasB l C j = false) :
    ∃ r c, r < 2 ^ n ∧ c < 2 ^ M ∧ (bl r n).length = l + 1 ∧ (bl c M).length = l + 1 ∧ ((leftV f l R C i j).natAbs : Int) = dV f n M r c ∧ l + 1 ≤ n ∧ l + 1 ≤ M := by
  obtain ⟨r, s, a1, a2, a3, a4⟩ := ins_bl (set_nat hs).1 (set_nat hs).2 (has_nat hs h1) hi
  obtain ⟨c, t, b1, b2, b3, b4⟩ := ins_bl (set_nat ht).1 (set_nat ht).2 (has_nat ht h2) hj
  refine ⟨r, c, a1, b1, a2, b2, ?_, ?_, ?_⟩
  · have e : leftV f l R C i j = D (l + 1) (subF f (addF l R i) (addF l C j)) := by
      unfold leftV
      rw [h1, h2, if_neg (by simp)]
    rw [e, left_D]
    unfold dV
    rw [a2]
    have e2 : D (l + 1) (subF f (blF r n) (blF c M)) = D (l + 1) (fun a b => f (insN s (natF R) i a) (insN t (natF C) j b)) := D_congr fun a ha b hb => by
      unfold subF
      rw [blF_N, blF_N, Int.toNat_natCast, Int.toNat_natCast, a4 a ha, b4 b hb]
      rfl
    rw [e2, D_ins a3 b3]
  · have := bl_len (r := r) (n := n); omega
  · have := bl_len (r := c) (n := M); omega
theorem left_vol {n M l : Nat} {f : Nat → Nat → Int} {R C : Nat → Nat → Int} {i j : Nat} (hs : setB n l R = true) (ht : setB M l C = true) (hi : i < n) (hj : j < M) :
    leftV f l R C i j = 0 ∨ (l + 1 ≤ min n M ∧ ((leftV f l R C i j).natAbs : Int) ≤ volS f n M ((l : Int) + 1)) := by
  cases h1 : hasB l R (i : Int) with
  | true => left; unfold leftV; rw [h1, Bool.true_or, if_pos rfl]
  | false =>
    cases h2 : hasB l C (j : Int) with
    | true => left; unfold leftV; rw [h2, Bool.or_true, if_pos rfl]
    | false =>
      right
      obtain ⟨r, c, a1, a2, a3, a4, a5, a6, a7⟩ := left_dV (f := f) hs ht hi hj h1 h2
      refine ⟨by omega, ?_⟩
      rw [a5]
      exact volS_ge a1 (by omega) a2 (by omega)
/-- The greatest bordered minor. -/
theorem wrow_le {f : Nat → Nat → Int} {l : Nat} {R C : Nat → Nat → Int} {i : Nat} {b V : Int} : ∀ c : Nat, b ≤ V → (∀ j, j < c → ((leftV f l R C i j).natAbs : Int) ≤ V) → wrow f l R C i b c ≤ V
  | 0, hb, _ => hb
  | c + 1, hb, h => by
    have h1 := wrow_le (i := i) c hb fun j hj => h j (by omega)
    have h2 := h c (by omega)
    show max (wrow f l R C i b c) ((leftV f l R C i c).natAbs : Int) ≤ V
    omega
theorem wmat_le {f : Nat → Nat → Int} {l : Nat} {R C : Nat → Nat → Int} {c : Nat} {V : Int} : ∀ n : Nat, 0 ≤ V → (∀ i, i < n → ∀ j, j < c → ((leftV f l R C i j).natAbs : Int) ≤ V) → wmat f l R C c n ≤ V
  | 0, hb, _ => hb
  | n + 1, hb, h => wrow_le c (wmat_le n hb fun i hi j hj => h i (by omega) j hj) fun j hj => h n (by omega) j hj
theorem wmat_pos {f : Nat → Nat → Int} {l : Nat} {R C : Nat → Nat → Int} {c : Nat} : ∀ n : Nat, 0 ≤ wmat f l R C c n
  | 0 => Int.le_refl _
  | n + 1 => Int.le_trans (wmat_pos n) (wrow_ge (i := n) (b := wmat f l R C c n) c).1
/-- What is left is at most the next volume. -/
theorem wmat_vol {n M l : Nat} {f : Nat → Nat → Int} {R C : Nat → Nat → Int} (hs : setB n l R = true) (ht : setB M l C = true) : wmat f l R C M n ≤ if l + 1 ≤ min n M then volS f n M ((l : Int) + 1) else 0 := by
  refine wmat_le n ?_ fun i hi j hj => ?_
  · split
    · exact volS_pos
    · exact Int.le_refl _
  · rcases left_vol (f := f) hs ht hi hj with h | ⟨h1, h2⟩
    · rw [h]
      split
      · have := volS_pos (f := f) (n := n) (M := M) (k := (l : Int) + 1)
        simpa using this
      · simp
    · rw [if_pos h1]
      exact h2
/-- The quotient of the greatest bordered minor and the minor is at most that of the next volume and the volume. -/
theorem fr_vol {W V d : Int} (hW : 0 ≤ W) (hd : 0 < d) (h : W ≤ V) : frN W d * d ≤ V * frD W d := by
  obtain ⟨g, g0, g1, g2⟩ := fr_parts (n := W) (d := d) (by omega)
  have hN : 0 ≤ frN W d := by
    unfold frN
    rw [if_neg (by omega)]
    exact Int.ediv_nonneg hW (by omega)
  have hD := frp_pos (n := W) (d := d) (by omega)
  have e1 : ((frN W d).natAbs : Int) = frN W d := by omega
  have e2 : (W.natAbs : Int) = W := by omega
  have e3 : (d.natAbs : Int) = d := by omega
  rw [e1, e2] at g1
  rw [e3] at g2
  have sw : ∀ a b g : Int, a * (b * g) = a * g * b := fun a b g => by grind
  have h1 : frN W d * d = W * frD W d := by
    have := sw (frN W d) (frD W d) g
    rwa [g1, g2] at this
  rw [h1]
  exact Int.mul_le_mul_of_nonneg_right h (by omega)
/-- A choice is one of numbers. -/
theorem cho_bl {n M l : Nat} {f : Nat → Nat → Int} {R C : Nat → Nat → Int} (hs : setB n l R = true) (ht : setB M l C = true) : ∃ r c, r < 2 ^ n ∧ c < 2 ^ M ∧ (bl r n).length = l ∧ (bl c M).length = l ∧ dV f n M r c = ((D l (subF f R C)).natAbs : Int) := by
  obtain ⟨r, h1, h2⟩ := bl_all n l (natF R) (set_nat hs).1 (set_nat hs).2
  obtain ⟨c, h3, h4⟩ := bl_all M l (natF C) (set_nat ht).1 (set_nat ht).2
  obtain ⟨h5, h6⟩ := bl_map h2
  obtain ⟨h7, h8⟩ := bl_map h4
  refine ⟨r, c, h1, h3, h5, h7, ?_⟩
  unfold dV
  rw [h5]
  have e : D l (subF f (blF r n) (blF c M)) = D l (subF f R C) := D_congr fun a ha b hb => by
    unfold subF
    rw [blF_N, blF_N, Int.toNat_natCast, Int.toNat_natCast, h6 a ha, h8 b hb]
    rfl
  rw [e]
theorem rkP_stay {f : Nat → Nat → Int} {n M l : Nat} (h : ∀ q, l < q → volS f n M (q : Int) = 0) : ∀ d, rkP f n M (l + d) = rkP f n M l
  | 0 => rfl
  | d + 1 => by
    show (if 0 < volS f n M ((l + d + 1 : Nat) : Int) then l + d + 1 else rkP f n M (l + d)) = _
    rw [h (l + d + 1) (by omega), if_neg (by omega), rkP_stay h d]
theorem rkP_top {f : Nat → Nat → Int} {n M q : Nat} (h : 0 < volS f n M (q : Int)) : rkP f n M q = q := by
  cases q with
  | zero => rfl
  | succ q => exact if_pos h
theorem rkP_none {f : Nat → Nat → Int} {n M l : Nat} : ∀ q, rkP f n M q = l → l < q → ∀ p, l < p → p ≤ q → volS f n M (p : Int) = 0
  | 0, _, hq, _, _, _ => absurd hq (by omega)
  | q + 1, h, hlq, p, h1, h2 => by
    unfold rkP at h
    split at h
    · omega
    · rename_i hv
      by_cases e : p = q + 1
      · subst e
        have := volS_pos (f := f) (n := n) (M := M) (k := ((q + 1 : Nat) : Int))
        omega
      · exact rkP_none q h (by omega) p h1 (by omega)
theorem wmat_all {f : Nat → Nat → Int} {l : Nat} {R C : Nat → Nat → Int} {c n : Nat} (h : wmat f l R C c n = 0) {i j : Nat} (hi : i < n) (hj : j < c) : leftV f l R C i j = 0 := by
  have := wmat_ge (f := f) (l := l) (R := R) (C := C) (c := c) n i j hi hj
  omega
/-- Nothing is left exactly if there are as many rows as the rank. -/
theorem left_rank {n M l : Nat} {f : Nat → Nat → Int} {R C : Nat → Nat → Int} (hs : setB n l R = true) (ht : setB M l C = true) (hd : D l (subF f R C) ≠ 0) : wmat f l R C M n = 0 ↔ rkP f n M (min n M) = l := by
  have hl1 := set_len hs
  have hl2 := set_len ht
  constructor
  · intro h
    have hb : ∀ i, i < n → ∀ j, j < M → D (l + 1) (fun a b => f (insN l (natF R) i a) (insN l (natF C) j b)) = 0 := by
      intro i hi j hj
      have h0 := wmat_all h hi hj
      cases h1 : hasB l R (i : Int) with
      | true =>
        obtain ⟨q, hq, e⟩ := any_range.1 h1
        have e2 : natF R q = i := by
          unfold natF
          have : R q 0 = i := by simpa using e
          rw [this]; simp
        refine D_same (i := q) (j := l) (by omega) (by omega) (by omega) fun b _ => ?_
        rw [show insN l (natF R) i q = natF R q from if_pos hq, show insN l (natF R) i l = i by unfold insN; rw [if_neg (by omega), if_pos rfl], e2]
      | false =>
        cases h2 : hasB l C (j : Int) with
        | true =>
          obtain ⟨q, hq, e⟩ := any_range.1 h2
          have e2 : natF C q = j := by
            unfold natF
            have : C q 0 = j := by simpa using e
            rw [this]; simp
          rw [← D_flip]
          refine D_same (i := q) (j := l) (by omega) (by omega) (by omega) fun b _ => ?_
          rw [show insN l (natF C) j q = natF C q from if_pos hq, show insN l (natF C) j l = j by unfold insN; rw [if_neg (by omega), if_pos rfl], e2]
        | false =>
          rw [← left_D]
          unfold leftV at h0
          rw [h1, h2, if_neg (by simp)] at h0
          exact h0
    have hz : ∀ q, l < q → volS f n M (q : Int) = 0 := by
      intro q hq
      rcases vmat_or (f := f) (n := n) (M := M) (k := (q : Int)) (b := 0) (2 ^ n) with e | ⟨p, c, -, -, h3, h4, e⟩
      · exact e
      · have e2 : volS f n M (q : Int) = dV f n M p c := e
        rw [e2]
        unfold dV
        have h5 : (bl p n).length = q := by omega
        have h6 : (bl c M).length = q := by omega
        rw [h5]
        have := D_rank (n := n) (m := M) (k := l) (f := f) (x := natF R) (y := natF C) hd hb hq (u := blN p n) (v := blN c M) (fun a ha => blN_lt (by omega)) (fun a ha => blN_lt (by omega))
        have e3 : D q (subF f (blF p n) (blF c M)) = D q (fun a b => f (blN p n a) (blN c M b)) := D_congr fun a _ b _ => by
          unfold subF
          rw [blF_N, blF_N, Int.toNat_natCast, Int.toNat_natCast]
        rw [e3, this]
        rfl
    obtain ⟨d, hde⟩ : ∃ d, min n M = l + d := ⟨min n M - l, by omega⟩
    rw [hde, rkP_stay hz d]
    refine rkP_top ?_
    obtain ⟨r, c, h1, h2, h3, h4, h5⟩ := cho_bl (f := f) hs ht
    have := volS_ge (f := f) (k := (l : Int)) h1 (by omega) h2 (by omega)
    omega
  · intro h
    have h1 := wmat_vol (f := f) hs ht
    have h0 := wmat_pos (f := f) (l := l) (R := R) (C := C) (c := M) n
    split at h1
    · rename_i hlt
      have := rkP_none (min n M) h (by omega) (l + 1) (by omega) hlt
      rw [show ((l + 1 : Nat) : Int) = (l : Int) + 1 by omega] at this
      omega
    · omega
end Go.Proofs.Ytoejdfpmmgldpaa
