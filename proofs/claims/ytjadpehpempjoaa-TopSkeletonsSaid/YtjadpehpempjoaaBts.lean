/- Numbers as sets of the places of their bits: ascending lists, and each ascending list is one of a number. No conditions but those of each theorem. -/
import Derived.Test.YtjadpehpempjoaaBase
namespace Go.Proofs.Ytjadpehpempjoaa
set_option linter.unusedVariables false
set_option linter.unusedSimpArgs false
/-- The places of the bits of r below n, in order. -/
def bl (r : Nat) : Nat → List Nat
  | 0 => []
  | n + 1 => if r.testBit n = true then bl r n ++ [n] else bl r n
theorem bl_lt {r : Nat} : ∀ {n : Nat}, ∀ x ∈ bl r n, x < n
  | 0, x, h => by simp [bl] at h
  | n + 1, x, h => by
    unfold bl at h
    split at h
    · rw [List.mem_append] at h
      rcases h with h | h
      · have := bl_lt x h; omega
      · simp at h; omega
    · have := bl_lt x h; omega
theorem bl_asc {r : Nat} : ∀ {n : Nat}, (bl r n).Pairwise (· < ·)
  | 0 => by simp [bl]
  | n + 1 => by
    unfold bl
    split
    · rw [List.pairwise_append]
      refine ⟨bl_asc, by simp, fun a ha b hb => ?_⟩
      simp at hb
      subst hb
      exact bl_lt a ha
    · exact bl_asc
theorem bl_len {r : Nat} : ∀ {n : Nat}, (bl r n).length ≤ n
  | 0 => by simp [bl]
  | n + 1 => by
    have := bl_len (r := r) (n := n)
    unfold bl
    split
    · rw [List.length_append, List.length_singleton]; omega
    · omega
/-- Behind all bits nothing more comes. -/
theorem bl_on {r n : Nat} (h : r < 2 ^ n) : ∀ d, bl r (n + d) = bl r n
  | 0 => rfl
  | d + 1 => by
    have e : r.testBit (n + d) = false := Nat.testBit_lt_two_pow (Nat.lt_of_lt_of_le h (Nat.pow_le_pow_right (by omega) (by omega)))
    show (if r.testBit (n + d) = true then bl r (n + d) ++ [n + d] else bl r (n + d)) = _
    rw [e, if_neg (by simp)]
    exact bl_on h d
theorem bl_eq {r n i : Nat} (h : r < 2 ^ n) (h2 : r < 2 ^ i) : bl r i = bl r n := by
  rcases Nat.le_total n i with q | q
  · obtain ⟨d, rfl⟩ := Nat.exists_eq_add_of_le q
    exact bl_on h d
  · obtain ⟨d, rfl⟩ := Nat.exists_eq_add_of_le q
    exact (bl_on h2 d).symm
theorem bl_congr {r s : Nat} : ∀ {n : Nat}, (∀ i, i < n → r.testBit i = s.testBit i) → bl r n = bl s n
  | 0, _ => rfl
  | n + 1, h => by
    unfold bl
    rw [h n (by omega), bl_congr fun i hi => h i (by omega)]
/-- Each ascending list of numbers below n is one of a number. -/
theorem bl_all : ∀ (n l : Nat) (x : Nat → Nat), (∀ k, k < l → x k < n) → (∀ k j, k < j → j < l → x k < x j) → ∃ r, r < 2 ^ n ∧ bl r n = (List.range l).map x
  | 0, l, x, h, _ => by
    obtain rfl : l = 0 := by
      cases l with
      | zero => rfl
      | succ l => exact absurd (h 0 (by omega)) (by omega)
    exact ⟨0, by decide, rfl⟩
  | n + 1, l, x, h, ha => by
    by_cases hl : ∃ q, l = q + 1 ∧ x q = n
    · obtain ⟨q, rfl, hq⟩ := hl
      obtain ⟨r, hr, he⟩ := bl_all n q x (fun k hk => by have := ha k q hk (by omega); omega) (fun k j hkj hj => ha k j hkj (by omega))
      refine ⟨2 ^ n + r, by rw [Nat.pow_succ]; omega, ?_⟩
      unfold bl
      rw [Nat.testBit_two_pow_add_eq, Nat.testBit_lt_two_pow hr, if_pos (by rfl), List.range_succ, List.map_append, ← he]
      congr 1
      · exact bl_congr fun i hi => Nat.testBit_two_pow_add_gt hi r
      · simp [hq]
    · obtain ⟨r, hr, he⟩ := bl_all n l x (fun k hk => by
        have h1 := h k hk
        rcases Nat.lt_or_ge k (l - 1) with h2 | h2
        · have h3 := ha k (l - 1) h2 (by omega)
          have h4 := h (l - 1) (by omega)
          omega
        · by_cases e : x k = n
          · exact absurd ⟨k, by omega, e⟩ hl
          · omega) ha
      refine ⟨r, by rw [Nat.pow_succ]; omega, ?_⟩
      unfold bl
      rw [Nat.testBit_lt_two_pow hr, if_neg (by simp)]
      exact he
/-- The list as a row of ints. -/
def blF (r n : Nat) (k _ : Nat) : Int := ((bl r n).getD k 0 : Nat)
def blN (r n k : Nat) : Nat := (bl r n).getD k 0
theorem blF_N (r n k j : Nat) : blF r n k j = (blN r n k : Int) := rfl
theorem blN_lt {r n k : Nat} (h : k < (bl r n).length) : blN r n k < n := by
  unfold blN
  rw [List.getD_eq_getElem?_getD, List.getElem?_eq_getElem h, Option.getD_some]
  exact bl_lt _ (List.getElem_mem h)
theorem blN_asc {r n k j : Nat} (hkj : k < j) (h : j < (bl r n).length) : blN r n k < blN r n j := by
  unfold blN
  rw [List.getD_eq_getElem?_getD, List.getD_eq_getElem?_getD, List.getElem?_eq_getElem h, List.getElem?_eq_getElem (Nat.lt_trans hkj h), Option.getD_some, Option.getD_some]
  exact List.pairwise_iff_getElem.1 bl_asc k j (Nat.lt_trans hkj h) h hkj
theorem bl_map {r n l : Nat} {x : Nat → Nat} (h : bl r n = (List.range l).map x) : (bl r n).length = l ∧ ∀ k, k < l → blN r n k = x k := by
  refine ⟨by rw [h]; simp, fun k hk => ?_⟩
  unfold blN
  rw [h, List.getD_eq_getElem?_getD]
  simp [hk]
end Go.Proofs.Ytjadpehpempjoaa
