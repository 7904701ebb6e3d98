/- Determinants: rows that few others combine to, the last column, a row put in between, choices whose bordered minors all vanish. No conditions but those of each theorem. Choices with one more row and column, put in their places; bordered minors are at most the next volume; nothing is left exactly if there are as many rows as the rank. No conditions but those of each theorem. -/
import Derived.Test.YtjadpehpempjoaaDet2
import Derived.Test.YtjadpehpempjoaaRk
import Derived.Test.YtjadpehpempjoaaCk
namespace Go.Proofs.Ytjadpehpempjoaa
set_option linter.unusedVariables false
set_option linter.unusedSimpArgs false
/-- The first t rows behind the first one, combined with the first one. -/
def cmb (Y : Nat → Nat → Int) (a : Int) (b : Nat → Int) (t : Nat) : Nat → Nat → Int := fun i j => if 1 ≤ i ∧ i ≤ t then a * Y i j - b i * Y 0 j else Y i j
theorem D_cmb (n : Nat) (Y : Nat → Nat → Int) (a : Int) (b : Nat → Int) : ∀ t, t < n → D n (cmb Y a b t) = a ^ t * D n Y
  | 0, h => by
    rw [Int.pow_zero, Int.one_mul]
    exact D_congr fun i _ j _ => if_neg (by omega)
  | t + 1, h => by
    have e : cmb Y a b (t + 1) = setR (cmb Y a b t) (t + 1) fun q => a * Y (t + 1) q + -b (t + 1) * Y 0 q := by
      funext x q
      unfold setR cmb
      by_cases u : x = t + 1
      · rw [if_pos u, u, if_pos (by omega)]; grind
      · rw [if_neg u]
        by_cases u2 : 1 ≤ x ∧ x ≤ t
        · rw [if_pos u2, if_pos (by omega)]
        · rw [if_neg u2, if_neg (by omega)]
    rw [e, D_lin n (t + 1) _ _ _ _ _ h]
    have e2 : setR (cmb Y a b t) (t + 1) (Y (t + 1)) = cmb Y a b t := by
      funext x q
      unfold setR cmb
      by_cases u : x = t + 1
      · rw [if_pos u, if_neg (by omega), u]
      · rw [if_neg u]
    have e3 : D n (setR (cmb Y a b t) (t + 1) (Y 0)) = 0 := D_same (i := 0) (j := t + 1) (by omega) h (by omega) fun q _ => by
      rw [setR_ne _ _ _ (by omega), setR_same]
      exact if_neg (by omega)
    rw [e2, e3, D_cmb n Y a b t (by omega), Int.pow_succ]
    grind
/-- More rows than those that they are combined of: the determinant vanishes. -/
theorem D_few : ∀ (k N : Nat) (Y v c : Nat → Nat → Int), k < N → (∀ i, i < N → ∀ j, j < N → Y i j = sumZ (fun p => c i p * v p j) k) → D N Y = 0
  | 0, N, Y, v, c, hN, h => by
    obtain ⟨q, rfl⟩ : ∃ q, N = q + 1 := ⟨N - 1, by omega⟩
    unfold D
    refine sumZ_zero fun k hk => ?_
    rw [h 0 (by omega) k hk]
    simp [sumZ]
  | k + 1, N, Y, v, c, hN, h => by
    by_cases hz : ∀ i, i < N → c i k = 0
    · refine D_few k N Y v c (by omega) fun i hi j hj => ?_
      rw [h i hi j hj]
      show sumZ _ k + c i k * v k j = _
      rw [hz i hi]
      omega
    · obtain ⟨s, hs⟩ := Classical.not_forall.1 hz
      obtain ⟨hsN, hs⟩ := Classical.not_imp.1 hs
      have key : ∀ (Y c : Nat → Nat → Int), (∀ i, i < N → ∀ j, j < N → Y i j = sumZ (fun p => c i p * v p j) (k + 1)) → c 0 k ≠ 0 → D N Y = 0 := by
        intro Y c h h0
        obtain ⟨q, rfl⟩ : ∃ q, N = q + 1 := ⟨N - 1, by omega⟩
        have h1 := D_cmb (q + 1) Y (c 0 k) (fun i => c i k) q (by omega)
        have h2 : D (q + 1) (cmb Y (c 0 k) (fun i => c i k) q) = 0 := by
          unfold D
          refine sumZ_zero fun x hx => ?_
          have h3 : D q (fun i j => cmb Y (c 0 k) (fun i => c i k) q (i + 1) (Go.Proofs.Ytjadpehpempjoaa.skip x j)) = 0 := by
            refine D_few k q _ (fun p j => v p (Go.Proofs.Ytjadpehpempjoaa.skip x j)) (fun i p => c 0 k * c (i + 1) p - c (i + 1) k * c 0 p) (by omega) fun i hi j hj => ?_
            have hj2 := skip_lt (k := x) hj
            unfold cmb
            rw [if_pos (by omega), h (i + 1) (by omega) _ hj2, h 0 (by omega) _ hj2]
            show c 0 k * (sumZ (fun p => c (i + 1) p * v p (Go.Proofs.Ytjadpehpempjoaa.skip x j)) k + c (i + 1) k * v k (Go.Proofs.Ytjadpehpempjoaa.skip x j)) - c (i + 1) k * (sumZ (fun p => c 0 p * v p (Go.Proofs.Ytjadpehpempjoaa.skip x j)) k + c 0 k * v k (Go.Proofs.Ytjadpehpempjoaa.skip x j)) = _
            have e1 : sumZ (fun p => (c 0 k * c (i + 1) p - c (i + 1) k * c 0 p) * v p (Go.Proofs.Ytjadpehpempjoaa.skip x j)) k = c 0 k * sumZ (fun p => c (i + 1) p * v p (Go.Proofs.Ytjadpehpempjoaa.skip x j)) k + -c (i + 1) k * sumZ (fun p => c 0 p * v p (Go.Proofs.Ytjadpehpempjoaa.skip x j)) k := by
              rw [← sumZ_mul, ← sumZ_mul, ← sumZ_add]
              refine sumZ_congr fun p _ => ?_
              grind
            rw [e1]
            grind
          rw [h3]
          omega
        rw [h2] at h1
        rcases Int.mul_eq_zero.1 h1.symm with h4 | h4
        · exact absurd h4 (Int.pow_ne_zero h0)
        · exact h4
      by_cases hs0 : s = 0
      · subst hs0
        exact key Y c h hs
      · have h1 := D_swap (i := 0) (j := s) (by omega) hsN (by omega) Y
        have h2 := key (swR Y 0 s) (swR c 0 s) (fun i hi j hj => by
          unfold swR
          by_cases e : i = s
          · subst e
            rw [setR_same, h 0 (by omega) j hj]
            refine sumZ_congr fun p _ => ?_
            rw [setR_same]
          · rw [setR_ne _ _ _ e]
            by_cases e0 : i = 0
            · subst e0
              rw [setR_same, h s hsN j hj]
              refine sumZ_congr fun p _ => ?_
              rw [setR_ne _ _ _ e, setR_same]
            · rw [setR_ne _ _ _ e0, h i hi j hj]
              refine sumZ_congr fun p _ => ?_
              rw [setR_ne _ _ _ e, setR_ne _ _ _ e0]) (by
          unfold swR
          rw [setR_ne _ _ _ (Ne.symm hs0), setR_same]
          exact hs)
        omega
/-- A last column that is 0 above its end. -/
theorem D_last : ∀ (n : Nat) (X : Nat → Nat → Int), (∀ i, i < n → X i n = 0) → D (n + 1) X = X n n * D n X
  | 0, X, _ => by rw [D_one]; simp [D]
  | n + 1, X, h => by
    rw [show D (n + 1 + 1) X = sumZ (fun k => sg k * X 0 k * D (n + 1) (fun i j => X (i + 1) (skip k j))) (n + 1) + sg (n + 1) * X 0 (n + 1) * D (n + 1) (fun i j => X (i + 1) (skip (n + 1) j)) from rfl, h 0 (by omega)]
    rw [show D (n + 1) X = sumZ (fun k => sg k * X 0 k * D n (fun i j => X (i + 1) (skip k j))) (n + 1) from rfl, ← sumZ_mul]
    have e : ∀ k, k < n + 1 → sg k * X 0 k * D (n + 1) (fun i j => X (i + 1) (skip k j)) = X (n + 1) (n + 1) * (sg k * X 0 k * D n (fun i j => X (i + 1) (skip k j))) := by
      intro k hk
      have hsk : skip k n = n + 1 := if_neg (by omega)
      rw [D_last n (fun i j => X (i + 1) (skip k j)) fun i hi => by
        show X (i + 1) (skip k n) = 0
        rw [hsk]
        exact h (i + 1) (by omega)]
      show sg k * X 0 k * (X (n + 1) (skip k n) * _) = _
      rw [hsk]
      grind
    rw [sumZ_congr e]
    simp
/-- Columns instead of rows. -/
def setC (X : Nat → Nat → Int) (j : Nat) (u : Nat → Int) : Nat → Nat → Int := fun a b => if b = j then u a else X a b
theorem D_linC (n j : Nat) (X : Nat → Nat → Int) (a c : Int) (u v : Nat → Int) (h : j < n) : D n (setC X j fun b => a * u b + c * v b) = a * D n (setC X j u) + c * D n (setC X j v) := by
  have e : ∀ w, D n (setC X j w) = D n (setR (fun a b => X b a) j w) := fun w => by
    rw [← D_flip]
    rfl
  rw [e, e, e]
  exact D_lin n j _ a c u v h
/-- The determinant is a combination of the elements of its last column. -/
theorem D_coef (n : Nat) (X : Nat → Nat → Int) : ∃ γ : Nat → Int, γ n = D n X ∧ ∀ u : Nat → Int, D (n + 1) (setC X n u) = sumZ (fun p => u p * γ p) (n + 1) := by
  refine ⟨fun p => D (n + 1) (setC X n fun q => if q = p then 1 else 0), ?_, fun u => ?_⟩
  · show D (n + 1) (setC X n fun q => if q = n then 1 else 0) = D n X
    rw [D_last n _ fun i hi => by
      unfold setC
      rw [if_pos rfl]
      exact if_neg (by omega)]
    rw [show setC X n (fun q => if q = n then 1 else 0) n n = 1 by unfold setC; rw [if_pos rfl]; exact if_pos rfl, Int.one_mul]
    exact D_congr fun i hi j hj => by unfold setC; rw [if_neg (by omega)]
  · have key : ∀ t, t ≤ n + 1 → D (n + 1) (setC X n fun q => if q < t then u q else 0) = sumZ (fun p => u p * D (n + 1) (setC X n fun q => if q = p then 1 else 0)) t := by
      intro t
      induction t with
      | zero =>
        intro _
        have := D_linC (n + 1) n X 0 0 u u (by omega)
        rw [show (fun q => if q < 0 then u q else 0) = fun b => 0 * u b + 0 * u b from funext fun q => by rw [if_neg (by omega)]; omega, this]
        show _ = (0 : Int)
        omega
      | succ t ih =>
        intro ht
        have := D_linC (n + 1) n X 1 (u t) (fun q => if q < t then u q else 0) (fun q => if q = t then 1 else 0) (by omega)
        rw [show (fun q => if q < t + 1 then u q else 0) = fun b => 1 * (if b < t then u b else 0) + u t * (if b = t then 1 else 0) from funext fun q => by
          by_cases e1 : q < t
          · rw [if_pos (by omega), if_pos e1, if_neg (by omega)]; omega
          · by_cases e2 : q = t
            · subst e2; rw [if_pos (by omega), if_neg (by omega), if_pos rfl]; omega
            · rw [if_neg (by omega), if_neg e1, if_neg e2]; omega, this, ih (by omega), Int.one_mul]
        rfl
    rw [← key (n + 1) (Nat.le_refl _)]
    exact D_congr fun i hi j _ => by
      unfold setC
      split
      · exact (if_pos hi).symm
      · rfl
/-- A list with one more number at a place. -/
def insN (s : Nat) (x : Nat → Nat) (z : Nat) (a : Nat) : Nat := if a < s then x a else if a = s then z else x (a - 1)
theorem insN_step (s : Nat) (x : Nat → Nat) (z : Nat) (X : Nat → Nat → Int) : (fun a b => X (insN s x z a) b) = swR (fun a b => X (insN (s + 1) x z a) b) s (s + 1) := by
  funext a b
  show X (insN s x z a) b = if a = s + 1 then X (insN (s + 1) x z s) b else if a = s then X (insN (s + 1) x z (s + 1)) b else X (insN (s + 1) x z a) b
  have e1 : insN (s + 1) x z s = x s := if_pos (by omega)
  have e2 : insN (s + 1) x z (s + 1) = z := by unfold insN; rw [if_neg (by omega), if_pos rfl]
  have e3 : insN s x z (s + 1) = x s := by unfold insN; rw [if_neg (by omega), if_neg (by omega)]; rfl
  have e4 : insN s x z s = z := by unfold insN; rw [if_neg (by omega), if_pos rfl]
  by_cases h1 : a = s + 1
  · subst h1
    rw [if_pos rfl, e1, e3]
  · rw [if_neg h1]
    by_cases h2 : a = s
    · subst h2
      rw [if_pos rfl, e2, e4]
    · rw [if_neg h2]
      congr 1
      unfold insN
      by_cases h3 : a < s
      · rw [if_pos h3, if_pos (by omega)]
      · rw [if_neg h3, if_neg h2, if_neg (by omega), if_neg h1]
/-- A row put in between changes no more than the sign. -/
theorem D_insN (k : Nat) (x : Nat → Nat) (z : Nat) (X : Nat → Nat → Int) : ∀ d s, s + d = k → D (k + 1) (fun a b => X (insN s x z a) b) = sg d * D (k + 1) (fun a b => X (insN k x z a) b)
  | 0, s, h => by
    obtain rfl : s = k := by omega
    simp [sg]
  | d + 1, s, h => by
    rw [insN_step, D_swap (by omega) (by omega) (by omega), D_insN k x z X d (s + 1) (by omega), sg_succ]
    grind
theorem sg_abs (d : Nat) (x : Int) : (sg d * x).natAbs = x.natAbs := by
  rcases sg_bd d with h | h <;> rw [h] <;> simp
theorem D_insR {k s : Nat} (hs : s ≤ k) (x : Nat → Nat) (z : Nat) (X : Nat → Nat → Int) : (D (k + 1) (fun a b => X (insN s x z a) b)).natAbs = (D (k + 1) (fun a b => X (insN k x z a) b)).natAbs := by
  rw [D_insN k x z X (k - s) s (by omega), sg_abs]
theorem D_insC {k s : Nat} (hs : s ≤ k) (x : Nat → Nat) (z : Nat) (X : Nat → Nat → Int) : (D (k + 1) (fun a b => X a (insN s x z b))).natAbs = (D (k + 1) (fun a b => X a (insN k x z b))).natAbs := by
  rw [← D_flip, ← D_flip (k + 1) (fun a b => X a (insN k x z b))]
  exact D_insR hs x z fun a b => X b a
/-- Rows and columns put in between. -/
theorem D_ins {k s t : Nat} (hs : s ≤ k) (ht : t ≤ k) (f : Nat → Nat → Int) (x y : Nat → Nat) (i j : Nat) :
    (D (k + 1) (fun a b => f (insN s x i a) (insN t y j b))).natAbs = (D (k + 1) (fun a b => f (insN k x i a) (insN k y j b))).natAbs :=
  (D_insR hs x i fun a b => f a (insN t y j b)).trans (D_insC ht y j fun a b => f (insN k x i a) b)
/-- If a choice has a minor and all its bordered minors vanish then each greater minor does. -/
theorem D_rank {n m k : Nat} {f : Nat → Nat → Int} {x y : Nat → Nat} (hd : D k (fun a b => f (x a) (y b)) ≠ 0)
    (hb : ∀ i, i < n → ∀ j, j < m → D (k + 1) (fun a b => f (insN k x i a) (insN k y j b)) = 0) {N : Nat} (hN : k < N) {u v : Nat → Nat} (hu : ∀ a, a < N → u a < n) (hv : ∀ a, a < N → v a < m) :
    D N (fun a b => f (u a) (v b)) = 0 := by
  obtain ⟨d, hde⟩ : ∃ d, D k (fun a b => f (x a) (y b)) = d := ⟨_, rfl⟩
  rw [hde] at hd
  have hco : ∀ i : Nat, ∃ γ : Nat → Int, i < n → ∀ j, j < m → d * f i j = sumZ (fun p => γ p * f (x p) j) k := by
    intro i
    obtain ⟨γ, h1, h2⟩ := D_coef k (fun a b => f (insN k x i a) (y b))
    refine ⟨fun p => -γ p, fun hi j hj => ?_⟩
    have h3 := h2 fun a => f (insN k x i a) j
    rw [D_congr (Y := fun a b => f (insN k x i a) (insN k y j b)) fun a ha b hb => by
      unfold setC
      by_cases e : b = k
      · rw [if_pos e, e]
        show _ = f _ (insN k y j k)
        rw [show insN k y j k = j by unfold insN; rw [if_neg (by omega), if_pos rfl]]
      · rw [if_neg e]
        show _ = f _ (insN k y j b)
        rw [show insN k y j b = y b by unfold insN; rw [if_pos (by omega)]], hb i hi j hj] at h3
    have h4 : sumZ (fun p => f (insN k x i p) j * γ p) (k + 1) = sumZ (fun p => γ p * f (x p) j) k + f i j * d := by
      show sumZ _ k + f (insN k x i k) j * γ k = _
      rw [show insN k x i k = i by unfold insN; rw [if_neg (by omega), if_pos rfl], h1]
      rw [D_congr (Y := fun a b => f (x a) (y b)) fun a ha b _ => by
        show f (insN k x i a) (y b) = _
        rw [show insN k x i a = x a by unfold insN; rw [if_pos ha]], hde]
      congr 1
      refine sumZ_congr fun p hp => ?_
      rw [show insN k x i p = x p by unfold insN; rw [if_pos hp], Int.mul_comm]
    rw [h4] at h3
    have h5 : sumZ (fun p => -γ p * f (x p) j) k = -sumZ (fun p => γ p * f (x p) j) k := by
      rw [← sumZ_neg]
      exact sumZ_congr fun p _ => by rw [Int.neg_mul]
    rw [h5, Int.mul_comm]
    omega
  have h6 := D_few k N (fun a b => d * f (u a) (v b)) (fun p b => f (x p) (v b)) (fun a p => (Classical.choose (hco (u a))) p) hN fun a ha b hb2 => by
    exact (Classical.choose_spec (hco (u a))) (hu a ha) (v b) (hv b hb2)
  rw [D_scale] at h6
  rcases Int.mul_eq_zero.1 h6 with h7 | h7
  · exact absurd h7 (Int.pow_ne_zero hd)
  · exact h7
end Go.Proofs.Ytjadpehpempjoaa
namespace Go.Proofs.Ytjadpehpempjoaa
set_option linter.unusedVariables false
set_option linter.unusedSimpArgs false
open Go.RowKit Go.Deep
/-- The place of a number in an ascending list. -/
theorem ins_place {x : Nat → Nat} {z : Nat} : ∀ (L : Nat), (∀ k j, k < j → j < L → x k < x j) → (∀ k, k < L → x k ≠ z) → ∃ s, s ≤ L ∧ (∀ a, a < s → x a < z) ∧ ∀ a, s ≤ a → a < L → z < x a
  | 0, _, _ => ⟨0, Nat.le_refl _, fun a h => absurd h (by omega), fun a _ h => absurd h (by omega)⟩
  | L + 1, ha, hn => by
    obtain ⟨s, h1, h2, h3⟩ := ins_place L (fun k j hkj hj => ha k j hkj (by omega)) (fun k hk => hn k (by omega))
    by_cases hs : s < L
    · refine ⟨s, by omega, h2, fun a h4 h5 => ?_⟩
      by_cases e : a = L
      · subst e
        have := h3 s (Nat.le_refl _) hs
        have := ha s a hs (by omega)
        omega
      · exact h3 a h4 (by omega)
    · by_cases hz : z < x L
      · exact ⟨L, by omega, fun a h => h2 a (by omega), fun a h4 h5 => by
          obtain rfl : a = L := by omega
          exact hz⟩
      · have := hn L (by omega)
        refine ⟨L + 1, Nat.le_refl _, fun a h => ?_, fun a h4 h5 => absurd h5 (by omega)⟩
        by_cases e : a = L
        · subst e; omega
        · exact h2 a (by omega)
theorem ins_asc {x : Nat → Nat} {z s L : Nat} (hs : s ≤ L) (ha : ∀ k j, k < j → j < L → x k < x j) (h2 : ∀ a, a < s → x a < z) (h3 : ∀ a, s ≤ a → a < L → z < x a) : ∀ k j, k < j → j < L + 1 → insN s x z k < insN s x z j := by
  intro k j hkj hj
  unfold insN
  by_cases c1 : j < s
  · rw [if_pos c1, if_pos (by omega)]
    exact ha k j hkj (by omega)
  · rw [if_neg c1]
    by_cases c2 : j = s
    · rw [if_pos c2, if_pos (by omega)]
      exact h2 k (by omega)
    · rw [if_neg c2]
      by_cases c3 : k < s
      · rw [if_pos c3]
        have := h2 k c3
        have := h3 (j - 1) (by omega) (by omega)
        omega
      · rw [if_neg c3]
        by_cases c4 : k = s
        · rw [if_pos c4]
          exact h3 (j - 1) (by omega) (by omega)
        · rw [if_neg c4]
          exact ha (k - 1) (j - 1) (by omega) (by omega)
theorem ins_lt {x : Nat → Nat} {z s L n : Nat} (hs : s ≤ L) (hx : ∀ k, k < L → x k < n) (hz : z < n) : ∀ k, k < L + 1 → insN s x z k < n := by
  intro k hk
  unfold insN
  split
  · exact hx k (by omega)
  · split
    · exact hz
    · exact hx (k - 1) (by omega)
/-- A set with one more number is a set. -/
theorem ins_bl {n L z : Nat} {x : Nat → Nat} (hx : ∀ k, k < L → x k < n) (ha : ∀ k j, k < j → j < L → x k < x j) (hn : ∀ k, k < L → x k ≠ z) (hz : z < n) :
    ∃ r s, r < 2 ^ n ∧ (bl r n).length = L + 1 ∧ s ≤ L ∧ ∀ a, a < L + 1 → blN r n a = insN s x z a := by
  obtain ⟨s, h1, h2, h3⟩ := ins_place L ha hn
  obtain ⟨r, h4, h5⟩ := bl_all n (L + 1) (insN s x z) (ins_lt h1 hx hz) (ins_asc h1 ha h2 h3)
  obtain ⟨h6, h7⟩ := bl_map h5
  exact ⟨r, s, h4, h6, h1, h7⟩
theorem set_nat {N l : Nat} {x : Nat → Nat → Int} (h : setB N l x = true) : (∀ k, k < l → (x k 0).toNat < N) ∧ (∀ k j, k < j → j < l → (x k 0).toNat < (x j 0).toNat) := by
  refine ⟨fun k hk => ?_, fun k j hkj hj => ?_⟩
  · have := setB_at h hk; omega
  · have h1 := set_up h (j - k) k (by omega)
    rw [show k + (j - k) = j by omega] at h1
    have h2 := setB_at h (show k < l by omega)
    omega
/-- The numbers of a set. -/
def natF (x : Nat → Nat → Int) (k : Nat) : Nat := (x k 0).toNat
theorem addF_ins {l : Nat} {x : Nat → Nat → Int} {i : Nat} {k : Nat} (hk : k < l + 1) : (addF l x (i : Int) k 0).toNat = insN l (natF x) i k := by
  unfold addF insN natF
  by_cases h : k < l
  · rw [if_pos h, if_pos h]
  · rw [if_neg h, if_neg h, if_pos (by omega)]
    simp
theorem left_D {f : Nat → Nat → Int} {l : Nat} {R C : Nat → Nat → Int} {i j : Nat} : D (l + 1) (subF f (addF l R i) (addF l C j)) = D (l + 1) (fun a b => f (insN l (natF R) i a) (insN l (natF C) j b)) :=
  D_congr fun a ha b hb => by
    unfold subF
    rw [addF_ins ha, addF_ins hb]
theorem has_nat {N l : Nat} {x : Nat → Nat → Int} {i : Nat} (h : setB N l x = true) (hn : hasB l x i = false) : ∀ k, k < l → natF x k ≠ i := by
  intro k hk e
  have h1 := has_not hn k hk
  have h2 := setB_at h hk
  unfold natF at e
  omega
/-- A bordered minor has the size of a minor of a choice of the next size. -/
theorem left_dV {n M l : Nat} {f : Nat → Nat → Int} {R C : Nat → Nat → Int} {i j : Nat} (hs : setB n l R = true) (ht : setB M l C = true) (hi : i < n) (hj : j < M) (h1 : hasB l R i = false) (h2 : hasB l C j = false) :
    ∃ r c, r < 2 ^ n ∧ c < 2 ^ M ∧ (bl r n).length = l + 1 ∧ (bl c M).length = l + 1 ∧ ((leftV f l R C i j).natAbs : Int) = dV f n M r c ∧ l + 1 ≤ n ∧ l + 1 ≤ M := by
  obtain ⟨r, s, a1, a2, a3, a4⟩ := ins_bl (set_nat hs).1 (set_nat hs).2 (has_nat hs h1) hi
  obtain ⟨c, t, b1, b2, b3, b4⟩ := ins_bl (set_nat ht).1 (set_nat ht).2 (has_nat ht h2) hj
  refine ⟨r, c, a1, b1, a2, b2, ?_, ?_, ?_⟩
  · have e : leftV f l R C i j = D (l + 1) (subF f (addF l R i) (addF l C j)) := by
      unfold leftV
      rw [h1, h2, if_neg (by simp)]
    rw [e, left_D]
    unfold dV
    rw [a2]
    have e2 : D (l + 1) (subF f (blF r n) (blF c M)) = D (l + 1) (fun a b => f (insN s (natF R) i a) (insN t (natF C) j b)) := D_congr fun a ha b hb => by
      unfold subF
      rw [blF_N, blF_N, Int.toNat_natCast, Int.toNat_natCast, a4 a ha, b4 b hb]
      rfl
    rw [e2, D_ins a3 b3]
  · have := bl_len (r := r) (n := n); omega
  · have := bl_len (r := c) (n := M); omega
theorem left_vol {n M l : Nat} {f : Nat → Nat → Int} {R C : Nat → Nat → Int} {i j : Nat} (hs : setB n l R = true) (ht : setB M l C = true) (hi : i < n) (hj : j < M) :
    leftV f l R C i j = 0 ∨ (l + 1 ≤ min n M ∧ ((leftV f l R C i j).natAbs : Int) ≤ volS f n M ((l : Int) + 1)) := by
  cases h1 : hasB l R (i : Int) with
  | true => left; unfold leftV; rw [h1, Bool.true_or, if_pos rfl]
  | false =>
    cases h2 : hasB l C (j : Int) with
    | true => left; unfold leftV; rw [h2, Bool.or_true, if_pos rfl]
    | false =>
      right
      obtain ⟨r, c, a1, a2, a3, a4, a5, a6, a7⟩ := left_dV (f := f) hs ht hi hj h1 h2
      refine ⟨by omega, ?_⟩
      rw [a5]
      exact volS_ge a1 (by omega) a2 (by omega)
/-- The greatest bordered minor. -/
theorem wrow_le {f : Nat → Nat → Int} {l : Nat} {R C : Nat → Nat → Int} {i : Nat} {b V : Int} : ∀ c : Nat, b ≤ V → (∀ j, j < c → ((leftV f l R C i j).natAbs : Int) ≤ V) → wrow f l R C i b c ≤ V
  | 0, hb, _ => hb
  | c + 1, hb, h => by
    have h1 := wrow_le (i := i) c hb fun j hj => h j (by omega)
    have h2 := h c (by omega)
    show max (wrow f l R C i b c) ((leftV f l R C i c).natAbs : Int) ≤ V
    omega
theorem wmat_le {f : Nat → Nat → Int} {l : Nat} {R C : Nat → Nat → Int} {c : Nat} {V : Int} : ∀ n : Nat, 0 ≤ V → (∀ i, i < n → ∀ j, j < c → ((leftV f l R C i j).natAbs : Int) ≤ V) → wmat f l R C c n ≤ V
  | 0, hb, _ => hb
  | n + 1, hb, h => wrow_le c (wmat_le n hb fun i hi j hj => h i (by omega) j hj) fun j hj => h n (by omega) j hj
theorem wmat_pos {f : Nat → Nat → Int} {l : Nat} {R C : Nat → Nat → Int} {c : Nat} : ∀ n : Nat, 0 ≤ wmat f l R C c n
  | 0 => Int.le_refl _
  | n + 1 => Int.le_trans (wmat_pos n) (wrow_ge (i := n) (b := wmat f l R C c n) c).1
/-- What is left is at most the next volume. -/
theorem wmat_vol {n M l : Nat} {f : Nat → Nat → Int} {R C : Nat → Nat → Int} (hs : setB n l R = true) (ht : setB M l C = true) : wmat f l R C M n ≤ if l + 1 ≤ min n M then volS f n M ((l : Int) + 1) else 0 := by
  refine wmat_le n ?_ fun i hi j hj => ?_
  · split
    · exact volS_pos
    · exact Int.le_refl _
  · rcases left_vol (f := f) hs ht hi hj with h | ⟨h1, h2⟩
    · rw [h]
      split
      · have := volS_pos (f := f) (n := n) (M := M) (k := (l : Int) + 1)
        simpa using this
      · simp
    · rw [if_pos h1]
      exact h2
/-- The quotient of the greatest bordered minor and the minor is at most that of the next volume and the volume. -/
theorem fr_vol {W V d : Int} (hW : 0 ≤ W) (hd : 0 < d) (h : W ≤ V) : frN W d * d ≤ V * frD W d := by
  obtain ⟨g, g0, g1, g2⟩ := fr_parts (n := W) (d := d) (by omega)
  have hN : 0 ≤ frN W d := by
    unfold frN
    rw [if_neg (by omega)]
    exact Int.ediv_nonneg hW (by omega)
  have hD := frp_pos (n := W) (d := d) (by omega)
  have e1 : ((frN W d).natAbs : Int) = frN W d := by omega
  have e2 : (W.natAbs : Int) = W := by omega
  have e3 : (d.natAbs : Int) = d := by omega
  rw [e1, e2] at g1
  rw [e3] at g2
  have sw : ∀ a b g : Int, a * (b * g) = a * g * b := fun a b g => by grind
  have h1 : frN W d * d = W * frD W d := by
    have := sw (frN W d) (frD W d) g
    rwa [g1, g2] at this
  rw [h1]
  exact Int.mul_le_mul_of_nonneg_right h (by omega)
/-- A choice is one of numbers. -/
theorem cho_bl {n M l : Nat} {f : Nat → Nat → Int} {R C : Nat → Nat → Int} (hs : setB n l R = true) (ht : setB M l C = true) : ∃ r c, r < 2 ^ n ∧ c < 2 ^ M ∧ (bl r n).length = l ∧ (bl c M).length = l ∧ dV f n M r c = ((D l (subF f R C)).natAbs : Int) := by
  obtain ⟨r, h1, h2⟩ := bl_all n l (natF R) (set_nat hs).1 (set_nat hs).2
  obtain ⟨c, h3, h4⟩ := bl_all M l (natF C) (set_nat ht).1 (set_nat ht).2
  obtain ⟨h5, h6⟩ := bl_map h2
  obtain ⟨h7, h8⟩ := bl_map h4
  refine ⟨r, c, h1, h3, h5, h7, ?_⟩
  unfold dV
  rw [h5]
  have e : D l (subF f (blF r n) (blF c M)) = D l (subF f R C) := D_congr fun a ha b hb => by
    unfold subF
    rw [blF_N, blF_N, Int.toNat_natCast, Int.toNat_natCast, h6 a ha, h8 b hb]
    rfl
  rw [e]
theorem rkP_stay {f : Nat → Nat → Int} {n M l : Nat} (h : ∀ q, l < q → volS f n M (q : Int) = 0) : ∀ d, rkP f n M (l + d) = rkP f n M l
  | 0 => rfl
  | d + 1 => by
    show (if 0 < volS f n M ((l + d + 1 : Nat) : Int) then l + d + 1 else rkP f n M (l + d)) = _
    rw [h (l + d + 1) (by omega), if_neg (by omega), rkP_stay h d]
theorem rkP_top {f : Nat → Nat → Int} {n M q : Nat} (h : 0 < volS f n M (q : Int)) : rkP f n M q = q := by
  cases q with
  | zero => rfl
  | succ q => exact if_pos h
theorem rkP_none {f : Nat → Nat → Int} {n M l : Nat} : ∀ q, rkP f n M q = l → l < q → ∀ p, l < p → p ≤ q → volS f n M (p : Int) = 0
  | 0, _, hq, _, _, _ => absurd hq (by omega)
  | q + 1, h, hlq, p, h1, h2 => by
    unfold rkP at h
    split at h
    · omega
    · rename_i hv
      by_cases e : p = q + 1
      · subst e
        have := volS_pos (f := f) (n := n) (M := M) (k := ((q + 1 : Nat) : Int))
        omega
      · exact rkP_none q h (by omega) p h1 (by omega)
theorem wmat_all {f : Nat → Nat → Int} {l : Nat} {R C : Nat → Nat → Int} {c n : Nat} (h : wmat f l R C c n = 0) {i j : Nat} (hi : i < n) (hj : j < c) : leftV f l R C i j = 0 := by
  have := wmat_ge (f := f) (l := l) (R := R) (C := C) (c := c) n i j hi hj
  omega
/-- Nothing is left exactly if there are as many rows as the rank. -/
theorem left_rank {n M l : Nat} {f : Nat → Nat → Int} {R C : Nat → Nat → Int} (hs : setB n l R = true) (ht : setB M l C = true) (hd : D l (subF f R C) ≠ 0) : wmat f l R C M n = 0 ↔ rkP f n M (min n M) = l := by
  have hl1 := set_len hs
  have hl2 := set_len ht
  constructor
  · intro h
    have hb : ∀ i, i < n → ∀ j, j < M → D (l + 1) (fun a b => f (insN l (natF R) i a) (insN l (natF C) j b)) = 0 := by
      intro i hi j hj
      have h0 := wmat_all h hi hj
      cases h1 : hasB l R (i : Int) with
      | true =>
        obtain ⟨q, hq, e⟩ := any_range.1 h1
        have e2 : natF R q = i := by
          unfold natF
          have : R q 0 = i := by simpa using e
          rw [this]; simp
        refine D_same (i := q) (j := l) (by omega) (by omega) (by omega) fun b _ => ?_
        rw [show insN l (natF R) i q = natF R q from if_pos hq, show insN l (natF R) i l = i by unfold insN; rw [if_neg (by omega), if_pos rfl], e2]
      | false =>
        cases h2 : hasB l C (j : Int) with
        | true =>
          obtain ⟨q, hq, e⟩ := any_range.1 h2
          have e2 : natF C q = j := by
            unfold natF
            have : C q 0 = j := by simpa using e
            rw [this]; simp
          rw [← D_flip]
          refine D_same (i := q) (j := l) (by omega) (by omega) (by omega) fun b _ => ?_
          rw [show insN l (natF C) j q = natF C q from if_pos hq, show insN l (natF C) j l = j by unfold insN; rw [if_neg (by omega), if_pos rfl], e2]
        | false =>
          rw [← left_D]
          unfold leftV at h0
          rw [h1, h2, if_neg (by simp)] at h0
          exact h0
    have hz : ∀ q, l < q → volS f n M (q : Int) = 0 := by
      intro q hq
      rcases vmat_or (f := f) (n := n) (M := M) (k := (q : Int)) (b := 0) (2 ^ n) with e | ⟨p, c, -, -, h3, h4, e⟩
      · exact e
      · have e2 : volS f n M (q : Int) = dV f n M p c := e
        rw [e2]
        unfold dV
        have h5 : (bl p n).length = q := by omega
        have h6 : (bl c M).length = q := by omega
        rw [h5]
        have := D_rank (n := n) (m := M) (k := l) (f := f) (x := natF R) (y := natF C) hd hb hq (u := blN p n) (v := blN c M) (fun a ha => blN_lt (by omega)) (fun a ha => blN_lt (by omega))
        have e3 : D q (subF f (blF p n) (blF c M)) = D q (fun a b => f (blN p n a) (blN c M b)) := D_congr fun a _ b _ => by
          unfold subF
          rw [blF_N, blF_N, Int.toNat_natCast, Int.toNat_natCast]
        rw [e3, this]
        rfl
    obtain ⟨d, hde⟩ : ∃ d, min n M = l + d := ⟨min n M - l, by omega⟩
    rw [hde, rkP_stay hz d]
    refine rkP_top ?_
    obtain ⟨r, c, h1, h2, h3, h4, h5⟩ := cho_bl (f := f) hs ht
    have := volS_ge (f := f) (k := (l : Int)) h1 (by omega) h2 (by omega)
    omega
  · intro h
    have h1 := wmat_vol (f := f) hs ht
    have h0 := wmat_pos (f := f) (l := l) (R := R) (C := C) (c := M) n
    split at h1
    · rename_i hlt
      have := rkP_none (min n M) h (by omega) (l + 1) (by omega) hlt
      rw [show ((l + 1 : Nat) : Int) = (l : Int) + 1 by omega] at this
      omega
    · omega
end Go.Proofs.Ytjadpehpempjoaa
