/- Determinants: rows that few others combine to, the last column, a row put in between, choices whose bordered minors all vanish. No conditions but those of each theorem. -/
import Derived.Test.YtoejdfpmmgldpaaDet2
namespace Go.Proofs.Ytoejdfpmmgldpaa
set_option linter.unusedVariables false
set_option linter.unusedSimpArgs false
/-- The first t rows behind the first one, combined with the first one. -/
def cmb (Y : Nat → Nat → Int) (a : Int) (b : Nat → Int) (t : Nat) : Nat → Nat → Int := fun i j => if 1 ≤ i ∧ i ≤ t then a * Y i j - b i * Y 0 j else Y i j
theorem D_cmb (n : Nat) (Y : Nat → Nat → Int) (a : Int) (b : Nat → Int) : ∀ t, t < n → D n (cmb Y a b t) = a ^ t * D n Y
  | 0, h => by
    rw [Int.pow_zero, Int.one_mul]
    exact D_congr fun i _ j _ => if_neg (by omega)
  | t + 1, h => by
    have e : cmb Y a b (t + 1) = setR (cmb Y a b t) (t + 1) fun q => a * Y (t + 1) q + -b (t + 1) * Y 0 q := by
      funext x q
      unfold setR cmb
      by_cases u : x = t + 1
      · rw [if_pos u, u, if_pos (by omega)]; grind
      · rw [if_neg u]
        by_cases u2 : 1 ≤ x ∧ x ≤ t
        · rw [if_pos u2, if_pos (by omega)]
        · rw [if_neg u2, if_neg (by omega)]
    rw [e, D_lin n (t + 1) _ _ _ _ _ h]
    have e2 : setR (cmb Y a b t) (t + 1) (Y (t + 1)) = cmb Y a b t := by
      funext x q
      unfold setR cmb
      by_cases u : x = t + 1
      · rw [if_pos u, if_neg (by omega), u]
      · rw [if_neg u]
    have e3 : D n (setR (cmb Y a b t) (t + 1) (Y 0)) = 0 := D_same (i := 0) (j := t + 1) (by omega) h (by omega) fun q _ => by
      rw [setR_ne _ _ _ (by omega), setR_same]
      exact if_neg (by omega)
    rw [e2, e3, D_cmb n Y a b t (by omega), Int.pow_succ]
    grind
/-- More rows than those that they are combined of: the determinant vanishes. -/
theorem D_few : ∀ (k N : Nat) (Y v c : Nat → Nat → Int), k < N → (∀ i, i < N → ∀ j, j < N → Y i j = sumZ (fun p => c i p * v p j) k) → D N Y = 0
  | 0, N, Y, v, c, hN, h => by
    obtain ⟨q, rfl⟩ : ∃ q, N = q + 1 := ⟨N - 1, by omega⟩
    unfold D
    refine sumZ_zero fun k hk => ?_
    rw [h 0 (by omega) k hk]
    simp [sumZ]
  | k + 1, N, Y, v, c, hN, h => by
    by_cases hz : ∀ i, i < N → c i k = 0
    · refine D_few k N Y v c (by omega) fun i hi j hj => ?_
      rw [h i hi j hj]
      show sumZ _ k + c i k * v k j = _
      rw [hz i hi]
      omega
    · obtain ⟨s, hs⟩ := Classical.not_forall.1 hz
      obtain ⟨hsN, hs⟩ := Classical.not_imp.1 hs
      have key : ∀ (Y c : Nat → Nat → Int), (∀ i, i < N → ∀ j, j < N → Y i j = sumZ (fun p => c i p * v p j) (k + 1)) → c 0 k ≠ 0 → D N Y = 0 := by
        intro Y c h h0
        obtain ⟨q, rfl⟩ : ∃ q, N = q + 1 := ⟨N - 1, by omega⟩
        have h1 := D_cmb (q + 1) Y (c 0 k) (fun i => c i k) q (by omega)
        have h2 : D (q + 1) (cmb Y (c 0 k) (fun i => c i k) q) = 0 := by
          unfold D
          refine sumZ_zero fun x hx => ?_
          have h3 : D q (fun i j => cmb Y (c 0 k) (fun i => c i k) q (i + 1) (Go.Proofs.Ytoejdfpmmgldpaa.skip x j)) = 0 := by
            refine D_few k q _ (fun p j => v p (Go.Proofs.Ytoejdfpmmgldpaa.skip x j)) (fun i p => c 0 k * c (i + 1) p - c (i + 1) k * c 0 p) (by omega) fun i hi j hj => ?_
            have hj2 := skip_lt (k := x) hj
            unfold cmb
            rw [if_pos (by omega), h (i + 1) (by omega) _ hj2, h 0 (by omega) _ hj2]
            show c 0 k * (sumZ (fun p => c (i + 1) p * v p (Go.Proofs.Ytoejdfpmmgldpaa.skip x j)) k + c (i + 1) k * v k (Go.Proofs.Ytoejdfpmmgldpaa.skip x j)) - c (i + 1) k * (sumZ (fun p => c 0 p * v p (Go.Proofs.Ytoejdfpmmgldpaa.skip x j)) k + c 0 k * v k (Go.Proofs.Ytoejdfpmmgldpaa.skip x j)) = _
            have e1 : sumZ (fun p => (c 0 k * c (i + 1) p - c (i + 1) k * c 0 p) * v p (Go.Proofs.Ytoejdfpmmgldpaa.skip x j)) k = c 0 k * sumZ (fun p => c (i + 1) p * v p (Go.Proofs.Ytoejdfpmmgldpaa.skip x j)) k + -c (i + 1) k * sumZ (fun p => c 0 p * v p (Go.Proofs.Ytoejdfpmmgldpaa.skip x j)) k := by
              rw [← sumZ_mul, ← sumZ_mul, ← sumZ_add]
              refine sumZ_congr fun p _ => ?_
              grind
            rw [e1]
            grind
          rw [h3]
          omega
        rw [h2] at h1
        rcases Int.mul_eq_zero.1 h1.symm with h4 | h4
        · exact absurd h4 (Int.pow_ne_zero h0)
        · exact h4
      by_cases hs0 : s = 0
      · subst hs0
        exact key Y c h hs
      · have h1 := D_swap (i := 0) (j := s) (by omega) hsN (by omega) Y
        have h2 := key (swR Y 0 s) (swR c 0 s) (fun i hi j hj => by
          unfold swR
          by_cases e : i = s
          · subst e
            rw [setR_same, h 0 (by omega) j hj]
            refine sumZ_congr fun p _ => ?_
            rw [setR_same]
          · rw [setR_ne _ _ _ e]
            by_cases e0 : i = 0
            · subst e0
              rw [setR_same, h s hsN j hj]
              refine sumZ_congr fun p _ => ?_
              rw [setR_ne _ _ _ e, setR_same]
            · rw [setR_ne _ _ _ e0, h i hi j hj]
              refine sumZ_congr fun p _ => ?_
              rw [setR_ne _ _ _ e, setR_ne _ _ _ e0]) (by
          unfold swR
          rw [setR_ne _ _ _ (Ne.symm hs0), setR_same]
          exact hs)
        omega
/-- A last column that is 0 above its end. -/
theorem D_last : ∀ (n : Nat) (X : Nat → Nat → Int), (∀ i, i < n → X i n = 0) → D (n + 1) X = X n n * D n X
  | 0, X, _ => by rw [D_one]; simp [D]
  | n + 1, X, h => by
    rw [show D (n + 1 + 1) X = sumZ (fun k => sg k * X 0 k * D (n + 1) (fun i j => X (i + 1) (skip k j))) (n + 1) + sg (n + 1) * X 0 (n + 1) * D (n + 1) (fun i j => X (i + 1) (skip (n + 1) j)) from rfl, h 0 (by omega)]
    rw [show D (n + 1) X = sumZ (fun k => sg k * X 0 k * D n (fun i j => X (i + 1) (skip k j))) (n + 1) from rfl, ← sumZ_mul]
    have e : ∀ k, k < n + 1 → sg k * X 0 k * D (n + 1) (fun i j => X (i + 1) (skip k j)) = X (n + 1) (n + 1) * (sg k * X 0 k * D n (fun i j => X (i + 1) (skip k j))) := by
      intro k hk
      have hsk : skip k n = n + 1 := if_neg (by omega)
      rw [D_last n (fun i j => X (i + 1) (skip k j)) fun i hi => by
        show X (i + 1) (skip k n) = 0
        rw [hsk]
        exact h (i + 1) (by omega)]
      show sg k * X 0 k * (X (n + 1) (skip k n) * _) = _
      rw [hsk]
      grind
    rw [sumZ_congr e]
    simp
/-- Columns instead of rows. -/
def setC (X : Nat → Nat → Int) (j : Nat) (u : Nat → Int) : Nat → Nat → Int := fun a b => if b = j then u a else X a b
theorem D_linC (n j : Nat) (X : Nat → Nat → Int) (a c : Int) (u v : Nat → Int) (h : j < n) : D n (setC X j fun b => a * u b + c * v b) = a * D n (setC X j u) + c * D n (setC X j v) := by
  have e : ∀ w, D n (setC X j w) = D n (setR (fun a b => X b a) j w) := fun w => by
    rw [← D_flip]
    rfl
  rw [e, e, e]
  exact D_lin n j _ a c u v h
/-- The determinant is a combination of the elements of its last column. -/
theorem D_coef (n : Nat) (X : Nat → Nat → Int) : ∃ γ : Nat → Int, γ n = D n X ∧ ∀ u : Nat → Int, D (n + 1) (setC X n u) = sumZ (fun p => u p * γ p) (n + 1) := by
  refine ⟨fun p => D (n + 1) (setC X n fun q => if q = p then 1 else 0), ?_, fun u => ?_⟩
  · show D (n + 1) (setC X n fun q => if q = n then 1 else 0) = D n X
    rw [D_last n _ fun i hi => by
      unfold setC
      rw [if_pos rfl]
      exact if_neg (by omega)]
    rw [show setC X n (fun q => if q = n then 1 else 0) n n = 1 by unfold setC; rw [if_pos rfl]; exact if_pos rfl, Int.one_mul]
    exact D_congr fun i hi j hj => by unfold setC; rw [if_neg (by omega)]
  · have key : ∀ t, t ≤ n + 1 → D (n + 1) (setC X n fun q => if q < t then u q else 0) = sumZ (fun p => u p * D (n + 1) (setC X n fun q => if q = p then 1 else 0)) t := by
      intro t
      induction t with
      | zero =>
        intro _
        have := D_linC (n + 1) n X 0 0 u u (by omega)
        rw [show (fun q => if q < 0 then u q else 0) = fun b => 0 * u b + 0 * u b from funext fun q => by rw [if_neg (by omega)]; omega, this]
        show _ = (0 : Int)
        omega
      | succ t ih =>
        intro ht
        have := D_linC (n + 1) n X 1 (u t) (fun q => if q < t then u q else 0) (fun q => if q = t then 1 else 0) (by omega)
        rw [show (fun q => if q < t + 1 then u q else 0) = fun b => 1 * (if b < t then u b else 0) + u t * (if b = t then 1 else 0) from funext fun q => by
          by_cases e1 : q < t
          · rw [if_pos (by omega), if_pos e1, if_neg (by omega)]; omega
          · by_cases e2 : q = t
            · subst e2; rw [if_pos (by omega), if_neg (by omega), if_pos rfl]; omega
            · rw [if_neg (by omega), if_neg e1, if_neg e2]; omega, this, ih (by omega), Int.one_mul]
        rfl
    rw [← key (n + 1) (Nat.le_refl _)]
    exact D_congr fun i hi j _ => by
      unfold setC
      split
      · exact (if_pos hi).symm
      · rfl
/-- A list with one more number at a place. -/
def insN (s : Nat) (x : Nat → Nat) (z : Nat) (a : Nat) : Nat := if a < s then x a else if a = s then z else x (a - 1)
theorem insN_step (s : Nat) (x : Nat → Nat) (z : Nat) (X : Nat → Nat → Int) : (fun a b => X (insN s x z a) b) = swR (fun a b => X (insN (s + 1) x z a) b) s (s + 1) := by
  funext a b
  show X (insN s x z a) b = if a = s + 1 then X (insN (s + 1) x z s) b else if a = s then X (insN (s + 1) x z (s + 1)) b else X (insN (s + 1) x z a) b
  have e1 : insN (s + 1) x z s = x s := if_pos (by omega)
  have e2 : insN (s + 1) x z (s + 1) = z := by unfold insN; rw [if_neg (by omega), if_pos rfl]
  have e3 : insN s x z (s + 1) = x s := by unfold insN; rw [if_neg (by omega), if_neg (by omega)]; rfl
  have e4 : insN s x z s = z := by unfold insN; rw [if_neg (by omega), if_pos rfl]
  by_cases h1 : a = s + 1
  · subst h1
    rw [if_pos rfl, e1, e3]
  · rw [if_neg h1]
    by_cases h2 : a = s
    · subst h2
      rw [if_pos rfl, e2, e4]
    · rw [if_neg h2]
      congr 1
      unfold insN
      by_cases h3 : a < s
      · rw [if_pos h3, if_pos (by omega)]
      · rw [if_neg h3, if_neg h2, if_neg (by omega), if_neg h1]
/-- A row put in between changes no more than the sign. -/
theorem D_insN (k : Nat) (x : Nat → Nat) (z : Nat) (X : Nat → Nat → Int) : ∀ d s, s + d = k → D (k + 1) (fun a b => X (insN s x z a) b) = sg d * D (k + 1) (fun a b => X (insN k x z a) b)
  | 0, s, h => by
    obtain rfl : s = k := by omega
    simp [sg]
  | d + 1, s, h => by
    rw [insN_step, D_swap (by omega) (by omega) (by omega), D_insN k x z X d (s + 1) (by omega), sg_succ]
    grind
theorem sg_abs (d : Nat) (x : Int) : (sg d * x).natAbs = x.natAbs := by
  rcases sg_bd d with h | h <;> rw [h] <;> simp
theorem D_insR {k s : Nat} (hs : s ≤ k) (x : Nat → Nat) (z : Nat) (X : Nat → Nat → Int) : (D (k + 1) (fun a b => X (insN s x z a) b)).natAbs = (D (k + 1) (fun a b => X (insN k x z a) b)).natAbs := by
  rw [D_insN k x z X (k - s) s (by omega), sg_abs]
theorem D_insC {k s : Nat} (hs : s ≤ k) (x : Nat → Nat) (z : Nat) (X : Nat → Nat → Int) : (D (k + 1) (fun a b => X a (insN s x z b))).natAbs = (D (k + 1) (fun a b => X a (insN k x z b))).natAbs := by
  rw [← D_flip, ← D_flip (k + 1) (fun a b => X a (insN k x z b))]
  exact D_insR hs x z fun a b => X b a
/-- Rows and columns put in between. -/
theorem D_ins {k s t : Nat} (hs : s ≤ k) (ht : t ≤ k) (f : Nat → Nat → Int) (x y : Nat → Nat) (i j : Nat) :
    (D (k + 1) (fun a b => f (insN s x i a) (insN t y j b))).natAbs = (D (k + 1) (fun a b => f (insN k x i a) (insN k y j b))).natAbs :=
  (D_insR hs x i fun a b => f a (insN t y j b)).trans (D_insC ht y j fun a b => f (insN k x i a) b)
/-- If a choice has a minor and all its bordered minors vanish then each greater minor does. -/
theorem D_rank {n m k : Nat} {f : Nat → Nat → Int} {x y : Nat → Nat} (hd : D k (fun a b => f (x a) (y b)) ≠ 0)
    (hb : ∀ i, i < n → ∀ j, j < m → D (k + 1) (fun a b => f (insN k x i a) (insN k y j b)) = 0) {N : Nat} (hN : k < N) {u v : Nat → Nat} (hu : ∀ a, a < N → u a < n) (hv : ∀ a, a < N → v a < m) :
    D N (fun a b => f (u a) (v b)) = 0 := by
  obtain ⟨d, hde⟩ : ∃ d, D k (fun a b => f (x a) (y b)) = d := ⟨_, rfl⟩
  rw [hde] at hd
  have hco : ∀ i : Nat, ∃ γ : Nat → Int, i < n → ∀ j, j < m → d * f i j = sumZ (fun p => γ p * f (x p) j) k := by
    intro i
    obtain ⟨γ, h1, h2⟩ := D_coef k (fun a b => f (insN k x i a) (y b))
    refine ⟨fun p => -γ p, fun hi j hj => ?_⟩
    have h3 := h2 fun a => f (insN k x i a) j
    rw [D_congr (Y := fun a b => f (insN k x i a) (insN k y j b)) fun a ha b hb => by
      unfold setC
      by_cases e : b = k
      · rw [if_pos e, e]
        show _ = f _ (insN k y j k)
        rw [show insN k y j k = j by unfold insN; rw [if_neg (by omega), if_pos rfl]]
      · rw [if_neg e]
        show _ = f _ (insN k y j b)
        rw [show insN k y j b = y b by unfold insN; rw [if_pos (by omega)]], hb i hi j hj] at h3
    have h4 : sumZ (fun p => f (insN k x i p) j * γ p) (k + 1) = sumZ (fun p => γ p * f (x p) j) k + f i j * d := by
      show sumZ _ k + f (insN k x i k) j * γ k = _
      rw [show insN k x i k = i by unfold insN; rw [if_neg (by omega), if_pos rfl], h1]
      rw [D_congr (Y := fun a b => f (x a) (y b)) fun a ha b _ => by
        show f (insN k x i a) (y b) = _
        rw [show insN k x i a = x a by unfold insN; rw [if_pos ha]], hde]
      congr 1
      refine sumZ_congr fun p hp => ?_
      rw [show insN k x i p = x p by unfold insN; rw [if_pos hp], Int.mul_comm]
    rw [h4] at h3
    have h5 : sumZ (fun p => -γ p * f (x p) j) k = -sumZ (fun p => γ p * f (x p) j) k := by
      rw [← sumZ_neg]
      exact sumZ_congr fun p _ => by rw [Int.neg_mul]
    rw [h5, Int.mul_comm]
    omega
  have h6 := D_few k N (fun a b => d * f (u a) (v b)) (fun p b => f (x p) (v b)) (fun a p => (Classical.choose (hco (u a))) p) hN fun a ha b hb2 => by
    exact (Classical.choose_spec (hco (u a))) (hu a ha) (v b) (hv b hb2)
  rw [D_scale] at h6
  rcases Int.mul_eq_zero.1 h6 with h7 | h7
  · exact absurd h7 (Int.pow_ne_zero hd)
  · exact h7
end Go.Proofs.Ytoejdfpmmgldpaa
