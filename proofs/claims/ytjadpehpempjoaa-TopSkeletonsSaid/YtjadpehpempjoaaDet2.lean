/- Determinants of whole numbers along the first row: linear and alternating in the rows, elimination (Chio, Sylvester), the transposed matrix. No conditions but those of each theorem. Determinants: the step of an elimination without fractions, exchanged rows, columns that vanish, bounds, the transposed matrix. No conditions but those of each theorem. -/
import Derived.Test.YtjadpehpempjoaaBase
namespace Go.Proofs.Ytjadpehpempjoaa
set_option linter.unusedVariables false
set_option linter.unusedSimpArgs false
/-- The sum of the first n. -/
def sumZ (f : Nat → Int) : Nat → Int
  | 0 => 0
  | n + 1 => sumZ f n + f n
theorem sumZ_congr {f g : Nat → Int} : ∀ {n : Nat}, (∀ k, k < n → f k = g k) → sumZ f n = sumZ g n
  | 0, _ => rfl
  | n + 1, h => by
    unfold sumZ
    rw [sumZ_congr fun k hk => h k (by omega), h n (by omega)]
theorem sumZ_zero {f : Nat → Int} {n : Nat} (h : ∀ k, k < n → f k = 0) : sumZ f n = 0 := by
  induction n with
  | zero => rfl
  | succ n ih => unfold sumZ; rw [ih fun k hk => h k (by omega), h n (by omega)]; rfl
theorem sumZ_add (f g : Nat → Int) (n : Nat) : sumZ (fun k => f k + g k) n = sumZ f n + sumZ g n := by
  induction n with
  | zero => rfl
  | succ n ih => unfold sumZ; rw [ih]; omega
theorem sumZ_mul (c : Int) (f : Nat → Int) (n : Nat) : sumZ (fun k => c * f k) n = c * sumZ f n := by
  induction n with
  | zero => simp [sumZ]
  | succ n ih => unfold sumZ; rw [ih, Int.mul_add]
theorem sumZ_swap (f : Nat → Nat → Int) (n m : Nat) : sumZ (fun a => sumZ (fun b => f a b) m) n = sumZ (fun b => sumZ (fun a => f a b) n) m := by
  induction n with
  | zero => exact (sumZ_zero fun _ _ => rfl).symm
  | succ n ih =>
    rw [show sumZ (fun b => sumZ (fun a => f a b) (n + 1)) m = sumZ (fun b => sumZ (fun a => f a b) n + f n b) m from rfl, sumZ_add, ← ih]
    rfl
theorem sumZ_first (f : Nat → Int) (n : Nat) : sumZ f (n + 1) = f 0 + sumZ (fun k => f (k + 1)) n := by
  induction n with
  | zero => simp [sumZ]
  | succ n ih =>
    rw [show sumZ f (n + 1 + 1) = sumZ f (n + 1) + f (n + 1) from rfl, ih]
    show f 0 + _ + _ = f 0 + (sumZ (fun k => f (k + 1)) n + f (n + 1))
    omega
/-- All numbers but k, in order. -/
def skip (k j : Nat) : Nat := if j < k then j else j + 1
theorem sumZ_skip (g : Nat → Int) : ∀ (n k : Nat), k ≤ n → sumZ (fun l => g (skip k l)) n = sumZ (fun c => if c = k then 0 else g c) (n + 1)
  | 0, k, h => by
    obtain rfl : k = 0 := by omega
    simp [sumZ]
  | n + 1, k, h => by
    show sumZ (fun l => g (skip k l)) n + g (skip k n) = sumZ (fun c => if c = k then 0 else g c) (n + 1) + (if n + 1 = k then 0 else g (n + 1))
    by_cases e : k = n + 1
    · subst e
      rw [if_pos rfl]
      have h1 : sumZ (fun l => g (skip (n + 1) l)) n = sumZ g n := sumZ_congr fun l hl => by unfold skip; rw [if_pos (by omega)]
      have h2 : sumZ (fun c => if c = n + 1 then 0 else g c) (n + 1) = sumZ g (n + 1) := sumZ_congr fun l hl => by rw [if_neg (by omega)]
      rw [h1, h2, show skip (n + 1) n = n from if_pos (by omega)]
      show _ = sumZ g n + g n + 0
      omega
    · rw [sumZ_skip g n k (by omega), if_neg (by omega), show skip k n = n + 1 from if_neg (by omega)]
def sg (k : Nat) : Int := if k % 2 = 0 then 1 else -1
theorem sg_succ (k : Nat) : sg (k + 1) = -sg k := by
  unfold sg
  by_cases h : k % 2 = 0
  · rw [if_pos h, if_neg (by omega)]
  · rw [if_neg h, if_pos (by omega)]; rfl
theorem sg_sq (k : Nat) : sg k * sg k = 1 := by unfold sg; split <;> rfl
/-- The determinant of the first n rows and columns. -/
def D : Nat → (Nat → Nat → Int) → Int
  | 0, _ => 1
  | n + 1, X => sumZ (fun k => sg k * X 0 k * D n (fun i j => X (i + 1) (skip k j))) (n + 1)
theorem skip_lt {n k j : Nat} (h : j < n) : skip k j < n + 1 := by unfold skip; split <;> omega
theorem D_congr : ∀ {n : Nat} {X Y : Nat → Nat → Int}, (∀ i, i < n → ∀ j, j < n → X i j = Y i j) → D n X = D n Y
  | 0, _, _, _ => rfl
  | n + 1, X, Y, h => by
    unfold D
    refine sumZ_congr fun k hk => ?_
    rw [h 0 (by omega) k hk, D_congr fun i hi j hj => h (i + 1) (by omega) _ (skip_lt hj)]
def setR (X : Nat → Nat → Int) (i : Nat) (u : Nat → Int) : Nat → Nat → Int := fun a b => if a = i then u b else X a b
theorem setR_same (X : Nat → Nat → Int) (i : Nat) (u : Nat → Int) (b : Nat) : setR X i u i b = u b := if_pos rfl
theorem setR_ne (X : Nat → Nat → Int) {i a : Nat} (u : Nat → Int) (b : Nat) (h : a ≠ i) : setR X i u a b = X a b := if_neg h
theorem D_lin : ∀ (n i : Nat) (X : Nat → Nat → Int) (a c : Int) (u v : Nat → Int), i < n → D n (setR X i fun b => a * u b + c * v b) = a * D n (setR X i u) + c * D n (setR X i v)
  | 0, i, X, a, c, u, v, h => by omega
  | n + 1, 0, X, a, c, u, v, h => by
    unfold D
    have key : ∀ (w : Nat → Int) (k : Nat), D n (fun p q => setR X 0 w (p + 1) (skip k q)) = D n (fun p q => X (p + 1) (skip k q)) := fun w k => D_congr fun p _ q _ => setR_ne X w _ (by omega)
    rw [← sumZ_mul, ← sumZ_mul, ← sumZ_add]
    refine sumZ_congr fun k _ => ?_
    rw [key, key, key, setR_same, setR_same, setR_same]
    grind
  | n + 1, i + 1, X, a, c, u, v, h => by
    unfold D
    have key : ∀ (w : Nat → Int) (k : Nat), D n (fun p q => setR X (i + 1) w (p + 1) (skip k q)) = D n (setR (fun p q => X (p + 1) (skip k q)) i fun q => w (skip k q)) := fun w k => D_congr fun p _ q _ => by
      unfold setR
      by_cases e : p = i
      · rw [if_pos (by omega), if_pos e]
      · rw [if_neg (by omega), if_neg e]
    rw [← sumZ_mul, ← sumZ_mul, ← sumZ_add]
    refine sumZ_congr fun k _ => ?_
    rw [key, key, key, D_lin n i _ a c _ _ (by omega), setR_ne _ _ _ (by omega), setR_ne _ _ _ (by omega), setR_ne _ _ _ (by omega)]
    grind
theorem skip_comm {k c j : Nat} (h : c < k) : skip k (skip c j) = skip c (skip (k - 1) j) := by
  unfold skip
  repeat' split
  all_goals omega
/-- The place of c among the numbers but k. -/
def pl (k c : Nat) : Nat := if c < k then c else c - 1
theorem skip_pl {k c : Nat} (h : c ≠ k) : skip k (pl k c) = c := by
  unfold skip pl
  repeat' split
  all_goals omega
theorem pl_skip {k l : Nat} : pl k (skip k l) = l := by
  unfold skip pl
  repeat' split
  all_goals omega
theorem skips_sym {k c j : Nat} (h : c ≠ k) : skip k (skip (pl k c) j) = skip c (skip (pl c k) j) := by
  rcases Nat.lt_or_gt_of_ne h with h | h
  · rw [show pl k c = c from if_pos h, show pl c k = k - 1 from if_neg (by omega)]
    exact skip_comm h
  · rw [show pl k c = c - 1 from if_neg (by omega), show pl c k = k from if_pos h]
    exact (skip_comm h).symm
theorem sg_pl {k c : Nat} (h : c ≠ k) : sg k * sg (pl k c) = -(sg c * sg (pl c k)) := by
  rcases Nat.lt_or_gt_of_ne h with h | h
  · rw [show pl k c = c from if_pos h, show pl c k = k - 1 from if_neg (by omega)]
    obtain ⟨q, rfl⟩ : ∃ q, k = q + 1 := ⟨k - 1, by omega⟩
    rw [sg_succ, show q + 1 - 1 = q by omega]
    grind
  · rw [show pl k c = c - 1 from if_neg (by omega), show pl c k = k from if_pos h]
    obtain ⟨q, rfl⟩ : ∃ q, c = q + 1 := ⟨c - 1, by omega⟩
    rw [sg_succ, show q + 1 - 1 = q by omega]
    grind
theorem sumZ_neg (f : Nat → Int) (n : Nat) : sumZ (fun k => -f k) n = -sumZ f n := by
  have := sumZ_mul (-1) f n
  rw [show (fun k => -f k) = fun k => -1 * f k from funext fun k => by omega, this]
  omega
theorem D_two (n : Nat) (X : Nat → Nat → Int) : D (n + 2) X = sumZ (fun k => sumZ (fun c => if c = k then 0 else sg k * sg (pl k c) * (X 0 k * X 1 c) * D n (fun i j => X (i + 2) (skip k (skip (pl k c) j)))) (n + 2)) (n + 2) := by
  rw [show D (n + 2) X = sumZ (fun k => sg k * X 0 k * D (n + 1) (fun i j => X (i + 1) (skip k j))) (n + 2) from rfl]
  refine sumZ_congr fun k hk => ?_
  rw [show D (n + 1) (fun i j => X (i + 1) (skip k j)) = sumZ (fun l => sg l * X 1 (skip k l) * D n (fun i j => X (i + 1 + 1) (skip k (skip l j)))) (n + 1) from rfl, ← sumZ_mul]
  rw [← sumZ_skip (fun c => sg k * sg (pl k c) * (X 0 k * X 1 c) * D n (fun i j => X (i + 2) (skip k (skip (pl k c) j)))) (n + 1) k (by omega)]
  refine sumZ_congr fun l _ => ?_
  rw [pl_skip]
  grind
theorem D_adj0 (n : Nat) (X : Nat → Nat → Int) (h : ∀ b, b < n + 2 → X 0 b = X 1 b) : D (n + 2) X = 0 := by
  have e := D_two n X
  have e2 : D (n + 2) X = -D (n + 2) X := by
    rw [e]
    conv => lhs; rw [sumZ_swap]
    rw [← sumZ_neg]
    refine sumZ_congr fun k hk => ?_
    rw [← sumZ_neg]
    refine sumZ_congr fun c hc => ?_
    by_cases hck : c = k
    · rw [if_pos hck, if_pos hck.symm]; rfl
    · rw [if_neg hck, if_neg (Ne.symm hck)]
      have hs := sg_pl hck
      have hd : D n (fun i j => X (i + 2) (skip c (skip (pl c k) j))) = D n (fun i j => X (i + 2) (skip k (skip (pl k c) j))) := D_congr fun i _ j _ => by rw [skips_sym hck]
      rw [hd, h c hc, ← h k hk]
      grind
  omega
theorem D_adj : ∀ (n i : Nat) (X : Nat → Nat → Int), i + 1 < n → (∀ b, b < n → X i b = X (i + 1) b) → D n X = 0
  | 0, i, X, h, _ => by omega
  | 1, i, X, h, _ => by omega
  | n + 2, 0, X, _, hx => D_adj0 n X hx
  | n + 2, i + 1, X, h, hx => by
    unfold D
    refine sumZ_zero fun k _ => ?_
    rw [D_adj (n + 1) i _ (by omega) fun b hb => hx _ (skip_lt hb)]
    omega
theorem setR_setR (X : Nat → Nat → Int) (i : Nat) (u v : Nat → Int) : setR (setR X i u) i v = setR X i v := by
  funext a b
  unfold setR
  by_cases e : a = i
  · rw [if_pos e, if_pos e]
  · rw [if_neg e, if_neg e, if_neg e]
theorem setR_self (X : Nat → Nat → Int) (i : Nat) : setR X i (X i) = X := by
  funext a b
  unfold setR
  by_cases e : a = i
  · rw [if_pos e, e]
  · rw [if_neg e]
theorem setR_comm (X : Nat → Nat → Int) {i j : Nat} (u v : Nat → Int) (h : i ≠ j) : setR (setR X i u) j v = setR (setR X j v) i u := by
  funext a b
  unfold setR
  by_cases e : a = j
  · rw [if_pos e, if_neg (by omega), if_pos e]
  · rw [if_neg e, if_neg e]
/-- Two rows exchanged. -/
def swR (X : Nat → Nat → Int) (i j : Nat) : Nat → Nat → Int := setR (setR X i (X j)) j (X i)
theorem D_add (n i : Nat) (X : Nat → Nat → Int) (u v : Nat → Int) (h : i < n) : D n (setR X i fun b => u b + v b) = D n (setR X i u) + D n (setR X i v) := by
  have := D_lin n i X 1 1 u v h
  rw [Int.one_mul, Int.one_mul] at this
  rw [← this]
  congr 2
  funext b
  omega
/-- If equal rows i and j make the determinant vanish then an exchange changes its sign. -/
theorem D_sw_of {n i j : Nat} (hi : i < n) (hj : j < n) (hij : i ≠ j) (hz : ∀ X : Nat → Nat → Int, (∀ b, b < n → X i b = X j b) → D n X = 0) (X : Nat → Nat → Int) : D n (swR X i j) = -D n X := by
  have h0 := hz (setR (setR X i fun b => X i b + X j b) j fun b => X i b + X j b) fun b _ => by rw [setR_ne _ _ _ hij, setR_same, setR_same]
  rw [D_add _ _ _ _ _ hj, setR_comm _ _ _ hij, setR_comm _ _ _ hij, D_add _ _ _ _ _ hi, D_add _ _ _ _ _ hi] at h0
  have h1 := hz (setR (setR X j (X i)) i (X i)) fun b _ => by rw [setR_same, setR_ne _ _ _ (Ne.symm hij), setR_same]
  have h2 := hz (setR (setR X j (X j)) i (X j)) fun b _ => by rw [setR_same, setR_ne _ _ _ (Ne.symm hij), setR_same]
  have e1 : setR (setR X j (X j)) i (X i) = X := by rw [setR_self, setR_self]
  have e2 : setR (setR X j (X i)) i (X j) = swR X i j := (setR_comm X (X j) (X i) hij).symm
  rw [h1, h2, e1, e2] at h0
  omega
theorem D_eqR : ∀ (d i n : Nat) (X : Nat → Nat → Int), i + d + 1 < n → (∀ b, b < n → X i b = X (i + d + 1) b) → D n X = 0
  | 0, i, n, X, h, hx => D_adj n i X h hx
  | d + 1, i, n, X, h, hx => by
    have hs := D_sw_of (n := n) (i := i + d + 1) (j := i + d + 1 + 1) (by omega) (by omega) (by omega) (fun Y hY => D_adj n (i + d + 1) Y (by omega) hY) X
    have h0 := D_eqR d i n (swR X (i + d + 1) (i + d + 1 + 1)) (by omega) fun b hb => by
      unfold swR
      rw [setR_ne _ _ _ (by omega), setR_ne _ _ _ (by omega), setR_ne _ _ _ (by omega), setR_same]
      exact hx b hb
    omega
theorem D_same {n i j : Nat} {X : Nat → Nat → Int} (hi : i < n) (hj : j < n) (hij : i ≠ j) (hx : ∀ b, b < n → X i b = X j b) : D n X = 0 := by
  rcases Nat.lt_or_gt_of_ne hij with h | h
  · exact D_eqR (j - i - 1) i n X (by omega) fun b hb => by rw [show i + (j - i - 1) + 1 = j by omega]; exact hx b hb
  · exact D_eqR (i - j - 1) j n X (by omega) fun b hb => by rw [show j + (i - j - 1) + 1 = i by omega]; exact (hx b hb).symm
theorem D_swap {n i j : Nat} (hi : i < n) (hj : j < n) (hij : i ≠ j) (X : Nat → Nat → Int) : D n (swR X i j) = -D n X :=
  D_sw_of hi hj hij (fun _ h => D_same hi hj hij h) X
theorem D_col0 : ∀ (n : Nat) (X : Nat → Nat → Int), (∀ i, i < n + 1 → X i 0 = 0) → D (n + 1) X = 0
  | 0, X, h => by simp [D, sumZ, h 0 (by omega)]
  | n + 1, X, h => by
    unfold D
    refine sumZ_zero fun k _ => ?_
    by_cases hk : k = 0
    · rw [hk, h 0 (by omega)]; simp
    · rw [D_col0 n _ fun i hi => by rw [show skip k 0 = 0 from if_pos (by omega)]; exact h (i + 1) (by omega)]
      simp
theorem D_pivot (n : Nat) (X : Nat → Nat → Int) (h : ∀ i, i < n → X (i + 1) 0 = 0) : D (n + 1) X = X 0 0 * D n (fun i j => X (i + 1) (j + 1)) := by
  rw [show D (n + 1) X = sumZ (fun k => sg k * X 0 k * D n (fun i j => X (i + 1) (skip k j))) (n + 1) from rfl, sumZ_first]
  have h0 : sumZ (fun k => sg (k + 1) * X 0 (k + 1) * D n (fun i j => X (i + 1) (skip (k + 1) j))) n = 0 := by
    refine sumZ_zero fun k hk => ?_
    obtain ⟨q, rfl⟩ : ∃ q, n = q + 1 := ⟨n - 1, by omega⟩
    rw [D_col0 q _ fun i hi => by rw [show skip (k + 1) 0 = 0 from if_pos (by omega)]; exact h i hi]
    simp
  rw [h0]
  rw [show sg 0 = 1 from rfl, show (fun i j => X (i + 1) (skip 0 j)) = fun i j => X (i + 1) (j + 1) from rfl, Int.one_mul, Int.add_zero]
/-- The first t rows behind the first one: the first column cleared. -/
def clr (B : Nat → Nat → Int) (t : Nat) : Nat → Nat → Int := fun i j => if 1 ≤ i ∧ i ≤ t then B 0 0 * B i j - B i 0 * B 0 j else B i j
theorem D_clr (n : Nat) (B : Nat → Nat → Int) : ∀ t, t < n → D n (clr B t) = B 0 0 ^ t * D n B
  | 0, h => by
    rw [Int.pow_zero, Int.one_mul]
    exact D_congr fun i _ j _ => if_neg (by omega)
  | t + 1, h => by
    have e : clr B (t + 1) = setR (clr B t) (t + 1) fun b => B 0 0 * B (t + 1) b + -B (t + 1) 0 * B 0 b := by
      funext a b
      unfold setR clr
      by_cases q : a = t + 1
      · rw [if_pos q, q, if_pos (by omega)]; grind
      · rw [if_neg q]
        by_cases q2 : 1 ≤ a ∧ a ≤ t
        · rw [if_pos q2, if_pos (by omega)]
        · rw [if_neg q2, if_neg (by omega)]
    rw [e, D_lin n (t + 1) _ _ _ _ _ h]
    have e2 : setR (clr B t) (t + 1) (B (t + 1)) = clr B t := by
      funext a b
      unfold setR clr
      by_cases q : a = t + 1
      · rw [if_pos q, if_neg (by omega), q]
      · rw [if_neg q]
    have e3 : D n (setR (clr B t) (t + 1) (B 0)) = 0 := D_same (i := 0) (j := t + 1) (by omega) h (by omega) fun b _ => by
      rw [setR_ne _ _ _ (by omega), setR_same]
      exact if_neg (by omega)
    rw [e2, e3, D_clr n B t (by omega), Int.pow_succ]
    grind
theorem chio (r : Nat) (B : Nat → Nat → Int) (hp : B 0 0 ≠ 0) : D r (fun i j => B 0 0 * B (i + 1) (j + 1) - B (i + 1) 0 * B 0 (j + 1)) * B 0 0 = B 0 0 ^ r * D (r + 1) B := by
  rw [← D_clr (r + 1) B r (by omega)]
  rw [D_pivot r (clr B r) fun i hi => by unfold clr; rw [if_pos (by omega)]; grind]
  rw [show clr B r 0 0 = B 0 0 from if_neg (by omega), Int.mul_comm]
  congr 1
  exact D_congr fun i hi j _ => by unfold clr; rw [if_pos (by omega)]
theorem D_scale : ∀ (n : Nat) (c : Int) (X : Nat → Nat → Int), D n (fun i j => c * X i j) = c ^ n * D n X
  | 0, c, X => by simp [D]
  | n + 1, c, X => by
    unfold D
    rw [← sumZ_mul]
    refine sumZ_congr fun k _ => ?_
    rw [D_scale n c, Int.pow_succ]
    grind
/-- The first k rows and columns and one more of each. -/
def bord (k : Nat) (X : Nat → Nat → Int) (i j : Nat) : Nat → Nat → Int := fun a b => X (if a < k then a else k + i) (if b < k then b else k + j)
def Bk (k : Nat) (X : Nat → Nat → Int) : Nat → Nat → Int := fun i j => D (k + 1) (bord k X i j)
theorem Bk_00 (k : Nat) (X : Nat → Nat → Int) : Bk k X 0 0 = D (k + 1) X := D_congr fun a ha b hb => by
  unfold bord
  rw [show (if a < k then a else k + 0) = a by split <;> omega, show (if b < k then b else k + 0) = b by split <;> omega]
theorem D_one (X : Nat → Nat → Int) : D 1 X = X 0 0 := by simp [D, sumZ, sg]
theorem D_2x2 (X : Nat → Nat → Int) : D 2 X = X 0 0 * X 1 1 - X 0 1 * X 1 0 := by
  simp [D, sumZ, sg, skip]
  grind
theorem sylvester : ∀ (k r : Nat) (X : Nat → Nat → Int), (∀ j, j ≤ k → D j X ≠ 0) → D (r + 1) (Bk k X) = D k X ^ r * D (k + r + 1) X
  | 0, r, X, _ => by
    rw [show D 0 X = 1 from rfl, Int.one_pow, Int.one_mul, Nat.zero_add]
    exact D_congr fun i _ j _ => by unfold Bk; rw [D_one]; simp [bord]
  | k + 1, r, X, h => by
    have hp : Bk k X 0 0 ≠ 0 := by rw [Bk_00]; exact h (k + 1) (Nat.le_refl _)
    have hd := h k (by omega)
    have hc := chio (r + 1) (Bk k X) hp
    have h1 := sylvester k (r + 1) X fun j hj => h j (by omega)
    have hent : ∀ i j, Bk k X 0 0 * Bk k X (i + 1) (j + 1) - Bk k X (i + 1) 0 * Bk k X 0 (j + 1) = D k X * Bk (k + 1) X i j := by
      intro i j
      have h2 := sylvester k 1 (bord (k + 1) X i j) fun q hq => by
        rw [D_congr (Y := X) fun a ha b hb => by unfold bord; rw [if_pos (by omega), if_pos (by omega)]]
        exact h q (by omega)
      rw [D_2x2, Int.pow_succ, Int.pow_zero, Int.one_mul] at h2
      have e0 : D k (bord (k + 1) X i j) = D k X := D_congr fun a ha b hb => by unfold bord; rw [if_pos (by omega), if_pos (by omega)]
      have e : ∀ u v, u < 2 → v < 2 → Bk k (bord (k + 1) X i j) u v = Bk k X (if u = 0 then 0 else i + 1) (if v = 0 then 0 else j + 1) := by
        intro u v hu hv
        unfold Bk
        refine D_congr fun a ha b hb => ?_
        unfold bord
        congr 1
        · by_cases q : a < k
          · rw [if_pos q, if_pos (by omega), if_pos q]
          · rw [if_neg q, if_neg q]
            rcases (show u = 0 ∨ u = 1 by omega) with rfl | rfl
            · rw [if_pos (by omega)]; simp
            · rw [if_neg (by omega)]; simp; omega
        · by_cases q : b < k
          · rw [if_pos q, if_pos (by omega), if_pos q]
          · rw [if_neg q, if_neg q]
            rcases (show v = 0 ∨ v = 1 by omega) with rfl | rfl
            · rw [if_pos (by omega)]; simp
            · rw [if_neg (by omega)]; simp; omega
      rw [e 0 0 (by omega) (by omega), e 0 1 (by omega) (by omega), e 1 0 (by omega) (by omega), e 1 1 (by omega) (by omega), e0] at h2
      simp only [if_true, Nat.one_ne_zero, if_false] at h2
      rw [show Bk (k + 1) X i j = D (k + 1 + 1) (bord (k + 1) X i j) from rfl, ← h2]
      grind
    have e1 : D (r + 1) (fun i j => Bk k X 0 0 * Bk k X (i + 1) (j + 1) - Bk k X (i + 1) 0 * Bk k X 0 (j + 1)) = D k X ^ (r + 1) * D (r + 1) (Bk (k + 1) X) := by
      rw [← D_scale]
      exact D_congr fun i _ j _ => hent i j
    rw [e1, h1, Bk_00] at hc
    rw [Bk_00] at hp
    have hpow : D k X ^ (r + 1) ≠ 0 := Int.pow_ne_zero hd
    have key : D k X ^ (r + 1) * (D (k + 1) X * D (r + 1) (Bk (k + 1) X)) = D k X ^ (r + 1) * (D (k + 1) X * (D (k + 1) X ^ r * D (k + 1 + r + 1) X)) := by
      rw [show k + 1 + r + 1 = k + (r + 1) + 1 by omega]
      have := hc
      rw [Int.pow_succ (D (k + 1) X)] at this
      grind
    exact Int.eq_of_mul_eq_mul_left hp (Int.eq_of_mul_eq_mul_left hpow key)
end Go.Proofs.Ytjadpehpempjoaa
namespace Go.Proofs.Ytjadpehpempjoaa
set_option linter.unusedVariables false
set_option linter.unusedSimpArgs false
theorem bar_ent {k : Nat} {X : Nat → Nat → Int} (h : ∀ j, j ≤ k → D j X ≠ 0) (i j : Nat) : Bk k X 0 0 * Bk k X (i + 1) (j + 1) - Bk k X (i + 1) 0 * Bk k X 0 (j + 1) = D k X * Bk (k + 1) X i j := by
  have h2 := sylvester k 1 (bord (k + 1) X i j) fun q hq => by
    rw [D_congr (Y := X) fun a ha b hb => by unfold bord; rw [if_pos (by omega), if_pos (by omega)]]
    exact h q (by omega)
  rw [D_2x2, Int.pow_succ, Int.pow_zero, Int.one_mul] at h2
  have e0 : D k (bord (k + 1) X i j) = D k X := D_congr fun a ha b hb => by unfold bord; rw [if_pos (by omega), if_pos (by omega)]
  have e : ∀ u v, u < 2 → v < 2 → Bk k (bord (k + 1) X i j) u v = Bk k X (if u = 0 then 0 else i + 1) (if v = 0 then 0 else j + 1) := by
    intro u v hu hv
    unfold Bk
    refine D_congr fun a ha b hb => ?_
    unfold bord
    congr 1
    · by_cases q : a < k
      · rw [if_pos q, if_pos (by omega), if_pos q]
      · rw [if_neg q, if_neg q]
        rcases (show u = 0 ∨ u = 1 by omega) with rfl | rfl
        · rw [if_pos (by omega)]; simp
        · rw [if_neg (by omega)]; simp; omega
    · by_cases q : b < k
      · rw [if_pos q, if_pos (by omega), if_pos q]
      · rw [if_neg q, if_neg q]
        rcases (show v = 0 ∨ v = 1 by omega) with rfl | rfl
        · rw [if_pos (by omega)]; simp
        · rw [if_neg (by omega)]; simp; omega
  rw [e 0 0 (by omega) (by omega), e 0 1 (by omega) (by omega), e 1 0 (by omega) (by omega), e 1 1 (by omega) (by omega), e0] at h2
  simp only [if_true, Nat.one_ne_zero, if_false] at h2
  rw [show Bk (k + 1) X i j = D (k + 1 + 1) (bord (k + 1) X i j) from rfl, ← h2]
  grind
/-- If no element of a column is left the determinant vanishes. -/
theorem D_none {k n : Nat} {X : Nat → Nat → Int} (h : ∀ j, j ≤ k → D j X ≠ 0) (hk : k < n) (hz : ∀ i, i < n - k → Bk k X i 0 = 0) : D n X = 0 := by
  have hs := sylvester k (n - k - 1) X h
  rw [D_col0 _ _ fun i hi => hz i (by omega), show k + (n - k - 1) + 1 = n by omega] at hs
  have hp : D k X ^ (n - k - 1) ≠ 0 := Int.pow_ne_zero (h k (Nat.le_refl _))
  rcases Int.mul_eq_zero.1 hs.symm with h | h
  · exact absurd h hp
  · exact h
/-- Rows k and k + p exchanged. -/
theorem Bk_sw {k p : Nat} {X : Nat → Nat → Int} (i j : Nat) : Bk k (swR X k (k + p)) i j = Bk k X (if i = 0 then p else if i = p then 0 else i) j := by
  unfold Bk
  refine D_congr fun a ha b hb => ?_
  unfold bord
  by_cases q : a < k
  · rw [if_pos q, if_pos q]
    unfold swR
    rw [setR_ne _ _ _ (by omega), setR_ne _ _ _ (by omega)]
  · rw [if_neg q, if_neg q]
    unfold swR
    by_cases e0 : i = 0
    · subst e0
      rw [if_pos rfl]
      by_cases e1 : p = 0
      · subst e1
        rw [setR_same]
        rfl
      · rw [setR_ne _ _ _ (by omega), show k + 0 = k from rfl, setR_same]
    · rw [if_neg e0]
      by_cases e1 : i = p
      · rw [if_pos e1, e1, setR_same]; rfl
      · rw [if_neg e1, setR_ne _ _ _ (by omega), setR_ne _ _ _ (by omega)]
theorem D_swlead {k p q : Nat} {X : Nat → Nat → Int} (hq : q ≤ k) : D q (swR X k (k + p)) = D q X := D_congr fun a ha b _ => by
  unfold swR
  rw [setR_ne _ _ _ (by omega), setR_ne _ _ _ (by omega)]
/-- How great a determinant of n rows with elements to c is at most. -/
def fb (c : Int) : Nat → Int
  | 0 => 1
  | n + 1 => ((n : Int) + 1) * (c * fb c n)
theorem fb_pos {c : Int} (hc : 0 ≤ c) : ∀ n, 0 ≤ fb c n
  | 0 => by unfold fb; omega
  | n + 1 => by
    unfold fb
    exact Int.mul_nonneg (by omega) (Int.mul_nonneg hc (fb_pos hc n))
theorem mul_abs {a b c d : Int} (ha : -c ≤ a ∧ a ≤ c) (hb : -d ≤ b ∧ b ≤ d) (_hc : 0 ≤ c) (_hd : 0 ≤ d) : -(c * d) ≤ a * b ∧ a * b ≤ c * d := by
  have h1 := Int.mul_nonneg (show 0 ≤ c - a by omega) (show 0 ≤ d - b by omega)
  have h2 := Int.mul_nonneg (show 0 ≤ c + a by omega) (show 0 ≤ d + b by omega)
  have h3 := Int.mul_nonneg (show 0 ≤ c - a by omega) (show 0 ≤ d + b by omega)
  have h4 := Int.mul_nonneg (show 0 ≤ c + a by omega) (show 0 ≤ d - b by omega)
  constructor <;> grind
theorem sg_bd (k : Nat) : sg k = 1 ∨ sg k = -1 := by unfold sg; split <;> simp
theorem sumZ_bd {f : Nat → Int} {b : Int} {n : Nat} (h : ∀ k, k < n → -b ≤ f k ∧ f k ≤ b) : -((n : Int) * b) ≤ sumZ f n ∧ sumZ f n ≤ (n : Int) * b := by
  induction n with
  | zero => simp [sumZ]
  | succ n ih =>
    have h1 := ih fun k hk => h k (by omega)
    have h2 := h n (by omega)
    unfold sumZ
    rw [show (((n + 1 : Nat) : Int)) * b = (n : Int) * b + b by rw [Int.natCast_add, Int.add_mul]; simp]
    omega
theorem D_term {c : Int} {n k : Nat} {X : Nat → Nat → Int} (hc : 0 ≤ c) (h0 : -c ≤ X 0 k ∧ X 0 k ≤ c) (hd : -fb c n ≤ D n (fun i j => X (i + 1) (skip k j)) ∧ D n (fun i j => X (i + 1) (skip k j)) ≤ fb c n) :
    -(c * fb c n) ≤ sg k * X 0 k * D n (fun i j => X (i + 1) (skip k j)) ∧ sg k * X 0 k * D n (fun i j => X (i + 1) (skip k j)) ≤ c * fb c n := by
  refine mul_abs ?_ hd hc (fb_pos hc n)
  rcases sg_bd k with h | h <;> rw [h] <;> omega
theorem D_bd {c : Int} (hc : 0 ≤ c) : ∀ {n : Nat} {X : Nat → Nat → Int}, (∀ i, i < n → ∀ j, j < n → -c ≤ X i j ∧ X i j ≤ c) → -fb c n ≤ D n X ∧ D n X ≤ fb c n
  | 0, X, _ => by unfold D fb; omega
  | n + 1, X, h => by
    unfold D
    have := sumZ_bd (f := fun k => sg k * X 0 k * D n (fun i j => X (i + 1) (skip k j))) (b := c * fb c n) (n := n + 1) fun k hk => D_term hc (h 0 (by omega) k hk) (D_bd hc fun i hi j hj => h (i + 1) (by omega) _ (skip_lt hj))
    unfold fb
    rw [show ((n : Int) + 1) = ((n + 1 : Nat) : Int) by omega]
    exact this
theorem skip_succ (k j : Nat) : skip (k + 1) (j + 1) = skip k j + 1 := by
  unfold skip
  repeat' split
  all_goals omega
/-- Along the first column. -/
theorem D_col : ∀ (n : Nat) (X : Nat → Nat → Int), D (n + 1) X = sumZ (fun k => sg k * X k 0 * D n (fun i j => X (skip k i) (j + 1))) (n + 1)
  | 0, X => by simp [D, sumZ]
  | n + 1, X => by
    rw [show D (n + 1 + 1) X = sumZ (fun k => sg k * X 0 k * D (n + 1) (fun i j => X (i + 1) (skip k j))) (n + 1 + 1) from rfl, sumZ_first, sumZ_first (fun k => sg k * X k 0 * D (n + 1) (fun i j => X (skip k i) (j + 1)))]
    have e0 : D (n + 1) (fun i j => X (i + 1) (skip 0 j)) = D (n + 1) (fun i j => X (skip 0 i) (j + 1)) := rfl
    rw [e0]
    congr 1
    have l : sumZ (fun k => sg (k + 1) * X 0 (k + 1) * D (n + 1) (fun i j => X (i + 1) (skip (k + 1) j))) (n + 1) = sumZ (fun k => sumZ (fun q => sg (k + 1) * X 0 (k + 1) * (sg q * X (q + 1) 0 * D n (fun i j => X (skip q i + 1) (skip k j + 1)))) (n + 1)) (n + 1) := by
      refine sumZ_congr fun k hk => ?_
      rw [sumZ_mul, D_col n]
      congr 1
      refine sumZ_congr fun q hq => ?_
      rw [show skip (k + 1) 0 = 0 from if_pos (by omega)]
      congr 1
      refine D_congr fun i _ j _ => ?_
      rw [skip_succ]
    have r : sumZ (fun k => sg (k + 1) * X (k + 1) 0 * D (n + 1) (fun i j => X (skip (k + 1) i) (j + 1))) (n + 1) = sumZ (fun q => sumZ (fun k => sg (k + 1) * X 0 (k + 1) * (sg q * X (q + 1) 0 * D n (fun i j => X (skip q i + 1) (skip k j + 1)))) (n + 1)) (n + 1) := by
      refine sumZ_congr fun q hq => ?_
      rw [show D (n + 1) (fun i j => X (skip (q + 1) i) (j + 1)) = sumZ (fun k => sg k * X (skip (q + 1) 0) (k + 1) * D n (fun i j => X (skip (q + 1) (i + 1)) (skip k j + 1))) (n + 1) from rfl, ← sumZ_mul]
      refine sumZ_congr fun k hk => ?_
      rw [show skip (q + 1) 0 = 0 from if_pos (by omega)]
      have e : D n (fun i j => X (skip (q + 1) (i + 1)) (skip k j + 1)) = D n (fun i j => X (skip q i + 1) (skip k j + 1)) := D_congr fun i _ j _ => by
        rw [skip_succ]
      rw [e, sg_succ, sg_succ]
      grind
    rw [l, r, sumZ_swap]
/-- The transposed matrix. -/
theorem D_flip : ∀ (n : Nat) (X : Nat → Nat → Int), D n (fun i j => X j i) = D n X
  | 0, _ => rfl
  | n + 1, X => by
    rw [D_col n X]
    refine sumZ_congr fun k _ => ?_
    rw [← D_flip n]
end Go.Proofs.Ytjadpehpempjoaa
