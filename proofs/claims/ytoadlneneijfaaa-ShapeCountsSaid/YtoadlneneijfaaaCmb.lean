/- Permutations of finitely many things, their cycles, and classes that are joined one by one: plain facts. Conditions: those of each theorem. -/
import Derived.Test.YtoadlneneijfaaaBase
namespace Go.Proofs.Ytoadlneneijfaaa
set_option linter.unusedVariables false
set_option linter.unusedSimpArgs false
/-- How many of the first n. -/
def cnB (p : Nat → Bool) : Nat → Nat
  | 0 => 0
  | n + 1 => cnB p n + if p n then 1 else 0
theorem cnB_congr {p q : Nat → Bool} : ∀ {n : Nat}, (∀ i, i < n → p i = q i) → cnB p n = cnB q n
  | 0, _ => rfl
  | n + 1, h => by
    unfold cnB
    rw [cnB_congr (n := n) (fun i hi => h i (by omega)), h n (by omega)]
theorem cnB_one {p q : Nat → Bool} {k : Nat} (hp : p k = true) (hq : q k = false) : ∀ {n : Nat}, k < n → (∀ i, i < n → i ≠ k → p i = q i) → cnB p n = cnB q n + 1
  | 0, h, _ => by omega
  | n + 1, h, e => by
    unfold cnB
    by_cases q' : k = n
    · subst q'
      rw [cnB_congr (n := k) (fun i hi => e i (by omega) (by omega)), hp, hq]
      simp
    · rw [cnB_one hp hq (n := n) (by omega) (fun i hi => e i (by omega)), e n (by omega) (by omega)]
      omega
theorem cnB_all {p : Nat → Bool} : ∀ {n : Nat}, (∀ i, i < n → p i = true) → cnB p n = n
  | 0, _ => rfl
  | n + 1, h => by
    unfold cnB
    rw [cnB_all (n := n) (fun i hi => h i (by omega)), h n (by omega)]
    rfl
theorem cnB_none {p : Nat → Bool} : ∀ {n : Nat}, (∀ i, i < n → p i = false) → cnB p n = 0
  | 0, _ => rfl
  | n + 1, h => by
    unfold cnB
    rw [cnB_none (n := n) (fun i hi => h i (by omega)), h n (by omega)]
    rfl
/-- A relation between the first n things that parts them into classes. -/
structure Eqv (R : Nat → Nat → Prop) (n : Nat) : Prop where
  refl : ∀ a, a < n → R a a
  symm : ∀ a b, a < n → b < n → R a b → R b a
  trans : ∀ a b c, a < n → b < n → c < n → R a b → R b c → R a c
/-- There are c classes. -/
def NCls (R : Nat → Nat → Prop) (n c : Nat) : Prop := ∃ p : Nat → Bool, (∀ i, i < n → (p i = true ↔ ∀ j, j < i → ¬ R j i)) ∧ cnB p n = c
theorem NCls.uniq {R : Nat → Nat → Prop} {n c c' : Nat} (h : NCls R n c) (h' : NCls R n c') : c = c' := by
  obtain ⟨p, h1, h2⟩ := h
  obtain ⟨q, k1, k2⟩ := h'
  rw [← h2, ← k2]
  refine cnB_congr fun i hi => ?_
  rw [Bool.eq_iff_iff, h1 i hi, k1 i hi]
theorem NCls.ex (R : Nat → Nat → Prop) (n : Nat) : ∃ c, NCls R n c := by
  have hd : ∀ i, ∃ b : Bool, b = true ↔ ∀ j, j < i → ¬ R j i := fun i => by
    by_cases h : ∀ j, j < i → ¬ R j i
    · exact ⟨true, fun _ => h, fun _ => rfl⟩
    · exact ⟨false, fun e => (by cases e), fun k => absurd k h⟩
  exact ⟨_, fun i => (hd i).choose, fun i _ => (hd i).choose_spec, rfl⟩
theorem NCls.congr {R S : Nat → Nat → Prop} {n c : Nat} (h : NCls R n c) (e : ∀ a b, a < n → b < n → (R a b ↔ S a b)) : NCls S n c := by
  obtain ⟨p, h1, h2⟩ := h
  refine ⟨p, fun i hi => ?_, h2⟩
  rw [h1 i hi]
  constructor
  · exact fun k j hj q => k j hj ((e j i (by omega) hi).2 q)
  · exact fun k j hj q => k j hj ((e j i (by omega) hi).1 q)
/-- Two classes made one. -/
def mrg (R : Nat → Nat → Prop) (x y a b : Nat) : Prop := R a b ∨ (R a x ∧ R y b) ∨ (R a y ∧ R x b)
section
variable {R : Nat → Nat → Prop} {n x y : Nat}
theorem Eqv.mrg (h : Eqv R n) (hx : x < n) (hy : y < n) : Eqv (mrg R x y) n := by
  refine ⟨fun a ha => .inl (h.refl a ha), fun a b ha hb k => ?_, fun a b c ha hb hc k q => ?_⟩
  · rcases k with k | ⟨k1, k2⟩ | ⟨k1, k2⟩
    · exact .inl (h.symm _ _ ha hb k)
    · exact .inr (.inr ⟨h.symm _ _ hy hb k2, h.symm _ _ ha hx k1⟩)
    · exact .inr (.inl ⟨h.symm _ _ hx hb k2, h.symm _ _ ha hy k1⟩)
  · rcases k with k | ⟨k1, k2⟩ | ⟨k1, k2⟩
    · rcases q with q | ⟨q1, q2⟩ | ⟨q1, q2⟩
      · exact .inl (h.trans _ _ _ ha hb hc k q)
      · exact .inr (.inl ⟨h.trans _ _ _ ha hb hx k q1, q2⟩)
      · exact .inr (.inr ⟨h.trans _ _ _ ha hb hy k q1, q2⟩)
    · rcases q with q | ⟨q1, q2⟩ | ⟨q1, q2⟩
      · exact .inr (.inl ⟨k1, h.trans _ _ _ hy hb hc k2 q⟩)
      · exact .inr (.inl ⟨k1, q2⟩)
      · exact .inl (h.trans _ _ _ ha hx hc k1 q2)
    · rcases q with q | ⟨q1, q2⟩ | ⟨q1, q2⟩
      · exact .inr (.inr ⟨k1, h.trans _ _ _ hx hb hc k2 q⟩)
      · exact .inl (h.trans _ _ _ ha hy hc k1 q2)
      · exact .inr (.inr ⟨k1, q2⟩)
theorem Eqv.least (h : Eqv R n) : ∀ {a : Nat}, a < n → ∃ r, r ≤ a ∧ R r a ∧ ∀ j, j < r → ¬ R j a := by
  intro a
  have key : ∀ k a, a < n → a ≤ k → ∃ r, r ≤ a ∧ R r a ∧ ∀ j, j < r → ¬ R j a := by
    intro k
    induction k with
    | zero => exact fun a ha hk => ⟨a, by omega, h.refl a ha, fun j hj => by omega⟩
    | succ k ih =>
      intro a ha hk
      by_cases q : ∃ j, j < a ∧ R j a
      · obtain ⟨j, hj, hr⟩ := q
        obtain ⟨r, r1, r2, r3⟩ := ih j (by omega) (by omega)
        refine ⟨r, by omega, h.trans _ _ _ (by omega) (by omega) ha r2 hr, fun i hi e => r3 i hi ?_⟩
        exact h.trans _ _ _ (by omega) ha (by omega) e (h.symm _ _ (by omega) ha hr)
      · exact ⟨a, by omega, h.refl a ha, fun j hj e => q ⟨j, hj, e⟩⟩
  exact fun ha => key a a ha (by omega)
theorem mrg_lt (h : Eqv R n) (hx : x < n) (hy : y < n) (hne : ¬ R x y) {rx ry : Nat} (x1 : rx ≤ x) (x2 : R rx x) (x3 : ∀ j, j < rx → ¬ R j x) (y1 : ry ≤ y) (y2 : R ry y) (y3 : ∀ j, j < ry → ¬ R j y) (hlt : rx < ry) {c : Nat} (hc : NCls R n c) : ∃ c', c = c' + 1 ∧ NCls (mrg R x y) n c' := by
  obtain ⟨p, h1, h2⟩ := hc
  obtain ⟨c', q, k1, k2⟩ := NCls.ex (mrg R x y) n
  refine ⟨c', ?_, q, k1, k2⟩
  rw [← h2, ← k2]
  refine cnB_one (k := ry) ?_ ?_ (by omega) fun i hi hik => ?_
  · rw [h1 ry (by omega)]
    exact fun j hj e => y3 j hj (h.trans _ _ _ (by omega) (by omega) hy e y2)
  · rw [← Bool.not_eq_true, k1 ry (by omega)]
    exact fun k => k rx hlt (.inr (.inl ⟨x2, h.symm _ _ (by omega) hy y2⟩))
  · rw [Bool.eq_iff_iff, h1 i hi, k1 i hi]
    constructor
    · intro k j hj e
      rcases e with e | ⟨e1, e2⟩ | ⟨e1, e2⟩
      · exact k j hj e
      · rcases Nat.lt_trichotomy ry i with l | l | l
        · exact k ry l (h.trans _ _ _ (by omega) hy hi y2 e2)
        · exact hik l.symm
        · exact y3 i l (h.symm _ _ hy hi e2)
      · rcases Nat.lt_trichotomy rx i with l | l | l
        · exact k rx l (h.trans _ _ _ (by omega) hx hi x2 e2)
        · subst l
          exact y3 j (by omega) e1
        · exact x3 i l (h.symm _ _ hx hi e2)
    · exact fun k j hj e => k j hj (.inl e)
theorem NCls.mrg (h : Eqv R n) (hx : x < n) (hy : y < n) (hne : ¬ R x y) {c : Nat} (hc : NCls R n c) : ∃ c', c = c' + 1 ∧ NCls (Go.Proofs.Ytoadlneneijfaaa.mrg R x y) n c' := by
  obtain ⟨rx, x1, x2, x3⟩ := h.least hx
  obtain ⟨ry, y1, y2, y3⟩ := h.least hy
  rcases Nat.lt_trichotomy rx ry with l | l | l
  · exact mrg_lt h hx hy hne x1 x2 x3 y1 y2 y3 l hc
  · subst l
    exact absurd (h.trans _ _ _ hx (by omega) hy (h.symm _ _ (by omega) hx x2) y2) hne
  · obtain ⟨c', e, k⟩ := mrg_lt h hy hx (fun q => hne (h.symm _ _ hy hx q)) y1 y2 y3 x1 x2 x3 l hc
    refine ⟨c', e, k.congr fun a b ha hb => ?_⟩
    unfold Go.Proofs.Ytoadlneneijfaaa.mrg
    constructor
    · rintro (q | q | q)
      · exact .inl q
      · exact .inr (.inr q)
      · exact .inr (.inl q)
    · rintro (q | q | q)
      · exact .inl q
      · exact .inr (.inr q)
      · exact .inr (.inl q)
end
/-- Going on k times. -/
def itr (s : Nat → Nat) : Nat → Nat → Nat
  | 0, a => a
  | k + 1, a => s (itr s k a)
theorem itr_add (s : Nat → Nat) (j : Nat) : ∀ (k a : Nat), itr s (k + j) a = itr s k (itr s j a)
  | 0, a => by rw [Nat.zero_add]; rfl
  | k + 1, a => by
    rw [show k + 1 + j = (k + j) + 1 by omega]
    unfold itr
    rw [itr_add s j k a]
/-- s parts nothing and leads out of nothing. -/
structure Prm (s : Nat → Nat) (N : Nat) : Prop where
  lt : ∀ a, a < N → s a < N
  inj : ∀ a b, a < N → b < N → s a = s b → a = b
theorem pigeon : ∀ (N : Nat) (f : Nat → Nat), (∀ i, i ≤ N → f i < N) → ∃ i j, i < j ∧ j ≤ N ∧ f i = f j
  | 0, f, h => by have := h 0 (by omega); omega
  | N + 1, f, h => by
    by_cases q : ∃ i, i ≤ N ∧ f i = f (N + 1)
    · obtain ⟨i, hi, e⟩ := q
      exact ⟨i, N + 1, by omega, by omega, e⟩
    · have hne : ∀ i, i ≤ N → f i ≠ f (N + 1) := fun i hi e => q ⟨i, hi, e⟩
      have hl := h (N + 1) (by omega)
      obtain ⟨i, j, h1, h2, h3⟩ := pigeon N (fun i => if f i = N then f (N + 1) else f i) (fun i hi => by
        have := h i (by omega)
        have := hne i hi
        show (if f i = N then f (N + 1) else f i) < N
        split <;> omega)
      refine ⟨i, j, h1, by omega, ?_⟩
      have a1 := hne i (by omega)
      have a2 := hne j (by omega)
      have h3 : (if f i = N then f (N + 1) else f i) = (if f j = N then f (N + 1) else f j) := h3
      split at h3 <;> split at h3 <;> omega
section
variable {s : Nat → Nat} {N : Nat}
theorem Prm.itr_lt (h : Prm s N) {a : Nat} (ha : a < N) : ∀ k, itr s k a < N
  | 0 => ha
  | k + 1 => h.lt _ (h.itr_lt ha k)
theorem Prm.back (h : Prm s N) {a b : Nat} (ha : a < N) (hb : b < N) : ∀ k, itr s k a = itr s k b → a = b
  | 0, e => e
  | k + 1, e => h.back ha hb k (h.inj _ _ (h.itr_lt ha k) (h.itr_lt hb k) e)
theorem Prm.ret (h : Prm s N) {a : Nat} (ha : a < N) : ∃ k, 1 ≤ k ∧ itr s k a = a := by
  obtain ⟨i, j, h1, h2, h3⟩ := pigeon N (fun i => itr s i a) (fun i _ => h.itr_lt ha i)
  refine ⟨j - i, by omega, ?_⟩
  have h3 : itr s i a = itr s j a := h3
  rw [show j = i + (j - i) by omega, itr_add] at h3
  exact (h.back ha (h.itr_lt ha _) i h3).symm
theorem itr_mul {a k : Nat} (e : itr s k a = a) : ∀ m, itr s (k * m) a = a
  | 0 => rfl
  | m + 1 => by rw [Nat.mul_succ, Nat.add_comm, itr_add, itr_mul e m]; exact e
/-- s leads from a to b. -/
def Rch (s : Nat → Nat) (a b : Nat) : Prop := ∃ k, itr s k a = b
theorem Prm.eqv (h : Prm s N) : Eqv (Rch s) N := by
  refine ⟨fun a _ => ⟨0, rfl⟩, fun a b ha hb ⟨k, hk⟩ => ?_, fun a b c _ _ _ ⟨k, hk⟩ ⟨j, hj⟩ => ⟨j + k, by rw [itr_add, hk, hj]⟩⟩
  obtain ⟨n, hn, e⟩ := h.ret ha
  refine ⟨n * k - k, ?_⟩
  have hle : k ≤ n * k := Nat.le_mul_of_pos_left k hn
  have := itr_mul e k
  rw [show n * k = (n * k - k) + k by omega, itr_add, hk] at this
  exact this
/-- Two things exchanged, then s. -/
def swp (s : Nat → Nat) (x y : Nat) (a : Nat) : Nat := if a = x then s y else if a = y then s x else s a
theorem Prm.swp (h : Prm s N) {x y : Nat} (hx : x < N) (hy : y < N) (hne : x ≠ y) : Prm (swp s x y) N := by
  refine ⟨fun a ha => ?_, fun a b ha hb e => ?_⟩
  · unfold Go.Proofs.Ytoadlneneijfaaa.swp
    split
    · exact h.lt _ hy
    · split
      · exact h.lt _ hx
      · exact h.lt _ ha
  · unfold Go.Proofs.Ytoadlneneijfaaa.swp at e
    have i1 := h.inj a b ha hb
    have i2 := h.inj a y ha hy
    have i3 := h.inj a x ha hx
    have i4 := h.inj y x hy hx
    have i5 := h.inj b y hb hy
    have i6 := h.inj b x hb hx
    by_cases p1 : a = x
    · rw [if_pos p1] at e
      by_cases r1 : b = x
      · omega
      · rw [if_neg r1] at e
        by_cases r2 : b = y
        · rw [if_pos r2] at e
          have := i4 e
          omega
        · rw [if_neg r2] at e
          have := i5 e.symm
          omega
    · rw [if_neg p1] at e
      by_cases p2 : a = y
      · rw [if_pos p2] at e
        by_cases r1 : b = x
        · rw [if_pos r1] at e
          have := i4 e.symm
          omega
        · rw [if_neg r1] at e
          by_cases r2 : b = y
          · omega
          · rw [if_neg r2] at e
            have := i6 e.symm
            omega
      · rw [if_neg p2] at e
        by_cases r1 : b = x
        · rw [if_pos r1] at e
          have := i2 e
          omega
        · rw [if_neg r1] at e
          by_cases r2 : b = y
          · rw [if_pos r2] at e
            have := i3 e
            omega
          · rw [if_neg r2] at e
            exact i1 e
/-- From y on, s meets x or y first in round n. -/
theorem Prm.meet (h : Prm s N) {x y : Nat} (hy : y < N) : ∃ n, 1 ≤ n ∧ (itr s n y = x ∨ itr s n y = y) ∧ ∀ j, 1 ≤ j → j < n → itr s j y ≠ x ∧ itr s j y ≠ y := by
  obtain ⟨k, hk, e⟩ := h.ret hy
  have key : ∀ m k, k ≤ m → 1 ≤ k → (itr s k y = x ∨ itr s k y = y) → ∃ n, 1 ≤ n ∧ (itr s n y = x ∨ itr s n y = y) ∧ ∀ j, 1 ≤ j → j < n → itr s j y ≠ x ∧ itr s j y ≠ y := by
    intro m
    induction m with
    | zero => intro k h1 h2; omega
    | succ m ih =>
      intro k h1 h2 h3
      by_cases q : ∃ j, 1 ≤ j ∧ j < k ∧ (itr s j y = x ∨ itr s j y = y)
      · obtain ⟨j, j1, j2, j3⟩ := q
        exact ih j (by omega) j1 j3
      · exact ⟨k, h2, h3, fun j j1 j2 => ⟨fun e => q ⟨j, j1, j2, .inl e⟩, fun e => q ⟨j, j1, j2, .inr e⟩⟩⟩
  exact key k k (Nat.le_refl _) hk (.inr e)
theorem swp_path {x y n : Nat} (h : ∀ j, 1 ≤ j → j < n → itr s j y ≠ x ∧ itr s j y ≠ y) : ∀ j, 1 ≤ j → j ≤ n → itr (swp s x y) j x = itr s j y
  | 0, h1, _ => by omega
  | j + 1, _, h2 => by
    by_cases q : j = 0
    · subst q
      show swp s x y x = s y
      unfold swp
      rw [if_pos rfl]
    · show swp s x y (itr (swp s x y) j x) = s (itr s j y)
      rw [swp_path h j (by omega) (by omega)]
      obtain ⟨k1, k2⟩ := h j (by omega) (by omega)
      unfold swp
      rw [if_neg k1, if_neg k2]
theorem itr_mod {a n : Nat} (hn : 1 ≤ n) (e : itr s n a = a) (k : Nat) : itr s k a = itr s (k % n) a := by
  have h1 := Nat.mod_add_div k n
  have h2 : itr s k a = itr s (k % n + n * (k / n)) a := by rw [h1]
  rw [h2, itr_add, itr_mul e]
/-- Two of one cycle are parted. -/
theorem Prm.split (h : Prm s N) {x y : Nat} (hx : x < N) (hy : y < N) (hne : x ≠ y) (hr : Rch s x y) : ¬ Rch (Go.Proofs.Ytoadlneneijfaaa.swp s x y) x y := by
  obtain ⟨n, n1, n2, n3⟩ := h.meet (x := x) hy
  have hyx := h.eqv.symm _ _ hx hy hr
  have n4 : itr s n y = x := by
    rcases n2 with e | e
    · exact e
    · obtain ⟨k, hk⟩ := hyx
      rw [itr_mod n1 e] at hk
      have hlt := Nat.mod_lt k n1
      by_cases q : k % n = 0
      · rw [q] at hk
        exact absurd hk.symm hne
      · exact absurd hk (n3 _ (by omega) hlt).1
  have n5 := swp_path n3 n n1 (Nat.le_refl _)
  rw [n4] at n5
  rintro ⟨k, hk⟩
  rw [itr_mod n1 n5] at hk
  have hlt := Nat.mod_lt k n1
  by_cases q : k % n = 0
  · rw [q] at hk
    exact hne hk
  · rw [swp_path n3 _ (by omega) (by omega)] at hk
    exact (n3 _ (by omega) hlt).2 hk
/-- Two of two cycles are brought together. -/
theorem Prm.join (h : Prm s N) {x y : Nat} (hx : x < N) (hy : y < N) (hne : x ≠ y) (hr : ¬ Rch s x y) : ∀ a b, a < N → b < N → (Rch (Go.Proofs.Ytoadlneneijfaaa.swp s x y) a b ↔ mrg (Rch s) x y a b) := by
  have h' := h.swp hx hy hne
  have hq := h.eqv
  have hq' := h'.eqv
  have hm := hq.mrg hx hy
  obtain ⟨n, n1, n2, n3⟩ := h.meet (x := x) hy
  have n4 : itr s n y = y := by
    rcases n2 with e | e
    · exact absurd (hq.symm _ _ hy hx ⟨n, e⟩) hr
    · exact e
  have n5 := swp_path n3 n n1 (Nat.le_refl _)
  rw [n4] at n5
  have hxy : Rch (Go.Proofs.Ytoadlneneijfaaa.swp s x y) x y := ⟨n, n5⟩
  have hyx := hq'.symm _ _ hx hy hxy
  have ex : Go.Proofs.Ytoadlneneijfaaa.swp s x y x = s y := by unfold Go.Proofs.Ytoadlneneijfaaa.swp; rw [if_pos rfl]
  have ey : Go.Proofs.Ytoadlneneijfaaa.swp s x y y = s x := by unfold Go.Proofs.Ytoadlneneijfaaa.swp; rw [if_neg (Ne.symm hne), if_pos rfl]
  have st : ∀ a, a < N → Rch (Go.Proofs.Ytoadlneneijfaaa.swp s x y) a (s a) := fun a ha => by
    by_cases q1 : a = x
    · subst q1
      exact hq'.trans _ _ _ ha hy (h.lt _ ha) hxy ⟨1, ey⟩
    · by_cases q2 : a = y
      · subst q2
        exact hq'.trans _ _ _ ha hx (h.lt _ ha) hyx ⟨1, ex⟩
      · exact ⟨1, by show Go.Proofs.Ytoadlneneijfaaa.swp s x y a = s a; unfold Go.Proofs.Ytoadlneneijfaaa.swp; rw [if_neg q1, if_neg q2]⟩
  have st' : ∀ a, a < N → mrg (Rch s) x y a (Go.Proofs.Ytoadlneneijfaaa.swp s x y a) := fun a ha => by
    by_cases q1 : a = x
    · subst q1
      rw [ex]
      exact .inr (.inl ⟨⟨0, rfl⟩, ⟨1, rfl⟩⟩)
    · by_cases q2 : a = y
      · subst q2
        rw [ey]
        exact .inr (.inr ⟨⟨0, rfl⟩, ⟨1, rfl⟩⟩)
      · refine .inl ⟨1, ?_⟩
        show s a = Go.Proofs.Ytoadlneneijfaaa.swp s x y a
        unfold Go.Proofs.Ytoadlneneijfaaa.swp
        rw [if_neg q1, if_neg q2]
  have up : ∀ k a, a < N → Rch (Go.Proofs.Ytoadlneneijfaaa.swp s x y) a (itr s k a) := by
    intro k
    induction k with
    | zero => exact fun a ha => ⟨0, rfl⟩
    | succ k ih => exact fun a ha => hq'.trans _ _ _ ha (h.itr_lt ha k) (h.lt _ (h.itr_lt ha k)) (ih a ha) (st _ (h.itr_lt ha k))
  have up' : ∀ k a, a < N → mrg (Rch s) x y a (itr (Go.Proofs.Ytoadlneneijfaaa.swp s x y) k a) := by
    intro k
    induction k with
    | zero => exact fun a ha => hm.refl a ha
    | succ k ih => exact fun a ha => hm.trans _ _ _ ha (h'.itr_lt ha k) (h'.lt _ (h'.itr_lt ha k)) (ih a ha) (st' _ (h'.itr_lt ha k))
  intro a b ha hb
  constructor
  · rintro ⟨k, rfl⟩
    exact up' k a ha
  · rintro (⟨k, rfl⟩ | ⟨⟨k, e1⟩, ⟨j, e2⟩⟩ | ⟨⟨k, e1⟩, ⟨j, e2⟩⟩)
    · exact up k a ha
    · have u1 := up k a ha
      rw [e1] at u1
      have u2 := up j y hy
      rw [e2] at u2
      exact hq'.trans _ _ _ ha hx hb u1 (hq'.trans _ _ _ hx hy hb hxy u2)
    · have u1 := up k a ha
      rw [e1] at u1
      have u2 := up j x hx
      rw [e2] at u2
      exact hq'.trans _ _ _ ha hy hb u1 (hq'.trans _ _ _ hy hx hb hyx u2)
theorem swp_swp (s : Nat → Nat) {x y : Nat} : ∀ a, swp (swp s x y) x y a = s a := by
  intro a
  by_cases q1 : a = x
  · subst q1
    unfold swp
    rw [if_pos rfl]
    by_cases q2 : y = a
    · rw [if_pos q2, q2]
    · rw [if_neg q2, if_pos rfl]
  · by_cases q2 : a = y
    · subst q2
      unfold swp
      rw [if_neg q1, if_pos rfl, if_pos rfl]
    · unfold swp
      rw [if_neg q1, if_neg q2, if_neg q1, if_neg q2]
theorem itr_congr {s t : Nat → Nat} (h : ∀ a, s a = t a) (k a : Nat) : itr s k a = itr t k a := by
  have : s = t := funext h
  rw [this]
/-- The cycles of an exchange: one less, or one more. -/
theorem Prm.cyc_join (h : Prm s N) {x y c : Nat} (hx : x < N) (hy : y < N) (hne : x ≠ y) (hr : ¬ Rch s x y) (hc : NCls (Rch s) N c) : ∃ c', c = c' + 1 ∧ NCls (Rch (Go.Proofs.Ytoadlneneijfaaa.swp s x y)) N c' := by
  obtain ⟨c', e, k⟩ := hc.mrg h.eqv hx hy hr
  exact ⟨c', e, k.congr fun a b ha hb => (h.join hx hy hne hr a b ha hb).symm⟩
theorem Prm.cyc_split (h : Prm s N) {x y c : Nat} (hx : x < N) (hy : y < N) (hne : x ≠ y) (hr : Rch s x y) (hc : NCls (Rch s) N c) : NCls (Rch (Go.Proofs.Ytoadlneneijfaaa.swp s x y)) N (c + 1) := by
  obtain ⟨d, hd⟩ := NCls.ex (Rch (Go.Proofs.Ytoadlneneijfaaa.swp s x y)) N
  obtain ⟨d', e, k⟩ := (h.swp hx hy hne).cyc_join hx hy hne (h.split hx hy hne hr) hd
  have e2 : Go.Proofs.Ytoadlneneijfaaa.swp (Go.Proofs.Ytoadlneneijfaaa.swp s x y) x y = s := funext (swp_swp s)
  rw [e2] at k
  rw [hc.uniq k, ← e]
  exact hd
end
end Go.Proofs.Ytoadlneneijfaaa
