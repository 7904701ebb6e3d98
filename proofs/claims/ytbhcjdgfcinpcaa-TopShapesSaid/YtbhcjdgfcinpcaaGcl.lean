/- Permutations of finitely many things, their cycles, and classes that are joined one by one: plain facts. Conditions: those of each theorem. Triangles glued side by side: fans, parts and handles. Plain facts. Conditions: those of each theorem. The sides of a closed surface, each with its other: plain facts. Conditions: those of each theorem. Groups of faces of a closed surface, and its handles: plain facts. Conditions: those of each theorem. Handles of a closed surface, as they are counted. Plain facts. Conditions: those of each theorem. Groups that are counted by going from one to the next: what is known on the way. No conditions but those of each theorem. Which face has which side: plain facts. Conditions: those of each theorem. Contracts: which faces are asked for, and which sides count. Conditions: those of each theorem. A list of the call's own that is a queue: taken from its head, appended to. No conditions but those of each theorem. -/
import Derived.Test.YtbhcjdgfcinpcaaBas
import Derived.Test.YtbhcjdgfcinpcaaGsf
import Derived.Laws.AppendOwn
import Derived.Maps.AppendAt
import Derived.Tactics
namespace Go.Proofs.Ytbhcjdgfcinpcaa
set_option linter.unusedVariables false
set_option linter.unusedSimpArgs false
/-- How many of the first n. -/
def cnB (p : Nat → Bool) : Nat → Nat
  | 0 => 0
  | n + 1 => cnB p n + if p n then 1 else 0
theorem cnB_congr {p q : Nat → Bool} : ∀ {n : Nat}, (∀ i, i < n → p i = q i) → cnB p n = cnB q n
  | 0, _ => rfl
  | n + 1, h => by
    unfold cnB
    rw [cnB_congr (n := n) (fun i hi => h i (by omega)), h n (by omega)]
theorem cnB_one {p q : Nat → Bool} {k : Nat} (hp : p k = true) (hq : q k = false) : ∀ {n : Nat}, k < n → (∀ i, i < n → i ≠ k → p i = q i) → cnB p n = cnB q n + 1
  | 0, h, _ => by omega
  | n + 1, h, e => by
    unfold cnB
    by_cases q' : k = n
    · subst q'
      rw [cnB_congr (n := k) (fun i hi => e i (by omega) (by omega)), hp, hq]
      simp
    · rw [cnB_one hp hq (n := n) (by omega) (fun i hi => e i (by omega)), e n (by omega) (by omega)]
      omega
theorem cnB_all {p : Nat → Bool} : ∀ {n : Nat}, (∀ i, i < n → p i = true) → cnB p n = n
  | 0, _ => rfl
  | n + 1, h => by
    unfold cnB
    rw [cnB_all (n := n) (fun i hi => h i (by omega)), h n (by omega)]
    rfl
theorem cnB_none {p : Nat → Bool} : ∀ {n : Nat}, (∀ i, i < n → p i = false) → cnB p n = 0
  | 0, _ => rfl
  | n + 1, h => by
    unfold cnB
    rw [cnB_none (n := n) (fun i hi => h i (by omega)), h n (by omega)]
    rfl
/-- A relation between the first n things that parts them into classes. -/
structure Eqv (R : Nat → Nat → Prop) (n : Nat) : Prop where
  refl : ∀ a, a < n → R a a
  symm : ∀ a b, a < n → b < n → R a b → R b a
  trans : ∀ a b c, a < n → b < n → c < n → R a b → R b c → R a c
/-- There are c classes. -/
def NCls (R : Nat → Nat → Prop) (n c : Nat) : Prop := ∃ p : Nat → Bool, (∀ i, i < n → (p i = true ↔ ∀ j, j < i → ¬ R j i)) ∧ cnB p n = c
theorem NCls.uniq {R : Nat → Nat → Prop} {n c c' : Nat} (h : NCls R n c) (h' : NCls R n c') : c = c' := by
  obtain ⟨p, h1, h2⟩ := h
  obtain ⟨q, k1, k2⟩ := h'
  rw [← h2, ← k2]
  refine cnB_congr fun i hi => ?_
  rw [Bool.eq_iff_iff, h1 i hi, k1 i hi]
theorem NCls.ex (R : Nat → Nat → Prop) (n : Nat) : ∃ c, NCls R n c := by
  have hd : ∀ i, ∃ b : Bool, b = true ↔ ∀ j, j < i → ¬ R j i := fun i => by
    by_cases h : ∀ j, j < i → ¬ R j i
    · exact ⟨true, fun _ => h, fun _ => rfl⟩
    · exact ⟨false, fun e => (by cases e), fun k => absurd k h⟩
  exact ⟨_, fun i => (hd i).choose, fun i _ => (hd i).choose_spec, rfl⟩
theorem NCls.congr {R S : Nat → Nat → Prop} {n c : Nat} (h : NCls R n c) (e : ∀ a b, a < n → b < n → (R a b ↔ S a b)) : NCls S n c := by
  obtain ⟨p, h1, h2⟩ := h
  refine ⟨p, fun i hi => ?_, h2⟩
  rw [h1 i hi]
  constructor
  · exact fun k j hj q => k j hj ((e j i (by omega) hi).2 q)
  · exact fun k j hj q => k j hj ((e j i (by omega) hi).1 q)
/-- Two classes made one. -/
def mrg (R : Nat → Nat → Prop) (x y a b : Nat) : Prop := R a b ∨ (R a x ∧ R y b) ∨ (R a y ∧ R x b)
section
variable {R : Nat → Nat → Prop} {n x y : Nat}
theorem Eqv.mrg (h : Eqv R n) (hx : x < n) (hy : y < n) : Eqv (mrg R x y) n := by
  refine ⟨fun a ha => .inl (h.refl a ha), fun a b ha hb k => ?_, fun a b c ha hb hc k q => ?_⟩
  · rcases k with k | ⟨k1, k2⟩ | ⟨k1, k2⟩
    · exact .inl (h.symm _ _ ha hb k)
    · exact .inr (.inr ⟨h.symm _ _ hy hb k2, h.symm _ _ ha hx k1⟩)
    · exact .inr (.inl ⟨h.symm _ _ hx hb k2, h.symm _ _ ha hy k1⟩)
  · rcases k with k | ⟨k1, k2⟩ | ⟨k1, k2⟩
    · rcases q with q | ⟨q1, q2⟩ | ⟨q1, q2⟩
      · exact .inl (h.trans _ _ _ ha hb hc k q)
      · exact .inr (.inl ⟨h.trans _ _ _ ha hb hx k q1, q2⟩)
      · exact .inr (.inr ⟨h.trans _ _ _ ha hb hy k q1, q2⟩)
    · rcases q with q | ⟨q1, q2⟩ | ⟨q1, q2⟩
      · exact .inr (.inl ⟨k1, h.trans _ _ _ hy hb hc k2 q⟩)
      · exact .inr (.inl ⟨k1, q2⟩)
      · exact .inl (h.trans _ _ _ ha hx hc k1 q2)
    · rcases q with q | ⟨q1, q2⟩ | ⟨q1, q2⟩
      · exact .inr (.inr ⟨k1, h.trans _ _ _ hx hb hc k2 q⟩)
      · exact .inl (h.trans _ _ _ ha hy hc k1 q2)
      · exact .inr (.inr ⟨k1, q2⟩)
theorem Eqv.least (h : Eqv R n) : ∀ {a : Nat}, a < n → ∃ r, r ≤ a ∧ R r a ∧ ∀ j, j < r → ¬ R j a := by
  intro a
  have key : ∀ k a, a < n → a ≤ k → ∃ r, r ≤ a ∧ R r a ∧ ∀ j, j < r → ¬ R j a := by
    intro k
    induction k with
    | zero => exact fun a ha hk => ⟨a, by omega, h.refl a ha, fun j hj => by omega⟩
    | succ k ih =>
      intro a ha hk
      by_cases q : ∃ j, j < a ∧ R j a
      · obtain ⟨j, hj, hr⟩ := q
        obtain ⟨r, r1, r2, r3⟩ := ih j (by omega) (by omega)
        refine ⟨r, by omega, h.trans _ _ _ (by omega) (by omega) ha r2 hr, fun i hi e => r3 i hi ?_⟩
        exact h.trans _ _ _ (by omega) ha (by omega) e (h.symm _ _ (by omega) ha hr)
      · exact ⟨a, by omega, h.refl a ha, fun j hj e => q ⟨j, hj, e⟩⟩
  exact fun ha => key a a ha (by omega)
theorem mrg_lt (h : Eqv R n) (hx : x < n) (hy : y < n) (hne : ¬ R x y) {rx ry : Nat} (x1 : rx ≤ x) (x2 : R rx x) (x3 : ∀ j, j < rx → ¬ R j x) (y1 : ry ≤ y) (y2 : R ry y) (y3 : ∀ j, j < ry → ¬ R j y) (hlt : rx < ry) {c : Nat} (hc : NCls R n c) : ∃ c', c = c' + 1 ∧ NCls (mrg R x y) n c' := by
  obtain ⟨p, h1, h2⟩ := hc
  obtain ⟨c', q, k1, k2⟩ := NCls.ex (mrg R x y) n
  refine ⟨c', ?_, q, k1, k2⟩
  rw [← h2, ← k2]
  refine cnB_one (k := ry) ?_ ?_ (by omega) fun i hi hik => ?_
  · rw [h1 ry (by omega)]
    exact fun j hj e => y3 j hj (h.trans _ _ _ (by omega) (by omega) hy e y2)
  · rw [← Bool.not_eq_true, k1 ry (by omega)]
    exact fun k => k rx hlt (.inr (.inl ⟨x2, h.symm _ _ (by omega) hy y2⟩))
  · rw [Bool.eq_iff_iff, h1 i hi, k1 i hi]
    constructor
    · intro k j hj e
      rcases e with e | ⟨e1, e2⟩ | ⟨e1, e2⟩
      · exact k j hj e
      · rcases Nat.lt_trichotomy ry i with l | l | l
        · exact k ry l (h.trans _ _ _ (by omega) hy hi y2 e2)
        · exact hik l.symm
        · exact y3 i l (h.symm _ _ hy hi e2)
      · rcases Nat.lt_trichotomy rx i with l | l | l
        · exact k rx l (h.trans _ _ _ (by omega) hx hi x2 e2)
        · subst l
          exact y3 j (by omega) e1
        · exact x3 i l (h.symm _ _ hx hi e2)
    · exact fun k j hj e => k j hj (.inl e)
theorem NCls.mrg (h : Eqv R n) (hx : x < n) (hy : y < n) (hne : ¬ R x y) {c : Nat} (hc : NCls R n c) : ∃ c', c = c' + 1 ∧ NCls (Go.Proofs.Ytbhcjdgfcinpcaa.mrg R x y) n c' := by
  obtain ⟨rx, x1, x2, x3⟩ := h.least hx
  obtain ⟨ry, y1, y2, y3⟩ := h.least hy
  rcases Nat.lt_trichotomy rx ry with l | l | l
  · exact mrg_lt h hx hy hne x1 x2 x3 y1 y2 y3 l hc
  · subst l
    exact absurd (h.trans _ _ _ hx (by omega) hy (h.symm _ _ (by omega) hx x2) y2) hne
  · obtain ⟨c', e, k⟩ := mrg_lt h hy hx (fun q => hne (h.symm _ _ hy hx q)) y1 y2 y3 x1 x2 x3 l hc
    refine ⟨c', e, k.congr fun a b ha hb => ?_⟩
    unfold Go.Proofs.Ytbhcjdgfcinpcaa.mrg
    constructor
    · rintro (q | q | q)
      · exact .inl q
      · exact .inr (.inr q)
      · exact .inr (.inl q)
    · rintro (q | q | q)
      · exact .inl q
      · exact .inr (.inr q)
      · exact .inr (.inl q)
end
/-- Going on k times. -/
def itr (s : Nat → Nat) : Nat → Nat → Nat
  | 0, a => a
  | k + 1, a => s (itr s k a)
theorem itr_add (s : Nat → Nat) (j : Nat) : ∀ (k a : Nat), itr s (k + j) a = itr s k (itr s j a)
  | 0, a => by rw [Nat.zero_add]; rfl
  | k + 1, a => by
    rw [show k + 1 + j = (k + j) + 1 by omega]
    unfold itr
    rw [itr_add s j k a]
/-- s parts nothing and leads out of nothing. -/
structure Prm (s : Nat → Nat) (N : Nat) : Prop where
  lt : ∀ a, a < N → s a < N
  inj : ∀ a b, a < N → b < N → s a = s b → a = b
theorem pigeon : ∀ (N : Nat) (f : Nat → Nat), (∀ i, i ≤ N → f i < N) → ∃ i j, i < j ∧ j ≤ N ∧ f i = f j
  | 0, f, h => by have := h 0 (by omega); omega
  | N + 1, f, h => by
    by_cases q : ∃ i, i ≤ N ∧ f i = f (N + 1)
    · obtain ⟨i, hi, e⟩ := q
      exact ⟨i, N + 1, by omega, by omega, e⟩
    · have hne : ∀ i, i ≤ N → f i ≠ f (N + 1) := fun i hi e => q ⟨i, hi, e⟩
      have hl := h (N + 1) (by omega)
      obtain ⟨i, j, h1, h2, h3⟩ := pigeon N (fun i => if f i = N then f (N + 1) else f i) (fun i hi => by
        have := h i (by omega)
        have := hne i hi
        show (if f i = N then f (N + 1) else f i) < N
        split <;> omega)
      refine ⟨i, j, h1, by omega, ?_⟩
      have a1 := hne i (by omega)
      have a2 := hne j (by omega)
      have h3 : (if f i = N then f (N + 1) else f i) = (if f j = N then f (N + 1) else f j) := h3
      split at h3 <;> split at h3 <;> omega
section
variable {s : Nat → Nat} {N : Nat}
theorem Prm.itr_lt (h : Prm s N) {a : Nat} (ha : a < N) : ∀ k, itr s k a < N
  | 0 => ha
  | k + 1 => h.lt _ (h.itr_lt ha k)
theorem Prm.back (h : Prm s N) {a b : Nat} (ha : a < N) (hb : b < N) : ∀ k, itr s k a = itr s k b → a = b
  | 0, e => e
  | k + 1, e => h.back ha hb k (h.inj _ _ (h.itr_lt ha k) (h.itr_lt hb k) e)
theorem Prm.ret (h : Prm s N) {a : Nat} (ha : a < N) : ∃ k, 1 ≤ k ∧ itr s k a = a := by
  obtain ⟨i, j, h1, h2, h3⟩ := pigeon N (fun i => itr s i a) (fun i _ => h.itr_lt ha i)
  refine ⟨j - i, by omega, ?_⟩
  have h3 : itr s i a = itr s j a := h3
  rw [show j = i + (j - i) by omega, itr_add] at h3
  exact (h.back ha (h.itr_lt ha _) i h3).symm
theorem itr_mul {a k : Nat} (e : itr s k a = a) : ∀ m, itr s (k * m) a = a
  | 0 => rfl
  | m + 1 => by rw [Nat.mul_succ, Nat.add_comm, itr_add, itr_mul e m]; exact e
/-- s leads from a to b. -/
def Rch (s : Nat → Nat) (a b : Nat) : Prop := ∃ k, itr s k a = b
theorem Prm.eqv (h : Prm s N) : Eqv (Rch s) N := by
  refine ⟨fun a _ => ⟨0, rfl⟩, fun a b ha hb ⟨k, hk⟩ => ?_, fun a b c _ _ _ ⟨k, hk⟩ ⟨j, hj⟩ => ⟨j + k, by rw [itr_add, hk, hj]⟩⟩
  obtain ⟨n, hn, e⟩ := h.ret ha
  refine ⟨n * k - k, ?_⟩
  have hle : k ≤ n * k := Nat.le_mul_of_pos_left k hn
  have := itr_mul e k
  rw [show n * k = (n * k - k) + k by omega, itr_add, hk] at this
  exact this
/-- Two things exchanged, then s. -/
def swp (s : Nat → Nat) (x y : Nat) (a : Nat) : Nat := if a = x then s y else if a = y then s x else s a
theorem Prm.swp (h : Prm s N) {x y : Nat} (hx : x < N) (hy : y < N) (hne : x ≠ y) : Prm (swp s x y) N := by
  refine ⟨fun a ha => ?_, fun a b ha hb e => ?_⟩
  · unfold Go.Proofs.Ytbhcjdgfcinpcaa.swp
    split
    · exact h.lt _ hy
    · split
      · exact h.lt _ hx
      · exact h.lt _ ha
  · unfold Go.Proofs.Ytbhcjdgfcinpcaa.swp at e
    have i1 := h.inj a b ha hb
    have i2 := h.inj a y ha hy
    have i3 := h.inj a x ha hx
    have i4 := h.inj y x hy hx
    have i5 := h.inj b y hb hy
    have i6 := h.inj b x hb hx
    by_cases p1 : a = x
    · rw [if_pos p1] at e
      by_cases r1 : b = x
      · omega
      · rw [if_neg r1] at e
        by_cases r2 : b = y
        · rw [if_pos r2] at e
          have := i4 e
          omega
        · rw [if_neg r2] at e
          have := i5 e.symm
          omega
    · rw [if_neg p1] at e
      by_cases p2 : a = y
      · rw [if_pos p2] at e
        by_cases r1 : b = x
        · rw [if_pos r1] at e
          have := i4 e.symm
          omega
        · rw [if_neg r1] at e
          by_cases r2 : b = y
          · omega
          · rw [if_neg r2] at e
            have := i6 e.symm
            omega
      · rw [if_neg p2] at e
        by_cases r1 : b = x
        · rw [if_pos r1] at e
          have := i2 e
          omega
        · rw [if_neg r1] at e
          by_cases r2 : b = y
          · rw [if_pos r2] at e
            have := i3 e
            omega
          · rw [if_neg r2] at e
            exact i1 e
/-- From y on, s meets x or y first in round n. -/
theorem Prm.meet (h : Prm s N) {x y : Nat} (hy : y < N) : ∃ n, 1 ≤ n ∧ (itr s n y = x ∨ itr s n y = y) ∧ ∀ j, 1 ≤ j → j < n → itr s j y ≠ x ∧ itr s j y ≠ y := by
  obtain ⟨k, hk, e⟩ := h.ret hy
  have key : ∀ m k, k ≤ m → 1 ≤ k → (itr s k y = x ∨ itr s k y = y) → ∃ n, 1 ≤ n ∧ (itr s n y = x ∨ itr s n y = y) ∧ ∀ j, 1 ≤ j → j < n → itr s j y ≠ x ∧ itr s j y ≠ y := by
    intro m
    induction m with
    | zero => intro k h1 h2; omega
    | succ m ih =>
      intro k h1 h2 h3
      by_cases q : ∃ j, 1 ≤ j ∧ j < k ∧ (itr s j y = x ∨ itr s j y = y)
      · obtain ⟨j, j1, j2, j3⟩ := q
        exact ih j (by omega) j1 j3
      · exact ⟨k, h2, h3, fun j j1 j2 => ⟨fun e => q ⟨j, j1, j2, .inl e⟩, fun e => q ⟨j, j1, j2, .inr e⟩⟩⟩
  exact key k k (Nat.le_refl _) hk (.inr e)
theorem swp_path {x y n : Nat} (h : ∀ j, 1 ≤ j → j < n → itr s j y ≠ x ∧ itr s j y ≠ y) : ∀ j, 1 ≤ j → j ≤ n → itr (swp s x y) j x = itr s j y
  | 0, h1, _ => by omega
  | j + 1, _, h2 => by
    by_cases q : j = 0
    · subst q
      show swp s x y x = s y
      unfold swp
      rw [if_pos rfl]
    · show swp s x y (itr (swp s x y) j x) = s (itr s j y)
      rw [swp_path h j (by omega) (by omega)]
      obtain ⟨k1, k2⟩ := h j (by omega) (by omega)
      unfold swp
      rw [if_neg k1, if_neg k2]
theorem itr_mod {a n : Nat} (hn : 1 ≤ n) (e : itr s n a = a) (k : Nat) : itr s k a = itr s (k % n) a := by
  have h1 := Nat.mod_add_div k n
  have h2 : itr s k a = itr s (k % n + n * (k / n)) a := by rw [h1]
  rw [h2, itr_add, itr_mul e]
/-- Two of one cycle are parted. -/
theorem Prm.split (h : Prm s N) {x y : Nat} (hx : x < N) (hy : y < N) (hne : x ≠ y) (hr : Rch s x y) : ¬ Rch (Go.Proofs.Ytbhcjdgfcinpcaa.swp s x y) x y := by
  obtain ⟨n, n1, n2, n3⟩ := h.meet (x := x) hy
  have hyx := h.eqv.symm _ _ hx hy hr
  have n4 : itr s n y = x := by
    rcases n2 with e | e
    · exact e
    · obtain ⟨k, hk⟩ := hyx
      rw [itr_mod n1 e] at hk
      have hlt := Nat.mod_lt k n1
      by_cases q : k % n = 0
      · rw [q] at hk
        exact absurd hk.symm hne
      · exact absurd hk (n3 _ (by omega) hlt).1
  have n5 := swp_path n3 n n1 (Nat.le_refl _)
  rw [n4] at n5
  rintro ⟨k, hk⟩
  rw [itr_mod n1 n5] at hk
  have hlt := Nat.mod_lt k n1
  by_cases q : k % n = 0
  · rw [q] at hk
    exact hne hk
  · rw [swp_path n3 _ (by omega) (by omega)] at hk
    exact (n3 _ (by omega) hlt).2 hk
/-- Two of two cycles are brought together. -/
theorem Prm.join (h : Prm s N) {x y : Nat} (hx : x < N) (hy : y < N) (hne : x ≠ y) (hr : ¬ Rch s x y) : ∀ a b, a < N → b < N → (Rch (Go.Proofs.Ytbhcjdgfcinpcaa.swp s x y) a b ↔ mrg (Rch s) x y a b) := by
  have h' := h.swp hx hy hne
  have hq := h.eqv
  have hq' := h'.eqv
  have hm := hq.mrg hx hy
  obtain ⟨n, n1, n2, n3⟩ := h.meet (x := x) hy
  have n4 : itr s n y = y := by
    rcases n2 with e | e
    · exact absurd (hq.symm _ _ hy hx ⟨n, e⟩) hr
    · exact e
  have n5 := swp_path n3 n n1 (Nat.le_refl _)
  rw [n4] at n5
  have hxy : Rch (Go.Proofs.Ytbhcjdgfcinpcaa.swp s x y) x y := ⟨n, n5⟩
  have hyx := hq'.symm _ _ hx hy hxy
  have ex : Go.Proofs.Ytbhcjdgfcinpcaa.swp s x y x = s y := by unfold Go.Proofs.Ytbhcjdgfcinpcaa.swp; rw [if_pos rfl]
  have ey : Go.Proofs.Ytbhcjdgfcinpcaa.swp s x y y = s x := by unfold Go.Proofs.Ytbhcjdgfcinpcaa.swp; rw [if_neg (Ne.symm hne), if_pos rfl]
  have st : ∀ a, a < N → Rch (Go.Proofs.Ytbhcjdgfcinpcaa.swp s x y) a (s a) := fun a ha => by
    by_cases q1 : a = x
    · subst q1
      exact hq'.trans _ _ _ ha hy (h.lt _ ha) hxy ⟨1, ey⟩
    · by_cases q2 : a = y
      · subst q2
        exact hq'.trans _ _ _ ha hx (h.lt _ ha) hyx ⟨1, ex⟩
      · exact ⟨1, by show Go.Proofs.Ytbhcjdgfcinpcaa.swp s x y a = s a; unfold Go.Proofs.Ytbhcjdgfcinpcaa.swp; rw [if_neg q1, if_neg q2]⟩
  have st' : ∀ a, a < N → mrg (Rch s) x y a (Go.Proofs.Ytbhcjdgfcinpcaa.swp s x y a) := fun a ha => by
    by_cases q1 : a = x
    · subst q1
      rw [ex]
      exact .inr (.inl ⟨⟨0, rfl⟩, ⟨1, rfl⟩⟩)
    · by_cases q2 : a = y
      · subst q2
        rw [ey]
        exact .inr (.inr ⟨⟨0, rfl⟩, ⟨1, rfl⟩⟩)
      · refine .inl ⟨1, ?_⟩
        show s a = Go.Proofs.Ytbhcjdgfcinpcaa.swp s x y a
        unfold Go.Proofs.Ytbhcjdgfcinpcaa.swp
        rw [if_neg q1, if_neg q2]
  have up : ∀ k a, a < N → Rch (Go.Proofs.Ytbhcjdgfcinpcaa.swp s x y) a (itr s k a) := by
    intro k
    induction k with
    | zero => exact fun a ha => ⟨0, rfl⟩
    | succ k ih => exact fun a ha => hq'.trans _ _ _ ha (h.itr_lt ha k) (h.lt _ (h.itr_lt ha k)) (ih a ha) (st _ (h.itr_lt ha k))
  have up' : ∀ k a, a < N → mrg (Rch s) x y a (itr (Go.Proofs.Ytbhcjdgfcinpcaa.swp s x y) k a) := by
    intro k
    induction k with
    | zero => exact fun a ha => hm.refl a ha
    | succ k ih => exact fun a ha => hm.trans _ _ _ ha (h'.itr_lt ha k) (h'.lt _ (h'.itr_lt ha k)) (ih a ha) (st' _ (h'.itr_lt ha k))
  intro a b ha hb
  constructor
  · rintro ⟨k, rfl⟩
    exact up' k a ha
  · rintro (⟨k, rfl⟩ | ⟨⟨k, e1⟩, ⟨j, e2⟩⟩ | ⟨⟨k, e1⟩, ⟨j, e2⟩⟩)
    · exact up k a ha
    · have u1 := up k a ha
      rw [e1] at u1
      have u2 := up j y hy
      rw [e2] at u2
      exact hq'.trans _ _ _ ha hx hb u1 (hq'.trans _ _ _ hx hy hb hxy u2)
    · have u1 := up k a ha
      rw [e1] at u1
      have u2 := up j x hx
      rw [e2] at u2
      exact hq'.trans _ _ _ ha hy hb u1 (hq'.trans _ _ _ hy hx hb hyx u2)
theorem swp_swp (s : Nat → Nat) {x y : Nat} : ∀ a, swp (swp s x y) x y a = s a := by
  intro a
  by_cases q1 : a = x
  · subst q1
    unfold swp
    rw [if_pos rfl]
    by_cases q2 : y = a
    · rw [if_pos q2, q2]
    · rw [if_neg q2, if_pos rfl]
  · by_cases q2 : a = y
    · subst q2
      unfold swp
      rw [if_neg q1, if_pos rfl, if_pos rfl]
    · unfold swp
      rw [if_neg q1, if_neg q2, if_neg q1, if_neg q2]
theorem itr_congr {s t : Nat → Nat} (h : ∀ a, s a = t a) (k a : Nat) : itr s k a = itr t k a := by
  have : s = t := funext h
  rw [this]
/-- The cycles of an exchange: one less, or one more. -/
theorem Prm.cyc_join (h : Prm s N) {x y c : Nat} (hx : x < N) (hy : y < N) (hne : x ≠ y) (hr : ¬ Rch s x y) (hc : NCls (Rch s) N c) : ∃ c', c = c' + 1 ∧ NCls (Rch (Go.Proofs.Ytbhcjdgfcinpcaa.swp s x y)) N c' := by
  obtain ⟨c', e, k⟩ := hc.mrg h.eqv hx hy hr
  exact ⟨c', e, k.congr fun a b ha hb => (h.join hx hy hne hr a b ha hb).symm⟩
theorem Prm.cyc_split (h : Prm s N) {x y c : Nat} (hx : x < N) (hy : y < N) (hne : x ≠ y) (hr : Rch s x y) (hc : NCls (Rch s) N c) : NCls (Rch (Go.Proofs.Ytbhcjdgfcinpcaa.swp s x y)) N (c + 1) := by
  obtain ⟨d, hd⟩ := NCls.ex (Rch (Go.Proofs.Ytbhcjdgfcinpcaa.swp s x y)) N
  obtain ⟨d', e, k⟩ := (h.swp hx hy hne).cyc_join hx hy hne (h.split hx hy hne hr) hd
  have e2 : Go.Proofs.Ytbhcjdgfcinpcaa.swp (Go.Proofs.Ytbhcjdgfcinpcaa.swp s x y) x y = s := funext (swp_swp s)
  rw [e2] at k
  rw [hc.uniq k, ← e]
  exact hd
end
end Go.Proofs.Ytbhcjdgfcinpcaa
namespace Go.Proofs.Ytbhcjdgfcinpcaa
set_option linter.unusedVariables false
set_option linter.unusedSimpArgs false
/-- The next side of a triangle. -/
def nxt (a : Nat) : Nat := 3 * (a / 3) + (a % 3 + 1) % 3
theorem nxt_div (a : Nat) : nxt a / 3 = a / 3 := by unfold nxt; omega
theorem nxt_prm (m : Nat) : Prm nxt (3 * m) := ⟨fun a ha => by unfold nxt; omega, fun a b _ _ e => by unfold nxt at e; omega⟩
theorem nxt_rch (a b : Nat) : Rch nxt a b ↔ a / 3 = b / 3 := by
  constructor
  · rintro ⟨k, rfl⟩
    induction k with
    | zero => rfl
    | succ k ih =>
      show _ = nxt (itr nxt k a) / 3
      rw [nxt_div]
      exact ih
  · intro e
    have : b = a ∨ b = nxt a ∨ b = nxt (nxt a) := by unfold nxt; omega
    rcases this with rfl | rfl | rfl
    · exact ⟨0, rfl⟩
    · exact ⟨1, rfl⟩
    · exact ⟨2, rfl⟩
theorem same_eqv (n : Nat) : Eqv (fun a b => a / 3 = b / 3) n := ⟨fun _ _ => rfl, fun _ _ _ _ h => h.symm, fun _ _ _ _ _ _ h k => h.trans k⟩
theorem cn3 : ∀ m : Nat, cnB (fun i => decide (i % 3 = 0)) (3 * m) = m
  | 0 => rfl
  | m + 1 => by
    show cnB (fun i => decide (i % 3 = 0)) (3 * m + 1 + 1 + 1) = m + 1
    unfold cnB
    unfold cnB
    unfold cnB
    rw [cn3 m]
    have h0 : decide (3 * m % 3 = 0) = true := decide_eq_true (by omega)
    have h1 : decide ((3 * m + 1) % 3 = 0) = false := decide_eq_false (by omega)
    have h2 : decide ((3 * m + 1 + 1) % 3 = 0) = false := decide_eq_false (by omega)
    simp only [h0, h1, h2]
    simp
theorem same_cls (m : Nat) : NCls (fun a b => a / 3 = b / 3) (3 * m) m := by
  refine ⟨fun i => decide (i % 3 = 0), fun i hi => ?_, cn3 m⟩
  rw [decide_eq_true_iff]
  constructor
  · intro h j hj e
    omega
  · intro h
    by_cases q : i % 3 = 0
    · exact q
    · exact absurd (show (3 * (i / 3)) / 3 = i / 3 by omega) (h (3 * (i / 3)) (by omega))
theorem mrg_same {R : Nat → Nat → Prop} {n x y : Nat} (h : Eqv R n) (hx : x < n) (hy : y < n) (hr : R x y) : ∀ a b, a < n → b < n → (R a b ↔ mrg R x y a b) := by
  intro a b ha hb
  constructor
  · exact fun k => .inl k
  · rintro (k | ⟨k1, k2⟩ | ⟨k1, k2⟩)
    · exact k
    · exact h.trans _ _ _ ha hx hb k1 (h.trans _ _ _ hx hy hb hr k2)
    · exact h.trans _ _ _ ha hy hb k1 (h.trans _ _ _ hy hx hb (h.symm _ _ hx hy hr) k2)
/-- What is known when the sides below t, and their others, are glued. -/
structure Glu (al : Nat → Nat) (m t : Nat) (s : Nat → Nat) (E : Nat → Nat → Prop) (c p d : Nat) : Prop where
  prm : Prm s (3 * m)
  frm : ∀ a, a < 3 * m → s a = if min a (al a) < t then nxt (al a) else nxt a
  eqv : Eqv E (3 * m)
  fac : ∀ a b, a < 3 * m → b < 3 * m → a / 3 = b / 3 → E a b
  gl : ∀ a, a < 3 * m → min a (al a) < t → E a (al a)
  mn : ∀ S : Nat → Nat → Prop, Eqv S (3 * m) → (∀ a b, a < 3 * m → b < 3 * m → a / 3 = b / 3 → S a b) → (∀ a, a < 3 * m → S a (al a)) → ∀ a b, a < 3 * m → b < 3 * m → E a b → S a b
  cc : NCls (Rch s) (3 * m) c
  pc : NCls E (3 * m) p
  ev : 2 * (c + 2 * d + m) = cnB (fun a => decide (min a (al a) < t)) (3 * m) + 4 * p
section
variable {al : Nat → Nat} {m : Nat}
theorem Glu.start : Glu al m 0 nxt (fun a b => a / 3 = b / 3) m m 0 := by
  refine ⟨nxt_prm m, fun a _ => by rw [if_neg (by omega)], same_eqv _, fun _ _ _ _ h => h, fun a _ h => by omega, fun S _ h _ a b ha hb e => h a b ha hb e, (same_cls m).congr fun a b _ _ => (nxt_rch a b).symm, same_cls m, ?_⟩
  rw [cnB_none (fun i _ => decide_eq_false (by omega))]
  omega
theorem Glu.step (hlt : ∀ a, a < 3 * m → al a < 3 * m) (hal : ∀ a, a < 3 * m → al (al a) = a) (hne : ∀ a, a < 3 * m → al a ≠ a) {t : Nat} (ht : t < 3 * m) {s : Nat → Nat} {E : Nat → Nat → Prop} {c p d : Nat} (h : Glu al m t s E c p d) :
    ∃ s' E' c' p' d', Glu al m (t + 1) s' E' c' p' d' := by
  have ht1 := hlt t ht
  have ht2 := hal t ht
  have ht3 := hne t ht
  by_cases q : al t < t
  · have same : ∀ a, a < 3 * m → (min a (al a) < t + 1 ↔ min a (al a) < t) := fun a ha => by
      constructor
      · intro k
        by_cases e : min a (al a) = t
        · by_cases e1 : a = t
          · subst e1; omega
          · have e2 : al a = t := by omega
            have := hal a ha
            rw [e2] at this
            omega
        · omega
      · omega
    refine ⟨s, E, c, p, d, h.prm, fun a ha => ?_, h.eqv, h.fac, fun a ha k => h.gl a ha ((same a ha).1 k), h.mn, h.cc, h.pc, ?_⟩
    · rw [h.frm a ha]
      by_cases k : min a (al a) < t
      · rw [if_pos k, if_pos ((same a ha).2 k)]
      · rw [if_neg k, if_neg (fun j => k ((same a ha).1 j))]
    · rw [h.ev]
      congr 1
      refine cnB_congr fun a ha => ?_
      rw [Bool.eq_iff_iff, decide_eq_true_iff, decide_eq_true_iff]
      exact (same a ha).symm
  · have hx : t < al t := by omega
    have hm := h.eqv.mrg ht ht1
    have hfrm : ∀ a, a < 3 * m → swp s t (al t) a = if min a (al a) < t + 1 then nxt (al a) else nxt a := fun a ha => by
      unfold swp
      by_cases e1 : a = t
      · subst e1
        rw [if_pos rfl, h.frm _ ht1, if_neg (by rw [ht2]; omega), if_pos (by omega)]
      · rw [if_neg e1]
        by_cases e2 : a = al t
        · subst e2
          rw [if_pos rfl, h.frm _ ht, if_neg (by omega), if_pos (by rw [ht2]; omega), ht2]
        · rw [if_neg e2, h.frm a ha]
          have e3 : al a ≠ t := fun e => e2 (by rw [← e, hal a ha])
          by_cases k : min a (al a) < t
          · rw [if_pos k, if_pos (by omega)]
          · rw [if_neg k, if_neg (by omega)]
    have hgl : ∀ a, a < 3 * m → min a (al a) < t + 1 → mrg E t (al t) a (al a) := fun a ha k => by
      by_cases e1 : a = t
      · subst e1
        exact .inr (.inl ⟨h.eqv.refl _ ha, h.eqv.refl _ ht1⟩)
      · by_cases e2 : a = al t
        · subst e2
          rw [ht2]
          exact .inr (.inr ⟨h.eqv.refl _ ha, h.eqv.refl _ ht⟩)
        · have e3 : al a ≠ t := fun e => e2 (by rw [← e, hal a ha])
          exact .inl (h.gl a ha (by omega))
    have hmn : ∀ S : Nat → Nat → Prop, Eqv S (3 * m) → (∀ a b, a < 3 * m → b < 3 * m → a / 3 = b / 3 → S a b) → (∀ a, a < 3 * m → S a (al a)) → ∀ a b, a < 3 * m → b < 3 * m → mrg E t (al t) a b → S a b := fun S h1 h2 h3 a b ha hb k => by
      rcases k with k | ⟨k1, k2⟩ | ⟨k1, k2⟩
      · exact h.mn S h1 h2 h3 a b ha hb k
      · exact h1.trans _ _ _ ha ht hb (h.mn S h1 h2 h3 _ _ ha ht k1) (h1.trans _ _ _ ht ht1 hb (h3 t ht) (h.mn S h1 h2 h3 _ _ ht1 hb k2))
      · exact h1.trans _ _ _ ha ht1 hb (h.mn S h1 h2 h3 _ _ ha ht1 k1) (h1.trans _ _ _ ht1 ht hb (h1.symm _ _ ht ht1 (h3 t ht)) (h.mn S h1 h2 h3 _ _ ht hb k2))
    have hcn : cnB (fun a => decide (min a (al a) < t + 1)) (3 * m) = cnB (fun a => decide (min a (al a) < t)) (3 * m) + 2 := by
      have s1 := cnB_one (p := fun a => decide (min a (al a) < t + 1)) (q := fun a => decide (min a (al a) < t + 1) && !decide (a = t)) (k := t) (by simp; omega) (by simp) ht (fun i hi hik => by simp [hik])
      have s2 := cnB_one (p := fun a => decide (min a (al a) < t + 1) && !decide (a = t)) (q := fun a => decide (min a (al a) < t)) (k := al t) (by simp [ht3]; rw [ht2]; omega) (by rw [decide_eq_false_iff_not, ht2]; omega) ht1 (fun i hi hik => by
        by_cases e1 : i = t
        · subst e1
          simp
          omega
        · have e3 : al i ≠ t := fun e => hik (by rw [← e, hal i hi])
          rw [Bool.eq_iff_iff]
          simp [e1]
          omega)
      omega
    have hrE : ∀ a b, a < 3 * m → b < 3 * m → Rch s a b → E a b := by
      have st : ∀ a, a < 3 * m → E a (s a) := fun a ha => by
        rw [h.frm a ha]
        have l1 := (nxt_prm m).lt a ha
        have l2 := (nxt_prm m).lt (al a) (hlt a ha)
        split
        · rename_i k
          exact h.eqv.trans _ _ _ ha (hlt a ha) l2 (h.gl a ha k) (h.fac _ _ (hlt a ha) l2 (nxt_div _).symm)
        · exact h.fac _ _ ha l1 (nxt_div _).symm
      have up : ∀ k a, a < 3 * m → E a (itr s k a) := by
        intro k
        induction k with
        | zero => exact fun a ha => h.eqv.refl a ha
        | succ k ih => exact fun a ha => h.eqv.trans _ _ _ ha (h.prm.itr_lt ha k) (h.prm.lt _ (h.prm.itr_lt ha k)) (ih a ha) (st _ (h.prm.itr_lt ha k))
      rintro a b ha hb ⟨k, rfl⟩
      exact up k a ha
    have hfac : ∀ a b, a < 3 * m → b < 3 * m → a / 3 = b / 3 → mrg E t (al t) a b := fun a b ha hb e => .inl (h.fac a b ha hb e)
    have hprm := h.prm.swp ht ht1 (Ne.symm ht3)
    have hev := h.ev
    by_cases hE : E t (al t)
    · have pc : NCls (mrg E t (al t)) (3 * m) p := h.pc.congr (mrg_same h.eqv ht ht1 hE)
      by_cases hR : Rch s t (al t)
      · exact ⟨_, _, c + 1, p, d, hprm, hfrm, hm, hfac, hgl, hmn, h.prm.cyc_split ht ht1 (Ne.symm ht3) hR h.cc, pc, by omega⟩
      · obtain ⟨c', e, k⟩ := h.prm.cyc_join ht ht1 (Ne.symm ht3) hR h.cc
        exact ⟨_, _, c', p, d + 1, hprm, hfrm, hm, hfac, hgl, hmn, k, pc, by omega⟩
    · obtain ⟨c', e, k⟩ := h.prm.cyc_join ht ht1 (Ne.symm ht3) (fun r => hE (hrE _ _ ht ht1 r)) h.cc
      obtain ⟨p', e', k'⟩ := h.pc.mrg h.eqv ht ht1 hE
      exact ⟨_, _, c', p', d, hprm, hfrm, hm, hfac, hgl, hmn, k, k', by omega⟩
/-- The number of handles: fans, parts and triangles belong together. -/
theorem handles (hlt : ∀ a, a < 3 * m → al a < 3 * m) (hal : ∀ a, a < 3 * m → al (al a) = a) (hne : ∀ a, a < 3 * m → al a ≠ a) :
    ∃ (E : Nat → Nat → Prop) (c p d : Nat), Eqv E (3 * m) ∧ (∀ a b, a < 3 * m → b < 3 * m → a / 3 = b / 3 → E a b) ∧ (∀ a, a < 3 * m → E a (al a)) ∧
      (∀ S : Nat → Nat → Prop, Eqv S (3 * m) → (∀ a b, a < 3 * m → b < 3 * m → a / 3 = b / 3 → S a b) → (∀ a, a < 3 * m → S a (al a)) → ∀ a b, a < 3 * m → b < 3 * m → E a b → S a b) ∧
      Prm (fun a => nxt (al a)) (3 * m) ∧ NCls (Rch fun a => nxt (al a)) (3 * m) c ∧ NCls E (3 * m) p ∧ 2 * c + 4 * d = m + 4 * p := by
  have key : ∀ t, t ≤ 3 * m → ∃ s E c p d, Glu al m t s E c p d := by
    intro t
    induction t with
    | zero => exact fun _ => ⟨_, _, _, _, _, Glu.start⟩
    | succ t ih =>
      intro ht
      obtain ⟨s, E, c, p, d, h⟩ := ih (by omega)
      exact h.step hlt hal hne (by omega)
  obtain ⟨s, E, c, p, d, h⟩ := key (3 * m) (Nat.le_refl _)
  have hs : ∀ a, a < 3 * m → s a = nxt (al a) := fun a ha => by rw [h.frm a ha, if_pos (by omega)]
  have hp : Prm (fun a => nxt (al a)) (3 * m) := ⟨fun a ha => by show nxt (al a) < _; rw [← hs a ha]; exact h.prm.lt a ha, fun a b ha hb e => h.prm.inj a b ha hb (by rw [hs a ha, hs b hb]; exact e)⟩
  have hi : ∀ k a, a < 3 * m → itr s k a = itr (fun a => nxt (al a)) k a := by
    intro k
    induction k with
    | zero => exact fun a _ => rfl
    | succ k ih =>
      intro a ha
      show s (itr s k a) = nxt (al (itr (fun a => nxt (al a)) k a))
      rw [← ih a ha]
      exact hs _ (h.prm.itr_lt ha k)
  refine ⟨E, c, p, d, h.eqv, h.fac, fun a ha => h.gl a ha (by omega), h.mn, hp, h.cc.congr fun a b ha hb => ?_, h.pc, ?_⟩
  · unfold Rch
    constructor
    · rintro ⟨k, e⟩
      exact ⟨k, by rw [← hi k a ha]; exact e⟩
    · rintro ⟨k, e⟩
      exact ⟨k, by rw [hi k a ha]; exact e⟩
  · have := h.ev
    rw [cnB_all (fun i hi => decide_eq_true (by omega))] at this
    omega
end
end Go.Proofs.Ytbhcjdgfcinpcaa
namespace Go.Proofs.Ytbhcjdgfcinpcaa
set_option linter.unusedVariables false
set_option linter.unusedSimpArgs false
/-- Where a side begins. -/
def tl (F : Nat → Nat → Int) (a : Nat) : Int := F (a / 3) (a % 3)
theorem tl_at (F : Nat → Nat → Int) (i k : Nat) (hk : k < 3) : tl F (3 * i + k) = F i k := by
  unfold tl
  rw [show (3 * i + k) / 3 = i by omega, show (3 * i + k) % 3 = k by omega]
theorem nxt_at (i k : Nat) (hk : k < 3) : nxt (3 * i + k) = 3 * i + (k + 1) % 3 := by
  unfold nxt
  rw [show (3 * i + k) / 3 = i by omega, show (3 * i + k) % 3 = k by omega]
def sdB (F : Nat → Nat → Int) (p q : Int) (a : Nat) : Bool := decide (tl F a = p) && decide (tl F (nxt a) = q)
theorem sdB_iff {F : Nat → Nat → Int} {p q : Int} {a : Nat} : sdB F p q a = true ↔ tl F a = p ∧ tl F (nxt a) = q := by
  unfold sdB
  rw [Bool.and_eq_true, decide_eq_true_iff, decide_eq_true_iff]
theorem cnt_cn (F : Nat → Nat → Int) (p q : Int) : ∀ m : Nat, cnt F m p q = (cnB (sdB F p q) (3 * m) : Nat)
  | 0 => rfl
  | m + 1 => by
    show cnt F m p q + ind (F m 0) (F m 1) p q + ind (F m 1) (F m 2) p q + ind (F m 2) (F m 0) p q = (cnB (sdB F p q) (3 * m + 1 + 1 + 1) : Nat)
    rw [cnt_cn F p q m]
    have e0 : ind (F m 0) (F m 1) p q = ((if sdB F p q (3 * m) = true then 1 else 0 : Nat) : Int) := by
      have a1 := tl_at F m 0 (by omega)
      have a2 := nxt_at m 0 (by omega)
      have a3 := tl_at F m 1 (by omega)
      simp only [Nat.add_zero] at a1 a2
      unfold ind sdB
      rw [a1, a2, show (0 + 1) % 3 = 1 from rfl, a3]
      by_cases h1 : F m 0 = p <;> by_cases h2 : F m 1 = q <;> simp [h1, h2]
    have e1 : ind (F m 1) (F m 2) p q = ((if sdB F p q (3 * m + 1) = true then 1 else 0 : Nat) : Int) := by
      have a1 := tl_at F m 1 (by omega)
      have a2 := nxt_at m 1 (by omega)
      have a3 := tl_at F m 2 (by omega)
      unfold ind sdB
      rw [a1, a2, show (1 + 1) % 3 = 2 from rfl, a3]
      by_cases h1 : F m 1 = p <;> by_cases h2 : F m 2 = q <;> simp [h1, h2]
    have e2 : ind (F m 2) (F m 0) p q = ((if sdB F p q (3 * m + 1 + 1) = true then 1 else 0 : Nat) : Int) := by
      have a1 := tl_at F m 2 (by omega)
      have a2 := nxt_at m 2 (by omega)
      have a3 := tl_at F m 0 (by omega)
      unfold ind sdB
      rw [show 3 * m + 1 + 1 = 3 * m + 2 from rfl, a1, a2, show (2 + 1) % 3 = 0 from rfl, a3]
      by_cases h1 : F m 2 = p <;> by_cases h2 : F m 0 = q <;> simp [h1, h2]
    have u : cnB (sdB F p q) (3 * m + 1 + 1 + 1) = cnB (sdB F p q) (3 * m) + (if sdB F p q (3 * m) = true then 1 else 0) + (if sdB F p q (3 * m + 1) = true then 1 else 0) + (if sdB F p q (3 * m + 1 + 1) = true then 1 else 0) := rfl
    rw [e0, e1, e2, u]
    generalize cnB (sdB F p q) (3 * m) = x
    generalize (if sdB F p q (3 * m) = true then 1 else 0 : Nat) = y
    generalize (if sdB F p q (3 * m + 1) = true then 1 else 0 : Nat) = z
    generalize (if sdB F p q (3 * m + 1 + 1) = true then 1 else 0 : Nat) = v
    omega
theorem cnB_pos {p : Nat → Bool} : ∀ {n : Nat}, 1 ≤ cnB p n → ∃ a, a < n ∧ p a = true
  | 0, h => by simp [cnB] at h
  | n + 1, h => by
    by_cases q : p n = true
    · exact ⟨n, by omega, q⟩
    · unfold cnB at h
      rw [if_neg q] at h
      obtain ⟨a, h1, h2⟩ := cnB_pos (n := n) (by omega)
      exact ⟨a, by omega, h2⟩
theorem cnB_uniq {p : Nat → Bool} {n a b : Nat} (h : cnB p n = 1) (ha : a < n) (hb : b < n) (pa : p a = true) (pb : p b = true) : a = b := by
  by_cases q : a = b
  · exact q
  · have h1 := cnB_one (p := p) (q := fun i => p i && !decide (i = a)) (k := a) pa (by simp) ha (fun i _ hi => by simp [hi])
    have h2 := cnB_one (p := fun i => p i && !decide (i = a)) (q := fun i => p i && !decide (i = a) && !decide (i = b)) (k := b) (by simp [pb]; omega) (by simp) hb (fun i _ hi => by simp [hi])
    omega
/-- Each side has another, in the opposite direction. -/
theorem sides_al {F : Nat → Nat → Int} {m : Nat} (hop : openB F m = false) (hds : ∀ i, i < m → F i 0 ≠ F i 1 ∧ F i 1 ≠ F i 2 ∧ F i 2 ≠ F i 0) :
    ∃ al : Nat → Nat, (∀ a, a < 3 * m → al a < 3 * m ∧ tl F (al a) = tl F (nxt a) ∧ tl F (nxt (al a)) = tl F a) ∧ (∀ a, a < 3 * m → al (al a) = a) ∧ (∀ a, a < 3 * m → al a ≠ a) ∧
      ∀ a b, a < 3 * m → b < 3 * m → tl F b = tl F (nxt a) → tl F (nxt b) = tl F a → b = al a := by
  have hc : ∀ a, a < 3 * m → cnB (sdB F (tl F a) (tl F (nxt a))) (3 * m) = 1 ∧ cnB (sdB F (tl F (nxt a)) (tl F a)) (3 * m) = 1 := fun a ha => by
    have h := of_any_false hop (a / 3) (by omega)
    simp only [fOpen, Bool.or_eq_false_iff, sideBad, Bool.not_eq_false', decide_eq_true_eq, cnt_cn] at h
    obtain ⟨⟨h0, h0'⟩, ⟨h1, h1'⟩, h2, h2'⟩ := h
    have ea : a = 3 * (a / 3) + a % 3 := by omega
    have hk : a % 3 < 3 := by omega
    have t1 : tl F a = F (a / 3) (a % 3) := rfl
    have t2 : tl F (nxt a) = F (a / 3) ((a % 3 + 1) % 3) := by
      rw [ea, nxt_at _ _ hk, tl_at _ _ _ (by omega), ← ea]
    rw [t1, t2]
    rcases (show a % 3 = 0 ∨ a % 3 = 1 ∨ a % 3 = 2 by omega) with e | e | e <;> rw [e]
    · show cnB (sdB F (F (a / 3) 0) (F (a / 3) 1)) (3 * m) = 1 ∧ cnB (sdB F (F (a / 3) 1) (F (a / 3) 0)) (3 * m) = 1
      exact ⟨by omega, by omega⟩
    · show cnB (sdB F (F (a / 3) 1) (F (a / 3) 2)) (3 * m) = 1 ∧ cnB (sdB F (F (a / 3) 2) (F (a / 3) 1)) (3 * m) = 1
      exact ⟨by omega, by omega⟩
    · show cnB (sdB F (F (a / 3) 2) (F (a / 3) 0)) (3 * m) = 1 ∧ cnB (sdB F (F (a / 3) 0) (F (a / 3) 2)) (3 * m) = 1
      exact ⟨by omega, by omega⟩
  have hex : ∀ a, ∃ b, a < 3 * m → b < 3 * m ∧ tl F b = tl F (nxt a) ∧ tl F (nxt b) = tl F a := fun a => by
    by_cases ha : a < 3 * m
    · obtain ⟨b, h1, h2⟩ := cnB_pos (Nat.le_of_eq (hc a ha).2.symm)
      exact ⟨b, fun _ => ⟨h1, sdB_iff.1 h2⟩⟩
    · exact ⟨0, fun h => absurd h ha⟩
  have hun : ∀ a b b', a < 3 * m → b < 3 * m → b' < 3 * m → tl F b = tl F (nxt a) → tl F (nxt b) = tl F a → tl F b' = tl F (nxt a) → tl F (nxt b') = tl F a → b = b' := fun a b b' ha hb hb' h1 h2 h3 h4 =>
    cnB_uniq (hc a ha).2 hb hb' (sdB_iff.2 ⟨h1, h2⟩) (sdB_iff.2 ⟨h3, h4⟩)
  have hal : ∀ a, a < 3 * m → (hex a).choose < 3 * m ∧ tl F (hex a).choose = tl F (nxt a) ∧ tl F (nxt (hex a).choose) = tl F a := fun a ha => (hex a).choose_spec ha
  refine ⟨fun a => (hex a).choose, hal, fun a ha => ?_, fun a ha e => ?_, fun a b ha hb h1 h2 => ?_⟩
  · obtain ⟨h1, h2, h3⟩ := hal a ha
    obtain ⟨k1, k2, k3⟩ := hal _ h1
    exact hun _ _ _ h1 k1 ha k2 k3 h3.symm h2.symm
  · have e : (hex a).choose = a := e
    obtain ⟨h1, h2, h3⟩ := hal a ha
    rw [e] at h2
    have hd := hds (a / 3) (by omega)
    have ea : a = 3 * (a / 3) + a % 3 := by omega
    have hk : a % 3 < 3 := by omega
    have t1 : tl F a = F (a / 3) (a % 3) := rfl
    have t2 : tl F (nxt a) = F (a / 3) ((a % 3 + 1) % 3) := by
      rw [ea, nxt_at _ _ hk, tl_at _ _ _ (by omega), ← ea]
    rw [t1, t2] at h2
    rcases (show a % 3 = 0 ∨ a % 3 = 1 ∨ a % 3 = 2 by omega) with e | e | e <;> rw [e] at h2
    · exact hd.1 h2
    · exact hd.2.1 h2
    · exact hd.2.2 h2
  · obtain ⟨k1, k2, k3⟩ := hal a ha
    exact hun _ _ _ ha hb k1 h1 h2 k2 k3
end Go.Proofs.Ytbhcjdgfcinpcaa
namespace Go.Proofs.Ytbhcjdgfcinpcaa
set_option linter.unusedVariables false
set_option linter.unusedSimpArgs false
/-- b is met from a. -/
def Go1 (adj : Nat → Nat → Prop) (a b : Nat) : Prop := ∀ S : Nat → Prop, S a → (∀ x y, S x → adj x y → S y) → S b
theorem Go1.refl (adj : Nat → Nat → Prop) (a : Nat) : Go1 adj a a := fun _ h _ => h
theorem Go1.step {adj : Nat → Nat → Prop} {a b c : Nat} (h : Go1 adj a b) (k : adj b c) : Go1 adj a c := fun S h0 h1 => h1 _ _ (h S h0 h1) k
theorem Go1.trans {adj : Nat → Nat → Prop} {a b c : Nat} (h : Go1 adj a b) (k : Go1 adj b c) : Go1 adj a c := fun S h0 h1 => k S (h S h0 h1) h1
theorem Go1.symm {adj : Nat → Nat → Prop} (hs : ∀ x y, adj x y → adj y x) {a b : Nat} (h : Go1 adj a b) : Go1 adj b a :=
  h (fun z => Go1 adj z a) (Go1.refl adj a) fun x y hx hxy => ((Go1.refl adj y).step (hs x y hxy)).trans hx
/-- There are c groups among the first m that are asked for. -/
def GrN (sel : Nat → Prop) (adj : Nat → Nat → Prop) (m c : Nat) : Prop := ∃ p : Nat → Bool, (∀ i, i < m → (p i = true ↔ sel i ∧ ∀ j, j < i → sel j → ¬ Go1 adj j i)) ∧ cnB p m = c
theorem GrN.uniq {sel : Nat → Prop} {adj : Nat → Nat → Prop} {m c c' : Nat} (h : GrN sel adj m c) (h' : GrN sel adj m c') : c = c' := by
  obtain ⟨p, h1, h2⟩ := h
  obtain ⟨q, k1, k2⟩ := h'
  rw [← h2, ← k2]
  refine cnB_congr fun i hi => ?_
  rw [Bool.eq_iff_iff, h1 i hi, k1 i hi]
/-- Faces that have a side in common; those that have one at a corner in common. -/
def adjF (al : Nat → Nat) (m i j : Nat) : Prop := ∃ a, a < 3 * m ∧ a / 3 = i ∧ al a / 3 = j
def adjV (F : Nat → Nat → Int) (al : Nat → Nat) (m : Nat) (v : Int) (i j : Nat) : Prop := ∃ a, a < 3 * m ∧ a / 3 = i ∧ al a / 3 = j ∧ (tl F a = v ∨ tl F (nxt a) = v)
def selV (F : Nat → Nat → Int) (v : Int) (i : Nat) : Prop := ∃ k, k < 3 ∧ F i k = v
theorem cls_div {G : Nat → Nat → Prop} {p : Nat} (hr : ∀ a, G a a) : ∀ {m : Nat} {r : Nat → Bool}, (∀ a, a < 3 * m → (r a = true ↔ ∀ b, b < a → ¬ G (b / 3) (a / 3))) → cnB r (3 * m) = p → cnB (fun i => r (3 * i)) m = p
  | 0, _, _, h2 => h2
  | m + 1, r, h1, h2 => by
    have ih := cls_div (p := cnB r (3 * m)) hr (m := m) (r := r) (fun a ha => h1 a (by omega)) rfl
    have e1 : r (3 * m + 1) = false := by
      rw [← Bool.not_eq_true, h1 _ (by omega)]
      intro k
      refine k (3 * m) (by omega) ?_
      rw [show 3 * m / 3 = (3 * m + 1) / 3 by omega]
      exact hr _
    have e2 : r (3 * m + 1 + 1) = false := by
      rw [← Bool.not_eq_true, h1 _ (by omega)]
      intro k
      refine k (3 * m) (by omega) ?_
      rw [show 3 * m / 3 = (3 * m + 1 + 1) / 3 by omega]
      exact hr _
    have u : cnB r (3 * m + 1 + 1 + 1) = cnB r (3 * m) + (if r (3 * m) = true then 1 else 0) + (if r (3 * m + 1) = true then 1 else 0) + (if r (3 * m + 1 + 1) = true then 1 else 0) := rfl
    rw [show 3 * (m + 1) = 3 * m + 1 + 1 + 1 by omega, u, e1, e2] at h2
    show cnB (fun i => r (3 * i)) m + (if r (3 * m) = true then 1 else 0) = p
    rw [ih, ← h2]
    simp
def sumN (f : Nat → Nat) : Nat → Nat
  | 0 => 0
  | n + 1 => sumN f n + f n
theorem sumN_add (f g : Nat → Nat) : ∀ n, sumN (fun v => f v + g v) n = sumN f n + sumN g n
  | 0 => rfl
  | n + 1 => by unfold sumN; rw [sumN_add f g n]; omega
theorem sumN_zero : ∀ n, sumN (fun _ => 0) n = 0
  | 0 => rfl
  | n + 1 => by unfold sumN; rw [sumN_zero n]
theorem sumN_if (q : Nat → Bool) : ∀ n, sumN (fun v => if q v = true then 1 else 0) n = cnB q n
  | 0 => rfl
  | n + 1 => by unfold sumN cnB; rw [sumN_if q n]
theorem sumN_congr {f g : Nat → Nat} : ∀ {n : Nat}, (∀ v, v < n → f v = g v) → sumN f n = sumN g n
  | 0, _ => rfl
  | n + 1, h => by unfold sumN; rw [sumN_congr (n := n) (fun v hv => h v (by omega)), h n (by omega)]
theorem cnB_pull (q : Nat → Bool) {k n : Nat} (hk : k < n) : cnB q n = cnB (fun i => q i && !decide (i = k)) n + if q k = true then 1 else 0 := by
  by_cases h : q k = true
  · rw [if_pos h]
    exact cnB_one h (by simp) hk fun i _ hi => by simp [hi]
  · rw [if_neg h]
    refine cnB_congr fun i _ => ?_
    by_cases e : i = k
    · subst e
      simp [h]
    · simp [e]
theorem cnB_three (q : Nat → Bool) {x y z n : Nat} (hx : x < n) (hy : y < n) (hz : z < n) (h1 : x ≠ y) (h2 : y ≠ z) (h3 : z ≠ x) (h0 : ∀ v, v < n → v ≠ x → v ≠ y → v ≠ z → q v = false) :
    cnB q n = (if q x = true then 1 else 0) + (if q y = true then 1 else 0) + (if q z = true then 1 else 0) := by
  rw [cnB_pull q hx, cnB_pull _ hy, cnB_pull _ hz]
  rw [cnB_none (fun i hi => by
    by_cases e1 : i = x
    · simp [e1]
    · by_cases e2 : i = y
      · simp [e2]
      · by_cases e3 : i = z
        · simp [e3]
        · simp [h0 i hi e1 e2 e3])]
  have a1 : (q y && !decide (y = x)) = q y := by simp [Ne.symm h1]
  have a2 : (q z && !decide (z = x) && !decide (z = y)) = q z := by simp [h3, Ne.symm h2]
  simp only [a1, a2]
  omega
section
variable {F : Nat → Nat → Int} {al : Nat → Nat} {m n : Nat}
/-- The parts of a surface are the classes of its sides. -/
theorem parts_of {E : Nat → Nat → Prop} {p : Nat} (hlt : ∀ a, a < 3 * m → al a < 3 * m) (hal : ∀ a, a < 3 * m → al (al a) = a) (hE : Eqv E (3 * m)) (hf : ∀ a b, a < 3 * m → b < 3 * m → a / 3 = b / 3 → E a b) (hg : ∀ a, a < 3 * m → E a (al a))
    (hm : ∀ S : Nat → Nat → Prop, Eqv S (3 * m) → (∀ a b, a < 3 * m → b < 3 * m → a / 3 = b / 3 → S a b) → (∀ a, a < 3 * m → S a (al a)) → ∀ a b, a < 3 * m → b < 3 * m → E a b → S a b)
    (hp : NCls E (3 * m) p) : GrN (fun _ => True) (adjF al m) m p := by
  have hs : ∀ x y, adjF al m x y → adjF al m y x := fun x y ⟨a, h1, h2, h3⟩ => ⟨al a, hlt a h1, h3, by rw [hal a h1]; exact h2⟩
  have hiff : ∀ a b, a < 3 * m → b < 3 * m → (E a b ↔ Go1 (adjF al m) (a / 3) (b / 3)) := by
    intro a b ha hb
    constructor
    · intro h
      refine hm (fun a b => Go1 (adjF al m) (a / 3) (b / 3)) ⟨fun a _ => Go1.refl _ _, fun a b _ _ h => h.symm hs, fun a b c _ _ _ h k => h.trans k⟩ (fun a b _ _ e => ?_) (fun a ha => ?_) a b ha hb h
      · show Go1 (adjF al m) (a / 3) (b / 3)
        rw [e]
        exact Go1.refl _ _
      · exact (Go1.refl _ _).step ⟨a, ha, rfl, rfl⟩
    · intro h
      have := h (fun x => x < m ∧ E a (3 * x)) ⟨by omega, hf _ _ ha (by omega) (by omega)⟩ fun x y ⟨hx, ex⟩ ⟨c, c1, c2, c3⟩ => by
        have hc := hlt c c1
        refine ⟨by omega, ?_⟩
        refine hE.trans _ _ _ ha (by omega) (by omega) ex (hE.trans _ _ _ (by omega) c1 (by omega) (hf _ _ (by omega) c1 (by omega)) (hE.trans _ _ _ c1 hc (by omega) (hg c c1) (hf _ _ hc (by omega) (by omega))))
      exact hE.trans _ _ _ ha (by omega) hb this.2 (hf _ _ (by omega) hb (by omega))
  obtain ⟨r, h1, h2⟩ := hp
  have k1 : ∀ a, a < 3 * m → (r a = true ↔ ∀ b, b < a → ¬ Go1 (adjF al m) (b / 3) (a / 3)) := fun a ha => by
    rw [h1 a ha]
    constructor
    · exact fun k b hb e => k b hb ((hiff b a (by omega) ha).2 e)
    · exact fun k b hb e => k b hb ((hiff b a (by omega) ha).1 e)
  refine ⟨fun i => r (3 * i), fun i hi => ?_, cls_div (fun a => Go1.refl _ a) k1 h2⟩
  show r (3 * i) = true ↔ _
  rw [k1 _ (by omega), show 3 * i / 3 = i by omega]
  constructor
  · intro k
    refine ⟨trivial, fun j hj _ e => k (3 * j) (by omega) ?_⟩
    rw [show 3 * j / 3 = j by omega]
    exact e
  · exact fun k b hb e => k.2 (b / 3) (by omega) trivial e
/-- The fans of all points are the cycles of sides. -/
theorem fans_of (hin : ∀ i, i < m → ∀ k, k < 3 → 0 ≤ F i k ∧ F i k < n) (hds : ∀ i, i < m → F i 0 ≠ F i 1 ∧ F i 1 ≠ F i 2 ∧ F i 2 ≠ F i 0)
    (hal : ∀ a, a < 3 * m → al a < 3 * m ∧ tl F (al a) = tl F (nxt a) ∧ tl F (nxt (al a)) = tl F a) (hai : ∀ a, a < 3 * m → al (al a) = a) (hp : Prm (fun a => nxt (al a)) (3 * m)) {D : Nat} (hD : NCls (Rch fun a => nxt (al a)) (3 * m) D)
    {fan : Nat → Nat} (hfan : ∀ v, v < n → GrN (selV F v) (adjV F al m v) m (fan v)) : sumN fan n = D := by
  obtain ⟨r, r1, r2⟩ := hD
  have hone : ∀ i, i < m → ∀ k k', k < 3 → k' < 3 → F i k = F i k' → k = k' := fun i hi k k' hk hk' e => by
    obtain ⟨d0, d1, d2⟩ := hds i hi
    rcases (show k = 0 ∨ k = 1 ∨ k = 2 by omega) with rfl | rfl | rfl <;> rcases (show k' = 0 ∨ k' = 1 ∨ k' = 2 by omega) with rfl | rfl | rfl
    · rfl
    · exact absurd e d0
    · exact absurd e.symm d2
    · exact absurd e.symm d0
    · rfl
    · exact absurd e d1
    · exact absurd e d2
    · exact absurd e.symm d1
    · rfl
  have hst : ∀ a, a < 3 * m → tl F (nxt (al a)) = tl F a := fun a ha => (hal a ha).2.2
  have htl : ∀ k a, a < 3 * m → tl F (itr (fun a => nxt (al a)) k a) = tl F a := by
    intro k
    induction k with
    | zero => exact fun a _ => rfl
    | succ k ih => exact fun a ha => (hst _ (hp.itr_lt ha k)).trans (ih a ha)
  have heq : ∀ (v : Int) i k, i < m → k < 3 → F i k = v → ∀ j l, j < m → l < 3 → F j l = v → (Go1 (adjV F al m v) j i ↔ Rch (fun a => nxt (al a)) (3 * j + l) (3 * i + k)) := by
    intro v i k hi hk ei j l hj hl ej
    have hbj : 3 * j + l < 3 * m := by omega
    constructor
    · intro h
      obtain ⟨k', q1, q2, q3, q4⟩ := h (fun x => ∃ k, k < 3 ∧ x < m ∧ F x k = v ∧ Rch (fun a => nxt (al a)) (3 * j + l) (3 * x + k)) ⟨l, hl, hj, ej, ⟨0, rfl⟩⟩ fun x y ⟨k, x1, x2, x3, x4⟩ ⟨a, a1, a2, a3, a4⟩ => by
        obtain ⟨b1, b2, b3⟩ := hal a a1
        have ea : a = 3 * x + a % 3 := by omega
        rcases a4 with a4 | a4
        · have e1 : a % 3 = k := hone x x2 _ _ (by omega) x1 (by rw [x3, ← a4]; unfold tl; rw [a2])
          have e2 : a = 3 * x + k := by omega
          have l2 := hp.lt a a1
          have e3 : nxt (al a) / 3 = y := by rw [nxt_div]; exact a3
          have l2 : nxt (al a) < 3 * m := l2
          have e4 : nxt (al a) = 3 * y + nxt (al a) % 3 := by omega
          refine ⟨nxt (al a) % 3, by omega, by omega, ?_, ?_⟩
          · have : tl F (nxt (al a)) = F y (nxt (al a) % 3) := by unfold tl; rw [e3]
            rw [← this, b3, a4]
          · rw [← e4]
            rw [← e2] at x4
            exact hp.eqv.trans _ _ _ hbj a1 l2 x4 ⟨1, rfl⟩
        · have n1 := (nxt_prm m).lt a a1
          have n2 : nxt a / 3 = x := by rw [nxt_div]; exact a2
          have e1 : nxt a % 3 = k := hone x x2 _ _ (by omega) x1 (by rw [x3, ← a4]; unfold tl; rw [n2])
          have e2 : nxt a = 3 * x + k := by omega
          have e4 : al a = 3 * y + al a % 3 := by omega
          refine ⟨al a % 3, by omega, by omega, ?_, ?_⟩
          · have : tl F (al a) = F y (al a % 3) := by unfold tl; rw [a3]
            rw [← this, b2, a4]
          · rw [← e4]
            rw [← e2] at x4
            have s1 : Rch (fun a => nxt (al a)) (al a) (nxt a) := ⟨1, by show nxt (al (al a)) = nxt a; rw [hai a a1]⟩
            exact hp.eqv.trans _ _ _ hbj n1 b1 x4 (hp.eqv.symm _ _ b1 n1 s1)
      have : k' = k := hone i hi _ _ q1 hk (by rw [q3, ei])
      rw [← this]
      exact q4
    · rintro ⟨t, ht⟩
      have key : ∀ t, Go1 (adjV F al m v) j (itr (fun a => nxt (al a)) t (3 * j + l) / 3) := by
        intro t
        induction t with
        | zero =>
          show Go1 (adjV F al m v) j ((3 * j + l) / 3)
          rw [show (3 * j + l) / 3 = j by omega]
          exact Go1.refl _ _
        | succ t ih =>
          refine ih.step ⟨_, hp.itr_lt hbj t, rfl, ?_, .inl ?_⟩
          · show _ = nxt (al (itr (fun a => nxt (al a)) t (3 * j + l))) / 3
            rw [nxt_div]
          · rw [htl t _ hbj, tl_at _ _ _ hl, ej]
      have := key t
      rw [ht, show (3 * i + k) / 3 = i by omega] at this
      exact this
  have hsel : ∀ v, v < n → ∃ p : Nat → Bool, (∀ i, i < m → (p i = true ↔ ∃ k, k < 3 ∧ F i k = v ∧ r (3 * i + k) = true)) ∧ cnB p m = fan v := fun v hv => by
    obtain ⟨p, p1, p2⟩ := hfan v hv
    refine ⟨p, fun i hi => ?_, p2⟩
    rw [p1 i hi]
    constructor
    · rintro ⟨⟨k, hk, ek⟩, h⟩
      refine ⟨k, hk, ek, ?_⟩
      rw [r1 _ (by omega)]
      intro b hb hr
      have hb2 : b < 3 * m := by omega
      obtain ⟨t, ht⟩ := hr
      have et := htl t b hb2
      rw [ht, tl_at _ _ _ hk, ek] at et
      have e3 : F (b / 3) (b % 3) = v := et.symm
      by_cases q : b / 3 = i
      · rw [q] at e3
        have := hone i hi _ _ (by omega) hk (e3.trans ek.symm)
        omega
      · refine h (b / 3) (by omega) ⟨b % 3, by omega, e3⟩ ?_
        rw [heq v i k hi hk ek (b / 3) (b % 3) (by omega) (by omega) e3, show 3 * (b / 3) + b % 3 = b by omega]
        exact ⟨t, ht⟩
    · rintro ⟨k, hk, ek, hr⟩
      rw [r1 _ (by omega)] at hr
      refine ⟨⟨k, hk, ek⟩, fun j hj ⟨l, hl, el⟩ hg => hr (3 * j + l) (by omega) ?_⟩
      exact (heq v i k hi hk ek j l (by omega) hl el).1 hg
  have hch : ∃ p : Nat → Nat → Bool, ∀ v, v < n → (∀ i, i < m → (p v i = true ↔ ∃ k, k < 3 ∧ F i k = v ∧ r (3 * i + k) = true)) ∧ cnB (p v) m = fan v :=
    ⟨fun v => if h : v < n then (hsel v h).choose else fun _ => false, fun v hv => by simp only [dif_pos hv]; exact (hsel v hv).choose_spec⟩
  obtain ⟨p, hpp⟩ := hch
  rw [← r2, ← sumN_congr fun v hv => (hpp v hv).2]
  have key : ∀ t, t ≤ m → sumN (fun v => cnB (p v) t) n = cnB r (3 * t) := by
    intro t
    induction t with
    | zero => exact fun _ => sumN_zero n
    | succ t ih =>
      intro ht
      have e1 : sumN (fun v => cnB (p v) (t + 1)) n = sumN (fun v => cnB (p v) t) n + sumN (fun v => if p v t = true then 1 else 0) n := sumN_add _ _ n
      have u : cnB r (3 * t + 1 + 1 + 1) = cnB r (3 * t) + (if r (3 * t) = true then 1 else 0) + (if r (3 * t + 1) = true then 1 else 0) + (if r (3 * t + 1 + 1) = true then 1 else 0) := rfl
      rw [e1, ih (by omega), sumN_if (fun v => p v t), show 3 * (t + 1) = 3 * t + 1 + 1 + 1 by omega, u]
      obtain ⟨d0, d1, d2⟩ := hds t (by omega)
      have i0 := hin t (by omega) 0 (by omega)
      have i1 := hin t (by omega) 1 (by omega)
      have i2 := hin t (by omega) 2 (by omega)
      have hq : ∀ k, k < 3 → (p (F t k).toNat t = true ↔ r (3 * t + k) = true) := fun k hk => by
        have ik := hin t (by omega) k hk
        rw [(hpp (F t k).toNat (by omega)).1 t (by omega)]
        constructor
        · rintro ⟨k', h1, h2, h3⟩
          have : k' = k := hone t (by omega) _ _ h1 hk (by rw [h2]; omega)
          rw [← this]
          exact h3
        · exact fun h => ⟨k, hk, by omega, h⟩
      rw [cnB_three (fun v => p v t) (x := (F t 0).toNat) (y := (F t 1).toNat) (z := (F t 2).toNat) (by omega) (by omega) (by omega) (by omega) (by omega) (by omega) (fun v hv n0 n1 n2 => by
        rw [← Bool.not_eq_true, (hpp v hv).1 t (by omega)]
        rintro ⟨k, h1, h2, -⟩
        rcases (show k = 0 ∨ k = 1 ∨ k = 2 by omega) with rfl | rfl | rfl <;> omega)]
      have q0 := hq 0 (by omega)
      have q1 := hq 1 (by omega)
      have q2 := hq 2 (by omega)
      simp only [Nat.add_zero] at q0
      have z0 : (if p (F t 0).toNat t = true then 1 else 0 : Nat) = if r (3 * t) = true then 1 else 0 := by simp only [q0]
      have z1 : (if p (F t 1).toNat t = true then 1 else 0 : Nat) = if r (3 * t + 1) = true then 1 else 0 := by simp only [q1]
      have z2 : (if p (F t 2).toNat t = true then 1 else 0 : Nat) = if r (3 * t + 1 + 1) = true then 1 else 0 := by
        show _ = if r (3 * t + 2) = true then 1 else 0
        simp only [q2]
      show cnB r (3 * t) + ((if p (F t 0).toNat t = true then 1 else 0) + (if p (F t 1).toNat t = true then 1 else 0) + (if p (F t 2).toNat t = true then 1 else 0)) = _
      rw [z0, z1, z2]
      omega
  exact key m (Nat.le_refl _)
end
end Go.Proofs.Ytbhcjdgfcinpcaa
namespace Go.Proofs.Ytbhcjdgfcinpcaa
set_option linter.unusedVariables false
set_option linter.unusedSimpArgs false
/-- What a valid mesh's faces are. -/
structure Clo (n m : Nat) (F : Nat → Nat → Int) : Prop where
  inn : ∀ i, i < m → ∀ k, k < 3 → 0 ≤ F i k ∧ F i k < n
  dis : ∀ i, i < m → F i 0 ≠ F i 1 ∧ F i 1 ≠ F i 2 ∧ F i 2 ≠ F i 0
  opn : openB F m = false
theorem clo_of {n m : Nat} {P F : Nat → Nat → Int} (h : validE n P m F = 0) : Clo n m F := by
  unfold validE at h
  split at h
  · omega
  split at h
  · omega
  rename_i h2
  split at h
  · omega
  rename_i h3
  split at h
  · omega
  rename_i h4
  have hf : ∀ i, i < m → faceE n P F i = 0 := facesE_at (by simpa using h3)
  refine ⟨fun i hi k hk => ?_, fun i hi => ?_, by simpa using h4⟩
  · have h5 := (faceE_0 (hf i hi)).1
    simp only [cornB, Bool.and_eq_true, decide_eq_true_eq] at h5
    rcases (show k = 0 ∨ k = 1 ∨ k = 2 by omega) with rfl | rfl | rfl <;> omega
  · have h5 := (faceE_0 (hf i hi)).2
    unfold flatB at h5
    rw [decide_eq_false_iff_not] at h5
    refine ⟨fun e => h5 ?_, fun e => h5 ?_, fun e => h5 ?_⟩
    · simp only [co, e, nX, nY, nZ]
      refine ⟨?_, ?_, ?_⟩ <;> grind
    · simp only [co, e, nX, nY, nZ]
      refine ⟨?_, ?_, ?_⟩ <;> grind
    · simp only [co, e, nX, nY, nZ]
      refine ⟨?_, ?_, ?_⟩ <;> grind
/-- The other sides of a closed surface. -/
structure Oth (F : Nat → Nat → Int) (al : Nat → Nat) (m : Nat) : Prop where
  nb : ∀ a, a < 3 * m → al a < 3 * m ∧ tl F (al a) = tl F (nxt a) ∧ tl F (nxt (al a)) = tl F a
  inv : ∀ a, a < 3 * m → al (al a) = a
  ne : ∀ a, a < 3 * m → al a ≠ a
  un : ∀ a b, a < 3 * m → b < 3 * m → tl F b = tl F (nxt a) → tl F (nxt b) = tl F a → b = al a
theorem Clo.oth {n m : Nat} {F : Nat → Nat → Int} (h : Clo n m F) : ∃ al, Oth F al m := by
  obtain ⟨al, h1, h2, h3, h4⟩ := sides_al h.opn h.dis
  exact ⟨al, h1, h2, h3, h4⟩
/-- Fans, parts and handles. -/
theorem Clo.handles {n m : Nat} {F : Nat → Nat → Int} {al : Nat → Nat} (h : Clo n m F) (ho : Oth F al m) : ∃ c p d : Nat, (∀ fan : Nat → Nat, (∀ v, v < n → GrN (selV F v) (adjV F al m v) m (fan v)) → sumN fan n = c) ∧ GrN (fun _ => True) (adjF al m) m p ∧ 2 * c + 4 * d = m + 4 * p := by
  obtain ⟨E, c, p, d, h1, h2, h3, h4, h5, h6, h7, h8⟩ := Go.Proofs.Ytbhcjdgfcinpcaa.handles (fun a ha => (ho.nb a ha).1) ho.inv ho.ne
  exact ⟨c, p, d, fun fan hf => fans_of h.inn h.dis ho.nb ho.inv h5 h6 hf, parts_of (fun a ha => (ho.nb a ha).1) ho.inv h1 h2 h3 h4 h7, h8⟩
theorem hand_num {n m c p d : Nat} (h : 2 * c + 4 * d = m + 4 * p) : (2 * (p : Int) - ((n : Int) - ((3 * m / 2 : Nat) : Int) + m + ((c : Int) - n))).tdiv 2 = d := by
  have e : (2 * (p : Int) - ((n : Int) - ((3 * m / 2 : Nat) : Int) + m + ((c : Int) - n))) = 2 * (d : Int) := by omega
  rw [e]
  exact Int.mul_tdiv_cancel_left _ (by omega)
end Go.Proofs.Ytbhcjdgfcinpcaa
namespace Go.Proofs.Ytbhcjdgfcinpcaa
set_option linter.unusedVariables false
set_option linter.unusedSimpArgs false
/-- S was S0, first is met, W waits, i is looked at: those of D have been. -/
structure Bfs (adj : Nat → Nat → Prop) (m first : Nat) (S0 S : Nat → Bool) (W : List Nat) (i : Nat) (D : Nat → Prop) : Prop where
  old : ∀ j, S0 j = true → S j = true
  fst : S first = true
  wq : ∀ x, x ∈ W → x < m ∧ S x = true ∧ Go1 adj first x
  new : ∀ j, S j = true → S0 j = true ∨ Go1 adj first j
  clo : ∀ x y, S x = true → S0 x = false → x ∉ W → adj x y → (x = i → D y) → S y = true
def upd (S : Nat → Bool) (y : Nat) (j : Nat) : Bool := if j = y then true else S j
section
variable {adj : Nat → Nat → Prop} {m first : Nat} {S0 S : Nat → Bool} {W : List Nat} {i : Nat} {D D' : Nat → Prop}
theorem Bfs.start (hf : first < m) (i : Nat) : Bfs adj m first S0 (upd S0 first) [first] i (fun _ => True) := by
  refine ⟨fun j hj => ?_, ?_, fun x hx => ?_, fun j hj => ?_, fun x y hx h0 hw _ _ => ?_⟩
  · unfold upd; split <;> simp_all
  · unfold upd; simp
  · simp only [List.mem_singleton] at hx
    subst hx
    exact ⟨hf, by unfold upd; simp, Go1.refl _ _⟩
  · unfold upd at hj
    split at hj
    · rename_i e; subst e; exact .inr (Go1.refl _ _)
    · exact .inl hj
  · unfold upd at hx
    split at hx
    · rename_i e; subst e; simp at hw
    · rw [hx] at h0; cases h0
theorem Bfs.pop {x : Nat} (h : Bfs adj m first S0 S (x :: W) i (fun _ => True)) : Bfs adj m first S0 S W x (fun _ => False) ∧ x < m := by
  refine ⟨⟨h.old, h.fst, fun y hy => h.wq y (List.mem_cons_of_mem _ hy), h.new, fun a y ha h0 hw hy hd => ?_⟩, (h.wq x (by simp)).1⟩
  by_cases e : a = x
  · exact (hd e).elim
  · exact h.clo a y ha h0 (by simp [e, hw]) hy (fun _ => trivial)
theorem Bfs.put {y : Nat} (h : Bfs adj m first S0 S W i D) (hi : Go1 adj first i) (hy : y < m) (ha : adj i y) (hs : S y = false) : Bfs adj m first S0 (upd S y) (W ++ [y]) i (fun z => D z ∨ z = y) := by
  have hg : Go1 adj first y := hi.step ha
  have up : ∀ j, S j = true → upd S y j = true := fun j hj => by unfold upd; split <;> simp_all
  refine ⟨fun j hj => up j (h.old j hj), up _ h.fst, fun x hx => ?_, fun j hj => ?_, fun x z hx h0 hw hz hd => ?_⟩
  · rcases List.mem_append.1 hx with q | q
    · obtain ⟨a, b, c⟩ := h.wq x q
      exact ⟨a, up _ b, c⟩
    · simp only [List.mem_singleton] at q
      subst q
      exact ⟨hy, by unfold upd; simp, hg⟩
  · unfold upd at hj
    split at hj
    · rename_i e; subst e; exact .inr hg
    · exact h.new j hj
  · have hxy : x ≠ y := fun e => hw (by rw [e]; simp)
    unfold upd at hx
    rw [if_neg hxy] at hx
    by_cases ezy : z = y
    · subst ezy; unfold upd; simp
    · refine up _ (h.clo x z hx h0 (fun q => hw (List.mem_append_left _ q)) hz fun e => ?_)
      rcases hd e with k | k
      · exact k
      · exact absurd k ezy
theorem Bfs.weak (h : Bfs adj m first S0 S W i D) (hd : ∀ y, D' y → adj i y → D y ∨ S y = true) : Bfs adj m first S0 S W i D' := by
  refine ⟨h.old, h.fst, h.wq, h.new, fun x y hx h0 hw hy hD => ?_⟩
  by_cases e : x = i
  · subst e
    rcases hd y (hD rfl) hy with k | k
    · exact h.clo x y hx h0 hw hy fun _ => k
    · exact k
  · exact h.clo x y hx h0 hw hy fun q => absurd q e
theorem Bfs.fin (h : Bfs adj m first S0 S [] i (fun _ => True)) (hc : ∀ x y, S0 x = true → adj x y → S0 y = true) : ∀ j, S j = true ↔ (S0 j = true ∨ Go1 adj first j) := by
  intro j
  constructor
  · exact h.new j
  · rintro (k | k)
    · exact h.old j k
    · refine k (fun z => S z = true) h.fst fun x y hx hxy => ?_
      cases h0 : S0 x with
      | true => exact h.old y (hc x y h0 hxy)
      | false => exact h.clo x y hx h0 (by simp) hxy fun _ => trivial
theorem cnB_upd {y : Nat} (hy : y < m) (hs : S y = false) : cnB (fun j => !S j) m = cnB (fun j => !(upd S y j)) m + 1 :=
  cnB_one (k := y) (by simp [hs]) (by simp [upd]) hy fun j _ hj => by simp [upd, hj]
end
/-- The firsts of groups that have been counted. -/
structure Outs (sel : Nat → Prop) (adj : Nat → Nat → Prop) (p : Nat → Bool) (r : Nat) (S : Nat → Bool) (c : Nat) : Prop where
  met : ∀ j, S j = true ↔ ∃ k, k < r ∧ sel k ∧ Go1 adj k j
  num : c = cnB p r
section
variable {sel : Nat → Prop} {adj : Nat → Nat → Prop} {m r c : Nat} {p S S' : Nat → Bool}
theorem Outs.start : Outs sel adj p 0 (fun _ => false) 0 := ⟨fun j => ⟨fun h => (by cases h), fun ⟨k, h, _⟩ => (by omega)⟩, rfl⟩
theorem Outs.clo (h : Outs sel adj p r S c) : ∀ x y, S x = true → adj x y → S y = true := fun x y hx hxy => by
  obtain ⟨k, h1, h2, h3⟩ := (h.met x).1 hx
  exact (h.met y).2 ⟨k, h1, h2, h3.step hxy⟩
theorem Outs.none (h : Outs sel adj p r S c) (hp : p r = true ↔ sel r ∧ ∀ j, j < r → sel j → ¬ Go1 adj j r) (hs : ¬ sel r) : Outs sel adj p (r + 1) S c := by
  refine ⟨fun j => ?_, ?_⟩
  · rw [h.met j]
    constructor
    · rintro ⟨k, h1, h2⟩
      exact ⟨k, by omega, h2⟩
    · rintro ⟨k, h1, h2⟩
      by_cases e : k = r
      · subst e; exact absurd h2.1 hs
      · exact ⟨k, by omega, h2⟩
  · have : p r = false := by rw [← Bool.not_eq_true, hp]; exact fun q => hs q.1
    show c = cnB p r + _
    rw [this, h.num]
    rfl
theorem Outs.seen (h : Outs sel adj p r S c) (hp : p r = true ↔ sel r ∧ ∀ j, j < r → sel j → ¬ Go1 adj j r) (hs : S r = true) : Outs sel adj p (r + 1) S c := by
  obtain ⟨k0, a1, a2, a3⟩ := (h.met r).1 hs
  refine ⟨fun j => ?_, ?_⟩
  · rw [h.met j]
    constructor
    · rintro ⟨k, h1, h2⟩
      exact ⟨k, by omega, h2⟩
    · rintro ⟨k, h1, h2, h3⟩
      by_cases e : k = r
      · subst e; exact ⟨k0, a1, a2, a3.trans h3⟩
      · exact ⟨k, by omega, h2, h3⟩
  · have : p r = false := by rw [← Bool.not_eq_true, hp]; exact fun q => q.2 k0 a1 a2 a3
    show c = cnB p r + _
    rw [this, h.num]
    rfl
theorem Outs.one (h : Outs sel adj p r S c) (hp : p r = true ↔ sel r ∧ ∀ j, j < r → sel j → ¬ Go1 adj j r) (hsel : sel r) (hs : S r = false) (hS : ∀ j, S' j = true ↔ (S j = true ∨ Go1 adj r j)) : Outs sel adj p (r + 1) S' (c + 1) := by
  refine ⟨fun j => ?_, ?_⟩
  · rw [hS j, h.met j]
    constructor
    · rintro (⟨k, h1, h2⟩ | k)
      · exact ⟨k, by omega, h2⟩
      · exact ⟨r, by omega, hsel, k⟩
    · rintro ⟨k, h1, h2, h3⟩
      by_cases e : k = r
      · subst e; exact .inr h3
      · exact .inl ⟨k, by omega, h2, h3⟩
  · have : p r = true := by
      rw [hp]
      refine ⟨hsel, fun j hj hj2 g => ?_⟩
      have := (h.met r).2 ⟨j, hj, hj2, g⟩
      rw [hs] at this
      cases this
    show c + 1 = cnB p r + _
    rw [this, h.num]
    rfl
theorem GrN.ex (sel : Nat → Prop) (adj : Nat → Nat → Prop) : ∃ p : Nat → Bool, ∀ i, p i = true ↔ sel i ∧ ∀ j, j < i → sel j → ¬ Go1 adj j i := by
  have hd : ∀ i, ∃ b : Bool, b = true ↔ sel i ∧ ∀ j, j < i → sel j → ¬ Go1 adj j i := fun i => by
    by_cases h : sel i ∧ ∀ j, j < i → sel j → ¬ Go1 adj j i
    · exact ⟨true, fun _ => h, fun _ => rfl⟩
    · exact ⟨false, fun e => (by cases e), fun k => absurd k h⟩
  exact ⟨fun i => (hd i).choose, fun i => (hd i).choose_spec⟩
theorem Outs.fin (h : Outs sel adj p m S c) (hp : ∀ i, p i = true ↔ sel i ∧ ∀ j, j < i → sel j → ¬ Go1 adj j i) : GrN sel adj m c := ⟨p, fun i _ => hp i, h.num.symm⟩
end
end Go.Proofs.Ytbhcjdgfcinpcaa
namespace Go.Proofs.Ytbhcjdgfcinpcaa
set_option linter.unusedVariables false
set_option linter.unusedSimpArgs false
/-- The face of the last of the first sides that is s. -/
def ownF (F : Nat → Nat → Int) : Nat → Int × Int → Int
  | 0 => fun _ => 0
  | a + 1 => fun s => if s = (tl F a, tl F (nxt a)) then ((a / 3 : Nat) : Int) else ownF F a s
theorem Oth.one {F : Nat → Nat → Int} {al : Nat → Nat} {m : Nat} (h : Oth F al m) {a b : Nat} (ha : a < 3 * m) (hb : b < 3 * m) (h1 : tl F a = tl F b) (h2 : tl F (nxt a) = tl F (nxt b)) : a = b := by
  obtain ⟨k1, k2, k3⟩ := h.nb a ha
  have := h.un (al a) b k1 hb (by rw [k3]; exact h1.symm) (by rw [k2]; exact h2.symm)
  rw [this, h.inv a ha]
theorem ownF_at {F : Nat → Nat → Int} {al : Nat → Nat} {m : Nat} (h : Oth F al m) {a : Nat} : ∀ {r : Nat}, r ≤ 3 * m → a < r → ownF F r (tl F a, tl F (nxt a)) = ((a / 3 : Nat) : Int)
  | 0, _, k => by omega
  | r + 1, hr, k => by
    show (if (tl F a, tl F (nxt a)) = (tl F r, tl F (nxt r)) then ((r / 3 : Nat) : Int) else ownF F r (tl F a, tl F (nxt a))) = _
    by_cases e : a = r
    · subst e
      rw [if_pos rfl]
    · rw [if_neg (fun q => e (h.one (by omega) (by omega) (congrArg Prod.fst q) (congrArg Prod.snd q)))]
      exact ownF_at h (by omega) (by omega)
/-- The face beyond side a. -/
theorem ownF_back {F : Nat → Nat → Int} {al : Nat → Nat} {m : Nat} (h : Oth F al m) {a : Nat} (ha : a < 3 * m) : ownF F (3 * m) (tl F (nxt a), tl F a) = ((al a / 3 : Nat) : Int) := by
  obtain ⟨k1, k2, k3⟩ := h.nb a ha
  rw [← k2, ← k3]
  exact ownF_at h (Nat.le_refl _) k1
theorem own3 (F : Nat → Nat → Int) (k : Nat) : ownF F (3 * k + 1) = (fun s => if s = (F k 0, F k 1) then (k : Int) else ownF F (3 * k) s) ∧ ownF F (3 * k + 2) = (fun s => if s = (F k 1, F k 2) then (k : Int) else ownF F (3 * k + 1) s) ∧ ownF F (3 * (k + 1)) = (fun s => if s = (F k 2, F k 0) then (k : Int) else ownF F (3 * k + 2) s) := by
  have a0 := tl_at F k 0 (by omega)
  have a1 := tl_at F k 1 (by omega)
  have a2 := tl_at F k 2 (by omega)
  have n0 := nxt_at k 0 (by omega)
  have n1 := nxt_at k 1 (by omega)
  have n2 := nxt_at k 2 (by omega)
  simp only [Nat.add_zero, Nat.zero_add, show 1 % 3 = 1 from rfl, show (1 + 1) % 3 = 2 from rfl, show (2 + 1) % 3 = 0 from rfl] at a0 n0 n1 n2
  refine ⟨?_, ?_, ?_⟩
  · show (fun s => if s = (tl F (3 * k), tl F (nxt (3 * k))) then ((3 * k / 3 : Nat) : Int) else ownF F (3 * k) s) = _
    rw [a0, n0, a1, show 3 * k / 3 = k by omega]
  · show (fun s => if s = (tl F (3 * k + 1), tl F (nxt (3 * k + 1))) then (((3 * k + 1) / 3 : Nat) : Int) else ownF F (3 * k + 1) s) = _
    rw [a1, n1, a2, show (3 * k + 1) / 3 = k by omega]
  · show (fun s => if s = (tl F (3 * k + 2), tl F (nxt (3 * k + 2))) then (((3 * k + 2) / 3 : Nat) : Int) else ownF F (3 * k + 2) s) = _
    rw [a2, n2, a0, show (3 * k + 2) / 3 = k by omega]
end Go.Proofs.Ytbhcjdgfcinpcaa
namespace Go.Proofs.Ytbhcjdgfcinpcaa
set_option linter.unusedVariables false
set_option linter.unusedSimpArgs false
open Go.RowKit
end Go.Proofs.Ytbhcjdgfcinpcaa
namespace Go.Proofs.Ytbhcjdgfcinpcaa
set_option linter.unusedVariables false
set_option linter.unusedSimpArgs false
open Go.RowKit
/-- v is a queue of one-cell values, its row from place o on. -/
def ownsQ (w : World) (base : Nat) (e : TypeId) (v : Value) (n : Nat) (xs : List Value) : Prop :=
  xs.length = n ∧ ∃ g o cap cur, v = .slice (some ⟨g, o, none⟩) n cap ∧ base ≤ g ∧ w.heap[g]? = some (.cells cur e (0, 0)) ∧ n ≤ cap ∧ o + cap ≤ maxLen ∧ o + cap ≤ cur.size ∧ (cur.toList.drop o).take n = xs
section
variable {P : Program} (w : World)
theorem run_append_room_q (t ty e : TypeId) (i : TypeInfo) (ht : P.underlying t = some (.slice e)) (hi : P.info? e = some i) (hs : i.size = 1)
    (g o sLen sCap : Nat) (cur : Array Value) (hg : w.heap[g]? = some (.cells cur e (0, 0)))
    (a : Addr) (c : Nat) (u : Value) (hu : w.cell? a = some u) (h1 : u.oneCell' = true)
    (hroom : sLen + 1 ≤ sCap) (hfit : o + sLen + 1 ≤ cur.size) :
    (Builtin.append_ #[t, t] ty #[.slice (some ⟨g, o, none⟩) sLen sCap, .slice (some a) 1 c]).run P w =
      .ok (.slice (some ⟨g, o, none⟩) (sLen + 1) sCap) (w.setRow g (cur.toList.take (o + sLen) ++ [u] ++ cur.toList.drop (o + sLen + 1)).toArray) := by
  have hf := run_firstCells_some (P := P) w i.size 1 a 1 c [u] (by rw [hs]; rfl) (fun j v hv => by
    cases j with
    | zero =>
      simp only [List.getElem?_cons_zero, Option.some.injEq] at hv
      subst hv
      have : a.add 0 = a := by cases a; rfl
      rw [this]
      exact hu
    | succ j => simp at hv)
  have hst := run_storeCells_at P g (o + sLen) e [u] 0 cur w hg (by simpa using hfit) (by intro x hx; simp only [List.mem_singleton] at hx; subst hx; exact h1)
  simp only [Nat.add_zero] at hst
  rw [hs] at hf
  simp [Builtin.append_, run_underlying ht, sizeOf, typeInfo, hi, Builtin.lenOf, hroom, hf, Addr.add_lit, hst, hs]
theorem run_append_q (base : Nat) (t ty e : TypeId) (i : TypeInfo) (z : Value) (bytes : Nat) (ht : P.underlying t = some (.slice e)) (hi : P.info? e = some i) (hz : i.zero = some z)
    (hsize : i.size = 1) (hby : i.bytes = bytes) (hzs : z.cells.size = 1) (v : Value) (n : Nat) (xs : List Value) (hown : ownsQ w base e v n xs)
    (a : Addr) (c : Nat) (u : Value) (hu : w.cell? a = some u) (h1 : u.oneCell' = true) (h63 : n + 1 ≤ maxLen) (hbytes : (n + 1) * bytes ≤ 140737488355328) (hbase : base ≤ w.heap.size) :
    ∃ v' w', (Builtin.append_ #[t, t] ty #[v, .slice (some a) 1 c]).run P w = .ok v' w' ∧ ownsQ w' base e v' (n + 1) (xs ++ [u]) ∧ w.grownBy w' v.ownBlock ∧ (v'.ownBlock = v.ownBlock ∨ v'.ownBlock = some w.heap.size) := by
  subst hby
  obtain ⟨hl, g, o, cap, cur, rfl, hbg, hg, hnc, hcm, hcs, htake⟩ := hown
  by_cases hroom : n + 1 ≤ cap
  · have hr := run_append_room_q (P := P) w t ty e i ht hi hsize g o n cap cur hg a c u hu h1 hroom (by omega)
    refine ⟨_, _, hr, ⟨by simp [hl], g, o, cap, _, rfl, hbg, setRow_heap w g cur _ e _ hg, hroom, hcm, ?_, ?_⟩, ⟨rfl, rfl, rfl, by simp, fun k _ hk => setRow_other w g k _ (fun e => hk (by simp [Value.ownBlock, e]))⟩, Or.inl rfl⟩
    · simp only [List.size_toArray, List.length_append, List.length_take, List.length_drop, Array.length_toList, List.length_singleton]
      omega
    · rw [← htake]
      apply List.ext_getElem?
      intro j
      simp only [List.getElem?_take, List.getElem?_drop, List.getElem?_append, List.length_take, List.length_drop, Array.length_toList, List.length_append, List.length_singleton]
      by_cases q1 : j < n
      · rw [if_pos (by omega), if_pos (by omega), if_pos (by omega), if_pos (by omega), if_pos (by omega), if_pos (by omega)]
      · by_cases q2 : j = n
        · subst q2
          rw [if_pos (by omega), if_pos (by omega), if_neg (by omega), if_neg (by omega)]
          congr 1
          omega
        · rw [if_neg (by omega), if_neg (by omega), List.getElem?_eq_none (by simp; omega)]
  · have holds : ∀ j x, xs[j]? = some x → w.cell? ((⟨g, o, none⟩ : Addr).add j) = some x := fun j x hx => by
      rw [← htake, List.getElem?_take] at hx
      split at hx
      · rw [List.getElem?_drop] at hx
        rw [Addr.add_lit]
        unfold World.cell?
        simp only [hg]
        simpa using hx
      · cases hx
    have hr := run_append_grow (P := P) w t ty e i z ht hi hz ⟨g, o, none⟩ n cap xs (by rw [hl, hsize]; omega) holds a 1 c [u] (by rw [hsize]; rfl) (fun j x hx => by
      cases j with
      | zero =>
        simp only [List.getElem?_cons_zero, Option.some.injEq] at hx
        subst hx
        have : a.add 0 = a := by cases a; rfl
        rw [this]
        exact hu
      | succ j => simp at hx) (by omega) (by unfold maxLen at h63; omega) (growslice_fits (by omega) hbytes)
    have hge := grownCap_ge w (n + 1) cap e
    have hcm2 : grownCap w (n + 1) cap e ≤ maxLen := grownCap_le_maxLen w (n + 1) cap e h63
    refine ⟨_, _, hr, ⟨by simp [hl], w.heap.size, 0, _, _, rfl, hbase, heap_alloc_new w.drew _, hge, by omega, ?_, ?_⟩, ⟨rfl, rfl, rfl, by simp, fun k hk _ => _root_.Go.heap_alloc_old w.drew _ hk⟩, Or.inr rfl⟩
    · simp only [Array.size_append, List.size_toArray, size_zeroCells, hzs, hl, List.length_singleton]
      omega
    · simp only [Array.toList_append, List.drop_zero]
      rw [show n + 1 = (xs ++ [u]).length by simp [hl]]
      exact List.take_left
theorem wpList_append_q {ops : Array Oper} {rest : List Oper} {o : Oper} {a : Act} {Q : Exit → Act → World → Prop} (hgd : o.guard = none) (s x : Operand) (t : TypeId)
    (ho : o.op = .call { callee := .builtin .append, args := #[s, x], argTypes := #[t, t] })
    (base : Nat) (e : TypeId) (i : TypeInfo) (z : Value) (bytes : Nat) (ht : P.underlying t = some (.slice e)) (hi : P.info? e = some i) (hz : i.zero = some z)
    (hsize : i.size = 1) (hby : i.bytes = bytes) (hzs : z.cells.size = 1)
    (v : Value) (n : Nat) (xs : List Value) (hs : a.eval s = v) (hown : ownsQ w base e v n xs)
    (ad : Addr) (c : Nat) (u : Value) (hx : a.eval x = .slice (some ad) 1 c) (hu : w.cell? ad = some u) (h1 : u.oneCell' = true)
    (h63 : n + 1 ≤ maxLen) (hbytes : (n + 1) * bytes ≤ 140737488355328) (hbase : base ≤ w.heap.size)
    (h : ∀ v' w', ownsQ w' base e v' (n + 1) (xs ++ [u]) → w.grownBy w' v.ownBlock → (v'.ownBlock = v.ownBlock ∨ v'.ownBlock = some w.heap.size) → wpList P ops Q rest (a.put o.dst v') w') :
    wpList P ops Q (o :: rest) a w := by
  refine wpList_plain hgd fun K hK => ?_
  obtain ⟨v', w', hr, h2, h3, h5⟩ := run_append_q (P := P) w base t o.type e i z bytes ht hi hz hsize hby hzs v n xs hown ad c u hu h1 h63 hbytes hbase
  unfold Oper.wp execOp
  simp only [ho, resolve, invoke, builtin, Sem.run_bind, Sem.run_pure, Result.andThen_ok, List.map_toArray, List.map_cons, List.map_nil, hs, hx, hr]
  exact hK _ _ (h v' w' h2 h3 h5)
end
section
variable {w w' : World} {base n : Nat} {e : TypeId} {v : Value} {xs : List Value}
theorem ownsQ.form (h : ownsQ w base e v n xs) : ∃ g o cap, v = .slice (some ⟨g, o, none⟩) n cap ∧ base ≤ g ∧ g < w.heap.size ∧ n ≤ cap ∧ cap ≤ maxLen := by
  obtain ⟨h1, g, o, cap, cur, rfl, h2, h3, h4, h5, h6, h7⟩ := h
  exact ⟨g, o, cap, rfl, h2, (Array.getElem?_eq_some_iff.1 h3).1, h4, by omega⟩
theorem ownsQ.at {g o cap : Nat} (h : ownsQ w base e (.slice (some ⟨g, o, none⟩) n cap) n xs) {j : Nat} (hj : j < n) : w.cell? ⟨g, o + j, none⟩ = xs[j]? := by
  obtain ⟨h1, g', o', cap', cur, e1, h2, h3, h4, h5, h6, h7⟩ := h
  simp only [Value.slice.injEq, Option.some.injEq, Addr.mk.injEq, and_true, true_and] at e1
  obtain ⟨⟨rfl, rfl⟩, rfl⟩ := e1
  unfold World.cell?
  simp only [h3]
  rw [← h7, List.getElem?_take, if_pos hj, List.getElem?_drop]
  simp
theorem ownsQ.pop {g o cap : Nat} {x : Value} (h : ownsQ w base e (.slice (some ⟨g, o, none⟩) (n + 1) cap) (n + 1) (x :: xs)) : ownsQ w base e (.slice (some ⟨g, o + 1, none⟩) n (cap - 1)) n xs := by
  obtain ⟨h1, g', o', cap', cur, e1, h2, h3, h4, h5, h6, h7⟩ := h
  simp only [Value.slice.injEq, Option.some.injEq, Addr.mk.injEq, and_true, true_and] at e1
  obtain ⟨⟨rfl, rfl⟩, rfl⟩ := e1
  refine ⟨by simpa using h1, g, o + 1, cap - 1, cur, rfl, h2, h3, by omega, by omega, by omega, ?_⟩
  have h8 : cap ≤ (cur.toList.drop o).length := by rw [List.length_drop, Array.length_toList]; omega
  rw [← List.drop_drop]
  cases hc : cur.toList.drop o with
  | nil => rw [hc] at h8; simp at h8; omega
  | cons y r =>
    rw [hc, List.take_succ_cons] at h7
    simp only [List.cons.injEq] at h7
    simpa using h7.2
theorem ownsQ.pop1 {g o : Nat} {x : Value} (h : ownsQ w base e (.slice (some ⟨g, o, none⟩) (n + 1) 1) (n + 1) (x :: xs)) : ownsQ w base e (.slice (some ⟨g, o, none⟩) n 0) n xs := by
  obtain ⟨h1, g', o', cap', cur, e1, h2, h3, h4, h5, h6, h7⟩ := h
  simp only [Value.slice.injEq, Option.some.injEq, Addr.mk.injEq, and_true, true_and] at e1
  obtain ⟨⟨rfl, rfl⟩, rfl⟩ := e1
  obtain rfl : n = 0 := by omega
  obtain rfl : xs = [] := by cases xs with
    | nil => rfl
    | cons a l => simp at h1
  exact ⟨rfl, g, o, 0, cur, rfl, h2, h3, by omega, by omega, by omega, by simp⟩
theorem ownsQ.kept {row : Option Nat} (h : ownsQ w base e v n xs) (hg : w.grownBy w' row) (hne : v.ownBlock ≠ row) : ownsQ w' base e v n xs := by
  obtain ⟨h1, g, o, cap, cur, rfl, h2, h3, h4, h5, h6, h7⟩ := h
  exact ⟨h1, g, o, cap, cur, rfl, h2, by rw [hg.block g (Array.getElem?_eq_some_iff.1 h3).1 hne]; exact h3, h4, h5, h6, h7⟩
theorem ownsQ.on (h : ownsQ w base e v n xs) (hk : Kept w w') : ownsQ w' base e v n xs := by
  obtain ⟨h1, g, o, cap, cur, rfl, h2, h3, h4, h5, h6, h7⟩ := h
  obtain ⟨x, rfl⟩ := hk
  exact ⟨h1, g, o, cap, cur, rfl, h2, by rw [ext_block _ _ _ (Array.getElem?_eq_some_iff.1 h3).1]; exact h3, h4, h5, h6, h7⟩
theorem ownsQ.ne {b : Nat} {T : TypeId} {cs : Array Value} (h : ownsQ w base e v n xs) (hb : w.heap[b]? = some (.cells cs T (0, 0))) (hT : T ≠ e) : v.ownBlock ≠ some b := by
  obtain ⟨h1, g, o, cap, cur, rfl, h2, h3, h4, h5, h6, h7⟩ := h
  intro q
  simp only [Value.ownBlock, Option.some.injEq] at q
  subst q
  rw [h3] at hb
  simp only [Option.some.injEq, Obj.cells.injEq] at hb
  exact hT hb.2.1.symm
theorem ownsQ.one (w : World) (x : Value) (hb : base ≤ w.heap.size) : ownsQ (w.alloc (.cells #[x] e)) base e (.slice (some ⟨w.heap.size, 0, none⟩) 1 1) 1 [x] :=
  ⟨rfl, w.heap.size, 0, 1, #[x], rfl, hb, heap_alloc_new w _, Nat.le_refl _, by unfold maxLen; omega, Nat.le_refl _, rfl⟩
end
end Go.Proofs.Ytbhcjdgfcinpcaa
