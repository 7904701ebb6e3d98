/- Groups of faces of a closed surface, and its handles: plain facts. Conditions: those of each theorem. -/
import Derived.Test.YtoadlneneijfaaaGlt
namespace Go.Proofs.Ytoadlneneijfaaa
set_option linter.unusedVariables false
set_option linter.unusedSimpArgs false
/-- b is met from a. -/
def Go1 (adj : Nat → Nat → Prop) (a b : Nat) : Prop := ∀ S : Nat → Prop, S a → (∀ x y, S x → adj x y → S y) → S b
theorem Go1.refl (adj : Nat → Nat → Prop) (a : Nat) : Go1 adj a a := fun _ h _ => h
theorem Go1.step {adj : Nat → Nat → Prop} {a b c : Nat} (h : Go1 adj a b) (k : adj b c) : Go1 adj a c := fun S h0 h1 => h1 _ _ (h S h0 h1) k
theorem Go1.trans {adj : Nat → Nat → Prop} {a b c : Nat} (h : Go1 adj a b) (k : Go1 adj b c) : Go1 adj a c := fun S h0 h1 => k S (h S h0 h1) h1
theorem Go1.symm {adj : Nat → Nat → Prop} (hs : ∀ x y, adj x y → adj y x) {a b : Nat} (h : Go1 adj a b) : Go1 adj b a :=
  h (fun z => Go1 adj z a) (Go1.refl adj a) fun x y hx hxy => ((Go1.refl adj y).step (hs x y hxy)).trans hx
/-- There are c groups among the first m that are asked for. -/
def GrN (sel : Nat → Prop) (adj : Nat → Nat → Prop) (m c : Nat) : Prop := ∃ p : Nat → Bool, (∀ i, i < m → (p i = true ↔ sel i ∧ ∀ j, j < i → sel j → ¬ Go1 adj j i)) ∧ cnB p m = c
theorem GrN.uniq {sel : Nat → Prop} {adj : Nat → Nat → Prop} {m c c' : Nat} (h : GrN sel adj m c) (h' : GrN sel adj m c') : c = c' := by
  obtain ⟨p, h1, h2⟩ := h
  obtain ⟨q, k1, k2⟩ := h'
  rw [← h2, ← k2]
  refine cnB_congr fun i hi => ?_
  rw [Bool.eq_iff_iff, h1 i hi, k1 i hi]
/-- Faces that have a side in common; those that have one at a corner in common. -/
def adjF (al : Nat → Nat) (m i j : Nat) : Prop := ∃ a, a < 3 * m ∧ a / 3 = i ∧ al a / 3 = j
def adjV (F : Nat → Nat → Int) (al : Nat → Nat) (m : Nat) (v : Int) (i j : Nat) : Prop := ∃ a, a < 3 * m ∧ a / 3 = i ∧ al a / 3 = j ∧ (tl F a = v ∨ tl F (nxt a) = v)
def selV (F : Nat → Nat → Int) (v : Int) (i : Nat) : Prop := ∃ k, k < 3 ∧ F i k = v
theorem cls_div {G : Nat → Nat → Prop} {p : Nat} (hr : ∀ a, G a a) : ∀ {m : Nat} {r : Nat → Bool}, (∀ a, a < 3 * m → (r a = true ↔ ∀ b, b < a → ¬ G (b / 3) (a / 3))) → cnB r (3 * m) = p → cnB (fun i => r (3 * i)) m = p
  | 0, _, _, h2 => h2
  | m + 1, r, h1, h2 => by
    have ih := cls_div (p := cnB r (3 * m)) hr (m := m) (r := r) (fun a ha => h1 a (by omega)) rfl
    have e1 : r (3 * m + 1) = false := by
      rw [← Bool.not_eq_true, h1 _ (by omega)]
      intro k
      refine k (3 * m) (by omega) ?_
      rw [show 3 * m / 3 = (3 * m + 1) / 3 by omega]
      exact hr _
    have e2 : r (3 * m + 1 + 1) = false := by
      rw [← Bool.not_eq_true, h1 _ (by omega)]
      intro k
      refine k (3 * m) (by omega) ?_
      rw [show 3 * m / 3 = (3 * m + 1 + 1) / 3 by omega]
      exact hr _
    have u : cnB r (3 * m + 1 + 1 + 1) = cnB r (3 * m) + (if r (3 * m) = true then 1 else 0) + (if r (3 * m + 1) = true then 1 else 0) + (if r (3 * m + 1 + 1) = true then 1 else 0) := rfl
    rw [show 3 * (m + 1) = 3 * m + 1 + 1 + 1 by omega, u, e1, e2] at h2
    show cnB (fun i => r (3 * i)) m + (if r (3 * m) = true then 1 else 0) = p
    rw [ih, ← h2]
    simp
def sumN (f : Nat → Nat) : Nat → Nat
  | 0 => 0
  | n + 1 => sumN f n + f n
theorem sumN_add (f g : Nat → Nat) : ∀ n, sumN (fun v => f v + g v) n = sumN f n + sumN g n
  | 0 => rfl
  | n + 1 => by unfold sumN; rw [sumN_add f g n]; omega
theorem sumN_zero : ∀ n, sumN (fun _ => 0) n = 0
  | 0 => rfl
  | n + 1 => by unfold sumN; rw [sumN_zero n]
theorem sumN_if (q : Nat → Bool) : ∀ n, sumN (fun v => if q v = true then 1 else 0) n = cnB q n
  | 0 => rfl
  | n + 1 => by unfold sumN cnB; rw [sumN_if q n]
theorem sumN_congr {f g : Nat → Nat} : ∀ {n : Nat}, (∀ v, v < n → f v = g v) → sumN f n = sumN g n
  | 0, _ => rfl
  | n + 1, h => by unfold sumN; rw [sumN_congr (n := n) (fun v hv => h v (by omega)), h n (by omega)]
theorem cnB_pull (q : Nat → Bool) {k n : Nat} (hk : k < n) : cnB q n = cnB (fun i => q i && !decide (i = k)) n + if q k = true then 1 else 0 := by
  by_cases h : q k = true
  · rw [if_pos h]
    exact cnB_one h (by simp) hk fun i _ hi => by simp [hi]
  · rw [if_neg h]
    refine cnB_congr fun i _ => ?_
    by_cases e : i = k
    · subst e
      simp [h]
    · simp [e]
theorem cnB_three (q : Nat → Bool) {x y z n : Nat} (hx : x < n) (hy : y < n) (hz : z < n) (h1 : x ≠ y) (h2 : y ≠ z) (h3 : z ≠ x) (h0 : ∀ v, v < n → v ≠ x → v ≠ y → v ≠ z → q v = false) :
    cnB q n = (if q x = true then 1 else 0) + (if q y = true then 1 else 0) + (if q z = true then 1 else 0) := by
  rw [cnB_pull q hx, cnB_pull _ hy, cnB_pull _ hz]
  rw [cnB_none (fun i hi => by
    by_cases e1 : i = x
    · simp [e1]
    · by_cases e2 : i = y
      · simp [e2]
      · by_cases e3 : i = z
        · simp [e3]
        · simp [h0 i hi e1 e2 e3])]
  have a1 : (q y && !decide (y = x)) = q y := by simp [Ne.symm h1]
  have a2 : (q z && !decide (z = x) && !decide (z = y)) = q z := by simp [h3, Ne.symm h2]
  simp only [a1, a2]
  omega
section
variable {F : Nat → Nat → Int} {al : Nat → Nat} {m n : Nat}
/-- The parts of a surface are the classes of its sides. -/
theorem parts_of {E : Nat → Nat → Prop} {p : Nat} (hlt : ∀ a, a < 3 * m → al a < 3 * m) (hal : ∀ a, a < 3 * m → al (al a) = a) (hE : Eqv E (3 * m)) (hf : ∀ a b, a < 3 * m → b < 3 * m → a / 3 = b / 3 → E a b) (hg : ∀ a, a < 3 * m → E a (al a))
    (hm : ∀ S : Nat → Nat → Prop, Eqv S (3 * m) → (∀ a b, a < 3 * m → b < 3 * m → a / 3 = b / 3 → S a b) → (∀ a, a < 3 * m → S a (al a)) → ∀ a b, a < 3 * m → b < 3 * m → E a b → S a b)
    (hp : NCls E (3 * m) p) : GrN (fun _ => True) (adjF al m) m p := by
  have hs : ∀ x y, adjF al m x y → adjF al m y x := fun x y ⟨a, h1, h2, h3⟩ => ⟨al a, hlt a h1, h3, by rw [hal a h1]; exact h2⟩
  have hiff : ∀ a b, a < 3 * m → b < 3 * m → (E a b ↔ Go1 (adjF al m) (a / 3) (b / 3)) := by
    intro a b ha hb
    constructor
    · intro h
      refine hm (fun a b => Go1 (adjF al m) (a / 3) (b / 3)) ⟨fun a _ => Go1.refl _ _, fun a b _ _ h => h.symm hs, fun a b c _ _ _ h k => h.trans k⟩ (fun a b _ _ e => ?_) (fun a ha => ?_) a b ha hb h
      · show Go1 (adjF al m) (a / 3) (b / 3)
        rw [e]
        exact Go1.refl _ _
      · exact (Go1.refl _ _).step ⟨a, ha, rfl, rfl⟩
    · intro h
      have := h (fun x => x < m ∧ E a (3 * x)) ⟨by omega, hf _ _ ha (by omega) (by omega)⟩ fun x y ⟨hx, ex⟩ ⟨c, c1, c2, c3⟩ => by
        have hc := hlt c c1
        refine ⟨by omega, ?_⟩
        refine hE.trans _ _ _ ha (by omega) (by omega) ex (hE.trans _ _ _ (by omega) c1 (by omega) (hf _ _ (by omega) c1 (by omega)) (hE.trans _ _ _ c1 hc (by omega) (hg c c1) (hf _ _ hc (by omega) (by omega))))
      exact hE.trans _ _ _ ha (by omega) hb this.2 (hf _ _ (by omega) hb (by omega))
  obtain ⟨r, h1, h2⟩ := hp
  have k1 : ∀ a, a < 3 * m → (r a = true ↔ ∀ b, b < a → ¬ Go1 (adjF al m) (b / 3) (a / 3)) := fun a ha => by
    rw [h1 a ha]
    constructor
    · exact fun k b hb e => k b hb ((hiff b a (by omega) ha).2 e)
    · exact fun k b hb e => k b hb ((hiff b a (by omega) ha).1 e)
  refine ⟨fun i => r (3 * i), fun i hi => ?_, cls_div (fun a => Go1.refl _ a) k1 h2⟩
  show r (3 * i) = true ↔ _
  rw [k1 _ (by omega), show 3 * i / 3 = i by omega]
  constructor
  · intro k
    refine ⟨trivial, fun j hj _ e => k (3 * j) (by omega) ?_⟩
    rw [show 3 * j / 3 = j by omega]
    exact e
  · exact fun k b hb e => k.2 (b / 3) (by omega) trivial e
/-- The fans of all points are the cycles of sides. -/
theorem fans_of (hin : ∀ i, i < m → ∀ k, k < 3 → 0 ≤ F i k ∧ F i k < n) (hds : ∀ i, i < m → F i 0 ≠ F i 1 ∧ F i 1 ≠ F i 2 ∧ F i 2 ≠ F i 0)
    (hal : ∀ a, a < 3 * m → al a < 3 * m ∧ tl F (al a) = tl F (nxt a) ∧ tl F (nxt (al a)) = tl F a) (hai : ∀ a, a < 3 * m → al (al a) = a) (hp : Prm (fun a => nxt (al a)) (3 * m)) {D : Nat} (hD : NCls (Rch fun a => nxt (al a)) (3 * m) D)
    {fan : Nat → Nat} (hfan : ∀ v, v < n → GrN (selV F v) (adjV F al m v) m (fan v)) : sumN fan n = D := by
  obtain ⟨r, r1, r2⟩ := hD
  have hone : ∀ i, i < m → ∀ k k', k < 3 → k' < 3 → F i k = F i k' → k = k' := fun i hi k k' hk hk' e => by
    obtain ⟨d0, d1, d2⟩ := hds i hi
    rcases (show k = 0 ∨ k = 1 ∨ k = 2 by omega) with rfl | rfl | rfl <;> rcases (show k' = 0 ∨ k' = 1 ∨ k' = 2 by omega) with rfl | rfl | rfl
    · rfl
    · exact absurd e d0
    · exact absurd e.symm d2
    · exact absurd e.symm d0
    · rfl
    · exact absurd e d1
    · exact absurd e d2
    · exact absurd e.symm d1
    · rfl
  have hst : ∀ a, a < 3 * m → tl F (nxt (al a)) = tl F a := fun a ha => (hal a ha).2.2
  have htl : ∀ k a, a < 3 * m → tl F (itr (fun a => nxt (al a)) k a) = tl F a := by
    intro k
    induction k with
    | zero => exact fun a _ => rfl
    | succ k ih => exact fun a ha => (hst _ (hp.itr_lt ha k)).trans (ih a ha)
  have heq : ∀ (v : Int) i k, i < m → k < 3 → F i k = v → ∀ j l, j < m → l < 3 → F j l = v → (Go1 (adjV F al m v) j i ↔ Rch (fun a => nxt (al a)) (3 * j + l) (3 * i + k)) := by
    intro v i k hi hk ei j l hj hl ej
    have hbj : 3 * j + l < 3 * m := by omega
    constructor
    · intro h
      obtain ⟨k', q1, q2, q3, q4⟩ := h (fun x => ∃ k, k < 3 ∧ x < m ∧ F x k = v ∧ Rch (fun a => nxt (al a)) (3 * j + l) (3 * x + k)) ⟨l, hl, hj, ej, ⟨0, rfl⟩⟩ fun x y ⟨k, x1, x2, x3, x4⟩ ⟨a, a1, a2, a3, a4⟩ => by
        obtain ⟨b1, b2, b3⟩ := hal a a1
        have ea : a = 3 * x + a % 3 := by omega
        rcases a4 with a4 | a4
        · have e1 : a % 3 = k := hone x x2 _ _ (by omega) x1 (by rw [x3, ← a4]; unfold tl; rw [a2])
          have e2 : a = 3 * x + k := by omega
          have l2 := hp.lt a a1
          have e3 : nxt (al a) / 3 = y := by rw [nxt_div]; exact a3
          have l2 : nxt (al a) < 3 * m := l2
          have e4 : nxt (al a) = 3 * y + nxt (al a) % 3 := by omega
          refine ⟨nxt (al a) % 3, by omega, by omega, ?_, ?_⟩
          · have : tl F (nxt (al a)) = F y (nxt (al a) % 3) := by unfold tl; rw [e3]
            rw [← this, b3, a4]
          · rw [← e4]
            rw [← e2] at x4
            exact hp.eqv.trans _ _ _ hbj a1 l2 x4 ⟨1, rfl⟩
        · have n1 := (nxt_prm m).lt a a1
          have n2 : nxt a / 3 = x := by rw [nxt_div]; exact a2
          have e1 : nxt a % 3 = k := hone x x2 _ _ (by omega) x1 (by rw [x3, ← a4]; unfold tl; rw [n2])
          have e2 : nxt a = 3 * x + k := by omega
          have e4 : al a = 3 * y + al a % 3 := by omega
          refine ⟨al a % 3, by omega, by omega, ?_, ?_⟩
          · have : tl F (al a) = F y (al a % 3) := by unfold tl; rw [a3]
            rw [← this, b2, a4]
          · rw [← e4]
            rw [← e2] at x4
            have s1 : Rch (fun a => nxt (al a)) (al a) (nxt a) := ⟨1, by show nxt (al (al a)) = nxt a; rw [hai a a1]⟩
            exact hp.eqv.trans _ _ _ hbj n1 b1 x4 (hp.eqv.symm _ _ b1 n1 s1)
      have : k' = k := hone i hi _ _ q1 hk (by rw [q3, ei])
      rw [← this]
      exact q4
    · rintro ⟨t, ht⟩
      have key : ∀ t, Go1 (adjV F al m v) j (itr (fun a => nxt (al a)) t (3 * j + l) / 3) := by
        intro t
        induction t with
        | zero =>
          show Go1 (adjV F al m v) j ((3 * j + l) / 3)
          rw [show (3 * j + l) / 3 = j by omega]
          exact Go1.refl _ _
        | succ t ih =>
          refine ih.step ⟨_, hp.itr_lt hbj t, rfl, ?_, .inl ?_⟩
          · show _ = nxt (al (itr (fun a => nxt (al a)) t (3 * j + l))) / 3
            rw [nxt_div]
          · rw [htl t _ hbj, tl_at _ _ _ hl, ej]
      have := key t
      rw [ht, show (3 * i + k) / 3 = i by omega] at this
      exact this
  have hsel : ∀ v, v < n → ∃ p : Nat → Bool, (∀ i, i < m → (p i = true ↔ ∃ k, k < 3 ∧ F i k = v ∧ r (3 * i + k) = true)) ∧ cnB p m = fan v := fun v hv => by
    obtain ⟨p, p1, p2⟩ := hfan v hv
    refine ⟨p, fun i hi => ?_, p2⟩
    rw [p1 i hi]
    constructor
    · rintro ⟨⟨k, hk, ek⟩, h⟩
      refine ⟨k, hk, ek, ?_⟩
      rw [r1 _ (by omega)]
      intro b hb hr
      have hb2 : b < 3 * m := by omega
      obtain ⟨t, ht⟩ := hr
      have et := htl t b hb2
      rw [ht, tl_at _ _ _ hk, ek] at et
      have e3 : F (b / 3) (b % 3) = v := et.symm
      by_cases q : b / 3 = i
      · rw [q] at e3
        have := hone i hi _ _ (by omega) hk (e3.trans ek.symm)
        omega
      · refine h (b / 3) (by omega) ⟨b % 3, by omega, e3⟩ ?_
        rw [heq v i k hi hk ek (b / 3) (b % 3) (by omega) (by omega) e3, show 3 * (b / 3) + b % 3 = b by omega]
        exact ⟨t, ht⟩
    · rintro ⟨k, hk, ek, hr⟩
      rw [r1 _ (by omega)] at hr
      refine ⟨⟨k, hk, ek⟩, fun j hj ⟨l, hl, el⟩ hg => hr (3 * j + l) (by omega) ?_⟩
      exact (heq v i k hi hk ek j l (by omega) hl el).1 hg
  have hch : ∃ p : Nat → Nat → Bool, ∀ v, v < n → (∀ i, i < m → (p v i = true ↔ ∃ k, k < 3 ∧ F i k = v ∧ r (3 * i + k) = true)) ∧ cnB (p v) m = fan v :=
    ⟨fun v => if h : v < n then (hsel v h).choose else fun _ => false, fun v hv => by simp only [dif_pos hv]; exact (hsel v hv).choose_spec⟩
  obtain ⟨p, hpp⟩ := hch
  rw [← r2, ← sumN_congr fun v hv => (hpp v hv).2]
  have key : ∀ t, t ≤ m → sumN (fun v => cnB (p v) t) n = cnB r (3 * t) := by
    intro t
    induction t with
    | zero => exact fun _ => sumN_zero n
    | succ t ih =>
      intro ht
      have e1 : sumN (fun v => cnB (p v) (t + 1)) n = sumN (fun v => cnB (p v) t) n + sumN (fun v => if p v t = true then 1 else 0) n := sumN_add _ _ n
      have u : cnB r (3 * t + 1 + 1 + 1) = cnB r (3 * t) + (if r (3 * t) = true then 1 else 0) + (if r (3 * t + 1) = true then 1 else 0) + (if r (3 * t + 1 + 1) = true then 1 else 0) := rfl
      rw [e1, ih (by omega), sumN_if (fun v => p v t), show 3 * (t + 1) = 3 * t + 1 + 1 + 1 by omega, u]
      obtain ⟨d0, d1, d2⟩ := hds t (by omega)
      have i0 := hin t (by omega) 0 (by omega)
      have i1 := hin t (by omega) 1 (by omega)
      have i2 := hin t (by omega) 2 (by omega)
      have hq : ∀ k, k < 3 → (p (F t k).toNat t = true ↔ r (3 * t + k) = true) := fun k hk => by
        have ik := hin t (by omega) k hk
        rw [(hpp (F t k).toNat (by omega)).1 t (by omega)]
        constructor
        · rintro ⟨k', h1, h2, h3⟩
          have : k' = k := hone t (by omega) _ _ h1 hk (by rw [h2]; omega)
          rw [← this]
          exact h3
        · exact fun h => ⟨k, hk, by omega, h⟩
      rw [cnB_three (fun v => p v t) (x := (F t 0).toNat) (y := (F t 1).toNat) (z := (F t 2).toNat) (by omega) (by omega) (by omega) (by omega) (by omega) (by omega) (fun v hv n0 n1 n2 => by
        rw [← Bool.not_eq_true, (hpp v hv).1 t (by omega)]
        rintro ⟨k, h1, h2, -⟩
        rcases (show k = 0 ∨ k = 1 ∨ k = 2 by omega) with rfl | rfl | rfl <;> omega)]
      have q0 := hq 0 (by omega)
      have q1 := hq 1 (by omega)
      have q2 := hq 2 (by omega)
      simp only [Nat.add_zero] at q0
      have z0 : (if p (F t 0).toNat t = true then 1 else 0 : Nat) = if r (3 * t) = true then 1 else 0 := by simp only [q0]
      have z1 : (if p (F t 1).toNat t = true then 1 else 0 : Nat) = if r (3 * t + 1) = true then 1 else 0 := by simp only [q1]
      have z2 : (if p (F t 2).toNat t = true then 1 else 0 : Nat) = if r (3 * t + 1 + 1) = true then 1 else 0 := by
        show _ = if r (3 * t + 2) = true then 1 else 0
        simp only [q2]
      show cnB r (3 * t) + ((if p (F t 0).toNat t = true then 1 else 0) + (if p (F t 1).toNat t = true then 1 else 0) + (if p (F t 2).toNat t = true then 1 else 0)) = _
      rw [z0, z1, z2]
      omega
  exact key m (Nat.le_refl _)
end
end Go.Proofs.Ytoadlneneijfaaa
