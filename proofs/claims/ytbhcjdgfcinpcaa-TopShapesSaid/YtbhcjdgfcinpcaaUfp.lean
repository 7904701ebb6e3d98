/- Two closed surfaces together: volumes, parts and handles add up. Plain facts. Conditions: those of each theorem. A closed surface whose triangles are cut in four: points, faces, and how its sides are numbered. Plain facts. Conditions: those of each theorem. -/
import Derived.Test.YtbhcjdgfcinpcaaGst
namespace Go.Proofs.Ytbhcjdgfcinpcaa
set_option linter.unusedVariables false
set_option linter.unusedSimpArgs false
/-- Points and faces of two meshes together. -/
def uniP (n : Nat) (P Q : Nat → Nat → Int) : Nat → Nat → Int := fun i j => if i < n then P i j else Q (i - n) j
def uniF (n m : Nat) (F G : Nat → Nat → Int) : Nat → Nat → Int := fun i j => if i < m then F i j else G (i - m) j + n
theorem cnB_add (p : Nat → Bool) (m : Nat) : ∀ k : Nat, cnB p (m + k) = cnB p m + cnB (fun i => p (m + i)) k
  | 0 => rfl
  | k + 1 => by
    show cnB p (m + k) + (if p (m + k) = true then 1 else 0) = cnB p m + (cnB (fun i => p (m + i)) k + (if p (m + k) = true then 1 else 0))
    rw [cnB_add p m k]
    omega
theorem GrN.two {sel sel1 sel2 : Nat → Prop} {adj adj1 adj2 : Nat → Nat → Prop} {m m2 c1 c2 : Nat} (h1 : GrN sel1 adj1 m c1) (h2 : GrN sel2 adj2 m2 c2)
    (s1 : ∀ i, i < m → (sel i ↔ sel1 i)) (s2 : ∀ i, i < m2 → (sel (m + i) ↔ sel2 i)) (a1 : ∀ i j, i < m → (adj i j ↔ j < m ∧ adj1 i j)) (a1' : ∀ i j, i < m → adj1 i j → j < m) (a2 : ∀ i j, i < m2 → (adj (m + i) j ↔ m ≤ j ∧ adj2 i (j - m))) (a2' : ∀ i j, i < m2 → adj2 i j → j < m2) : GrN sel adj (m + m2) (c1 + c2) := by
  have g1 : ∀ i j, i < m → (Go1 adj i j ↔ Go1 adj1 i j) := fun i j hi => by
    constructor
    · intro g
      exact (g (fun x => x < m ∧ Go1 adj1 i x) ⟨hi, Go1.refl _ _⟩ fun x y ⟨hx, gx⟩ hxy => ⟨((a1 x y hx).1 hxy).1, gx.step ((a1 x y hx).1 hxy).2⟩).2
    · intro g
      exact (g (fun x => x < m ∧ Go1 adj i x) ⟨hi, Go1.refl _ _⟩ fun x y ⟨hx, gx⟩ hxy => ⟨a1' x y hx hxy, gx.step ((a1 x y hx).2 ⟨a1' x y hx hxy, hxy⟩)⟩).2
  have g1m : ∀ i j, i < m → Go1 adj i j → j < m := fun i j hi g => g (fun x => x < m) hi fun x y hx hxy => ((a1 x y hx).1 hxy).1
  have g2 : ∀ i j, i < m2 → (Go1 adj (m + i) (m + j) ↔ Go1 adj2 i j) := fun i j hi => by
    constructor
    · intro g
      have := g (fun x => m ≤ x ∧ x - m < m2 ∧ Go1 adj2 i (x - m)) ⟨by omega, by omega, by rw [Nat.add_sub_cancel_left]; exact Go1.refl _ _⟩ fun x y ⟨hx, hx2, gx⟩ hxy => by
        have h := (a2 (x - m) y hx2).1 (by rw [show m + (x - m) = x by omega]; exact hxy)
        exact ⟨h.1, a2' _ _ hx2 h.2, gx.step h.2⟩
      rw [Nat.add_sub_cancel_left] at this
      exact this.2.2
    · intro g
      exact (g (fun x => x < m2 ∧ Go1 adj (m + i) (m + x)) ⟨hi, Go1.refl _ _⟩ fun x y ⟨hx, gx⟩ hxy => ⟨a2' _ _ hx hxy, gx.step ((a2 x (m + y) hx).2 ⟨by omega, by rw [Nat.add_sub_cancel_left]; exact hxy⟩)⟩).2
  obtain ⟨p, p1, p2⟩ := h1
  obtain ⟨q, q1, q2⟩ := h2
  refine ⟨fun i => if i < m then p i else q (i - m), fun i hi => ?_, ?_⟩
  · by_cases e : i < m
    · simp only [e, if_true]
      rw [p1 i e, s1 i e]
      constructor
      · exact fun ⟨k1, k2⟩ => ⟨k1, fun j hj hs g => k2 j hj ((s1 j (by omega)).1 hs) ((g1 j i (by omega)).1 g)⟩
      · exact fun ⟨k1, k2⟩ => ⟨k1, fun j hj hs g => k2 j hj ((s1 j (by omega)).2 hs) ((g1 j i (by omega)).2 g)⟩
    · simp only [e, if_false]
      obtain ⟨k, rfl⟩ : ∃ k, i = m + k := ⟨i - m, by omega⟩
      rw [Nat.add_sub_cancel_left, q1 k (by omega), s2 k (by omega)]
      constructor
      · refine fun ⟨k1, k2⟩ => ⟨k1, fun j hj hs g => ?_⟩
        by_cases ej : j < m
        · have := g1m j _ ej g
          omega
        · obtain ⟨l, rfl⟩ : ∃ l, j = m + l := ⟨j - m, by omega⟩
          exact k2 l (by omega) ((s2 l (by omega)).1 hs) ((g2 l k (by omega)).1 g)
      · exact fun ⟨k1, k2⟩ => ⟨k1, fun j hj hs g => k2 (m + j) (by omega) ((s2 j (by omega)).2 hs) ((g2 j k (by omega)).2 g)⟩
  · rw [cnB_add, ← p2, ← q2]
    congr 1
    · exact cnB_congr fun i hi => if_pos hi
    · refine cnB_congr fun i _ => ?_
      simp only [show ¬ m + i < m by omega, if_false, Nat.add_sub_cancel_left]
theorem GrN.none' (adj : Nat → Nat → Prop) (m : Nat) : GrN (fun _ => False) adj m 0 := ⟨fun _ => false, fun i _ => by simp, cnB_none fun _ _ => rfl⟩
theorem GrN.some' (sel : Nat → Prop) (adj : Nat → Nat → Prop) (m : Nat) : ∃ c, GrN sel adj m c := by
  obtain ⟨p, hp⟩ := GrN.ex sel adj
  exact ⟨_, p, fun i _ => hp i, rfl⟩
theorem sumN_split (f : Nat → Nat) (n : Nat) : ∀ k, sumN f (n + k) = sumN f n + sumN (fun i => f (n + i)) k
  | 0 => rfl
  | k + 1 => by
    show sumN f (n + k) + f (n + k) = sumN f n + (sumN (fun i => f (n + i)) k + f (n + k))
    rw [sumN_split f n k]
    omega
section
variable {n m n2 m2 : Nat} {P F Q G : Nat → Nat → Int}
theorem uni_tl {a : Nat} : (a < 3 * m → tl (uniF n m F G) a = tl F a) ∧ tl (uniF n m F G) (3 * m + a) = tl G a + n := by
  constructor
  · intro h
    unfold tl uniF
    rw [if_pos (by omega)]
  · unfold tl uniF
    rw [if_neg (by omega), show (3 * m + a) / 3 - m = a / 3 by omega, show (3 * m + a) % 3 = a % 3 by omega]
theorem nxt_up (m a : Nat) : nxt (3 * m + a) = 3 * m + nxt a := by unfold nxt; omega
theorem uni_al {al al1 al2 : Nat → Nat} (ho : Oth (uniF n m F G) al (m + m2)) (h1 : Oth F al1 m) (h2 : Oth G al2 m2) : (∀ a, a < 3 * m → al a = al1 a) ∧ ∀ a, a < 3 * m2 → al (3 * m + a) = 3 * m + al2 a := by
  constructor
  · intro a ha
    obtain ⟨b1, b2, b3⟩ := h1.nb a ha
    have n1 := (nxt_prm m).lt a ha
    have n2 := (nxt_prm m).lt _ b1
    exact (ho.un a (al1 a) (by omega) (by omega) (by rw [uni_tl.1 b1, uni_tl.1 n1, b2]) (by rw [uni_tl.1 n2, uni_tl.1 ha, b3])).symm
  · intro a ha
    obtain ⟨b1, b2, b3⟩ := h2.nb a ha
    exact (ho.un (3 * m + a) (3 * m + al2 a) (by omega) (by omega) (by rw [nxt_up, uni_tl.2, uni_tl.2, b2]) (by rw [nxt_up, uni_tl.2, uni_tl.2, b3])).symm
theorem adjV_in {al : Nat → Nat} {v : Int} (h : Oth F al m) {i j : Nat} (hij : adjV F al m v i j) : j < m := by
  obtain ⟨a, a1, -, a3, -⟩ := hij
  have := (h.nb a a1).1
  omega
theorem adjF_in {al : Nat → Nat} (h : Oth F al m) {i j : Nat} (hij : adjF al m i j) : j < m := by
  obtain ⟨a, a1, -, a3⟩ := hij
  have := (h.nb a a1).1
  omega
theorem uni_adj {al al1 al2 : Nat → Nat} (ho : Oth (uniF n m F G) al (m + m2)) (h1 : Oth F al1 m) (h2 : Oth G al2 m2) (cnd cnd1 cnd2 : Nat → Prop) (c1 : ∀ a, a < 3 * m → (cnd a ↔ cnd1 a)) (c2 : ∀ a, a < 3 * m2 → (cnd (3 * m + a) ↔ cnd2 a)) :
    (∀ i j, i < m → ((∃ a, a < 3 * (m + m2) ∧ a / 3 = i ∧ al a / 3 = j ∧ cnd a) ↔ j < m ∧ ∃ a, a < 3 * m ∧ a / 3 = i ∧ al1 a / 3 = j ∧ cnd1 a)) ∧
    ∀ i j, ((∃ a, a < 3 * (m + m2) ∧ a / 3 = m + i ∧ al a / 3 = j ∧ cnd a) ↔ m ≤ j ∧ ∃ a, a < 3 * m2 ∧ a / 3 = i ∧ al2 a / 3 = j - m ∧ cnd2 a) := by
  obtain ⟨k1, k2⟩ := uni_al ho h1 h2
  refine ⟨fun i j hi => ?_, fun i j => ?_⟩
  · constructor
    · rintro ⟨a, a1, a2, a3, a4⟩
      have ha : a < 3 * m := by omega
      have hb := (h1.nb a ha).1
      rw [k1 a ha] at a3
      exact ⟨by omega, a, ha, a2, a3, (c1 a ha).1 a4⟩
    · rintro ⟨-, a, a1, a2, a3, a4⟩
      exact ⟨a, by omega, a2, by rw [k1 a a1]; exact a3, (c1 a a1).2 a4⟩
  · constructor
    · rintro ⟨a, a1, a2, a3, a4⟩
      obtain ⟨b, rfl⟩ : ∃ b, a = 3 * m + b := ⟨a - 3 * m, by omega⟩
      rw [k2 b (by omega)] at a3
      exact ⟨by omega, b, by omega, by omega, by omega, (c2 b (by omega)).1 a4⟩
    · rintro ⟨hj, a, a1, a2, a3, a4⟩
      exact ⟨3 * m + a, by omega, by omega, by rw [k2 a a1]; omega, (c2 a a1).2 a4⟩
theorem fan_all (n m : Nat) (F : Nat → Nat → Int) (al : Nat → Nat) : ∃ fan : Nat → Nat, ∀ v : Nat, GrN (selV F v) (adjV F al m v) m (fan v) :=
  ⟨fun v => (GrN.some' (selV F v) (adjV F al m v) m).choose, fun v => (GrN.some' (selV F v) (adjV F al m v) m).choose_spec⟩
theorem uni_fan {al al1 al2 : Nat → Nat} (ho : Oth (uniF n m F G) al (m + m2)) (h1 : Oth F al1 m) (h2 : Oth G al2 m2) (v : Int) {s1 s2 : Nat → Prop} {c1 c2 : Nat} (k1 : GrN s1 (adjV F al1 m v) m c1) (k2 : GrN s2 (adjV G al2 m2 (v - n)) m2 c2)
    (q1 : ∀ i, i < m → (selV F v i ↔ s1 i)) (q2 : ∀ i, i < m2 → (selV G (v - n) i ↔ s2 i)) : GrN (selV (uniF n m F G) v) (adjV (uniF n m F G) al (m + m2) v) (m + m2) (c1 + c2) := by
  have u := uni_adj ho h1 h2 (fun a => tl (uniF n m F G) a = v ∨ tl (uniF n m F G) (nxt a) = v) (fun a => tl F a = v ∨ tl F (nxt a) = v) (fun a => tl G a = v - n ∨ tl G (nxt a) = v - n) (fun a ha => by
    have := (nxt_prm m).lt a ha
    rw [uni_tl.1 ha, uni_tl.1 this]) (fun a ha => by
    rw [nxt_up, uni_tl.2, uni_tl.2]
    omega)
  refine GrN.two k1 k2 (fun i hi => ?_) (fun i hi => ?_) (fun i j hi => u.1 i j hi) (fun i j _ h => adjV_in h1 h) (fun i j _ => u.2 i j) (fun i j _ h => adjV_in h2 h)
  · rw [← q1 i hi]
    unfold selV uniF
    simp only [hi, if_true]
  · rw [← q2 i hi]
    unfold selV uniF
    simp only [show ¬ m + i < m by omega, if_false, Nat.add_sub_cancel_left]
    constructor
    · rintro ⟨k, hk, e⟩
      exact ⟨k, hk, by omega⟩
    · rintro ⟨k, hk, e⟩
      exact ⟨k, hk, by omega⟩
/-- Parts and handles add up. -/
theorem uni_top {p d p1 d1 p2 d2 : Nat} (v1 : validE n P m F = 0) (v2 : validE n2 Q m2 G = 0) (v3 : validE (n + n2) (uniP n P Q) (m + m2) (uniF n m F G) = 0)
    (t1 : Top n P m F p1 d1) (t2 : Top n2 Q m2 G p2 d2) (t3 : Top (n + n2) (uniP n P Q) (m + m2) (uniF n m F G) p d) : p = p1 + p2 ∧ d = d1 + d2 := by
  obtain ⟨al1, c1, o1, g1, f1, e1, -⟩ := t1 v1
  obtain ⟨al2, c2, o2, g2, f2, e2, -⟩ := t2 v2
  obtain ⟨al, c, o, g, f, e, -⟩ := t3 v3
  have i1 := (clo_of v1).inn
  have i2 := (clo_of v2).inn
  have hp : p = p1 + p2 := by
    refine g.uniq (GrN.two g1 g2 (fun i _ => Iff.rfl) (fun i _ => Iff.rfl) ?_ ?_ ?_ ?_)
    · intro i j hi
      have := (uni_adj o o1 o2 (fun _ => True) (fun _ => True) (fun _ => True) (fun _ _ => Iff.rfl) (fun _ _ => Iff.rfl)).1 i j hi
      simpa [adjF] using this
    · exact fun i j _ h => adjF_in o1 h
    · intro i j _
      have := (uni_adj o o1 o2 (fun _ => True) (fun _ => True) (fun _ => True) (fun _ _ => Iff.rfl) (fun _ _ => Iff.rfl)).2 i j
      simpa [adjF] using this
    · exact fun i j _ h => adjF_in o2 h
  obtain ⟨fan1, k1⟩ := fan_all n m F al1
  obtain ⟨fan2, k2⟩ := fan_all n2 m2 G al2
  have s1 := f1 fan1 fun v _ => k1 v
  have s2 := f2 fan2 fun v _ => k2 v
  have s3 := f (fun v => if v < n then fan1 v else fan2 (v - n)) fun v hv => by
    by_cases hvn : v < n
    · simp only [hvn, if_true]
      refine uni_fan o o1 o2 v (k1 v) (GrN.none' _ m2) (fun i _ => Iff.rfl) (fun i hi => ?_)
      rw [iff_false]
      rintro ⟨k, hk, ek⟩
      have := i2 i hi k hk
      omega
    · simp only [hvn, if_false]
      have e0 : ((v : Int) - n) = ((v - n : Nat) : Int) := by omega
      have := uni_fan o o1 o2 v (GrN.none' _ m) (s2 := selV G (v - n : Nat)) (c2 := fan2 (v - n)) (by rw [e0]; exact k2 _) (fun i hi => by
        rw [iff_false]
        rintro ⟨k, hk, ek⟩
        have := i1 i hi k hk
        omega) (fun i _ => by rw [e0])
      rw [Nat.zero_add] at this
      exact this
  rw [sumN_split, sumN_congr (f := fun v => if v < n then fan1 v else fan2 (v - n)) (g := fan1) (fun v hv => if_pos hv), s1, sumN_congr (g := fan2) (fun v _ => by
    show (if n + v < n then fan1 (n + v) else fan2 (n + v - n)) = fan2 v
    rw [if_neg (by omega), Nat.add_sub_cancel_left]), s2] at s3
  exact ⟨hp, by omega⟩
theorem uni_vol (h1 : ∀ i, i < m → cornB n F i = true) (h2 : ∀ i, i < m2 → cornB n2 G i = true) : vol (uniP n P Q) (uniF n m F G) (m + m2) = vol P F m + vol Q G m2 := by
  have a : ∀ i, i < m → prF (uniP n P Q) (uniF n m F G) i = prF P F i := fun i hi => by
    obtain ⟨c0, c1, c2⟩ := cornB_true (h1 i hi)
    have e : ∀ k c, 0 ≤ F i k ∧ F i k < n → co (uniP n P Q) (uniF n m F G) i k c = co P F i k c := fun k c hk => by
      unfold co uniF uniP
      rw [if_pos hi, if_pos (by omega)]
    unfold prF
    simp only [e 0 _ c0, e 1 _ c1, e 2 _ c2]
  have b : ∀ i, i < m2 → prF (uniP n P Q) (uniF n m F G) (m + i) = prF Q G i := fun i hi => by
    obtain ⟨c0, c1, c2⟩ := cornB_true (h2 i hi)
    have e : ∀ k c, 0 ≤ G i k ∧ G i k < n2 → co (uniP n P Q) (uniF n m F G) (m + i) k c = co Q G i k c := fun k c hk => by
      have e1 : uniF n m F G (m + i) k = G i k + n := by
        unfold uniF
        rw [if_neg (by omega), Nat.add_sub_cancel_left]
      have e2 : (G i k + n).toNat = (G i k).toNat + n := by omega
      unfold co
      rw [e1, e2]
      unfold uniP
      rw [if_neg (by omega), Nat.add_sub_cancel]
    unfold prF
    simp only [e 0 _ c0, e 1 _ c1, e 2 _ c2]
  have v1 : ∀ k, k ≤ m → vol (uniP n P Q) (uniF n m F G) k = vol P F k := by
    intro k
    induction k with
    | zero => exact fun _ => rfl
    | succ k ih =>
      intro hk
      show vol _ _ k + prF _ _ k = vol P F k + prF P F k
      rw [ih (by omega), a k (by omega)]
  have v2 : ∀ k, k ≤ m2 → vol (uniP n P Q) (uniF n m F G) (m + k) = vol P F m + vol Q G k := by
    intro k
    induction k with
    | zero =>
      intro _
      rw [Nat.add_zero, v1 m (Nat.le_refl _)]
      show _ = vol P F m + 0
      omega
    | succ k ih =>
      intro hk
      show vol _ _ (m + k) + prF _ _ (m + k) = vol P F m + (vol Q G k + prF Q G k)
      rw [ih (by omega), b k (by omega)]
      omega
  exact v2 m2 (Nat.le_refl _)
end
end Go.Proofs.Ytbhcjdgfcinpcaa
namespace Go.Proofs.Ytbhcjdgfcinpcaa
set_option linter.unusedVariables false
set_option linter.unusedSimpArgs false
/-- Side b comes ahead of its other. -/
def newB (al : Nat → Nat) (b : Nat) : Bool := decide (b < al b)
/-- How many points there are ahead of side a. -/
def npt (n : Nat) (al : Nat → Nat) (a : Nat) : Nat := n + cnB (newB al) a
/-- The number of the middle of side a. -/
def midN (n : Nat) (al : Nat → Nat) (a : Nat) : Nat := npt n al (min a (al a))
def finP (n m : Nat) (P F : Nat → Nat → Int) (al : Nat → Nat) : Nat → Nat → Int := fun i j =>
  if i < n then 2 * P i j else P (tl F (fsel (newB al) (3 * m) (i - n))).toNat j + P (tl F (nxt (fsel (newB al) (3 * m) (i - n)))).toNat j
/-- The corners of the four parts of a face. -/
def fin4 (f0 f1 f2 p q r : Int) (c j : Nat) : Int :=
  if c = 0 then (if j = 0 then f0 else if j = 1 then p else r) else if c = 1 then (if j = 0 then p else if j = 1 then f1 else q) else if c = 2 then (if j = 0 then r else if j = 1 then q else f2) else (if j = 0 then p else if j = 1 then q else r)
def finF (n : Nat) (F : Nat → Nat → Int) (al : Nat → Nat) : Nat → Nat → Int := fun x j =>
  fin4 (F (x / 4) 0) (F (x / 4) 1) (F (x / 4) 2) (midN n al (3 * (x / 4))) (midN n al (3 * (x / 4) + 1)) (midN n al (3 * (x / 4) + 2)) (x % 4) j
theorem cnB_inj {f : Nat → Nat} {M : Nat} {q : Nat → Bool} : ∀ {N : Nat} {p : Nat → Bool}, (∀ a, a < N → q a = true → f a < M ∧ p (f a) = true) → (∀ a b, a < N → b < N → q a = true → q b = true → f a = f b → a = b) → cnB q N ≤ cnB p M
  | 0, _, _, _ => Nat.zero_le _
  | N + 1, p, h1, h2 => by
    show cnB q N + (if q N = true then 1 else 0) ≤ _
    by_cases hq : q N = true
    · obtain ⟨k1, k2⟩ := h1 N (by omega) hq
      rw [if_pos hq, cnB_one (q := fun i => p i && !decide (i = f N)) k2 (by simp) k1 (fun i _ hi => by simp [hi])]
      have := cnB_inj (N := N) (p := fun i => p i && !decide (i = f N)) (fun a ha hqa => by
        obtain ⟨j1, j2⟩ := h1 a (by omega) hqa
        refine ⟨j1, ?_⟩
        have : f a ≠ f N := fun e => by
          have := h2 a N (by omega) (by omega) hqa hq e
          omega
        simp [j2, this]) (fun a b ha hb => h2 a b (by omega) (by omega))
      omega
    · rw [if_neg hq]
      exact cnB_inj (fun a ha => h1 a (by omega)) (fun a b ha hb => h2 a b (by omega) (by omega))
theorem cnB_not (p : Nat → Bool) : ∀ N, cnB p N + cnB (fun a => !p a) N = N
  | 0 => rfl
  | N + 1 => by
    have := cnB_not p N
    show cnB p N + (if p N = true then 1 else 0) + (cnB (fun a => !p a) N + (if (!p N) = true then 1 else 0)) = N + 1
    cases p N <;> simp <;> omega
theorem cnB_perm {s : Nat → Nat} {N : Nat} (h : Prm s N) (p : Nat → Bool) : cnB p N = cnB (fun a => p (s a)) N := by
  have a1 : cnB (fun a => p (s a)) N ≤ cnB p N := cnB_inj (f := s) (fun a ha hq => ⟨h.lt a ha, hq⟩) fun a b ha hb _ _ e => h.inj a b ha hb e
  have a2 : cnB (fun a => !p (s a)) N ≤ cnB (fun a => !p a) N := cnB_inj (f := s) (fun a ha hq => ⟨h.lt a ha, hq⟩) fun a b ha hb _ _ e => h.inj a b ha hb e
  have b1 := cnB_not p N
  have b2 := cnB_not (fun a => p (s a)) N
  omega
section
variable {F : Nat → Nat → Int} {al : Nat → Nat} {n m : Nat}
theorem npt_next (a : Nat) : npt n al (a + 1) = npt n al a + if a < al a then 1 else 0 := by
  unfold npt
  show n + (cnB (newB al) a + if newB al a = true then 1 else 0) = _
  unfold newB
  by_cases h : a < al a <;> simp [h] <;> omega
theorem mid_new {a : Nat} (h : a < al a) : midN n al a = npt n al a := by
  unfold midN
  rw [Nat.min_eq_left (by omega)]
theorem mid_old (ho : Oth F al m) {a : Nat} (ha : a < 3 * m) : midN n al (al a) = midN n al a := by
  unfold midN
  rw [ho.inv a ha, Nat.min_comm]
theorem mid_bd (ho : Oth F al m) {a r : Nat} (ha : a < 3 * m) (hr : a < r) : n ≤ midN n al a ∧ midN n al a < npt n al r := by
  obtain ⟨b1, -, -⟩ := ho.nb a ha
  have hne := ho.ne a ha
  unfold midN npt
  refine ⟨by omega, ?_⟩
  have hk : newB al (min a (al a)) = true := by
    unfold newB
    rw [decide_eq_true_eq]
    by_cases h : a < al a
    · rw [Nat.min_eq_left (by omega)]; exact h
    · rw [Nat.min_eq_right (by omega), ho.inv a ha]; omega
  have := cnB_lt (s := newB al) (i := min a (al a)) (r := r) (by omega) hk
  omega
/-- Sides with one middle are one side, or the other one. -/
theorem mid_inj (ho : Oth F al m) {a b : Nat} (ha : a < 3 * m) (hb : b < 3 * m) (h : midN n al a = midN n al b) : b = a ∨ b = al a := by
  have key : ∀ a, a < 3 * m → newB al (min a (al a)) = true := fun a ha => by
    have hne := ho.ne a ha
    unfold newB
    rw [decide_eq_true_eq]
    by_cases h : a < al a
    · rw [Nat.min_eq_left (by omega)]; exact h
    · rw [Nat.min_eq_right (by omega), ho.inv a ha]; omega
  have e : min a (al a) = min b (al b) := by
    unfold midN npt at h
    by_cases h1 : min a (al a) < min b (al b)
    · have := cnB_lt (s := newB al) h1 (key a ha)
      omega
    · by_cases h2 : min b (al b) < min a (al a)
      · have := cnB_lt (s := newB al) h2 (key b hb)
        omega
      · omega
  have hba : al (al b) = b := ho.inv b hb
  have haa : al (al a) = a := ho.inv a ha
  by_cases h1 : a < al a
  · rw [Nat.min_eq_left (by omega)] at e
    by_cases h2 : b < al b
    · rw [Nat.min_eq_left (by omega)] at e
      exact .inl e.symm
    · rw [Nat.min_eq_right (by omega)] at e
      right
      rw [e, hba]
  · rw [Nat.min_eq_right (by omega)] at e
    by_cases h2 : b < al b
    · rw [Nat.min_eq_left (by omega)] at e
      exact .inr e.symm
    · rw [Nat.min_eq_right (by omega)] at e
      left
      rw [← hba, ← e, haa]
/-- Half of the sides come ahead of their others. -/
theorem new_half (ho : Oth F al m) : 2 * cnB (newB al) (3 * m) = 3 * m := by
  have h1 : cnB (newB al) (3 * m) = cnB (fun a => newB al (al a)) (3 * m) := cnB_perm ⟨fun a ha => (ho.nb a ha).1, fun a b ha hb e => by rw [← ho.inv a ha, e, ho.inv b hb]⟩ _
  have h2 : ∀ r, r ≤ 3 * m → cnB (newB al) r + cnB (fun a => newB al (al a)) r = r := by
    intro r
    induction r with
    | zero => exact fun _ => rfl
    | succ r ih =>
      intro hr
      have hne := ho.ne r (by omega)
      have hi := ho.inv r (by omega)
      show cnB (newB al) r + (if newB al r = true then 1 else 0) + (cnB (fun a => newB al (al a)) r + (if newB al (al r) = true then 1 else 0)) = r + 1
      have := ih (by omega)
      unfold newB at *
      rw [hi]
      by_cases h : r < al r
      · simp only [h, decide_true, if_true, show ¬ al r < r by omega, decide_false, Bool.false_eq_true, if_false]
        omega
      · simp only [h, decide_false, Bool.false_eq_true, if_false, show al r < r by omega, decide_true, if_true]
        omega
  have := h2 (3 * m) (Nat.le_refl _)
  omega
end
end Go.Proofs.Ytbhcjdgfcinpcaa
