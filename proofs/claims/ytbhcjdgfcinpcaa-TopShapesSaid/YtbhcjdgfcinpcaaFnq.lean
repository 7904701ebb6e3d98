/- A closed surface whose triangles are cut in four has the same parts and handles, and 8 times the volume. Plain facts. Conditions: those of each theorem. -/
import Derived.Test.YtbhcjdgfcinpcaaUfp
namespace Go.Proofs.Ytbhcjdgfcinpcaa
set_option linter.unusedVariables false
set_option linter.unusedSimpArgs false
/-- The halves of a side. -/
def h1 (a : Nat) : Nat := 12 * (a / 3) + 4 * (a % 3)
def h2 (a : Nat) : Nat := 12 * (a / 3) + (if a % 3 = 0 then 3 else if a % 3 = 1 then 7 else 2)
section
variable {F : Nat → Nat → Int} {al : Nat → Nat} {n m : Nat}
theorem fin_tl (i t : Nat) (ht : t < 12) : tl (finF n F al) (12 * i + t) = fin4 (F i 0) (F i 1) (F i 2) (midN n al (3 * i)) (midN n al (3 * i + 1)) (midN n al (3 * i + 2)) (t / 3) (t % 3) := by
  unfold tl finF
  rw [show (12 * i + t) / 3 = 4 * i + t / 3 by omega, show (4 * i + t / 3) / 4 = i by omega, show (4 * i + t / 3) % 4 = t / 3 by omega, show (12 * i + t) % 3 = t % 3 by omega]
theorem fin_nxt (i t : Nat) : nxt (12 * i + t) = 12 * i + nxt t := by unfold nxt; omega
theorem h_tl (a : Nat) : tl (finF n F al) (h1 a) = tl F a ∧ tl (finF n F al) (nxt (h1 a)) = midN n al a ∧ tl (finF n F al) (h2 a) = midN n al a ∧ tl (finF n F al) (nxt (h2 a)) = tl F (nxt a) := by
  obtain ⟨i, k, hk, rfl⟩ : ∃ i k, k < 3 ∧ a = 3 * i + k := ⟨a / 3, a % 3, Nat.mod_lt _ (by omega), by omega⟩
  have e1 : (3 * i + k) / 3 = i := by omega
  have e2 : (3 * i + k) % 3 = k := by omega
  rw [tl_at F i k hk, nxt_at i k hk, tl_at F i _ (Nat.mod_lt _ (by omega))]
  unfold h1 h2
  rw [e1, e2]
  rcases (show k = 0 ∨ k = 1 ∨ k = 2 by omega) with rfl | rfl | rfl
  · rw [fin_nxt, fin_nxt, fin_tl i _ (by omega), fin_tl i _ (by decide), if_pos rfl, fin_tl i _ (by omega), fin_tl i _ (by decide)]
    exact ⟨rfl, rfl, rfl, rfl⟩
  · rw [fin_nxt, fin_nxt, fin_tl i _ (by omega), fin_tl i _ (by decide), if_neg (by omega), if_pos rfl, fin_tl i _ (by omega), fin_tl i _ (by decide)]
    exact ⟨rfl, rfl, rfl, rfl⟩
  · rw [fin_nxt, fin_nxt, fin_tl i _ (by omega), fin_tl i _ (by decide), if_neg (by omega), if_neg (by omega), fin_tl i _ (by omega), fin_tl i _ (by decide)]
    exact ⟨rfl, rfl, rfl, rfl⟩
theorem h_lt {a : Nat} (ha : a < 3 * m) : h1 a < 3 * (4 * m) ∧ h2 a < 3 * (4 * m) := by
  unfold h1 h2
  split
  · omega
  · split <;> omega
theorem h_face (i k : Nat) (hk : k < 3) : h1 (3 * i + k) / 3 = 4 * i + k ∧ h2 (3 * i + k) / 3 = 4 * i + (k + 1) % 3 := by
  unfold h1 h2
  rw [show (3 * i + k) / 3 = i by omega, show (3 * i + k) % 3 = k by omega]
  rcases (show k = 0 ∨ k = 1 ∨ k = 2 by omega) with rfl | rfl | rfl <;> simp <;> omega
variable {al' : Nat → Nat}
theorem fin_al (ho : Oth F al m) (ho' : Oth (finF n F al) al' (4 * m)) {a : Nat} (ha : a < 3 * m) : al' (h1 a) = h2 (al a) ∧ al' (h2 a) = h1 (al a) := by
  obtain ⟨b1, b2, b3⟩ := ho.nb a ha
  obtain ⟨t1, t2, t3, t4⟩ := h_tl (n := n) (F := F) (al := al) a
  obtain ⟨u1, u2, u3, u4⟩ := h_tl (n := n) (F := F) (al := al) (al a)
  have l1 := h_lt ha
  have l2 := h_lt b1
  have hm := mid_old (n := n) ho ha
  exact ⟨(ho'.un _ _ l1.1 l2.2 (by rw [u3, t2, hm]) (by rw [u4, t1, b3])).symm, (ho'.un _ _ l1.2 l2.1 (by rw [u1, t4, b2]) (by rw [u2, t3, hm])).symm⟩
theorem fin_in (ho' : Oth (finF n F al) al' (4 * m)) {i : Nat} (hi : i < m) : al' (12 * i + 1) = 12 * i + 11 ∧ al' (12 * i + 5) = 12 * i + 9 ∧ al' (12 * i + 6) = 12 * i + 10 ∧ al' (12 * i + 11) = 12 * i + 1 ∧ al' (12 * i + 9) = 12 * i + 5 ∧ al' (12 * i + 10) = 12 * i + 6 := by
  have key : ∀ s t, s < 12 → t < 12 → tl (finF n F al) (12 * i + t) = tl (finF n F al) (12 * i + nxt s) → tl (finF n F al) (12 * i + nxt t) = tl (finF n F al) (12 * i + s) → al' (12 * i + s) = 12 * i + t := fun s t hs ht e1 e2 =>
    (ho'.un _ _ (by omega) (by omega) (by rw [fin_nxt, e1]) (by rw [fin_nxt, e2])).symm
  refine ⟨key 1 11 (by omega) (by omega) ?_ ?_, key 5 9 (by omega) (by omega) ?_ ?_, key 6 10 (by omega) (by omega) ?_ ?_, key 11 1 (by omega) (by omega) ?_ ?_, key 9 5 (by omega) (by omega) ?_ ?_, key 10 6 (by omega) (by omega) ?_ ?_⟩ <;>
    (rw [fin_tl i _ (by decide), fin_tl i _ (by decide)]; rfl)
/-- Two ways to count one number of groups. -/
theorem GrN.pair {sel1 sel2 : Nat → Prop} {adj1 adj2 : Nat → Nat → Prop} {m1 m2 c1 c2 : Nat} (g1 : GrN sel1 adj1 m1 c1) (g2 : GrN sel2 adj2 m2 c2) (f g : Nat → Nat)
    (hf : ∀ i, i < m1 → sel1 i → (∀ j, j < i → sel1 j → ¬ Go1 adj1 j i) → f i < m2 ∧ sel2 (f i) ∧ (∀ y, y < f i → sel2 y → ¬ Go1 adj2 y (f i)) ∧ g (f i) = i)
    (hg : ∀ x, x < m2 → sel2 x → (∀ y, y < x → sel2 y → ¬ Go1 adj2 y x) → g x < m1 ∧ sel1 (g x) ∧ (∀ j, j < g x → sel1 j → ¬ Go1 adj1 j (g x)) ∧ f (g x) = x) : c1 = c2 := by
  obtain ⟨p, p1, p2⟩ := g1
  obtain ⟨q, q1, q2⟩ := g2
  rw [← p2, ← q2]
  have a1 : cnB p m1 ≤ cnB q m2 := cnB_inj (f := f) (fun a ha hp => by
    obtain ⟨k1, k2⟩ := (p1 a ha).1 hp
    obtain ⟨r1, r2, r3, -⟩ := hf a ha k1 k2
    exact ⟨r1, (q1 _ r1).2 ⟨r2, r3⟩⟩) (fun a b ha hb hpa hpb e => by
    obtain ⟨k1, k2⟩ := (p1 a ha).1 hpa
    obtain ⟨l1, l2⟩ := (p1 b hb).1 hpb
    rw [← (hf a ha k1 k2).2.2.2, e, (hf b hb l1 l2).2.2.2])
  have a2 : cnB q m2 ≤ cnB p m1 := cnB_inj (f := g) (fun a ha hp => by
    obtain ⟨k1, k2⟩ := (q1 a ha).1 hp
    obtain ⟨r1, r2, r3, -⟩ := hg a ha k1 k2
    exact ⟨r1, (p1 _ r1).2 ⟨r2, r3⟩⟩) (fun a b ha hb hpa hpb e => by
    obtain ⟨k1, k2⟩ := (q1 a ha).1 hpa
    obtain ⟨l1, l2⟩ := (q1 b hb).1 hpb
    rw [← (hg a ha k1 k2).2.2.2, e, (hg b hb l1 l2).2.2.2])
  omega
/-- All that are asked for hang together. -/
theorem GrN.one {sel : Nat → Prop} {adj : Nat → Nat → Prop} {m : Nat} (h : ∃ x, x < m ∧ sel x) (hc : ∀ x y, x < m → y < m → sel x → sel y → Go1 adj x y) : GrN sel adj m 1 := by
  obtain ⟨c, hcn⟩ := GrN.some' sel adj m
  have : c = 1 := by
    refine hcn.uniq ?_
    obtain ⟨x, hx, hs⟩ := h
    have key : ∀ k, (∃ y, y ≤ k ∧ y < m ∧ sel y) → ∃ y, y < m ∧ sel y ∧ ∀ z, z < y → ¬ sel z := by
      intro k
      induction k with
      | zero =>
        rintro ⟨y, h1, h2, h3⟩
        exact ⟨y, h2, h3, fun z hz => by omega⟩
      | succ k ih =>
        rintro ⟨y, h1, h2, h3⟩
        by_cases q : ∃ z, z ≤ k ∧ z < m ∧ sel z
        · exact ih q
        · exact ⟨y, h2, h3, fun z hz hsz => q ⟨z, by omega, by omega, hsz⟩⟩
    obtain ⟨y, h1, h2, h3⟩ := key x ⟨x, Nat.le_refl _, hx, hs⟩
    refine ⟨fun z => decide (z = y), fun z hz => ?_, ?_⟩
    · rw [decide_eq_true_eq]
      constructor
      · rintro rfl
        exact ⟨h2, fun j hj hsj => absurd hsj (h3 j hj)⟩
      · rintro ⟨k1, k2⟩
        by_cases e : z = y
        · exact e
        · by_cases l : y < z
          · exact absurd (hc y z h1 hz h2 k1) (k2 y l h2)
          · exact absurd k1 (h3 z (by omega))
    · rw [cnB_one (q := fun _ => false) (k := y) (by simp) rfl h1 (fun i _ hi => by simp [hi]), cnB_none (fun _ _ => rfl)]
  rw [← this]
  exact hcn
theorem fin_parts (ho : Oth F al m) (ho' : Oth (finF n F al) al' (4 * m)) {p p' : Nat} (hp : GrN (fun _ => True) (adjF al m) m p) (hp' : GrN (fun _ => True) (adjF al' (4 * m)) (4 * m) p') : p' = p := by
  have st : ∀ x y a, a < 3 * (4 * m) → a / 3 = x → al' a / 3 = y → Go1 (adjF al' (4 * m)) x y := fun x y a h1 h2 h3 => (Go1.refl _ _).step ⟨a, h1, h2, h3⟩
  have c3 : ∀ i c, i < m → c < 4 → Go1 (adjF al' (4 * m)) (4 * i + 3) (4 * i + c) ∧ Go1 (adjF al' (4 * m)) (4 * i + c) (4 * i + 3) := fun i c hi hc => by
    obtain ⟨k1, k5, k6, k11, k9, k10⟩ := fin_in ho' hi
    rcases (show c = 0 ∨ c = 1 ∨ c = 2 ∨ c = 3 by omega) with rfl | rfl | rfl | rfl
    · exact ⟨st _ _ (12 * i + 11) (by omega) (by omega) (by rw [k11]; omega), st _ _ (12 * i + 1) (by omega) (by omega) (by rw [k1]; omega)⟩
    · exact ⟨st _ _ (12 * i + 9) (by omega) (by omega) (by rw [k9]; omega), st _ _ (12 * i + 5) (by omega) (by omega) (by rw [k5]; omega)⟩
    · exact ⟨st _ _ (12 * i + 10) (by omega) (by omega) (by rw [k10]; omega), st _ _ (12 * i + 6) (by omega) (by omega) (by rw [k6]; omega)⟩
    · exact ⟨Go1.refl _ _, Go1.refl _ _⟩
  have same : ∀ x y, x < 4 * m → x / 4 = y / 4 → Go1 (adjF al' (4 * m)) x y := fun x y hx e => by
    have a1 := (c3 (x / 4) (x % 4) (by omega) (by omega)).2
    have a2 := (c3 (y / 4) (y % 4) (by omega) (by omega)).1
    rw [show 4 * (x / 4) + x % 4 = x by omega] at a1
    rw [show 4 * (y / 4) + y % 4 = y by omega, ← e] at a2
    exact a1.trans a2
  have up : ∀ i j, i < m → Go1 (adjF al m) i j → j < m ∧ Go1 (adjF al' (4 * m)) (4 * i) (4 * j) := fun i j hi g => by
    refine g (fun j => j < m ∧ Go1 (adjF al' (4 * m)) (4 * i) (4 * j)) ⟨hi, Go1.refl _ _⟩ fun x y ⟨hx, gx⟩ ⟨a, a1, a2, a3⟩ => ?_
    obtain ⟨b1, -, -⟩ := ho.nb a a1
    have hy : y < m := by omega
    refine ⟨hy, gx.trans ?_⟩
    obtain ⟨f1, -⟩ := h_face (a / 3) (a % 3) (Nat.mod_lt _ (by omega))
    obtain ⟨-, f2⟩ := h_face (al a / 3) (al a % 3) (Nat.mod_lt _ (by omega))
    rw [show 3 * (a / 3) + a % 3 = a by omega] at f1
    rw [show 3 * (al a / 3) + al a % 3 = al a by omega] at f2
    have s := st _ _ (h1 a) (h_lt a1).1 rfl (by rw [(fin_al ho ho' a1).1])
    exact ((same (4 * x) _ (by omega) (by rw [f1]; omega)).trans s).trans (same _ _ (by rw [f2]; omega) (by rw [f2]; omega))
  have down : ∀ x y, x < 4 * m → Go1 (adjF al' (4 * m)) x y → y < 4 * m ∧ Go1 (adjF al m) (x / 4) (y / 4) := fun x y hx g => by
    refine g (fun y => y < 4 * m ∧ Go1 (adjF al m) (x / 4) (y / 4)) ⟨hx, Go1.refl _ _⟩ fun u v ⟨hu, gu⟩ ⟨s, s1, s2, s3⟩ => ?_
    obtain ⟨b1, -, -⟩ := ho'.nb s s1
    have hv : v < 4 * m := by omega
    refine ⟨hv, ?_⟩
    obtain ⟨i, t, hi, ht, rfl⟩ : ∃ i t, i < m ∧ t < 12 ∧ s = 12 * i + t := ⟨s / 12, s % 12, by omega, by omega, by omega⟩
    obtain ⟨k1, k5, k6, k11, k9, k10⟩ := fin_in ho' hi
    have inner : ∀ t', t' < 12 → al' (12 * i + t) = 12 * i + t' → Go1 (adjF al m) (x / 4) (v / 4) := fun t' ht' e => by
      rw [e] at s3
      rw [show v / 4 = u / 4 by omega]
      exact gu
    have outer : ∀ a, a < 3 * m → a / 3 = i → al' (12 * i + t) / 12 = al a / 3 → Go1 (adjF al m) (x / 4) (v / 4) := fun a ha e1 e2 => gu.step ⟨a, ha, by omega, by omega⟩
    have q1 : ∀ k, k < 3 → 12 * i + t = h1 (3 * i + k) → Go1 (adjF al m) (x / 4) (v / 4) := fun k hk e => outer (3 * i + k) (by omega) (by omega) (by
      rw [e, (fin_al ho ho' (by omega)).1]
      unfold h2
      split
      · omega
      · split <;> omega)
    have q2 : ∀ k, k < 3 → 12 * i + t = h2 (3 * i + k) → Go1 (adjF al m) (x / 4) (v / 4) := fun k hk e => outer (3 * i + k) (by omega) (by omega) (by
      rw [e, (fin_al ho ho' (by omega)).2]
      unfold h1
      omega)
    rcases (show t = 0 ∨ t = 1 ∨ t = 2 ∨ t = 3 ∨ t = 4 ∨ t = 5 ∨ t = 6 ∨ t = 7 ∨ t = 8 ∨ t = 9 ∨ t = 10 ∨ t = 11 by omega) with rfl | rfl | rfl | rfl | rfl | rfl | rfl | rfl | rfl | rfl | rfl | rfl
    · exact q1 0 (by omega) (by unfold h1; omega)
    · exact inner 11 (by omega) k1
    · exact q2 2 (by omega) (by unfold h2; rw [if_neg (by omega), if_neg (by omega)]; omega)
    · exact q2 0 (by omega) (by unfold h2; rw [if_pos (by omega)]; omega)
    · exact q1 1 (by omega) (by unfold h1; omega)
    · exact inner 9 (by omega) k5
    · exact inner 10 (by omega) k6
    · exact q2 1 (by omega) (by unfold h2; rw [if_neg (by omega), if_pos (by omega)]; omega)
    · exact q1 2 (by omega) (by unfold h1; omega)
    · exact inner 5 (by omega) k9
    · exact inner 6 (by omega) k10
    · exact inner 1 (by omega) k11
  refine hp'.pair hp (fun x => x / 4) (fun i => 4 * i) (fun x hx _ hmin => ?_) (fun i hi _ hmin => ?_)
  · have hx4 : x = 4 * (x / 4) := by
      by_cases e : x = 4 * (x / 4)
      · exact e
      · exact absurd (same (4 * (x / 4)) x (by omega) (by omega)) (hmin (4 * (x / 4)) (by omega) trivial)
    refine ⟨by omega, trivial, fun j hj _ g => ?_, hx4.symm⟩
    have := (up j (x / 4) (by omega) g).2
    rw [← hx4] at this
    exact hmin (4 * j) (by omega) trivial this
  · refine ⟨by omega, trivial, fun y hy _ g => ?_, by omega⟩
    have := (down y (4 * i) (by omega) g).2
    rw [show 4 * i / 4 = i by omega] at this
    exact hmin (y / 4) (by omega) trivial this
/-- The corners that are old points. -/
theorem fin_old_at (ho : Oth F al m) {v x j : Nat} (hv : v < n) (hx : x < 4 * m) (hj : j < 3) (h : finF n F al x j = v) : x % 4 = j ∧ F (x / 4) j = v := by
  have b0 := (mid_bd (n := n) ho (a := 3 * (x / 4)) (r := 3 * m) (by omega) (by omega)).1
  have b1 := (mid_bd (n := n) ho (a := 3 * (x / 4) + 1) (r := 3 * m) (by omega) (by omega)).1
  have b2 := (mid_bd (n := n) ho (a := 3 * (x / 4) + 2) (r := 3 * m) (by omega) (by omega)).1
  unfold finF fin4 at h
  rcases (show j = 0 ∨ j = 1 ∨ j = 2 by omega) with rfl | rfl | rfl <;>
    rcases (show x % 4 = 0 ∨ x % 4 = 1 ∨ x % 4 = 2 ∨ x % 4 = 3 by omega) with e | e | e | e <;> rw [e] at h ⊢ <;> simp at h ⊢ <;> omega
theorem fin_old_face (i c : Nat) (hc : c < 3) : finF n F al (4 * i + c) c = F i c := by
  unfold finF fin4
  rw [show (4 * i + c) / 4 = i by omega, show (4 * i + c) % 4 = c by omega]
  rcases (show c = 0 ∨ c = 1 ∨ c = 2 by omega) with rfl | rfl | rfl <;> simp
theorem fin_fan (hds : ∀ i, i < m → F i 0 ≠ F i 1 ∧ F i 1 ≠ F i 2 ∧ F i 2 ≠ F i 0) (ho : Oth F al m) (ho' : Oth (finF n F al) al' (4 * m)) {v : Nat} (hv : v < n) {c c' : Nat}
    (hc : GrN (selV F v) (adjV F al m v) m c) (hc' : GrN (selV (finF n F al) v) (adjV (finF n F al) al' (4 * m) v) (4 * m) c') : c' = c := by
  have hone : ∀ i, i < m → ∀ k k', k < 3 → k' < 3 → F i k = v → F i k' = v → k = k' := fun i hi k k' hk hk' e e' => by
    obtain ⟨d0, d1, d2⟩ := hds i hi
    rcases (show k = 0 ∨ k = 1 ∨ k = 2 by omega) with rfl | rfl | rfl <;> rcases (show k' = 0 ∨ k' = 1 ∨ k' = 2 by omega) with rfl | rfl | rfl <;> first | rfl | (exfalso; omega)
  have hsel : ∀ x, x < 4 * m → (selV (finF n F al) v x ↔ x % 4 < 3 ∧ F (x / 4) (x % 4) = v) := fun x hx => by
    constructor
    · rintro ⟨j, hj, e⟩
      obtain ⟨e1, e2⟩ := fin_old_at ho hv hx hj e
      rw [e1]
      exact ⟨hj, e2⟩
    · rintro ⟨e1, e2⟩
      refine ⟨x % 4, e1, ?_⟩
      have := fin_old_face (n := n) (F := F) (al := al) (x / 4) (x % 4) e1
      rw [show 4 * (x / 4) + x % 4 = x by omega] at this
      rw [this, e2]
  have down : ∀ x y, x < 4 * m → selV (finF n F al) v x → adjV (finF n F al) al' (4 * m) v x y → y < 4 * m ∧ selV (finF n F al) v y ∧ adjV F al m v (x / 4) (y / 4) := by
    rintro x y hx hs ⟨s, s1, s2, s3, s4⟩
    obtain ⟨hs1, hs2⟩ := (hsel x hx).1 hs
    obtain ⟨i, c, hi, hcl, rfl⟩ : ∃ i c, i < m ∧ c < 3 ∧ x = 4 * i + c := ⟨x / 4, x % 4, by omega, hs1, by omega⟩
    rw [show (4 * i + c) / 4 = i by omega, show (4 * i + c) % 4 = c by omega] at hs2
    rw [show (4 * i + c) / 4 = i by omega]
    obtain ⟨q1, q2, q3⟩ := ho'.nb s s1
    have fin : ∀ j c', j < m → c' < 3 → y = 4 * j + c' → F j c' = v → adjV F al m v i j → y < 4 * m ∧ selV (finF n F al) v y ∧ adjV F al m v i (y / 4) := fun j c' hj hc' ey ev ha => by
      subst ey
      exact ⟨by omega, (hsel _ (by omega)).2 (by rw [show (4 * j + c') / 4 = j by omega, show (4 * j + c') % 4 = c' by omega]; exact ⟨hc', ev⟩), by rw [show (4 * j + c') / 4 = j by omega]; exact ha⟩
    rcases s4 with s4 | s4
    · have ht : tl (finF n F al) s = finF n F al (4 * i + c) (s % 3) := by unfold tl; rw [s2]
      rw [ht] at s4
      obtain ⟨e1, -⟩ := fin_old_at ho hv hx (Nat.mod_lt _ (by omega)) s4
      have es : s = h1 (3 * i + c) := by unfold h1; omega
      have ha : 3 * i + c < 3 * m := by omega
      obtain ⟨r1, r2, r3⟩ := ho.nb _ ha
      rw [es, (fin_al ho ho' ha).1] at s3
      have hf := (h_face (al (3 * i + c) / 3) (al (3 * i + c) % 3) (Nat.mod_lt _ (by omega))).2
      rw [show 3 * (al (3 * i + c) / 3) + al (3 * i + c) % 3 = al (3 * i + c) by omega] at hf
      have hn := nxt_at (al (3 * i + c) / 3) (al (3 * i + c) % 3) (Nat.mod_lt _ (by omega))
      rw [show 3 * (al (3 * i + c) / 3) + al (3 * i + c) % 3 = al (3 * i + c) by omega] at hn
      refine fin (al (3 * i + c) / 3) ((al (3 * i + c) % 3 + 1) % 3) (by omega) (Nat.mod_lt _ (by omega)) (by omega) ?_ ⟨3 * i + c, ha, by omega, rfl, .inl (by rw [tl_at F i c hcl, hs2])⟩
      rw [← tl_at F _ _ (Nat.mod_lt _ (by omega)), ← hn, r3, tl_at F i c hcl, hs2]
    · have hn3 : nxt s = 3 * (4 * i + c) + (s % 3 + 1) % 3 := by unfold nxt; omega
      rw [hn3, tl_at _ _ _ (Nat.mod_lt _ (by omega))] at s4
      obtain ⟨e1, -⟩ := fin_old_at ho hv hx (Nat.mod_lt _ (by omega)) s4
      have es : s = h2 (3 * i + (c + 2) % 3) := by
        unfold h2
        rcases (show c = 0 ∨ c = 1 ∨ c = 2 by omega) with rfl | rfl | rfl
        · rw [if_neg (by omega), if_neg (by omega)]; omega
        · rw [if_pos (by omega)]; omega
        · rw [if_neg (by omega), if_pos (by omega)]; omega
      have ha : 3 * i + (c + 2) % 3 < 3 * m := by omega
      obtain ⟨r1, r2, r3⟩ := ho.nb _ ha
      have hna : nxt (3 * i + (c + 2) % 3) = 3 * i + c := by unfold nxt; omega
      rw [es, (fin_al ho ho' ha).2] at s3
      have hf := (h_face (al (3 * i + (c + 2) % 3) / 3) (al (3 * i + (c + 2) % 3) % 3) (Nat.mod_lt _ (by omega))).1
      rw [show 3 * (al (3 * i + (c + 2) % 3) / 3) + al (3 * i + (c + 2) % 3) % 3 = al (3 * i + (c + 2) % 3) by omega] at hf
      refine fin (al (3 * i + (c + 2) % 3) / 3) (al (3 * i + (c + 2) % 3) % 3) (by omega) (Nat.mod_lt _ (by omega)) (by omega) ?_ ⟨3 * i + (c + 2) % 3, ha, by omega, rfl, .inr (by rw [hna, tl_at F i c hcl, hs2])⟩
      rw [← tl_at F _ _ (Nat.mod_lt _ (by omega)), show 3 * (al (3 * i + (c + 2) % 3) / 3) + al (3 * i + (c + 2) % 3) % 3 = al (3 * i + (c + 2) % 3) by omega, r2, hna, tl_at F i c hcl, hs2]
  have up : ∀ i j c0 c1, i < m → c0 < 3 → c1 < 3 → F i c0 = v → adjV F al m v i j → F j c1 = v → adjV (finF n F al) al' (4 * m) v (4 * i + c0) (4 * j + c1) := by
    rintro i j c0 c1 hi h0 h1' e0 ⟨a, a1, a2, a3, a4⟩ e1
    obtain ⟨r1, r2, r3⟩ := ho.nb a a1
    have hj : j < m := by omega
    obtain ⟨t1, t2, t3, t4⟩ := h_tl (n := n) (F := F) (al := al) a
    have ea : 3 * i + a % 3 = a := by omega
    have eb : 3 * j + al a % 3 = al a := by omega
    have m1 : a % 3 < 3 := Nat.mod_lt _ (by omega)
    have m2 : al a % 3 < 3 := Nat.mod_lt _ (by omega)
    have f1 := h_face i (a % 3) m1
    have f2 := h_face j (al a % 3) m2
    have n1 := nxt_at i (a % 3) m1
    have n2 := nxt_at j (al a % 3) m2
    rw [ea] at f1 n1
    rw [eb] at f2 n2
    have w1 : tl F a = F i (a % 3) := by rw [← tl_at F i _ m1, ea]
    have w2 : tl F (nxt a) = F i ((a % 3 + 1) % 3) := by rw [n1, tl_at F i _ (Nat.mod_lt _ (by omega))]
    have w3 : tl F (al a) = F j (al a % 3) := by rw [← tl_at F j _ m2, eb]
    have w4 : tl F (nxt (al a)) = F j ((al a % 3 + 1) % 3) := by rw [n2, tl_at F j _ (Nat.mod_lt _ (by omega))]
    rcases a4 with a4 | a4
    · have k0 := hone i hi _ _ m1 h0 (by rw [← w1, a4]) e0
      have k1 := hone j hj _ _ (Nat.mod_lt _ (by omega)) h1' (by rw [← w4, r3, a4]) e1
      exact ⟨h1 a, (h_lt a1).1, by rw [f1.1, k0], by rw [(fin_al ho ho' a1).1, f2.2, k1], .inl (by rw [t1, a4])⟩
    · have k0 := hone i hi _ _ (Nat.mod_lt _ (by omega)) h0 (by rw [← w2, a4]) e0
      have k1 := hone j hj _ _ m2 h1' (by rw [← w3, r2, a4]) e1
      exact ⟨h2 a, (h_lt a1).2, by rw [f1.2, k0], by rw [(fin_al ho ho' a1).2, f2.1, k1], .inr (by rw [t4, a4])⟩
  obtain ⟨kk, hkk⟩ : ∃ kk : Nat → Nat, ∀ i, i < m → selV F v i → kk i < 3 ∧ F i (kk i) = v := ⟨fun i => if F i 0 = v then 0 else if F i 1 = v then 1 else 2, fun i hi ⟨k, hk, e⟩ => by
    show (if F i 0 = v then 0 else if F i 1 = v then 1 else 2) < 3 ∧ F i (if F i 0 = v then 0 else if F i 1 = v then 1 else 2) = v
    by_cases e0 : F i 0 = v
    · rw [if_pos e0]; exact ⟨by omega, e0⟩
    · rw [if_neg e0]
      by_cases e1 : F i 1 = v
      · rw [if_pos e1]; exact ⟨by omega, e1⟩
      · rw [if_neg e1]
        rcases (show k = 0 ∨ k = 1 ∨ k = 2 by omega) with rfl | rfl | rfl
        · exact absurd e e0
        · exact absurd e e1
        · exact ⟨by omega, e⟩⟩
  have adjsel : ∀ i j, i < m → adjV F al m v i j → j < m ∧ selV F v j := fun i j hi ⟨a, a1, a2, a3, a4⟩ => by
    obtain ⟨r1, r2, r3⟩ := ho.nb a a1
    have hj : j < m := by omega
    refine ⟨hj, ?_⟩
    rcases a4 with a4 | a4
    · have n1 := (nxt_prm m).lt (al a) r1
      refine ⟨nxt (al a) % 3, Nat.mod_lt _ (by omega), ?_⟩
      have : tl F (nxt (al a)) = F j (nxt (al a) % 3) := by unfold tl; rw [nxt_div, a3]
      rw [← this, r3, a4]
    · refine ⟨al a % 3, Nat.mod_lt _ (by omega), ?_⟩
      have : tl F (al a) = F j (al a % 3) := by unfold tl; rw [a3]
      rw [← this, r2, a4]
  have gd : ∀ x y, x < 4 * m → selV (finF n F al) v x → Go1 (adjV (finF n F al) al' (4 * m) v) x y → y < 4 * m ∧ selV (finF n F al) v y ∧ Go1 (adjV F al m v) (x / 4) (y / 4) := fun x y hx hs g => by
    refine g (fun y => y < 4 * m ∧ selV (finF n F al) v y ∧ Go1 (adjV F al m v) (x / 4) (y / 4)) ⟨hx, hs, Go1.refl _ _⟩ fun a b ⟨ha, hsa, ga⟩ hab => ?_
    obtain ⟨d1, d2, d3⟩ := down a b ha hsa hab
    exact ⟨d1, d2, ga.step d3⟩
  have gu : ∀ i j, i < m → selV F v i → Go1 (adjV F al m v) i j → j < m ∧ selV F v j ∧ Go1 (adjV (finF n F al) al' (4 * m) v) (4 * i + kk i) (4 * j + kk j) := fun i j hi hs g => by
    refine g (fun j => j < m ∧ selV F v j ∧ Go1 (adjV (finF n F al) al' (4 * m) v) (4 * i + kk i) (4 * j + kk j)) ⟨hi, hs, Go1.refl _ _⟩ fun a b ⟨ha, hsa, ga⟩ hab => ?_
    obtain ⟨d1, d2⟩ := adjsel a b ha hab
    obtain ⟨u1, u2⟩ := hkk a ha hsa
    obtain ⟨u3, u4⟩ := hkk b d1 d2
    exact ⟨d1, d2, ga.step (up a b _ _ ha u1 u3 u2 hab u4)⟩
  have kq : ∀ x, x < 4 * m → selV (finF n F al) v x → selV F v (x / 4) ∧ 4 * (x / 4) + kk (x / 4) = x := fun x hx hs => by
    obtain ⟨e1, e2⟩ := (hsel x hx).1 hs
    have hs' : selV F v (x / 4) := ⟨x % 4, e1, e2⟩
    obtain ⟨u1, u2⟩ := hkk (x / 4) (by omega) hs'
    have := hone (x / 4) (by omega) _ _ e1 u1 e2 u2
    exact ⟨hs', by omega⟩
  have ks : ∀ i, i < m → selV F v i → 4 * i + kk i < 4 * m ∧ selV (finF n F al) v (4 * i + kk i) ∧ (4 * i + kk i) / 4 = i := fun i hi hs => by
    obtain ⟨u1, u2⟩ := hkk i hi hs
    exact ⟨by omega, (hsel _ (by omega)).2 (by rw [show (4 * i + kk i) / 4 = i by omega, show (4 * i + kk i) % 4 = kk i by omega]; exact ⟨u1, u2⟩), by omega⟩
  refine hc'.pair hc (fun x => x / 4) (fun i => 4 * i + kk i) (fun x hx hs hmin => ?_) (fun i hi hs hmin => ?_)
  · obtain ⟨s1, s2⟩ := kq x hx hs
    refine ⟨by omega, s1, fun j hj hsj g => ?_, s2⟩
    obtain ⟨k1, k2, k3⟩ := ks j (by omega) hsj
    have := (gu j (x / 4) (by omega) hsj g).2.2
    rw [s2] at this
    exact hmin _ (by omega) k2 this
  · obtain ⟨k1, k2, k3⟩ := ks i hi hs
    refine ⟨k1, k2, fun y hy hsy g => ?_, k3⟩
    obtain ⟨s1, s2⟩ := kq y (by omega) hsy
    have := (gd y _ (by omega) hsy g).2.2
    rw [k3] at this
    by_cases e : y / 4 = i
    · rw [e] at s2; omega
    · exact hmin (y / 4) (by omega) s1 this
/-- The corners that are middles. -/
theorem fin_mid_at (ho : Oth F al m) (hin : ∀ i, i < m → ∀ k, k < 3 → 0 ≤ F i k ∧ F i k < n) {a x j : Nat} (ha : a < 3 * m) (hx : x < 4 * m) (hj : j < 3) (h : finF n F al x j = midN n al a) :
    ∃ k, k < 3 ∧ (3 * (x / 4) + k = a ∨ 3 * (x / 4) + k = al a) ∧ (x % 4 = k ∨ x % 4 = (k + 1) % 3 ∨ x % 4 = 3) := by
  have i0 := hin (x / 4) (by omega) 0 (by omega)
  have i1 := hin (x / 4) (by omega) 1 (by omega)
  have i2 := hin (x / 4) (by omega) 2 (by omega)
  have b := (mid_bd (n := n) ho ha (r := 3 * m) (by omega)).1
  have key : ∀ k, k < 3 → midN n al (3 * (x / 4) + k) = midN n al a → 3 * (x / 4) + k = a ∨ 3 * (x / 4) + k = al a := fun k hk e => mid_inj ho ha (by omega) e.symm
  have fin : ∀ k, k < 3 → ((midN n al (3 * (x / 4) + k) : Nat) : Int) = (midN n al a : Nat) → (x % 4 = k ∨ x % 4 = (k + 1) % 3 ∨ x % 4 = 3) → _ := fun k hk e hc => (⟨k, hk, key k hk (by omega), hc⟩ : ∃ k, k < 3 ∧ (3 * (x / 4) + k = a ∨ 3 * (x / 4) + k = al a) ∧ (x % 4 = k ∨ x % 4 = (k + 1) % 3 ∨ x % 4 = 3))
  have k0 := fin 0 (by omega)
  have k1 := fin 1 (by omega)
  have k2 := fin 2 (by omega)
  simp only [Nat.add_zero] at k0
  unfold finF fin4 at h
  rcases (show j = 0 ∨ j = 1 ∨ j = 2 by omega) with rfl | rfl | rfl <;>
    rcases (show x % 4 = 0 ∨ x % 4 = 1 ∨ x % 4 = 2 ∨ x % 4 = 3 by omega) with e | e | e | e <;> rw [e] at h <;> simp at h <;>
      first | (exfalso; omega) | exact k0 (by omega) (by omega) | exact k1 (by omega) (by omega) | exact k2 (by omega) (by omega)
theorem fin_mid (ho : Oth F al m) (ho' : Oth (finF n F al) al' (4 * m)) (hin : ∀ i, i < m → ∀ k, k < 3 → 0 ≤ F i k ∧ F i k < n) {a : Nat} (ha : a < 3 * m) :
    GrN (selV (finF n F al) (midN n al a : Nat)) (adjV (finF n F al) al' (4 * m) (midN n al a : Nat)) (4 * m) 1 := by
  obtain ⟨v, hv⟩ : ∃ v, midN n al a = v := ⟨_, rfl⟩
  rw [hv]
  -- the parts of one face
  have inner : ∀ i k c, i < m → k < 3 → midN n al (3 * i + k) = v → (c = k ∨ c = (k + 1) % 3 ∨ c = 3) → Go1 (adjV (finF n F al) al' (4 * m) v) (4 * i + c) (4 * i + 3) ∧ Go1 (adjV (finF n F al) al' (4 * m) v) (4 * i + 3) (4 * i + c) := by
    intro i k c hi hk he hc
    obtain ⟨k1, k5, k6, k11, k9, k10⟩ := fin_in ho' hi
    have st : ∀ s t x y, s < 12 → al' (12 * i + s) = 12 * i + t → t < 12 → 4 * i + s / 3 = x → 4 * i + t / 3 = y → (tl (finF n F al) (12 * i + s) = v ∨ tl (finF n F al) (12 * i + nxt s) = v) → Go1 (adjV (finF n F al) al' (4 * m) v) x y := fun s t x y hs e ht ex ey hcv =>
      (Go1.refl _ _).step ⟨12 * i + s, by omega, by omega, by rw [e]; omega, by rw [fin_nxt]; exact hcv⟩
    have hz : ∀ s, s < 12 → tl (finF n F al) (12 * i + s) = fin4 (F i 0) (F i 1) (F i 2) (midN n al (3 * i)) (midN n al (3 * i + 1)) (midN n al (3 * i + 2)) (s / 3) (s % 3) := fun s hs => fin_tl i s hs
    rcases (show k = 0 ∨ k = 1 ∨ k = 2 by omega) with rfl | rfl | rfl
    · simp only [Nat.add_zero] at he
      rcases hc with rfl | rfl | rfl
      · exact ⟨st 1 11 _ _ (by omega) k1 (by omega) (by omega) (by omega) (.inl (by rw [hz 1 (by omega), he]; rfl)), st 11 1 _ _ (by omega) k11 (by omega) (by omega) (by omega) (.inr (by rw [hz _ (by decide), he]; rfl))⟩
      · exact ⟨st 5 9 _ _ (by omega) k5 (by omega) (by omega) (by omega) (.inr (by rw [hz _ (by decide), he]; rfl)), st 9 5 _ _ (by omega) k9 (by omega) (by omega) (by omega) (.inl (by rw [hz _ (by decide), he]; rfl))⟩
      · exact ⟨Go1.refl _ _, Go1.refl _ _⟩
    · rcases hc with rfl | rfl | rfl
      · exact ⟨st 5 9 _ _ (by omega) k5 (by omega) (by omega) (by omega) (.inl (by rw [hz _ (by decide), he]; rfl)), st 9 5 _ _ (by omega) k9 (by omega) (by omega) (by omega) (.inr (by rw [hz _ (by decide), he]; rfl))⟩
      · exact ⟨st 6 10 _ _ (by omega) k6 (by omega) (by omega) (by omega) (.inr (by rw [hz _ (by decide), he]; rfl)), st 10 6 _ _ (by omega) k10 (by omega) (by omega) (by omega) (.inl (by rw [hz _ (by decide), he]; rfl))⟩
      · exact ⟨Go1.refl _ _, Go1.refl _ _⟩
    · rcases hc with rfl | rfl | rfl
      · exact ⟨st 6 10 _ _ (by omega) k6 (by omega) (by omega) (by omega) (.inl (by rw [hz _ (by decide), he]; rfl)), st 10 6 _ _ (by omega) k10 (by omega) (by omega) (by omega) (.inr (by rw [hz _ (by decide), he]; rfl))⟩
      · exact ⟨st 1 11 _ _ (by omega) k1 (by omega) (by omega) (by omega) (.inr (by rw [hz _ (by decide), he]; rfl)), st 11 1 _ _ (by omega) k11 (by omega) (by omega) (by omega) (.inl (by rw [hz _ (by decide), he]; rfl))⟩
      · exact ⟨Go1.refl _ _, Go1.refl _ _⟩
  have hub : ∀ b, b < 3 * m → midN n al b = v → Go1 (adjV (finF n F al) al' (4 * m) v) (4 * (b / 3) + 3) (4 * (al b / 3) + 3) := by
    intro b hb hbv
    obtain ⟨r1, r2, r3⟩ := ho.nb b hb
    have hbv2 : midN n al (al b) = v := by rw [mid_old ho hb, hbv]
    obtain ⟨t1, t2, t3, t4⟩ := h_tl (n := n) (F := F) (al := al) b
    have f1 := (h_face (b / 3) (b % 3) (Nat.mod_lt _ (by omega))).1
    have f2 := (h_face (al b / 3) (al b % 3) (Nat.mod_lt _ (by omega))).2
    have eb : 3 * (b / 3) + b % 3 = b := by omega
    have ec : 3 * (al b / 3) + al b % 3 = al b := by omega
    have g1 := (inner (b / 3) (b % 3) (b % 3) (by omega) (Nat.mod_lt _ (by omega)) (by rw [eb]; exact hbv) (.inl rfl)).2
    have g2 := (inner (al b / 3) (al b % 3) ((al b % 3 + 1) % 3) (by omega) (Nat.mod_lt _ (by omega)) (by rw [ec]; exact hbv2) (.inr (.inl rfl))).1
    rw [eb] at f1
    rw [ec] at f2
    refine (g1.step (c := 4 * (al b / 3) + (al b % 3 + 1) % 3) ⟨h1 b, (h_lt hb).1, f1, by rw [(fin_al ho ho' hb).1, f2], .inr (by rw [t2, hbv])⟩).trans g2
  have hua := hub a ha hv
  have hub2 := hub (al a) (ho.nb a ha).1 (by rw [mid_old ho ha, hv])
  rw [ho.inv a ha] at hub2
  have toa : ∀ x, x < 4 * m → selV (finF n F al) v x → Go1 (adjV (finF n F al) al' (4 * m) v) x (4 * (a / 3) + 3) ∧ Go1 (adjV (finF n F al) al' (4 * m) v) (4 * (a / 3) + 3) x := by
    rintro x hx ⟨j, hj, e⟩
    rw [← hv] at e
    obtain ⟨k, hk, hka, hc⟩ := fin_mid_at ho hin ha hx hj e
    have hkv : midN n al (3 * (x / 4) + k) = v := by
      rcases hka with q | q
      · rw [q, hv]
      · rw [q, mid_old ho ha, hv]
    obtain ⟨g1, g2⟩ := inner (x / 4) k (x % 4) (by omega) hk hkv hc
    rw [show 4 * (x / 4) + x % 4 = x by omega] at g1 g2
    rcases hka with q | q
    · rw [show x / 4 = a / 3 by omega] at g1 g2
      exact ⟨g1, g2⟩
    · rw [show x / 4 = al a / 3 by omega] at g1 g2
      exact ⟨g1.trans hub2, hua.trans g2⟩
  refine GrN.one ⟨4 * (a / 3) + 3, by omega, a % 3, Nat.mod_lt _ (by omega), ?_⟩ fun x y hx hy hsx hsy => (toa x hx hsx).1.trans (toa y hy hsy).2
  unfold finF fin4
  rw [show (4 * (a / 3) + 3) / 4 = a / 3 by omega, show (4 * (a / 3) + 3) % 4 = 3 by omega]
  rcases (show a % 3 = 0 ∨ a % 3 = 1 ∨ a % 3 = 2 by omega) with e | e | e
  · rw [e, show 3 * (a / 3) = a by omega, hv]; rfl
  · rw [e, show 3 * (a / 3) + 1 = a by omega, hv]; rfl
  · rw [e, show 3 * (a / 3) + 2 = a by omega, hv]; rfl
theorem oth_eq {al2 : Nat → Nat} (h : Oth F al m) (h2 : Oth F al2 m) {a : Nat} (ha : a < 3 * m) : al2 a = al a := by
  obtain ⟨b1, b2, b3⟩ := h2.nb a ha
  exact h.un a _ ha b1 b2 b3
theorem GrN.congr {sel sel2 : Nat → Prop} {adj adj2 : Nat → Nat → Prop} {m c : Nat} (h : GrN sel adj m c) (hs : ∀ i, sel i ↔ sel2 i) (ha : ∀ i j, adj i j ↔ adj2 i j) : GrN sel2 adj2 m c := by
  have e1 : sel = sel2 := funext fun i => propext (hs i)
  have e2 : adj = adj2 := funext fun i => funext fun j => propext (ha i j)
  rw [← e1, ← e2]
  exact h
theorem adjF_eq {al2 : Nat → Nat} (h : ∀ a, a < 3 * m → al2 a = al a) (i j : Nat) : adjF al2 m i j ↔ adjF al m i j :=
  ⟨fun ⟨a, a1, a2, a3⟩ => ⟨a, a1, a2, by rw [← h a a1]; exact a3⟩, fun ⟨a, a1, a2, a3⟩ => ⟨a, a1, a2, by rw [h a a1]; exact a3⟩⟩
theorem adjV_eq {al2 : Nat → Nat} (h : ∀ a, a < 3 * m → al2 a = al a) (v : Int) (i j : Nat) : adjV F al2 m v i j ↔ adjV F al m v i j :=
  ⟨fun ⟨a, a1, a2, a3, a4⟩ => ⟨a, a1, a2, by rw [← h a a1]; exact a3, a4⟩, fun ⟨a, a1, a2, a3, a4⟩ => ⟨a, a1, a2, by rw [h a a1]; exact a3, a4⟩⟩
/-- The same parts and handles. -/
theorem fin_top {P : Nat → Nat → Int} {p d p' d' : Nat} (ho : Oth F al m) (v1 : validE n P m F = 0) (v2 : validE (npt n al (3 * m)) (finP n m P F al) (4 * m) (finF n F al) = 0) (t1 : Top n P m F p d) (t2 : Top (npt n al (3 * m)) (finP n m P F al) (4 * m) (finF n F al) p' d') : p' = p ∧ d' = d := by
  obtain ⟨al2, c, o2, g, f, e, -⟩ := t1 v1
  obtain ⟨al', c', o', g', f', e', -⟩ := t2 v2
  have he : ∀ a, a < 3 * m → al2 a = al a := fun a ha => oth_eq ho o2 ha
  have hc := clo_of v1
  have hp := fin_parts ho o' (g.congr (fun _ => Iff.rfl) (adjF_eq he)) g'
  obtain ⟨fan, hfan⟩ := fan_all n m F al
  have s1 := f fan fun v _ => (hfan v).congr (fun _ => Iff.rfl) fun i j => (adjV_eq he v i j).symm
  have s2 := f' (fun v => if v < n then fan v else 1) fun v hv => by
    by_cases hvn : v < n
    · simp only [hvn, if_true]
      obtain ⟨c2, hc2⟩ := GrN.some' (selV (finF n F al) v) (adjV (finF n F al) al' (4 * m) v) (4 * m)
      have := fin_fan hc.dis ho o' hvn (hfan v) hc2
      rw [← this]
      exact hc2
    · simp only [hvn, if_false]
      unfold npt at hv
      obtain ⟨i, i1, i2, i3⟩ := fsel_ex (s := newB al) (k := v - n) (r := 3 * m) (by omega)
      have hm : midN n al i = v := by
        rw [mid_new (by unfold newB at i2; simpa using i2)]
        unfold npt
        omega
      rw [← hm]
      exact fin_mid ho o' hc.inn i1
  have h2 := new_half ho
  have s3 : sumN (fun v => if v < n then fan v else 1) (npt n al (3 * m)) = sumN fan n + cnB (newB al) (3 * m) := by
    unfold npt
    rw [sumN_split, sumN_congr (f := fun v => if v < n then fan v else 1) (g := fan) (fun v hv => if_pos hv)]
    congr 1
    have : ∀ k, sumN (fun i => if n + i < n then fan (n + i) else 1) k = k := by
      intro k
      induction k with
      | zero => rfl
      | succ k ih =>
        show sumN _ k + (if n + k < n then fan (n + k) else 1) = k + 1
        rw [ih, if_neg (by omega)]
    exact this _
  rw [s3, s1] at s2
  exact ⟨hp, by omega⟩
/-- The middle of a side is at the sum of its ends. -/
theorem fin_mid_pt {P : Nat → Nat → Int} (ho : Oth F al m) (i k j : Nat) (hi : i < m) (hk : k < 3) : finP n m P F al (midN n al (3 * i + k)) j = P (F i k).toNat j + P (F i ((k + 1) % 3)).toNat j := by
  have ha : 3 * i + k < 3 * m := by omega
  obtain ⟨b1, b2, b3⟩ := ho.nb _ ha
  have hne := ho.ne _ ha
  have hinv := ho.inv _ ha
  have w1 := tl_at F i k hk
  have w2 : tl F (nxt (3 * i + k)) = F i ((k + 1) % 3) := by rw [nxt_at i k hk, tl_at F i _ (Nat.mod_lt _ (by omega))]
  have hge := (mid_bd (n := n) ho ha (r := 3 * m) (by omega)).1
  unfold finP
  rw [if_neg (by omega)]
  obtain ⟨a0, ha0⟩ : ∃ a0, min (3 * i + k) (al (3 * i + k)) = a0 := ⟨_, rfl⟩
  have hnew : newB al a0 = true := by
    unfold newB
    rw [decide_eq_true_eq, ← ha0]
    by_cases h : 3 * i + k < al (3 * i + k)
    · rw [Nat.min_eq_left (by omega)]; exact h
    · rw [Nat.min_eq_right (by omega), hinv]; omega
  have hsel : fsel (newB al) (3 * m) (midN n al (3 * i + k) - n) = a0 := by
    unfold midN npt
    rw [ha0, Nat.add_sub_cancel_left]
    exact fsel_at hnew (by omega)
  rw [hsel]
  by_cases h : 3 * i + k < al (3 * i + k)
  · rw [Nat.min_eq_left (by omega)] at ha0
    rw [← ha0, w1, w2]
  · rw [Nat.min_eq_right (by omega)] at ha0
    rw [← ha0, b2, b3, w1, w2, Int.add_comm]
theorem pr9_four (a0 a1 a2 b0 b1 b2 c0 c1 c2 : Int) :
    pr9 (2 * a0) (2 * a1) (2 * a2) (a0 + b0) (a1 + b1) (a2 + b2) (c0 + a0) (c1 + a1) (c2 + a2) + pr9 (a0 + b0) (a1 + b1) (a2 + b2) (2 * b0) (2 * b1) (2 * b2) (b0 + c0) (b1 + c1) (b2 + c2) +
      pr9 (c0 + a0) (c1 + a1) (c2 + a2) (b0 + c0) (b1 + c1) (b2 + c2) (2 * c0) (2 * c1) (2 * c2) + pr9 (a0 + b0) (a1 + b1) (a2 + b2) (b0 + c0) (b1 + c1) (b2 + c2) (c0 + a0) (c1 + a1) (c2 + a2) = 8 * pr9 a0 a1 a2 b0 b1 b2 c0 c1 c2 := by
  unfold pr9
  grind
theorem fin_vol {P : Nat → Nat → Int} (ho : Oth F al m) (hin : ∀ i, i < m → ∀ k, k < 3 → 0 ≤ F i k ∧ F i k < n) : vol (finP n m P F al) (finF n F al) (4 * m) = 8 * vol P F m := by
  have old : ∀ i k j, i < m → k < 3 → finP n m P F al (F i k).toNat j = 2 * P (F i k).toNat j := fun i k j hi hk => by
    have := hin i hi k hk
    unfold finP
    rw [if_pos (by omega)]
  have one : ∀ i, i < m → prF (finP n m P F al) (finF n F al) (4 * i) + prF (finP n m P F al) (finF n F al) (4 * i + 1) + prF (finP n m P F al) (finF n F al) (4 * i + 2) + prF (finP n m P F al) (finF n F al) (4 * i + 3) = 8 * prF P F i := by
    intro i hi
    have m0 := fun j => fin_mid_pt (n := n) (P := P) ho i 0 j hi (by omega)
    have m1 := fun j => fin_mid_pt (n := n) (P := P) ho i 1 j hi (by omega)
    have m2 := fun j => fin_mid_pt (n := n) (P := P) ho i 2 j hi (by omega)
    simp only [Nat.add_zero, show (0 + 1) % 3 = 1 from rfl, show (1 + 1) % 3 = 2 from rfl, show (2 + 1) % 3 = 0 from rfl] at m0 m1 m2
    have o0 := fun j => old i 0 j hi (by omega)
    have o1 := fun j => old i 1 j hi (by omega)
    have o2 := fun j => old i 2 j hi (by omega)
    have e : ∀ c, c < 4 → ∀ k, finF n F al (4 * i + c) k = fin4 (F i 0) (F i 1) (F i 2) (midN n al (3 * i)) (midN n al (3 * i + 1)) (midN n al (3 * i + 2)) c k := fun c hc k => by
      unfold finF
      rw [show (4 * i + c) / 4 = i by omega, show (4 * i + c) % 4 = c by omega]
    have e0 := e 0 (by omega)
    have e1 := e 1 (by omega)
    have e2 := e 2 (by omega)
    have e3 := e 3 (by omega)
    rw [Nat.add_zero] at e0
    have := pr9_four (P (F i 0).toNat 0) (P (F i 0).toNat 1) (P (F i 0).toNat 2) (P (F i 1).toNat 0) (P (F i 1).toNat 1) (P (F i 1).toNat 2) (P (F i 2).toNat 0) (P (F i 2).toNat 1) (P (F i 2).toNat 2)
    unfold prF co
    simp only [e0, e1, e2, e3, fin4, if_true, if_false, show ¬ (2 : Nat) = 0 by omega, show ¬ (2 : Nat) = 1 by omega, show ¬ (3 : Nat) = 0 by omega, show ¬ (3 : Nat) = 1 by omega, show ¬ (3 : Nat) = 2 by omega, show ¬ (1 : Nat) = 0 by omega, Int.toNat_natCast, m0, m1, m2, o0, o1, o2]
    exact this
  have key : ∀ k, k ≤ m → vol (finP n m P F al) (finF n F al) (4 * k) = 8 * vol P F k := by
    intro k
    induction k with
    | zero => exact fun _ => rfl
    | succ k ih =>
      intro hk
      have h1 := one k (by omega)
      have h2 := ih (by omega)
      show vol _ _ (4 * k) + prF _ _ (4 * k) + prF _ _ (4 * k + 1) + prF _ _ (4 * k + 2) + prF _ _ (4 * k + 3) = 8 * (vol P F k + prF P F k)
      omega
  exact key m (Nat.le_refl _)
end
end Go.Proofs.Ytbhcjdgfcinpcaa
