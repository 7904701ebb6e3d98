/- Groups of a list of faces are groups of the faces that are asked for: plain facts. Conditions: those of each theorem. Contracts: edges, parts and handles, of the program. Conditions: the lists' lengths are ints. -/
import Derived.Test.YtbhcjdgfcinpcaaGrg
import Derived.Test.YtbhcjdgfcinpcaaGgv
import Derived.Test.YtbhcjdgfcinpcaaGva
namespace Go.Proofs.Ytbhcjdgfcinpcaa
set_option linter.unusedVariables false
set_option linter.unusedSimpArgs false
/-- Which of the first r is asked for as number k. -/
def fsel (s : Nat → Bool) : Nat → Nat → Nat
  | 0, _ => 0
  | r + 1, k => if s r = true ∧ cnB s r = k then r else fsel s r k
theorem cnB_mono (s : Nat → Bool) {i : Nat} : ∀ {r : Nat}, i ≤ r → cnB s i ≤ cnB s r
  | 0, h => by obtain rfl : i = 0 := by omega
               exact Nat.le_refl _
  | r + 1, h => by
    by_cases e : i = r + 1
    · rw [e]; exact Nat.le_refl _
    · have := cnB_mono s (i := i) (r := r) (by omega)
      show _ ≤ cnB s r + _
      omega
theorem cnB_lt {s : Nat → Bool} {i r : Nat} (h : i < r) (hs : s i = true) : cnB s i < cnB s r := by
  have := cnB_mono s (i := i + 1) (r := r) (by omega)
  have e : cnB s (i + 1) = cnB s i + 1 := by show cnB s i + _ = _; rw [if_pos hs]
  omega
theorem fsel_at {s : Nat → Bool} {i : Nat} (hs : s i = true) : ∀ {r : Nat}, i < r → fsel s r (cnB s i) = i
  | 0, h => absurd h (by omega)
  | r + 1, h => by
    unfold fsel
    by_cases e : i = r
    · subst e; rw [if_pos ⟨hs, rfl⟩]
    · have h2 : i < r := by omega
      have := cnB_lt h2 hs
      rw [if_neg (fun q => by omega)]
      exact fsel_at hs h2
theorem fsel_ex {s : Nat → Bool} {k : Nat} : ∀ {r : Nat}, k < cnB s r → ∃ i, i < r ∧ s i = true ∧ cnB s i = k
  | 0, h => absurd h (by simp [cnB])
  | r + 1, h => by
    by_cases e : k < cnB s r
    · obtain ⟨i, h1, h2⟩ := fsel_ex e
      exact ⟨i, by omega, h2⟩
    · have h' : k < cnB s r + if s r = true then 1 else 0 := h
      split at h'
      · rename_i hs
        exact ⟨r, by omega, hs, by omega⟩
      · omega
theorem fsel_stay {s : Nat → Bool} {r k : Nat} (h : k < cnB s r) : fsel s (r + 1) k = fsel s r k := by
  show (if s r = true ∧ cnB s r = k then r else fsel s r k) = _
  rw [if_neg (fun q => by omega)]
theorem fsel_new {s : Nat → Bool} {r : Nat} (h : s r = true) : fsel s (r + 1) (cnB s r) = r := by
  show (if s r = true ∧ cnB s r = cnB s r then r else fsel s r _) = _
  rw [if_pos ⟨h, rfl⟩]
theorem cnB_sel (s p : Nat → Bool) : ∀ r : Nat, cnB (fun i => s i && p (cnB s i)) r = cnB p (cnB s r)
  | 0 => rfl
  | r + 1 => by
    show cnB (fun i => s i && p (cnB s i)) r + (if (s r && p (cnB s r)) = true then 1 else 0) = cnB p (cnB s r + if s r = true then 1 else 0)
    rw [cnB_sel s p r]
    cases hs : s r with
    | false => simp
    | true =>
      show _ = cnB p (cnB s r) + _
      simp
theorem GrN.list {sel : Nat → Prop} {adj adj' : Nat → Nat → Prop} {m nf c : Nat} {fs pos : Nat → Nat} (s : Nat → Bool) (hs : ∀ i, i < m → (s i = true ↔ sel i))
    (h1 : ∀ k, k < nf → fs k < m ∧ sel (fs k) ∧ pos (fs k) = k) (h2 : ∀ i, i < m → sel i → pos i < nf ∧ fs (pos i) = i) (h3 : ∀ i j, i < m → j < m → sel i → sel j → (i < j ↔ pos i < pos j))
    (h4 : ∀ p : Nat → Bool, cnB (fun i => s i && p (pos i)) m = cnB p nf)
    (ha : ∀ a b, a < nf → (adj' a b ↔ b < nf ∧ adj (fs a) (fs b))) (hcl : ∀ i j, i < m → sel i → adj i j → j < m ∧ sel j) (h : GrN (fun _ => True) adj' nf c) : GrN sel adj m c := by
  have key : ∀ a b, a < nf → b < nf → (Go1 adj' a b ↔ Go1 adj (fs a) (fs b)) := by
    intro a b hA hB
    constructor
    · intro g
      refine (g (fun x => x < nf ∧ Go1 adj (fs a) (fs x)) ⟨hA, Go1.refl _ _⟩ fun x y ⟨hx, gx⟩ hxy => ?_).2
      obtain ⟨y1, y2⟩ := (ha x y hx).1 hxy
      exact ⟨y1, gx.step y2⟩
    · intro g
      obtain ⟨x, x1, x2, x3⟩ := g (fun z => ∃ x, x < nf ∧ fs x = z ∧ Go1 adj' a x) ⟨a, hA, rfl, Go1.refl _ _⟩ fun z z' ⟨x, x1, x2, x3⟩ hz => by
        obtain ⟨f1, f2, f3⟩ := h1 x x1
        obtain ⟨z1, z2⟩ := hcl z z' (by rw [← x2]; exact f1) (by rw [← x2]; exact f2) hz
        obtain ⟨p1, p2⟩ := h2 z' z1 z2
        exact ⟨pos z', p1, p2, x3.step ((ha _ _ x1).2 ⟨p1, by rw [x2, p2]; exact hz⟩)⟩
      have : x = b := by rw [← (h1 x x1).2.2, x2, (h1 b hB).2.2]
      rw [← this]
      exact x3
  obtain ⟨p, p1, p2⟩ := h
  refine ⟨fun i => s i && p (pos i), fun i hi => ?_, by rw [h4]; exact p2⟩
  simp only [Bool.and_eq_true, hs i hi]
  constructor
  · rintro ⟨q1, q2⟩
    refine ⟨q1, fun j hj hsj g => ?_⟩
    obtain ⟨i1, i2⟩ := h2 i hi q1
    obtain ⟨j1, j2⟩ := h2 j (by omega) hsj
    refine ((p1 _ i1).1 q2).2 (pos j) ((h3 j i (by omega) hi hsj q1).1 hj) trivial ?_
    rw [key _ _ j1 i1, i2, j2]
    exact g
  · rintro ⟨q1, q2⟩
    obtain ⟨i1, i2⟩ := h2 i hi q1
    refine ⟨q1, (p1 _ i1).2 ⟨trivial, fun k hk _ g => ?_⟩⟩
    obtain ⟨f1, f2, f3⟩ := h1 k (by omega)
    refine q2 (fs k) ((h3 _ _ f1 hi f2 q1).2 (by rw [f3]; exact hk)) f2 ?_
    rw [key _ _ (by omega) i1, i2] at g
    exact g
section
variable {F : Nat → Nat → Int} {al : Nat → Nat} {m : Nat}
theorem com_adj (ho : Oth F al m) {i j : Nat} (pt : Int) (hi : i < m) (hj : j < m) : comP (F i) (F j) pt ↔ ∃ a, a < 3 * m ∧ a / 3 = i ∧ al a / 3 = j ∧ (pt < 0 ∨ tl F a = pt ∨ tl F (nxt a) = pt) := by
  constructor
  · rintro ⟨i', j', hi', hj', e1, e2, e3⟩
    have t1 := tl_at F i i' hi'
    have t2 : tl F (nxt (3 * i + i')) = F i ((i' + 1) % 3) := by rw [nxt_at _ _ hi', tl_at F _ _ (Nat.mod_lt _ (by omega))]
    have t3 := tl_at F j j' hj'
    have t4 : tl F (nxt (3 * j + j')) = F j ((j' + 1) % 3) := by rw [nxt_at _ _ hj', tl_at F _ _ (Nat.mod_lt _ (by omega))]
    have := ho.un (3 * i + i') (3 * j + j') (by omega) (by omega) (by rw [t3, t2, e1]) (by rw [t4, t1, e2])
    exact ⟨3 * i + i', by omega, by omega, by omega, by rw [t1, t2]; exact e3⟩
  · rintro ⟨a, a1, a2, a3, a4⟩
    obtain ⟨b1, b2, b3⟩ := ho.nb a a1
    have ea : a = 3 * i + a % 3 := by omega
    have eb : al a = 3 * j + al a % 3 := by omega
    have m1 : a % 3 < 3 := Nat.mod_lt _ (by omega)
    have m2 : al a % 3 < 3 := Nat.mod_lt _ (by omega)
    have t1 : tl F a = F i (a % 3) := by rw [← tl_at F i _ m1, ← ea]
    have t2 : tl F (nxt a) = F i ((a % 3 + 1) % 3) := by
      have := nxt_at i _ m1
      rw [← ea] at this
      rw [this, tl_at F _ _ (Nat.mod_lt _ (by omega))]
    have t3 : tl F (al a) = F j (al a % 3) := by rw [← tl_at F j _ m2, ← eb]
    have t4 : tl F (nxt (al a)) = F j ((al a % 3 + 1) % 3) := by
      have := nxt_at j _ m2
      rw [← eb] at this
      rw [this, tl_at F _ _ (Nat.mod_lt _ (by omega))]
    exact ⟨a % 3, al a % 3, m1, m2, by rw [← t3, ← t2, b2], by rw [← t4, ← t1, b3], by rw [← t1, ← t2]; exact a4⟩
theorem parts_list (ho : Oth F al m) {c : Nat} (h : GrN (fun _ => True) (adjL F (fun k => k) m (-1)) m c) : GrN (fun _ => True) (adjF al m) m c := by
  refine GrN.list (fs := fun k => k) (pos := fun k => k) (fun _ => true) (fun i _ => by simp) (fun k hk => ⟨hk, trivial, rfl⟩) (fun i hi _ => ⟨hi, rfl⟩) (fun i j _ _ _ _ => Iff.rfl) (fun p => by simp) (fun a b hA => ?_) (fun i j hi _ ⟨a, a1, a2, a3⟩ => ?_) h
  · unfold adjL
    constructor
    · rintro ⟨b1, b2⟩
      obtain ⟨x, x1, x2, x3, -⟩ := (com_adj ho (-1) hA b1).1 b2
      exact ⟨b1, x, x1, x2, x3⟩
    · rintro ⟨b1, x, x1, x2, x3⟩
      exact ⟨b1, (com_adj ho (-1) hA b1).2 ⟨x, x1, x2, x3, .inl (by omega)⟩⟩
  · have := (ho.nb a a1).1
    exact ⟨by omega, trivial⟩
/-- Whether face i has point v. -/
def selB (F : Nat → Nat → Int) (v : Int) (i : Nat) : Bool := F i 0 == v || (F i 1 == v || F i 2 == v)
theorem selB_iff (F : Nat → Nat → Int) (v : Int) (i : Nat) : selB F v i = true ↔ selV F v i := by
  unfold selB selV
  constructor
  · intro h
    simp only [Bool.or_eq_true, beq_iff_eq] at h
    rcases h with h | h | h
    · exact ⟨0, by omega, h⟩
    · exact ⟨1, by omega, h⟩
    · exact ⟨2, by omega, h⟩
  · rintro ⟨k, hk, e⟩
    rcases (show k = 0 ∨ k = 1 ∨ k = 2 by omega) with rfl | rfl | rfl <;> simp [e]
theorem fans_list (ho : Oth F al m) {v : Int} (hv : 0 ≤ v) {c : Nat} (h : GrN (fun _ => True) (adjL F (fsel (selB F v) m) (cnB (selB F v) m) v) (cnB (selB F v) m) c) : GrN (selV F v) (adjV F al m v) m c := by
  have hfs : ∀ k, k < cnB (selB F v) m → fsel (selB F v) m k < m ∧ selV F v (fsel (selB F v) m k) ∧ cnB (selB F v) (fsel (selB F v) m k) = k := fun k hk => by
    obtain ⟨i, i1, i2, i3⟩ := fsel_ex hk
    have e := fsel_at i2 i1
    rw [i3] at e
    rw [e]
    exact ⟨i1, (selB_iff F v i).1 i2, i3⟩
  refine GrN.list (fs := fsel (selB F v) m) (pos := cnB (selB F v)) (selB F v) (fun i _ => selB_iff F v i) hfs (fun i hi hs => ?_) (fun i j hi hj hsi hsj => ?_) (fun p => cnB_sel _ p m) (fun a b hA => ?_) (fun i j hi hs ⟨a, a1, a2, a3, a4⟩ => ?_) h
  · have hs' := (selB_iff F v i).2 hs
    exact ⟨cnB_lt hi hs', fsel_at hs' hi⟩
  · constructor
    · exact fun q => cnB_lt q ((selB_iff F v i).2 hsi)
    · intro q
      by_cases e : i < j
      · exact e
      · have := cnB_mono (selB F v) (i := j) (r := i) (by omega)
        omega
  · unfold adjL
    constructor
    · rintro ⟨b1, b2⟩
      obtain ⟨x, x1, x2, x3, x4⟩ := (com_adj ho v (hfs a hA).1 (hfs b b1).1).1 b2
      exact ⟨b1, x, x1, x2, x3, x4.resolve_left (by omega)⟩
    · rintro ⟨b1, x, x1, x2, x3, x4⟩
      exact ⟨b1, (com_adj ho v (hfs a hA).1 (hfs b b1).1).2 ⟨x, x1, x2, x3, .inr x4⟩⟩
  · obtain ⟨b1, b2, b3⟩ := ho.nb a a1
    have n1 := (nxt_prm m).lt (al a) b1
    refine ⟨by omega, ?_⟩
    rcases a4 with a4 | a4
    · refine ⟨nxt (al a) % 3, Nat.mod_lt _ (by omega), ?_⟩
      have : tl F (nxt (al a)) = F j (nxt (al a) % 3) := by unfold tl; rw [nxt_div, a3]
      rw [← this, b3, a4]
    · refine ⟨al a % 3, Nat.mod_lt _ (by omega), ?_⟩
      have : tl F (al a) = F j (al a % 3) := by unfold tl; rw [a3]
      rw [← this, b2, a4]
end
end Go.Proofs.Ytbhcjdgfcinpcaa
namespace Go.Proofs.Ytbhcjdgfcinpcaa
set_option linter.unusedVariables false
set_option linter.unusedSimpArgs false
open Go.RowKit  Go.Maps
/-- p parts and d handles, if the mesh is valid. -/
def Top (n : Nat) (P : Nat → Nat → Int) (m : Nat) (F : Nat → Nat → Int) (p d : Nat) : Prop :=
  validE n P m F = 0 → ∃ (al : Nat → Nat) (c : Nat), Oth F al m ∧ GrN (fun _ => True) (adjF al m) m p ∧ (∀ fan : Nat → Nat, (∀ v, v < n → GrN (selV F v) (adjV F al m v) m (fan v)) → sumN fan n = c) ∧ 2 * c + 4 * d = m + 4 * p ∧ p ≤ m ∧ c ≤ 3 * m
theorem GrN.le {sel : Nat → Prop} {adj : Nat → Nat → Prop} {m c : Nat} (h : GrN sel adj m c) : c ≤ m := by
  obtain ⟨p, -, rfl⟩ := h
  exact cnB_le p m
theorem Top.ex (n : Nat) (P : Nat → Nat → Int) (m : Nat) (F : Nat → Nat → Int) : ∃ p d, Top n P m F p d := by
  by_cases h : validE n P m F = 0
  · obtain ⟨al, ho⟩ := (clo_of h).oth
    obtain ⟨c, p, d, h1, h2, h3⟩ := (clo_of h).handles ho
    have hp := h2.le
    exact ⟨p, d, fun _ => ⟨al, c, ho, h2, h1, h3, hp, by omega⟩⟩
  · exact ⟨0, 0, fun k => absurd k h⟩
theorem valid_sz {n m : Nat} {P F : Nat → Nat → Int} (h : validE n P m F = 0) : n ≤ 64 ∧ 1 ≤ m ∧ m ≤ 96 := by
  unfold validE at h
  split at h
  · omega
  · rename_i h1
    unfold largeB at h1
    simp only [Bool.or_eq_true, decide_eq_true_eq, Bool.not_eq_true', decide_eq_false_iff_not, not_or, Nat.not_lt] at h1
    omega
def edgeV (n : Nat) (P : Nat → Nat → Int) (m : Nat) (F : Nat → Nat → Int) : Int := if validE n P m F = 0 then ((3 * m / 2 : Nat) : Int) else 0
def numV (n : Nat) (P : Nat → Nat → Int) (m : Nat) (F : Nat → Nat → Int) (p : Nat) : Int := if validE n P m F = 0 then (p : Int) else 0
theorem sumN_up (f : Nat → Nat) (k c : Nat) : sumN (fun v => if v = k then c else f v) (k + 1) = sumN f k + c := by
  show sumN _ k + (if k = k then c else f k) = _
  rw [if_pos rfl, sumN_congr (g := f) fun v hv => if_neg (by omega)]
theorem sumN_le {f : Nat → Nat} {m : Nat} : ∀ {n : Nat}, (∀ v, v < n → f v ≤ m) → sumN f n ≤ n * m
  | 0, _ => by simp [sumN]
  | n + 1, h => by
    have := sumN_le (n := n) fun v hv => h v (by omega)
    have h2 := h n (by omega)
    show sumN f n + f n ≤ _
    rw [Nat.add_mul]
    omega
end Go.Proofs.Ytbhcjdgfcinpcaa
