/- The winding number of a closed surface that is cut finer, and whether a point lies on it. Plain facts. Conditions: those of each theorem. The winding number of a mesh that is turned, mirrored, moved or cut finer, with its error. Plain facts. Conditions: those of each theorem. -/
import Derived.Test.YtbhcjdgfcinpcaaWra
import Derived.Test.YtbhcjdgfcinpcaaFnq
import Derived.Test.YtbhcjdgfcinpcaaGwl
import Derived.Test.YtbhcjdgfcinpcaaGcl
namespace Go.Proofs.Ytbhcjdgfcinpcaa
set_option linter.unusedVariables false
set_option linter.unusedSimpArgs false
theorem two_sub (x y : Int) : 2 * x - 2 * y = 2 * (x - y) := by omega
theorem add_sub (x y z : Int) : x + y - 2 * z = (x - z) + (y - z) := by omega
def Nr (a0 a1 a2 : Int) : Prop := (-192 ≤ a0 ∧ a0 ≤ 192) ∧ (-192 ≤ a1 ∧ a1 ≤ 192) ∧ (-192 ≤ a2 ∧ a2 ≤ 192)
theorem Nr.two {a0 a1 a2 b0 b1 b2 c0 c1 c2 d0 d1 d2 : Int} (ha : Nr a0 a1 a2) (hb : Nr b0 b1 b2) (hc : Nr c0 c1 c2) (hd : Nr d0 d1 d2) : B3 (a0 + b0) (a1 + b1) (a2 + b2) (c0 + d0) (c1 + d1) (c2 + d2) := by
  unfold Nr at ha hb hc hd
  exact B3_of (by omega) (by omega)
theorem dbl (x : Int) : 2 * x = x + x := by omega
theorem wndS_four {a0 a1 a2 b0 b1 b2 c0 c1 c2 : Int} (ha : Nr a0 a1 a2) (hb : Nr b0 b1 b2) (hc : Nr c0 c1 c2) :
    wndS (2 * a0) (2 * a1) (2 * a2) (a0 + b0) (a1 + b1) (a2 + b2) (c0 + a0) (c1 + a1) (c2 + a2) + wndS (a0 + b0) (a1 + b1) (a2 + b2) (2 * b0) (2 * b1) (2 * b2) (b0 + c0) (b1 + c1) (b2 + c2) + wndS (c0 + a0) (c1 + a1) (c2 + a2) (b0 + c0) (b1 + c1) (b2 + c2) (2 * c0) (2 * c1) (2 * c2) + wndS (a0 + b0) (a1 + b1) (a2 + b2) (b0 + c0) (b1 + c1) (b2 + c2) (c0 + a0) (c1 + a1) (c2 + a2) = wndS a0 a1 a2 b0 b1 b2 c0 c1 c2 := by
  have f := wnd_four 1 1048576 1099511627776 a0 a1 a2 b0 b1 b2 c0 c1 c2 (gen_1 _ _ _ _ _ _ (Nr.two ha hb hc ha)) (gen_1 _ _ _ _ _ _ (Nr.two hb hc ha hb)) (gen_1 _ _ _ _ _ _ (Nr.two hc ha hb hc))
  have s : ∀ {x0 x1 x2 y0 y1 y2 : Int}, Nr x0 x1 x2 → Nr y0 y1 y2 → B3 x0 x1 x2 y0 y1 y2 := fun hx hy => by
    unfold Nr at hx hy
    exact B3_of (by omega) (by omega)
  rw [wndS_R a0 a1 a2 b0 b1 b2 c0 c1 c2 (s hb hc) (s hc ha) (s ha hb), f]
  simp only [dbl]
  rw [wndS_R (a0 + a0) (a1 + a1) (a2 + a2) (a0 + b0) (a1 + b1) (a2 + b2) (c0 + a0) (c1 + a1) (c2 + a2) (Nr.two ha hb hc ha) (Nr.two hc ha ha ha) (Nr.two ha ha ha hb),
    wndS_R (a0 + b0) (a1 + b1) (a2 + b2) (b0 + b0) (b1 + b1) (b2 + b2) (b0 + c0) (b1 + c1) (b2 + c2) (Nr.two hb hb hb hc) (Nr.two hb hc ha hb) (Nr.two ha hb hb hb),
    wndS_R (c0 + a0) (c1 + a1) (c2 + a2) (b0 + c0) (b1 + c1) (b2 + c2) (c0 + c0) (c1 + c1) (c2 + c2) (Nr.two hb hc hc hc) (Nr.two hc hc hc ha) (Nr.two hc ha hb hc),
    wndS_R (a0 + b0) (a1 + b1) (a2 + b2) (b0 + c0) (b1 + c1) (b2 + c2) (c0 + a0) (c1 + a1) (c2 + a2) (Nr.two hb hc hc ha) (Nr.two hc ha ha hb) (Nr.two ha hb hb hc)]
section
variable {n m : Nat} {P F : Nat → Nat → Int} {al : Nat → Nat} {q0 q1 q2 : Int}
theorem fin_wsum (ho : Oth F al m) (hin : ∀ i, i < m → ∀ k, k < 3 → 0 ≤ F i k ∧ F i k < n) (hN : ∀ i, i < m → ∀ k, k < 3 → Nr (P (F i k).toNat 0 - q0) (P (F i k).toNat 1 - q1) (P (F i k).toNat 2 - q2)) : wsum (finP n m P F al) (finF n F al) (2 * q0) (2 * q1) (2 * q2) (4 * m) = wsum P F q0 q1 q2 m := by
  have old : ∀ i k j, i < m → k < 3 → finP n m P F al (F i k).toNat j = 2 * P (F i k).toNat j := fun i k j hi hk => by
    have := hin i hi k hk
    unfold finP
    rw [if_pos (by omega)]
  have one : ∀ i, i < m → wndF (finP n m P F al) (finF n F al) (2 * q0) (2 * q1) (2 * q2) (4 * i) + wndF (finP n m P F al) (finF n F al) (2 * q0) (2 * q1) (2 * q2) (4 * i + 1) + wndF (finP n m P F al) (finF n F al) (2 * q0) (2 * q1) (2 * q2) (4 * i + 2) + wndF (finP n m P F al) (finF n F al) (2 * q0) (2 * q1) (2 * q2) (4 * i + 3) = wndF P F q0 q1 q2 i := by
    intro i hi
    have m0 := fun j => fin_mid_pt (n := n) (P := P) ho i 0 j hi (by omega)
    have m1 := fun j => fin_mid_pt (n := n) (P := P) ho i 1 j hi (by omega)
    have m2 := fun j => fin_mid_pt (n := n) (P := P) ho i 2 j hi (by omega)
    simp only [Nat.add_zero, show (0 + 1) % 3 = 1 from rfl, show (1 + 1) % 3 = 2 from rfl, show (2 + 1) % 3 = 0 from rfl] at m0 m1 m2
    have o0 := fun j => old i 0 j hi (by omega)
    have o1 := fun j => old i 1 j hi (by omega)
    have o2 := fun j => old i 2 j hi (by omega)
    have e : ∀ c, c < 4 → ∀ k, finF n F al (4 * i + c) k = fin4 (F i 0) (F i 1) (F i 2) (midN n al (3 * i)) (midN n al (3 * i + 1)) (midN n al (3 * i + 2)) c k := fun c hc k => by
      unfold finF
      rw [show (4 * i + c) / 4 = i by omega, show (4 * i + c) % 4 = c by omega]
    have e0 := e 0 (by omega)
    have e1 := e 1 (by omega)
    have e2 := e 2 (by omega)
    have e3 := e 3 (by omega)
    rw [Nat.add_zero] at e0
    have := wndS_four (hN i hi 0 (by omega)) (hN i hi 1 (by omega)) (hN i hi 2 (by omega))
    unfold wndF co
    simp only [e0, e1, e2, e3, fin4, if_true, if_false, show ¬ (2 : Nat) = 0 by omega, show ¬ (2 : Nat) = 1 by omega, show ¬ (3 : Nat) = 0 by omega, show ¬ (3 : Nat) = 1 by omega, show ¬ (3 : Nat) = 2 by omega, show ¬ (1 : Nat) = 0 by omega, Int.toNat_natCast, m0, m1, m2, o0, o1, o2, two_sub, add_sub]
    exact this
  have key : ∀ k, k ≤ m → wsum (finP n m P F al) (finF n F al) (2 * q0) (2 * q1) (2 * q2) (4 * k) = wsum P F q0 q1 q2 k := by
    intro k
    induction k with
    | zero => exact fun _ => rfl
    | succ k ih =>
      intro hk
      have h1 := one k (by omega)
      have h2 := ih (by omega)
      show wsum _ _ _ _ _ (4 * k) + wndF _ _ _ _ _ (4 * k) + wndF _ _ _ _ _ (4 * k + 1) + wndF _ _ _ _ _ (4 * k + 2) + wndF _ _ _ _ _ (4 * k + 3) = wsum P F q0 q1 q2 k + wndF P F q0 q1 q2 k
      omega
  exact key m (Nat.le_refl _)
end
section
variable {n m : Nat} {P F : Nat → Nat → Int} {al : Nat → Nat} {q0 q1 q2 : Int}
theorem onS_succ (P F : Nat → Nat → Int) (q0 q1 q2 : Int) (k : Nat) : onS P F q0 q1 q2 (k + 1) = (onS P F q0 q1 q2 k || tchF P F q0 q1 q2 k) := by
  unfold onS
  rw [List.range_succ, List.any_append]
  simp
theorem fin_on (ho : Oth F al m) (hin : ∀ i, i < m → ∀ k, k < 3 → 0 ≤ F i k ∧ F i k < n) (hp : ∀ i, i < m → 0 < d3 (nX (P (F i 0).toNat 0 - q0) (P (F i 0).toNat 1 - q1) (P (F i 0).toNat 2 - q2) (P (F i 1).toNat 0 - q0) (P (F i 1).toNat 1 - q1) (P (F i 1).toNat 2 - q2) (P (F i 2).toNat 0 - q0) (P (F i 2).toNat 1 - q1) (P (F i 2).toNat 2 - q2)) (nY (P (F i 0).toNat 0 - q0) (P (F i 0).toNat 1 - q1) (P (F i 0).toNat 2 - q2) (P (F i 1).toNat 0 - q0) (P (F i 1).toNat 1 - q1) (P (F i 1).toNat 2 - q2) (P (F i 2).toNat 0 - q0) (P (F i 2).toNat 1 - q1) (P (F i 2).toNat 2 - q2)) (nZ (P (F i 0).toNat 0 - q0) (P (F i 0).toNat 1 - q1) (P (F i 0).toNat 2 - q2) (P (F i 1).toNat 0 - q0) (P (F i 1).toNat 1 - q1) (P (F i 1).toNat 2 - q2) (P (F i 2).toNat 0 - q0) (P (F i 2).toNat 1 - q1) (P (F i 2).toNat 2 - q2)) (nX (P (F i 0).toNat 0 - q0) (P (F i 0).toNat 1 - q1) (P (F i 0).toNat 2 - q2) (P (F i 1).toNat 0 - q0) (P (F i 1).toNat 1 - q1) (P (F i 1).toNat 2 - q2) (P (F i 2).toNat 0 - q0) (P (F i 2).toNat 1 - q1) (P (F i 2).toNat 2 - q2)) (nY (P (F i 0).toNat 0 - q0) (P (F i 0).toNat 1 - q1) (P (F i 0).toNat 2 - q2) (P (F i 1).toNat 0 - q0) (P (F i 1).toNat 1 - q1) (P (F i 1).toNat 2 - q2) (P (F i 2).toNat 0 - q0) (P (F i 2).toNat 1 - q1) (P (F i 2).toNat 2 - q2)) (nZ (P (F i 0).toNat 0 - q0) (P (F i 0).toNat 1 - q1) (P (F i 0).toNat 2 - q2) (P (F i 1).toNat 0 - q0) (P (F i 1).toNat 1 - q1) (P (F i 1).toNat 2 - q2) (P (F i 2).toNat 0 - q0) (P (F i 2).toNat 1 - q1) (P (F i 2).toNat 2 - q2))) : onS (finP n m P F al) (finF n F al) (2 * q0) (2 * q1) (2 * q2) (4 * m) = onS P F q0 q1 q2 m := by
  have old : ∀ i k j, i < m → k < 3 → finP n m P F al (F i k).toNat j = 2 * P (F i k).toNat j := fun i k j hi hk => by
    have := hin i hi k hk
    unfold finP
    rw [if_pos (by omega)]
  have one : ∀ i, i < m → (tchF (finP n m P F al) (finF n F al) (2 * q0) (2 * q1) (2 * q2) (4 * i) || (tchF (finP n m P F al) (finF n F al) (2 * q0) (2 * q1) (2 * q2) (4 * i + 1) || (tchF (finP n m P F al) (finF n F al) (2 * q0) (2 * q1) (2 * q2) (4 * i + 2) || tchF (finP n m P F al) (finF n F al) (2 * q0) (2 * q1) (2 * q2) (4 * i + 3)))) = tchF P F q0 q1 q2 i := by
    intro i hi
    have m0 := fun j => fin_mid_pt (n := n) (P := P) ho i 0 j hi (by omega)
    have m1 := fun j => fin_mid_pt (n := n) (P := P) ho i 1 j hi (by omega)
    have m2 := fun j => fin_mid_pt (n := n) (P := P) ho i 2 j hi (by omega)
    simp only [Nat.add_zero, show (0 + 1) % 3 = 1 from rfl, show (1 + 1) % 3 = 2 from rfl, show (2 + 1) % 3 = 0 from rfl] at m0 m1 m2
    have o0 := fun j => old i 0 j hi (by omega)
    have o1 := fun j => old i 1 j hi (by omega)
    have o2 := fun j => old i 2 j hi (by omega)
    have e : ∀ c, c < 4 → ∀ k, finF n F al (4 * i + c) k = fin4 (F i 0) (F i 1) (F i 2) (midN n al (3 * i)) (midN n al (3 * i + 1)) (midN n al (3 * i + 2)) c k := fun c hc k => by
      unfold finF
      rw [show (4 * i + c) / 4 = i by omega, show (4 * i + c) % 4 = c by omega]
    have e0 := e 0 (by omega)
    have e1 := e 1 (by omega)
    have e2 := e 2 (by omega)
    have e3 := e 3 (by omega)
    rw [Nat.add_zero] at e0
    have := tch_four (P (F i 0).toNat 0 - q0) (P (F i 0).toNat 1 - q1) (P (F i 0).toNat 2 - q2) (P (F i 1).toNat 0 - q0) (P (F i 1).toNat 1 - q1) (P (F i 1).toNat 2 - q2) (P (F i 2).toNat 0 - q0) (P (F i 2).toNat 1 - q1) (P (F i 2).toNat 2 - q2) (by
      have h := hp i hi
      rw [← nrm_t] at h
      omega)
    unfold tchF co
    simp only [e0, e1, e2, e3, fin4, if_true, if_false, show ¬ (2 : Nat) = 0 by omega, show ¬ (2 : Nat) = 1 by omega, show ¬ (3 : Nat) = 0 by omega, show ¬ (3 : Nat) = 1 by omega, show ¬ (3 : Nat) = 2 by omega, show ¬ (1 : Nat) = 0 by omega, Int.toNat_natCast, m0, m1, m2, o0, o1, o2, two_sub, add_sub]
    exact this.symm
  have key : ∀ k, k ≤ m → onS (finP n m P F al) (finF n F al) (2 * q0) (2 * q1) (2 * q2) (4 * k) = onS P F q0 q1 q2 k := by
    intro k
    induction k with
    | zero => exact fun _ => rfl
    | succ k ih =>
      intro hk
      have h1 := one k (by omega)
      have h2 := ih (by omega)
      rw [onS_succ P F, ← h2, ← h1, show 4 * (k + 1) = 4 * k + 1 + 1 + 1 + 1 by omega, onS_succ, onS_succ, onS_succ, onS_succ]
      simp only [Bool.or_assoc]
  exact key m (Nat.le_refl _)
end
end Go.Proofs.Ytbhcjdgfcinpcaa
namespace Go.Proofs.Ytbhcjdgfcinpcaa
set_option linter.unusedVariables false
set_option linter.unusedSimpArgs false
open Go.RowKit
section
variable {n m : Nat} {P F : Nat → Nat → Int} {al : Nat → Nat} {q0 q1 q2 : Int}
theorem valid_9 : validE n P m F ≠ 9 := by
  have hf : ∀ k, facesE n P F k = 0 ∨ facesE n P F k = 5 ∨ facesE n P F k = 6 := by
    intro k
    induction k with
    | zero => exact .inl rfl
    | succ k ih =>
      unfold facesE
      split
      · exact ih
      · unfold faceE
        split
        · split <;> omega
        · omega
  have := hf m
  unfold validE
  repeat' split
  all_goals omega
theorem mul_self_nonneg' (x : Int) : 0 ≤ x * x := by
  rcases Int.le_total 0 x with h | h
  · exact Int.mul_nonneg h h
  · exact Int.mul_nonneg_of_nonpos_of_nonpos h h
theorem mul_self_pos' {x : Int} (h : x ≠ 0) : 0 < x * x := by
  have := mul_self_nonneg' x
  have : x * x ≠ 0 := fun c => h (by rcases Int.mul_eq_zero.mp c with c | c <;> exact c)
  omega
/-- The error of a winding number of a valid mesh. -/
theorem winE_valid (h : validE n P m F = 0) : winE n P m F q0 q1 q2 = if inB q0 q1 q2 256 = true then (if onS P F q0 q1 q2 m = true then 9 else 0) else 1 := by
  unfold winE askE
  rw [if_pos h]
  by_cases hq : inB q0 q1 q2 256 = true
  · rw [if_pos hq, if_pos rfl, if_pos hq]
  · rw [if_neg hq, if_neg (by omega), if_neg hq]
theorem winV_valid (h : validE n P m F = 0) (hq : inB q0 q1 q2 256 = true) : winV n P m F q0 q1 q2 = if onS P F q0 q1 q2 m = true then 0 else wsum P F q0 q1 q2 m := by
  unfold winV
  rw [winE_valid h, if_pos hq]
  by_cases ho : onS P F q0 q1 q2 m = true
  · rw [if_pos ho, if_pos ho, if_neg (by omega)]
  · rw [if_neg ho, if_neg ho, if_pos rfl]
theorem corn_bd (h : validE n P m F = 0) {i k : Nat} (hi : i < m) (hk : k < 3) : -64 ≤ P (F i k).toNat 0 ∧ P (F i k).toNat 0 ≤ 64 ∧ -64 ≤ P (F i k).toNat 1 ∧ P (F i k).toNat 1 ≤ 64 ∧ -64 ≤ P (F i k).toNat 2 ∧ P (F i k).toNat 2 ≤ 64 := by
  obtain ⟨-, -, hb, -⟩ := validE_ok h
  have := (clo_of h).inn i hi k hk
  exact ptsBad_at hb _ (by omega)
theorem near_of (h : validE n P m F = 0) (hq : inB q0 q1 q2 256 = true) : Near P F q0 q1 q2 m := by
  intro i hi k hk
  have b := corn_bd h hi hk
  have c := inB_true hq
  unfold vw
  refine ⟨?_, ?_, ?_⟩
  · show -384 ≤ P (F i k).toNat 0 - q0 ∧ P (F i k).toNat 0 - q0 ≤ 384
    omega
  · show -384 ≤ P (F i k).toNat 1 - q1 ∧ P (F i k).toNat 1 - q1 ≤ 384
    omega
  · show -384 ≤ P (F i k).toNat 2 - q2 ∧ P (F i k).toNat 2 - q2 ≤ 384
    omega
theorem nrm_of (h : validE n P m F = 0) {i : Nat} (hi : i < m) (q0 q1 q2 : Int) :
    ¬ (nX (P (F i 0).toNat 0 - q0) (P (F i 0).toNat 1 - q1) (P (F i 0).toNat 2 - q2) (P (F i 1).toNat 0 - q0) (P (F i 1).toNat 1 - q1) (P (F i 1).toNat 2 - q2) (P (F i 2).toNat 0 - q0) (P (F i 2).toNat 1 - q1) (P (F i 2).toNat 2 - q2) = 0 ∧
      nY (P (F i 0).toNat 0 - q0) (P (F i 0).toNat 1 - q1) (P (F i 0).toNat 2 - q2) (P (F i 1).toNat 0 - q0) (P (F i 1).toNat 1 - q1) (P (F i 1).toNat 2 - q2) (P (F i 2).toNat 0 - q0) (P (F i 2).toNat 1 - q1) (P (F i 2).toNat 2 - q2) = 0 ∧
      nZ (P (F i 0).toNat 0 - q0) (P (F i 0).toNat 1 - q1) (P (F i 0).toNat 2 - q2) (P (F i 1).toNat 0 - q0) (P (F i 1).toNat 1 - q1) (P (F i 1).toNat 2 - q2) (P (F i 2).toNat 0 - q0) (P (F i 2).toNat 1 - q1) (P (F i 2).toNat 2 - q2) = 0) := by
  obtain ⟨-, -, -, hf, -⟩ := validE_ok h
  obtain ⟨-, fb⟩ := faceE_0 (facesE_at hf i hi)
  rw [nX_move, nY_move, nZ_move]
  intro c
  unfold flatB at fb
  rw [decide_eq_false_iff_not] at fb
  exact fb c
theorem nrm_b (h : validE n P m F = 0) {i : Nat} (hi : i < m) (q0 q1 q2 : Int) :
    (-524287 ≤ nX (P (F i 0).toNat 0 - q0) (P (F i 0).toNat 1 - q1) (P (F i 0).toNat 2 - q2) (P (F i 1).toNat 0 - q0) (P (F i 1).toNat 1 - q1) (P (F i 1).toNat 2 - q2) (P (F i 2).toNat 0 - q0) (P (F i 2).toNat 1 - q1) (P (F i 2).toNat 2 - q2) ∧ nX (P (F i 0).toNat 0 - q0) (P (F i 0).toNat 1 - q1) (P (F i 0).toNat 2 - q2) (P (F i 1).toNat 0 - q0) (P (F i 1).toNat 1 - q1) (P (F i 1).toNat 2 - q2) (P (F i 2).toNat 0 - q0) (P (F i 2).toNat 1 - q1) (P (F i 2).toNat 2 - q2) ≤ 524287) ∧
    (-524287 ≤ nY (P (F i 0).toNat 0 - q0) (P (F i 0).toNat 1 - q1) (P (F i 0).toNat 2 - q2) (P (F i 1).toNat 0 - q0) (P (F i 1).toNat 1 - q1) (P (F i 1).toNat 2 - q2) (P (F i 2).toNat 0 - q0) (P (F i 2).toNat 1 - q1) (P (F i 2).toNat 2 - q2) ∧ nY (P (F i 0).toNat 0 - q0) (P (F i 0).toNat 1 - q1) (P (F i 0).toNat 2 - q2) (P (F i 1).toNat 0 - q0) (P (F i 1).toNat 1 - q1) (P (F i 1).toNat 2 - q2) (P (F i 2).toNat 0 - q0) (P (F i 2).toNat 1 - q1) (P (F i 2).toNat 2 - q2) ≤ 524287) ∧
    (-524287 ≤ nZ (P (F i 0).toNat 0 - q0) (P (F i 0).toNat 1 - q1) (P (F i 0).toNat 2 - q2) (P (F i 1).toNat 0 - q0) (P (F i 1).toNat 1 - q1) (P (F i 1).toNat 2 - q2) (P (F i 2).toNat 0 - q0) (P (F i 2).toNat 1 - q1) (P (F i 2).toNat 2 - q2) ∧ nZ (P (F i 0).toNat 0 - q0) (P (F i 0).toNat 1 - q1) (P (F i 0).toNat 2 - q2) (P (F i 1).toNat 0 - q0) (P (F i 1).toNat 1 - q1) (P (F i 1).toNat 2 - q2) (P (F i 2).toNat 0 - q0) (P (F i 2).toNat 1 - q1) (P (F i 2).toNat 2 - q2) ≤ 524287) := by
  have b0 := corn_bd h hi (k := 0) (by omega)
  have b1 := corn_bd h hi (k := 1) (by omega)
  have b2 := corn_bd h hi (k := 2) (by omega)
  rw [nX_move, nY_move, nZ_move]
  revert b0 b1 b2
  generalize P (F i 0).toNat 0 = p0, P (F i 0).toNat 1 = p1, P (F i 0).toNat 2 = p2, P (F i 1).toNat 0 = p3, P (F i 1).toNat 1 = p4, P (F i 1).toNat 2 = p5, P (F i 2).toNat 0 = p6, P (F i 2).toNat 1 = p7, P (F i 2).toNat 2 = p8
  intro b0 b1 b2
  unfold nX nY nZ
  have a1 := mul_sq 128 16384 (show -128 ≤ p4 - p1 ∧ p4 - p1 ≤ 128 by omega) (show -128 ≤ p8 - p2 ∧ p8 - p2 ≤ 128 by omega) rfl
  have a2 := mul_sq 128 16384 (show -128 ≤ p5 - p2 ∧ p5 - p2 ≤ 128 by omega) (show -128 ≤ p7 - p1 ∧ p7 - p1 ≤ 128 by omega) rfl
  have a3 := mul_sq 128 16384 (show -128 ≤ p5 - p2 ∧ p5 - p2 ≤ 128 by omega) (show -128 ≤ p6 - p0 ∧ p6 - p0 ≤ 128 by omega) rfl
  have a4 := mul_sq 128 16384 (show -128 ≤ p3 - p0 ∧ p3 - p0 ≤ 128 by omega) (show -128 ≤ p8 - p2 ∧ p8 - p2 ≤ 128 by omega) rfl
  have a5 := mul_sq 128 16384 (show -128 ≤ p3 - p0 ∧ p3 - p0 ≤ 128 by omega) (show -128 ≤ p7 - p1 ∧ p7 - p1 ≤ 128 by omega) rfl
  have a6 := mul_sq 128 16384 (show -128 ≤ p4 - p1 ∧ p4 - p1 ≤ 128 by omega) (show -128 ≤ p6 - p0 ∧ p6 - p0 ≤ 128 by omega) rfl
  revert a1 a2 a3 a4 a5 a6
  generalize (p4 - p1) * (p8 - p2) = t1, (p5 - p2) * (p7 - p1) = t2, (p5 - p2) * (p6 - p0) = t3, (p3 - p0) * (p8 - p2) = t4, (p3 - p0) * (p7 - p1) = t5, (p4 - p1) * (p6 - p0) = t6
  intro a1 a2 a3 a4 a5 a6
  omega
theorem inB_T {x : Int} (hq : inB q0 q1 q2 x = true) : inB (-q1) q0 q2 x = true ∧ inB (-q0) q1 q2 x = true := by
  have := inB_true hq
  exact ⟨inB_mk (by omega), inB_mk (by omega)⟩
/-- Turned and mirrored: the same winding number, the same error. -/
theorem wa_T (h : validE n P m F = 0) (ht : validE n (turnP P) m F = 0) (hq : inB q0 q1 q2 256 = true) : winE n (turnP P) m F (-q1) q0 q2 = winE n P m F q0 q1 q2 ∧ winV n (turnP P) m F (-q1) q0 q2 = winV n P m F q0 q1 q2 := by
  have hq2 := (inB_T hq).1
  rw [winE_valid h, winE_valid ht, winV_valid h hq, winV_valid ht hq2, if_pos hq, if_pos hq2, on_T]
  refine ⟨rfl, ?_⟩
  by_cases ho : onS P F q0 q1 q2 m = true
  · rw [if_pos ho, if_pos ho]
  · obtain ⟨al, ha⟩ := (clo_of h).oth
    rw [if_neg ho, if_neg ho]
    exact (wsum_alike ha (near_of h hq) (fun i hi => nrm_of h hi q0 q1 q2) (fun i hi => nrm_b h hi q0 q1 q2) (by simpa using ho)).1
theorem wa_M (h : validE n P m F = 0) (ht : validE n (mirP P) m (mirF F) = 0) (hq : inB q0 q1 q2 256 = true) : winE n (mirP P) m (mirF F) (-q0) q1 q2 = winE n P m F q0 q1 q2 ∧ winV n (mirP P) m (mirF F) (-q0) q1 q2 = winV n P m F q0 q1 q2 := by
  have hq2 := (inB_T hq).2
  rw [winE_valid h, winE_valid ht, winV_valid h hq, winV_valid ht hq2, if_pos hq, if_pos hq2, on_M]
  refine ⟨rfl, ?_⟩
  by_cases ho : onS P F q0 q1 q2 m = true
  · rw [if_pos ho, if_pos ho]
  · obtain ⟨al, ha⟩ := (clo_of h).oth
    rw [if_neg ho, if_neg ho]
    exact (wsum_alike ha (near_of h hq) (fun i hi => nrm_of h hi q0 q1 q2) (fun i hi => nrm_b h hi q0 q1 q2) (by simpa using ho)).2
theorem wa_V (v0 v1 v2 : Int) (h : validE n P m F = 0) (ht : validE n (movP P v0 v1 v2) m F = 0) (hq : inB q0 q1 q2 256 = true) : winE n (movP P v0 v1 v2) m F (q0 + v0) (q1 + v1) (q2 + v2) = 1 ∨ (winE n (movP P v0 v1 v2) m F (q0 + v0) (q1 + v1) (q2 + v2) = winE n P m F q0 q1 q2 ∧ winV n (movP P v0 v1 v2) m F (q0 + v0) (q1 + v1) (q2 + v2) = winV n P m F q0 q1 q2) := by
  by_cases hq2 : inB (q0 + v0) (q1 + v1) (q2 + v2) 256 = true
  · refine .inr ?_
    rw [winE_valid h, winE_valid ht, winV_valid h hq, winV_valid ht hq2, if_pos hq, if_pos hq2, on_V, wsum_V]
    exact ⟨rfl, rfl⟩
  · refine .inl ?_
    rw [winE_valid ht, if_neg hq2]
theorem wa_F (hal : Oth F al m) (h : validE n P m F = 0) (ht : validE (npt n al (3 * m)) (finP n m P F al) (4 * m) (finF n F al) = 0) (hq : inB q0 q1 q2 256 = true) : winE (npt n al (3 * m)) (finP n m P F al) (4 * m) (finF n F al) (2 * q0) (2 * q1) (2 * q2) = 1 ∨ (winE (npt n al (3 * m)) (finP n m P F al) (4 * m) (finF n F al) (2 * q0) (2 * q1) (2 * q2) = winE n P m F q0 q1 q2 ∧ winV (npt n al (3 * m)) (finP n m P F al) (4 * m) (finF n F al) (2 * q0) (2 * q1) (2 * q2) = winV n P m F q0 q1 q2) := by
  by_cases hq2 : inB (2 * q0) (2 * q1) (2 * q2) 256 = true
  · refine .inr ?_
    have c := inB_true hq2
    have e1 := fin_on (P := P) (q0 := q0) (q1 := q1) (q2 := q2) hal (clo_of h).inn fun i hi => by
      have := nrm_of h hi q0 q1 q2
      revert this
      generalize nX _ _ _ _ _ _ _ _ _ = x, nY _ _ _ _ _ _ _ _ _ = y, nZ _ _ _ _ _ _ _ _ _ = z
      intro hz
      unfold d3
      have sx : 0 ≤ x * x := mul_self_nonneg' x
      have sy : 0 ≤ y * y := mul_self_nonneg' y
      have sz : 0 ≤ z * z := mul_self_nonneg' z
      by_cases x0 : x = 0
      · by_cases y0 : y = 0
        · have : 0 < z * z := mul_self_pos' (fun z0 => hz ⟨x0, y0, z0⟩)
          omega
        · have : 0 < y * y := mul_self_pos' y0
          omega
      · have : 0 < x * x := mul_self_pos' x0
        omega
    have e2 := fin_wsum (P := P) (q0 := q0) (q1 := q1) (q2 := q2) hal (clo_of h).inn fun i hi k hk => by
      have b := corn_bd h hi hk
      unfold Nr
      omega
    rw [winE_valid h, winE_valid ht, winV_valid h hq, winV_valid ht hq2, if_pos hq, if_pos hq2, e1, e2]
    exact ⟨rfl, rfl⟩
  · refine .inl ?_
    rw [winE_valid ht, if_neg hq2]
end
end Go.Proofs.Ytbhcjdgfcinpcaa
