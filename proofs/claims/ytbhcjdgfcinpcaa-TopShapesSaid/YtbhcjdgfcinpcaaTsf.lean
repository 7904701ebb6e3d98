/- How moving, scaling, turning, mirroring and cutting finer change volume and center of a closed surface. Plain facts. Conditions: those of each theorem. Center and area of a surface that is scaled or cut finer, and winding numbers of two surfaces together. Plain facts. Conditions: those of each theorem. -/
import Derived.Test.YtbhcjdgfcinpcaaWra
import Derived.Test.YtbhcjdgfcinpcaaFnq
import Derived.Test.YtbhcjdgfcinpcaaGrc
import Derived.Test.YtbhcjdgfcinpcaaWrq
import Derived.Test.YtbhcjdgfcinpcaaUns
import Derived.Test.YtbhcjdgfcinpcaaGar
import Derived.Test.YtbhcjdgfcinpcaaMeet
namespace Go.Proofs.Ytbhcjdgfcinpcaa
set_option linter.unusedVariables false
set_option linter.unusedSimpArgs false
theorem sumZ_add (f g : Nat → Int) : ∀ m, sumZ (fun i => f i + g i) m = sumZ f m + sumZ g m
  | 0 => rfl
  | m + 1 => by
    show sumZ (fun i => f i + g i) m + (f m + g m) = sumZ f m + f m + (sumZ g m + g m)
    rw [sumZ_add f g m]
    omega
theorem sumZ_mul (t : Int) (f : Nat → Int) : ∀ m, sumZ (fun i => t * f i) m = t * sumZ f m
  | 0 => (Int.mul_zero t).symm
  | m + 1 => by
    show sumZ (fun i => t * f i) m + t * f m = t * (sumZ f m + f m)
    rw [sumZ_mul t f m, Int.mul_add]
def cl (K : Nat) (x : Int) : Int := max (-(K : Int)) (min (K : Int) x)
theorem cl_sum {F : Nat → Nat → Int} {al : Nat → Nat} {m : Nat} (ho : Oth F al m) {g : Nat → Int} (h2 : ∀ a, a < 3 * m → g (al a) = -g a) : ∀ K : Nat, sumZ (fun a => cl K (g a)) (3 * m) = 0
  | 0 => by
    have e : (fun a => cl 0 (g a)) = fun _ => (0 : Int) * 0 := by
      funext a
      unfold cl
      omega
    rw [e, sumZ_mul 0 (fun _ => 0)]
    omega
  | K + 1 => by
    have z := sides_zero ho (g := fun a => cl (K + 1) (g a) - cl K (g a)) (fun a _ => by simp only [cl]; omega) (fun a ha => by
      have := h2 a ha
      simp only [cl]
      omega)
    have e : (fun a => cl (K + 1) (g a)) = fun a => cl K (g a) + (cl (K + 1) (g a) - cl K (g a)) := by
      funext a
      omega
    rw [e, sumZ_add (fun a => cl K (g a)) (fun a => cl (K + 1) (g a) - cl K (g a)), cl_sum ho h2 K, z]
    omega
theorem bound_ex (g : Nat → Int) : ∀ N : Nat, ∃ K : Nat, ∀ a, a < N → -(K : Int) ≤ g a ∧ g a ≤ K
  | 0 => ⟨0, fun a h => absurd h (by omega)⟩
  | N + 1 => by
    obtain ⟨K, hK⟩ := bound_ex g N
    refine ⟨K + (g N).natAbs, fun a ha => ?_⟩
    by_cases q : a = N
    · subst q
      omega
    · have := hK a (by omega)
      omega
/-- What sides give cancels, if a side and its other give opposite numbers. -/
theorem sides_none {F : Nat → Nat → Int} {al : Nat → Nat} {m : Nat} (ho : Oth F al m) {g : Nat → Int} (h2 : ∀ a, a < 3 * m → g (al a) = -g a) : sumZ g (3 * m) = 0 := by
  obtain ⟨K, hK⟩ := bound_ex g (3 * m)
  rw [← cl_sum ho h2 K]
  refine sumZ_congr fun a ha => ?_
  have := hK a ha
  unfold cl
  omega
theorem edge_sum (G : Int → Int → Int) (F : Nat → Nat → Int) : ∀ m, sumZ (fun i => G (F i 0) (F i 1) + G (F i 1) (F i 2) + G (F i 2) (F i 0)) m = sumZ (fun a => G (tl F a) (tl F (nxt a))) (3 * m)
  | 0 => rfl
  | m + 1 => by
    have ih := edge_sum G F m
    have e1 : sumZ (fun i => G (F i 0) (F i 1) + G (F i 1) (F i 2) + G (F i 2) (F i 0)) (m + 1) = sumZ (fun i => G (F i 0) (F i 1) + G (F i 1) (F i 2) + G (F i 2) (F i 0)) m + (G (F m 0) (F m 1) + G (F m 1) (F m 2) + G (F m 2) (F m 0)) := rfl
    have e3 : sumZ (fun a => G (tl F a) (tl F (nxt a))) (3 * (m + 1)) = sumZ (fun a => G (tl F a) (tl F (nxt a))) (3 * m) + G (tl F (3 * m + 0)) (tl F (nxt (3 * m + 0))) + G (tl F (3 * m + 1)) (tl F (nxt (3 * m + 1))) + G (tl F (3 * m + 2)) (tl F (nxt (3 * m + 2))) := rfl
    rw [nxt_at m 0 (by omega), nxt_at m 1 (by omega), nxt_at m 2 (by omega), tl_at F m 0 (by omega), tl_at F m 1 (by omega), tl_at F m 2 (by omega)] at e3
    omega
theorem edge_zero {F : Nat → Nat → Int} {al : Nat → Nat} {m : Nat} (ho : Oth F al m) (G : Int → Int → Int) (hG : ∀ p q, G q p = -G p q) : sumZ (fun i => G (F i 0) (F i 1) + G (F i 1) (F i 2) + G (F i 2) (F i 0)) m = 0 := by
  rw [edge_sum]
  refine sides_none ho fun a ha => ?_
  obtain ⟨-, b1, b2⟩ := ho.nb a ha
  simp only [b1, b2]
  exact hG _ _
theorem vol_sum (P F : Nat → Nat → Int) : ∀ m, vol P F m = sumZ (prF P F) m
  | 0 => rfl
  | m + 1 => by
    show vol P F m + prF P F m = sumZ (prF P F) m + prF P F m
    rw [vol_sum P F m]
theorem cen_sum (P F : Nat → Nat → Int) (c : Nat) : ∀ m, cen P F c m = sumZ (fun i => prF P F i * (co P F i 0 c + co P F i 1 c + co P F i 2 c)) m
  | 0 => rfl
  | m + 1 => by
    show cen P F c m + _ = sumZ _ m + _
    rw [cen_sum P F c m]
/-- The product of a vector with two points. -/
def crS (v0 v1 v2 a0 a1 a2 b0 b1 b2 : Int) : Int := v0 * (a1 * b2 - a2 * b1) + v1 * (a2 * b0 - a0 * b2) + v2 * (a0 * b1 - a1 * b0)
theorem crS_anti (v0 v1 v2 a0 a1 a2 b0 b1 b2 : Int) : crS v0 v1 v2 b0 b1 b2 a0 a1 a2 = -crS v0 v1 v2 a0 a1 a2 b0 b1 b2 := by
  unfold crS
  grind
theorem pr9_move (v0 v1 v2 a0 a1 a2 b0 b1 b2 c0 c1 c2 : Int) : pr9 (a0 + v0) (a1 + v1) (a2 + v2) (b0 + v0) (b1 + v1) (b2 + v2) (c0 + v0) (c1 + v1) (c2 + v2) = pr9 a0 a1 a2 b0 b1 b2 c0 c1 c2 + (crS v0 v1 v2 a0 a1 a2 b0 b1 b2 + crS v0 v1 v2 b0 b1 b2 c0 c1 c2 + crS v0 v1 v2 c0 c1 c2 a0 a1 a2) := by
  unfold pr9 crS
  grind
theorem cr_cyc (v0 v1 v2 a0 a1 a2 b0 b1 b2 c0 c1 c2 : Int) : pr9 a0 a1 a2 b0 b1 b2 c0 c1 c2 * v0 = crS v0 v1 v2 b0 b1 b2 c0 c1 c2 * a0 + crS v0 v1 v2 c0 c1 c2 a0 a1 a2 * b0 + crS v0 v1 v2 a0 a1 a2 b0 b1 b2 * c0 ∧
    pr9 a0 a1 a2 b0 b1 b2 c0 c1 c2 * v1 = crS v0 v1 v2 b0 b1 b2 c0 c1 c2 * a1 + crS v0 v1 v2 c0 c1 c2 a0 a1 a2 * b1 + crS v0 v1 v2 a0 a1 a2 b0 b1 b2 * c1 ∧
    pr9 a0 a1 a2 b0 b1 b2 c0 c1 c2 * v2 = crS v0 v1 v2 b0 b1 b2 c0 c1 c2 * a2 + crS v0 v1 v2 c0 c1 c2 a0 a1 a2 * b2 + crS v0 v1 v2 a0 a1 a2 b0 b1 b2 * c2 := by
  unfold pr9 crS
  refine ⟨?_, ?_, ?_⟩ <;> grind
theorem cen_alg (D R S T a b c v : Int) (h : D * v = S * a + T * b + R * c) : (D + (R + S + T)) * (a + v + (b + v) + (c + v)) = D * (a + b + c) + (4 * v) * D + (R * (a + b + 3 * v) + S * (b + c + 3 * v) + T * (c + a + 3 * v)) := by
  grind
section
variable {n m : Nat} {P F : Nat → Nat → Int} {al : Nat → Nat}
def crV (v0 v1 v2 : Int) (P : Nat → Nat → Int) (p q : Int) : Int := crS v0 v1 v2 (P p.toNat 0) (P p.toNat 1) (P p.toNat 2) (P q.toNat 0) (P q.toNat 1) (P q.toNat 2)
def vc (v0 v1 v2 : Int) (c : Nat) : Int := if c = 0 then v0 else if c = 1 then v1 else v2
def ceG (v0 v1 v2 : Int) (c : Nat) (P : Nat → Nat → Int) (p q : Int) : Int := crV v0 v1 v2 P p q * (P p.toNat c + P q.toNat c + 3 * vc v0 v1 v2 c)
theorem pr_mv (v0 v1 v2 : Int) (i : Nat) : prF (movP P v0 v1 v2) F i = prF P F i + (crV v0 v1 v2 P (F i 0) (F i 1) + crV v0 v1 v2 P (F i 1) (F i 2) + crV v0 v1 v2 P (F i 2) (F i 0)) := by
  have := pr9_move v0 v1 v2 (P (F i 0).toNat 0) (P (F i 0).toNat 1) (P (F i 0).toNat 2) (P (F i 1).toNat 0) (P (F i 1).toNat 1) (P (F i 1).toNat 2) (P (F i 2).toNat 0) (P (F i 2).toNat 1) (P (F i 2).toNat 2)
  unfold prF co crV movP
  simp only [if_true, if_false, Nat.one_ne_zero, Nat.reduceEqDiff]
  exact this
/-- A moved surface: the same volume; the center goes with it. -/
theorem vol_V (ho : Oth F al m) (v0 v1 v2 : Int) : vol (movP P v0 v1 v2) F m = vol P F m := by
  rw [vol_sum, vol_sum, show prF (movP P v0 v1 v2) F = fun i => prF P F i + (crV v0 v1 v2 P (F i 0) (F i 1) + crV v0 v1 v2 P (F i 1) (F i 2) + crV v0 v1 v2 P (F i 2) (F i 0)) from funext fun i => pr_mv _ _ _ i, sumZ_add, edge_zero ho (crV v0 v1 v2 P) (fun p q => crS_anti _ _ _ _ _ _ _ _ _), Int.add_zero]
theorem cen_V (ho : Oth F al m) (v0 v1 v2 : Int) {c : Nat} (hc : c < 3) : cen (movP P v0 v1 v2) F c m = cen P F c m + 4 * vol P F m * vc v0 v1 v2 c := by
  have e : ∀ i, prF (movP P v0 v1 v2) F i * (co (movP P v0 v1 v2) F i 0 c + co (movP P v0 v1 v2) F i 1 c + co (movP P v0 v1 v2) F i 2 c) = prF P F i * (co P F i 0 c + co P F i 1 c + co P F i 2 c) + ((4 * vc v0 v1 v2 c) * prF P F i +
      (ceG v0 v1 v2 c P (F i 0) (F i 1) + ceG v0 v1 v2 c P (F i 1) (F i 2) + ceG v0 v1 v2 c P (F i 2) (F i 0))) := fun i => by
    have hq : prF P F i * vc v0 v1 v2 c = crV v0 v1 v2 P (F i 1) (F i 2) * P (F i 0).toNat c + crV v0 v1 v2 P (F i 2) (F i 0) * P (F i 1).toNat c + crV v0 v1 v2 P (F i 0) (F i 1) * P (F i 2).toNat c := by
      have := cr_cyc v0 v1 v2 (P (F i 0).toNat 0) (P (F i 0).toNat 1) (P (F i 0).toNat 2) (P (F i 1).toNat 0) (P (F i 1).toNat 1) (P (F i 1).toNat 2) (P (F i 2).toNat 0) (P (F i 2).toNat 1) (P (F i 2).toNat 2)
      unfold prF co crV vc
      rcases (show c = 0 ∨ c = 1 ∨ c = 2 by omega) with rfl | rfl | rfl
      · exact this.1
      · exact this.2.1
      · exact this.2.2
    rw [pr_mv]
    exact Eq.trans (cen_alg _ _ _ _ _ _ _ _ hq) (Int.add_assoc _ _ _)
  rw [cen_sum, cen_sum, vol_sum, sumZ_congr (fun i _ => e i), sumZ_add, sumZ_add, sumZ_mul, edge_zero ho (ceG v0 v1 v2 c P) (fun p q => ?_), Int.add_zero]
  · rw [Int.mul_assoc 4, Int.mul_assoc 4, Int.mul_comm (sumZ _ _)]
  · unfold ceG
    rw [show crV v0 v1 v2 P q p = -crV v0 v1 v2 P p q from crS_anti _ _ _ _ _ _ _ _ _, Int.neg_mul, Int.add_comm (P q.toNat c)]
/-- A scaled surface. -/
theorem pr9_scale (k : Int) (v0 v1 v2 v3 v4 v5 v6 v7 v8 : Int) : pr9 (k * v0) (k * v1) (k * v2) (k * v3) (k * v4) (k * v5) (k * v6) (k * v7) (k * v8) = k * k * k * pr9 v0 v1 v2 v3 v4 v5 v6 v7 v8 := by
  unfold pr9
  grind
theorem vol_S (k : Int) : vol (sclP P k) F m = k * k * k * vol P F m := by
  rw [vol_sum, vol_sum, show prF (sclP P k) F = fun i => k * k * k * prF P F i from funext fun i => pr9_scale _ _ _ _ _ _ _ _ _ _, sumZ_mul]
theorem cen_S (k : Int) (c : Nat) : cen (sclP P k) F c m = k * k * k * k * cen P F c m := by
  have e : ∀ i, prF (sclP P k) F i * (co (sclP P k) F i 0 c + co (sclP P k) F i 1 c + co (sclP P k) F i 2 c) = k * k * k * k * (prF P F i * (co P F i 0 c + co P F i 1 c + co P F i 2 c)) := fun i => by
    rw [show prF (sclP P k) F i = k * k * k * prF P F i from pr9_scale _ _ _ _ _ _ _ _ _ _]
    show _ * (k * co P F i 0 c + k * co P F i 1 c + k * co P F i 2 c) = _
    grind
  rw [cen_sum, cen_sum, sumZ_congr (fun i _ => e i), sumZ_mul]
/-- A turned surface. -/
theorem vol_T : vol (turnP P) F m = vol P F m ∧ cen (turnP P) F 0 m = -cen P F 1 m ∧ cen (turnP P) F 1 m = cen P F 0 m ∧ cen (turnP P) F 2 m = cen P F 2 m := by
  have e : prF (turnP P) F = prF P F := funext fun i => by
    show pr9 (-(co P F i 0 1)) (co P F i 0 0) (co P F i 0 2) (-(co P F i 1 1)) (co P F i 1 0) (co P F i 1 2) (-(co P F i 2 1)) (co P F i 2 0) (co P F i 2 2) = pr9 (co P F i 0 0) (co P F i 0 1) (co P F i 0 2) (co P F i 1 0) (co P F i 1 1) (co P F i 1 2) (co P F i 2 0) (co P F i 2 1) (co P F i 2 2)
    unfold pr9
    grind
  refine ⟨by rw [vol_sum, vol_sum, e], ?_, by rw [cen_sum, cen_sum, e]; rfl, by rw [cen_sum, cen_sum, e]; rfl⟩
  rw [cen_sum, cen_sum, e, show -sumZ (fun i => prF P F i * (co P F i 0 1 + co P F i 1 1 + co P F i 2 1)) m = (-1) * sumZ (fun i => prF P F i * (co P F i 0 1 + co P F i 1 1 + co P F i 2 1)) m by omega, ← sumZ_mul]
  refine sumZ_congr fun i _ => ?_
  show prF P F i * (-(co P F i 0 1) + -(co P F i 1 1) + -(co P F i 2 1)) = _
  grind
theorem vol_M : vol (mirP P) (mirF F) m = vol P F m ∧ cen (mirP P) (mirF F) 0 m = -cen P F 0 m ∧ cen (mirP P) (mirF F) 1 m = cen P F 1 m ∧ cen (mirP P) (mirF F) 2 m = cen P F 2 m := by
  have e : prF (mirP P) (mirF F) = prF P F := funext fun i => by
    show pr9 (-(co P F i 0 0)) (co P F i 0 1) (co P F i 0 2) (-(co P F i 2 0)) (co P F i 2 1) (co P F i 2 2) (-(co P F i 1 0)) (co P F i 1 1) (co P F i 1 2) = pr9 (co P F i 0 0) (co P F i 0 1) (co P F i 0 2) (co P F i 1 0) (co P F i 1 1) (co P F i 1 2) (co P F i 2 0) (co P F i 2 1) (co P F i 2 2)
    unfold pr9
    grind
  have s : ∀ c, c = 1 ∨ c = 2 → cen (mirP P) (mirF F) c m = cen P F c m := fun c hc => by
    rw [cen_sum, cen_sum, e]
    refine sumZ_congr fun i _ => ?_
    rcases hc with rfl | rfl
    · show prF P F i * (co P F i 0 1 + co P F i 2 1 + co P F i 1 1) = _
      rw [Int.add_right_comm]
    · show prF P F i * (co P F i 0 2 + co P F i 2 2 + co P F i 1 2) = _
      rw [Int.add_right_comm]
  refine ⟨by rw [vol_sum, vol_sum, e], ?_, s 1 (.inl rfl), s 2 (.inr rfl)⟩
  rw [cen_sum, cen_sum, e, show -sumZ (fun i => prF P F i * (co P F i 0 0 + co P F i 1 0 + co P F i 2 0)) m = (-1) * sumZ (fun i => prF P F i * (co P F i 0 0 + co P F i 1 0 + co P F i 2 0)) m by omega, ← sumZ_mul]
  refine sumZ_congr fun i _ => ?_
  show prF P F i * (-(co P F i 0 0) + -(co P F i 2 0) + -(co P F i 1 0)) = _
  grind
/-- The four parts of a triangle: the normal of each, and what they give to the center. -/
theorem nrm_part (a0 a1 a2 b0 b1 b2 c0 c1 c2 : Int) :
    (nX (2 * a0) (2 * a1) (2 * a2) (a0 + b0) (a1 + b1) (a2 + b2) (c0 + a0) (c1 + a1) (c2 + a2) = nX a0 a1 a2 b0 b1 b2 c0 c1 c2 ∧ nY (2 * a0) (2 * a1) (2 * a2) (a0 + b0) (a1 + b1) (a2 + b2) (c0 + a0) (c1 + a1) (c2 + a2) = nY a0 a1 a2 b0 b1 b2 c0 c1 c2 ∧ nZ (2 * a0) (2 * a1) (2 * a2) (a0 + b0) (a1 + b1) (a2 + b2) (c0 + a0) (c1 + a1) (c2 + a2) = nZ a0 a1 a2 b0 b1 b2 c0 c1 c2) ∧
    (nX (a0 + b0) (a1 + b1) (a2 + b2) (2 * b0) (2 * b1) (2 * b2) (b0 + c0) (b1 + c1) (b2 + c2) = nX a0 a1 a2 b0 b1 b2 c0 c1 c2 ∧ nY (a0 + b0) (a1 + b1) (a2 + b2) (2 * b0) (2 * b1) (2 * b2) (b0 + c0) (b1 + c1) (b2 + c2) = nY a0 a1 a2 b0 b1 b2 c0 c1 c2 ∧ nZ (a0 + b0) (a1 + b1) (a2 + b2) (2 * b0) (2 * b1) (2 * b2) (b0 + c0) (b1 + c1) (b2 + c2) = nZ a0 a1 a2 b0 b1 b2 c0 c1 c2) ∧
    (nX (c0 + a0) (c1 + a1) (c2 + a2) (b0 + c0) (b1 + c1) (b2 + c2) (2 * c0) (2 * c1) (2 * c2) = nX a0 a1 a2 b0 b1 b2 c0 c1 c2 ∧ nY (c0 + a0) (c1 + a1) (c2 + a2) (b0 + c0) (b1 + c1) (b2 + c2) (2 * c0) (2 * c1) (2 * c2) = nY a0 a1 a2 b0 b1 b2 c0 c1 c2 ∧ nZ (c0 + a0) (c1 + a1) (c2 + a2) (b0 + c0) (b1 + c1) (b2 + c2) (2 * c0) (2 * c1) (2 * c2) = nZ a0 a1 a2 b0 b1 b2 c0 c1 c2) ∧
    (nX (a0 + b0) (a1 + b1) (a2 + b2) (b0 + c0) (b1 + c1) (b2 + c2) (c0 + a0) (c1 + a1) (c2 + a2) = nX a0 a1 a2 b0 b1 b2 c0 c1 c2 ∧ nY (a0 + b0) (a1 + b1) (a2 + b2) (b0 + c0) (b1 + c1) (b2 + c2) (c0 + a0) (c1 + a1) (c2 + a2) = nY a0 a1 a2 b0 b1 b2 c0 c1 c2 ∧ nZ (a0 + b0) (a1 + b1) (a2 + b2) (b0 + c0) (b1 + c1) (b2 + c2) (c0 + a0) (c1 + a1) (c2 + a2) = nZ a0 a1 a2 b0 b1 b2 c0 c1 c2) := by
  unfold nX nY nZ
  refine ⟨⟨?_, ?_, ?_⟩, ⟨?_, ?_, ?_⟩, ⟨?_, ?_, ?_⟩, ⟨?_, ?_, ?_⟩⟩ <;> grind
theorem cen_four (a0 a1 a2 b0 b1 b2 c0 c1 c2 : Int) (x y z : Int) :
    pr9 (2 * a0) (2 * a1) (2 * a2) (a0 + b0) (a1 + b1) (a2 + b2) (c0 + a0) (c1 + a1) (c2 + a2) * (2 * x + (x + y) + (z + x)) + pr9 (a0 + b0) (a1 + b1) (a2 + b2) (2 * b0) (2 * b1) (2 * b2) (b0 + c0) (b1 + c1) (b2 + c2) * ((x + y) + 2 * y + (y + z)) +
      pr9 (c0 + a0) (c1 + a1) (c2 + a2) (b0 + c0) (b1 + c1) (b2 + c2) (2 * c0) (2 * c1) (2 * c2) * ((z + x) + (y + z) + 2 * z) + pr9 (a0 + b0) (a1 + b1) (a2 + b2) (b0 + c0) (b1 + c1) (b2 + c2) (c0 + a0) (c1 + a1) (c2 + a2) * ((x + y) + (y + z) + (z + x)) = 16 * (pr9 a0 a1 a2 b0 b1 b2 c0 c1 c2 * (x + y + z)) := by
  have e1 : pr9 (2 * a0) (2 * a1) (2 * a2) (a0 + b0) (a1 + b1) (a2 + b2) (c0 + a0) (c1 + a1) (c2 + a2) = 2 * pr9 a0 a1 a2 b0 b1 b2 c0 c1 c2 := by unfold pr9; grind
  have e2 : pr9 (a0 + b0) (a1 + b1) (a2 + b2) (2 * b0) (2 * b1) (2 * b2) (b0 + c0) (b1 + c1) (b2 + c2) = 2 * pr9 a0 a1 a2 b0 b1 b2 c0 c1 c2 := by unfold pr9; grind
  have e3 : pr9 (c0 + a0) (c1 + a1) (c2 + a2) (b0 + c0) (b1 + c1) (b2 + c2) (2 * c0) (2 * c1) (2 * c2) = 2 * pr9 a0 a1 a2 b0 b1 b2 c0 c1 c2 := by unfold pr9; grind
  have e4 : pr9 (a0 + b0) (a1 + b1) (a2 + b2) (b0 + c0) (b1 + c1) (b2 + c2) (c0 + a0) (c1 + a1) (c2 + a2) = 2 * pr9 a0 a1 a2 b0 b1 b2 c0 c1 c2 := by unfold pr9; grind
  rw [e1, e2, e3, e4]
  grind
end
end Go.Proofs.Ytbhcjdgfcinpcaa
namespace Go.Proofs.Ytbhcjdgfcinpcaa
set_option linter.unusedVariables false
set_option linter.unusedSimpArgs false
section
variable {n m : Nat} {P F : Nat → Nat → Int} {al : Nat → Nat}
theorem fin_pco (ho : Oth F al m) (hin : ∀ i, i < m → ∀ k, k < 3 → 0 ≤ F i k ∧ F i k < n) {i : Nat} (hi : i < m) (j : Nat) :
    (co (finP n m P F al) (finF n F al) (4 * i) 0 j = 2 * P (F i 0).toNat j ∧ co (finP n m P F al) (finF n F al) (4 * i) 1 j = P (F i 0).toNat j + P (F i 1).toNat j ∧ co (finP n m P F al) (finF n F al) (4 * i) 2 j = P (F i 2).toNat j + P (F i 0).toNat j) ∧
    (co (finP n m P F al) (finF n F al) (4 * i + 1) 0 j = P (F i 0).toNat j + P (F i 1).toNat j ∧ co (finP n m P F al) (finF n F al) (4 * i + 1) 1 j = 2 * P (F i 1).toNat j ∧ co (finP n m P F al) (finF n F al) (4 * i + 1) 2 j = P (F i 1).toNat j + P (F i 2).toNat j) ∧
    (co (finP n m P F al) (finF n F al) (4 * i + 2) 0 j = P (F i 2).toNat j + P (F i 0).toNat j ∧ co (finP n m P F al) (finF n F al) (4 * i + 2) 1 j = P (F i 1).toNat j + P (F i 2).toNat j ∧ co (finP n m P F al) (finF n F al) (4 * i + 2) 2 j = 2 * P (F i 2).toNat j) ∧
    (co (finP n m P F al) (finF n F al) (4 * i + 3) 0 j = P (F i 0).toNat j + P (F i 1).toNat j ∧ co (finP n m P F al) (finF n F al) (4 * i + 3) 1 j = P (F i 1).toNat j + P (F i 2).toNat j ∧ co (finP n m P F al) (finF n F al) (4 * i + 3) 2 j = P (F i 2).toNat j + P (F i 0).toNat j) := by
  have old : ∀ k, k < 3 → finP n m P F al (F i k).toNat j = 2 * P (F i k).toNat j := fun k hk => by
    have := hin i hi k hk
    unfold finP
    rw [if_pos (by omega)]
  have m0 := fin_mid_pt (n := n) (P := P) ho i 0 j hi (by omega)
  have m1 := fin_mid_pt (n := n) (P := P) ho i 1 j hi (by omega)
  have m2 := fin_mid_pt (n := n) (P := P) ho i 2 j hi (by omega)
  simp only [Nat.add_zero, show (0 + 1) % 3 = 1 from rfl, show (1 + 1) % 3 = 2 from rfl, show (2 + 1) % 3 = 0 from rfl] at m0 m1 m2
  have o0 := old 0 (by omega)
  have o1 := old 1 (by omega)
  have o2 := old 2 (by omega)
  have e : ∀ c, c < 4 → ∀ k, finF n F al (4 * i + c) k = fin4 (F i 0) (F i 1) (F i 2) (midN n al (3 * i)) (midN n al (3 * i + 1)) (midN n al (3 * i + 2)) c k := fun c hc k => by
    unfold finF
    rw [show (4 * i + c) / 4 = i by omega, show (4 * i + c) % 4 = c by omega]
  have e0 := e 0 (by omega)
  have e1 := e 1 (by omega)
  have e2 := e 2 (by omega)
  have e3 := e 3 (by omega)
  rw [Nat.add_zero] at e0
  unfold co
  simp only [e0, e1, e2, e3, fin4, if_true, if_false, show ¬ (2 : Nat) = 0 by omega, show ¬ (2 : Nat) = 1 by omega, show ¬ (3 : Nat) = 0 by omega, show ¬ (3 : Nat) = 1 by omega, show ¬ (3 : Nat) = 2 by omega, show ¬ (1 : Nat) = 0 by omega, Int.toNat_natCast, m0, m1, m2, o0, o1, o2, and_self]
def cenF (P F : Nat → Nat → Int) (c i : Nat) : Int := prF P F i * (co P F i 0 c + co P F i 1 c + co P F i 2 c)
theorem fin_cen (ho : Oth F al m) (hin : ∀ i, i < m → ∀ k, k < 3 → 0 ≤ F i k ∧ F i k < n) (c : Nat) : cen (finP n m P F al) (finF n F al) c (4 * m) = 16 * cen P F c m := by
  have one : ∀ i, i < m → cenF (finP n m P F al) (finF n F al) c (4 * i) + cenF (finP n m P F al) (finF n F al) c (4 * i + 1) + cenF (finP n m P F al) (finF n F al) c (4 * i + 2) + cenF (finP n m P F al) (finF n F al) c (4 * i + 3) = 16 * cenF P F c i := by
    intro i hi
    obtain ⟨⟨a0, a1, a2⟩, ⟨b0, b1, b2⟩, ⟨c0, c1, c2⟩, ⟨d0, d1, d2⟩⟩ := fin_pco (n := n) (P := P) ho hin hi 0
    obtain ⟨⟨a3, a4, a5⟩, ⟨b3, b4, b5⟩, ⟨c3, c4, c5⟩, ⟨d3, d4, d5⟩⟩ := fin_pco (n := n) (P := P) ho hin hi 1
    obtain ⟨⟨a6, a7, a8⟩, ⟨b6, b7, b8⟩, ⟨c6, c7, c8⟩, ⟨d6, d7, d8⟩⟩ := fin_pco (n := n) (P := P) ho hin hi 2
    obtain ⟨⟨x0, x1, x2⟩, ⟨x3, x4, x5⟩, ⟨x6, x7, x8⟩, ⟨y0, y1, y2⟩⟩ := fin_pco (n := n) (P := P) ho hin hi c
    have := cen_four (P (F i 0).toNat 0) (P (F i 0).toNat 1) (P (F i 0).toNat 2) (P (F i 1).toNat 0) (P (F i 1).toNat 1) (P (F i 1).toNat 2) (P (F i 2).toNat 0) (P (F i 2).toNat 1) (P (F i 2).toNat 2) (P (F i 0).toNat c) (P (F i 1).toNat c) (P (F i 2).toNat c)
    unfold cenF prF
    simp only [a0, a1, a2, a3, a4, a5, a6, a7, a8, b0, b1, b2, b3, b4, b5, b6, b7, b8, c0, c1, c2, c3, c4, c5, c6, c7, c8, d0, d1, d2, d3, d4, d5, d6, d7, d8, x0, x1, x2, x3, x4, x5, x6, x7, x8, y0, y1, y2]
    exact this
  have key : ∀ k, k ≤ m → cen (finP n m P F al) (finF n F al) c (4 * k) = 16 * cen P F c k := by
    intro k
    induction k with
    | zero => exact fun _ => rfl
    | succ k ih =>
      intro hk
      have h1 := one k (by omega)
      have h2 := ih (by omega)
      show cen _ _ c (4 * k) + cenF _ _ c (4 * k) + cenF _ _ c (4 * k + 1) + cenF _ _ c (4 * k + 2) + cenF _ _ c (4 * k + 3) = 16 * (cen P F c k + cenF P F c k)
      omega
  exact key m (Nat.le_refl _)
theorem fin_nn (ho : Oth F al m) (hin : ∀ i, i < m → ∀ k, k < 3 → 0 ≤ F i k ∧ F i k < n) {i : Nat} (hi : i < m) : nnF (finP n m P F al) (finF n F al) (4 * i) = nnF P F i ∧ nnF (finP n m P F al) (finF n F al) (4 * i + 1) = nnF P F i ∧ nnF (finP n m P F al) (finF n F al) (4 * i + 2) = nnF P F i ∧ nnF (finP n m P F al) (finF n F al) (4 * i + 3) = nnF P F i := by
  obtain ⟨⟨a0, a1, a2⟩, ⟨b0, b1, b2⟩, ⟨c0, c1, c2⟩, ⟨d0, d1, d2⟩⟩ := fin_pco (n := n) (P := P) ho hin hi 0
  obtain ⟨⟨a3, a4, a5⟩, ⟨b3, b4, b5⟩, ⟨c3, c4, c5⟩, ⟨d3, d4, d5⟩⟩ := fin_pco (n := n) (P := P) ho hin hi 1
  obtain ⟨⟨a6, a7, a8⟩, ⟨b6, b7, b8⟩, ⟨c6, c7, c8⟩, ⟨d6, d7, d8⟩⟩ := fin_pco (n := n) (P := P) ho hin hi 2
  obtain ⟨⟨r0, r1, r2⟩, ⟨r3, r4, r5⟩, ⟨r6, r7, r8⟩, ⟨s0, s1, s2⟩⟩ := nrm_part (P (F i 0).toNat 0) (P (F i 0).toNat 1) (P (F i 0).toNat 2) (P (F i 1).toNat 0) (P (F i 1).toNat 1) (P (F i 1).toNat 2) (P (F i 2).toNat 0) (P (F i 2).toNat 1) (P (F i 2).toNat 2)
  unfold nnF
  simp only [a0, a1, a2, a3, a4, a5, a6, a7, a8, b0, b1, b2, b3, b4, b5, b6, b7, b8, c0, c1, c2, c3, c4, c5, c6, c7, c8, d0, d1, d2, d3, d4, d5, d6, d7, d8, r0, r1, r2, r3, r4, r5, r6, r7, r8, s0, s1, s2]
  exact ⟨rfl, rfl, rfl, rfl⟩
theorem fin_ar (ho : Oth F al m) (hin : ∀ i, i < m → ∀ k, k < 3 → 0 ≤ F i k ∧ F i k < n) (j : Nat) : sumF (4 * m) (fun k => arF (finP n m P F al) (finF n F al) k j) = 4 * sumF m (fun k => arF P F k j) := by
  have key : ∀ k, k ≤ m → sumF (4 * k) (fun k => arF (finP n m P F al) (finF n F al) k j) = 4 * sumF k (fun k => arF P F k j) := by
    intro k
    induction k with
    | zero => exact fun _ => rfl
    | succ k ih =>
      intro hk
      obtain ⟨n0, n1, n2, n3⟩ := fin_nn (n := n) (P := P) ho hin (show k < m by omega)
      have h2 := ih (by omega)
      have e0 : arF (finP n m P F al) (finF n F al) (4 * k) j = arF P F k j := by unfold arF; rw [n0]
      have e1 : arF (finP n m P F al) (finF n F al) (4 * k + 1) j = arF P F k j := by unfold arF; rw [n1]
      have e2 : arF (finP n m P F al) (finF n F al) (4 * k + 2) j = arF P F k j := by unfold arF; rw [n2]
      have e3 : arF (finP n m P F al) (finF n F al) (4 * k + 3) j = arF P F k j := by unfold arF; rw [n3]
      show sumF (4 * k) _ + arF _ _ (4 * k) j + arF _ _ (4 * k + 1) j + arF _ _ (4 * k + 2) j + arF _ _ (4 * k + 3) j = 4 * (sumF k _ + arF P F k j)
      omega
  exact key m (Nat.le_refl _)
/-- What an area is worth, where it has no error. -/
theorem area_ok (h : (areaS n P m F).e = 0) : validE n P m F = 0 ∧ (areaS n P m F).lo = sumF m (fun k => arF P F k 0) ∧ (areaS n P m F).hi = sumF m (fun k => arF P F k 1) ∧ validB (areaS n P m F).lo (areaS n P m F).hi = true := by
  by_cases hv : validE n P m F = 0
  · have e : areaS n P m F = sumsS m (fun k => arF P F k 0) (fun k => arF P F k 1) := if_pos hv
    rw [e] at h ⊢
    refine ⟨hv, ?_⟩
    unfold sumsS at h ⊢
    rcases tot_cases m (fun k => arF P F k 0) (fun k => arF P F k 1) with ⟨t, -⟩ | t | t
    · rw [t] at h ⊢
      rw [if_pos rfl] at h ⊢
      unfold resultS at h ⊢
      split at h
      · rename_i q
        rw [if_pos q]
        exact ⟨rfl, rfl, q⟩
      · cases h
    · rw [t] at h
      rw [if_neg (by decide)] at h
      cases h
    · rw [t] at h
      rw [if_neg (by decide)] at h
      cases h
  · have e : areaS n P m F = ⟨0, 0, validE n P m F⟩ := if_neg hv
    rw [e] at h
    exact absurd h hv
theorem scale_okT {a b k : Int} (h : (scaleS a b k).e = 0) (hk : 0 ≤ k) : (scaleS a b k).lo = a * k ∧ (scaleS a b k).hi = b * k ∧ validB (scaleS a b k).lo (scaleS a b k).hi = true := by
  unfold scaleS at h ⊢
  split at h
  · rename_i q
    rw [if_pos q]
    unfold resultS at h ⊢
    split at h
    · rename_i r
      rw [if_pos r]
      have hab : a ≤ b := by
        simp only [Bool.and_eq_true] at q
        have := of_decide_eq_true q.1
        omega
      have hm := Int.mul_le_mul_of_nonneg_right hab hk
      have r' := of_decide_eq_true r
      have pa : prodS a k = a * k ∧ prodS b k = b * k := by
        unfold prodS at r' ⊢
        revert r' hm
        generalize a * k = x, b * k = y
        intro hm r'
        constructor <;> split at * <;> split at * <;> split at * <;> omega
      rw [pa.1, pa.2]
      refine ⟨by simp only; omega, by simp only; omega, ?_⟩
      rw [pa.1, pa.2] at r
      exact r
    · cases h
  · cases h
/-- Spans that have a number in common. -/
theorem meet_ok {a b c d : Int} (h1 : validB a b = true) (h2 : validB c d = true) (h3 : a ≤ d) (h4 : c ≤ b) : (meetS a b c d).ok = true ∧ (meetS a b c d).e = 0 := by
  have k1 := of_decide_eq_true h1
  have k2 := of_decide_eq_true h2
  unfold meetS
  rw [h1, h2, show (true && true) = true from rfl, if_pos rfl, if_pos (by omega)]
  exact ⟨rfl, rfl⟩
theorem sumF_le {f g : Nat → Int} : ∀ {m : Nat}, (∀ i, i < m → f i ≤ g i) → sumF m f ≤ sumF m g
  | 0, _ => Int.le_refl _
  | m + 1, h => by
    have a := sumF_le (m := m) (fun i hi => h i (by omega))
    have b := h m (by omega)
    show sumF m f + f m ≤ sumF m g + g m
    omega
theorem sumF_mul (t : Int) (f : Nat → Int) : ∀ m, sumF m (fun i => f i * t) = sumF m f * t
  | 0 => (Int.zero_mul t).symm
  | m + 1 => by
    show sumF m (fun i => f i * t) + f m * t = (sumF m f + f m) * t
    rw [sumF_mul t f m, Int.add_mul]
/-- A moved surface has the same area. -/
theorem nn_move (v0 v1 v2 : Int) (k : Nat) : nnF (movP P v0 v1 v2) F k = nnF P F k := by
  have hX := nX_move (P (F k 0).toNat 0) (P (F k 0).toNat 1) (P (F k 0).toNat 2) (P (F k 1).toNat 0) (P (F k 1).toNat 1) (P (F k 1).toNat 2) (P (F k 2).toNat 0) (P (F k 2).toNat 1) (P (F k 2).toNat 2) (-v0) (-v1) (-v2)
  have hY := nY_move (P (F k 0).toNat 0) (P (F k 0).toNat 1) (P (F k 0).toNat 2) (P (F k 1).toNat 0) (P (F k 1).toNat 1) (P (F k 1).toNat 2) (P (F k 2).toNat 0) (P (F k 2).toNat 1) (P (F k 2).toNat 2) (-v0) (-v1) (-v2)
  have hZ := nZ_move (P (F k 0).toNat 0) (P (F k 0).toNat 1) (P (F k 0).toNat 2) (P (F k 1).toNat 0) (P (F k 1).toNat 1) (P (F k 1).toNat 2) (P (F k 2).toNat 0) (P (F k 2).toNat 1) (P (F k 2).toNat 2) (-v0) (-v1) (-v2)
  simp only [Int.sub_neg] at hX hY hZ
  unfold nnF co movP
  simp only [if_true, if_false, Nat.one_ne_zero, Nat.reduceEqDiff, hX, hY, hZ]
theorem area_V (v0 v1 v2 : Int) (h1 : validE n P m F = 0) (h2 : validE n (movP P v0 v1 v2) m F = 0) : areaS n (movP P v0 v1 v2) m F = areaS n P m F := by
  unfold areaS
  rw [if_pos h1, if_pos h2]
  have e : ∀ k j, arF (movP P v0 v1 v2) F k j = arF P F k j := fun k j => by
    unfold arF
    rw [nn_move]
  simp only [e]
theorem nX_scale (k : Int) (v0 v1 v2 v3 v4 v5 v6 v7 v8 : Int) : nX (k * v0) (k * v1) (k * v2) (k * v3) (k * v4) (k * v5) (k * v6) (k * v7) (k * v8) = k * k * nX v0 v1 v2 v3 v4 v5 v6 v7 v8 := by unfold nX; grind
theorem nY_scale (k : Int) (v0 v1 v2 v3 v4 v5 v6 v7 v8 : Int) : nY (k * v0) (k * v1) (k * v2) (k * v3) (k * v4) (k * v5) (k * v6) (k * v7) (k * v8) = k * k * nY v0 v1 v2 v3 v4 v5 v6 v7 v8 := by unfold nY; grind
theorem nZ_scale (k : Int) (v0 v1 v2 v3 v4 v5 v6 v7 v8 : Int) : nZ (k * v0) (k * v1) (k * v2) (k * v3) (k * v4) (k * v5) (k * v6) (k * v7) (k * v8) = k * k * nZ v0 v1 v2 v3 v4 v5 v6 v7 v8 := by unfold nZ; grind
theorem nn_scale (k : Int) (i : Nat) : nnF (sclP P k) F i = (k * k) * (k * k) * nnF P F i := by
  unfold nnF co sclP
  simp only [nX_scale, nY_scale, nZ_scale]
  grind
theorem len_sq2 {q : Int} (h : 0 ≤ q ∧ q ≤ 17179869184) : 0 ≤ (lenS q).lo ∧ (lenS q).lo ≤ (lenS q).hi ∧ (lenS q).hi ≤ 274877906944 ∧ (lenS q).lo * (lenS q).lo ≤ q * 1099511627776 ∧ q * 1099511627776 ≤ (lenS q).hi * (lenS q).hi := by
  obtain ⟨l1, l2, l3, l4⟩ := len_ok h
  refine ⟨l2, l3, l4, ?_⟩
  obtain ⟨s0, s1, s2⟩ := sqrtS_spec (show 0 ≤ q * 1099511627776 by omega)
  have s3 : sqrtS (q * 1099511627776) ≤ 137438953472 := of_sq_le (by decide) (by omega)
  have key : ∀ a b : Int, 0 ≤ a → a ≤ b → b ≤ 137438953473 → resultS a b = ⟨a, b, 0⟩ := fun a b h1 h2 h3 => by
    unfold resultS
    rw [if_pos (show validB a b = true from decide_eq_true (by omega))]
  unfold lenS
  rw [if_pos (by omega)]
  split
  · rw [key _ _ s0 (Int.le_refl _) (by omega)]
    exact ⟨s1, by simp only; omega⟩
  · rw [key _ _ s0 (by omega) (by omega)]
    exact ⟨s1, by simp only; omega⟩
theorem part_2 {l h : Int} (b : 0 ≤ l ∧ l ≤ h ∧ h ≤ 274877906944) : partS l h 2 = ⟨l / 2, -(-h / 2), 0⟩ := by
  have hv : validB l h = true := decide_eq_true (by omega)
  unfold partS
  rw [hv]
  simp only [Bool.true_and]
  rw [if_pos (by decide)]
  unfold resultS
  rw [if_pos (show validB (l / 2) (-(-h / 2)) = true from decide_eq_true (by omega))]
theorem half_alg {K l h x y : Int} (hK : 0 ≤ K) (h1 : x ≤ K * h) (h2 : K * l ≤ y) : x / 2 ≤ -(-h / 2) * K ∧ l / 2 * K ≤ -(-y / 2) := by
  have a : h ≤ 2 * -(-h / 2) := by omega
  have b : 2 * (l / 2) ≤ l := by omega
  have a' := Int.mul_le_mul_of_nonneg_left a hK
  have b' := Int.mul_le_mul_of_nonneg_left b hK
  have e1 : K * (2 * -(-h / 2)) = 2 * (-(-h / 2) * K) := by grind
  have e2 : K * (2 * (l / 2)) = 2 * (l / 2 * K) := by grind
  omega
/-- A scaled surface: both ways to its area have a number in common. -/
theorem ar_scale {k : Int} (hk : 1 ≤ k) {i : Nat} (hb1 : 0 ≤ nnF P F i ∧ nnF P F i ≤ 17179869184) (hb2 : 0 ≤ nnF (sclP P k) F i ∧ nnF (sclP P k) F i ≤ 17179869184) : arF (sclP P k) F i 0 ≤ arF P F i 1 * (k * k) ∧ arF P F i 0 * (k * k) ≤ arF (sclP P k) F i 1 := by
  obtain ⟨a1, a2, a3, a4, a5⟩ := len_sq2 hb1
  obtain ⟨b1, b2, b3, b4, b5⟩ := len_sq2 hb2
  show (partS (lenS (nnF (sclP P k) F i)).lo (lenS (nnF (sclP P k) F i)).hi 2).lo ≤ (partS (lenS (nnF P F i)).lo (lenS (nnF P F i)).hi 2).hi * (k * k) ∧ (partS (lenS (nnF P F i)).lo (lenS (nnF P F i)).hi 2).lo * (k * k) ≤ (partS (lenS (nnF (sclP P k) F i)).lo (lenS (nnF (sclP P k) F i)).hi 2).hi
  rw [part_2 ⟨a1, a2, a3⟩, part_2 ⟨b1, b2, b3⟩]
  have e := nn_scale (P := P) (F := F) k i
  have hK : 0 ≤ k * k := Int.mul_nonneg (by omega) (by omega)
  revert a1 a2 a3 a4 a5 b1 b2 b3 b4 b5 e
  clear hb1 hb2
  generalize nnF P F i = q, nnF (sclP P k) F i = q'
  generalize (lenS q).lo = l, (lenS q).hi = h, (lenS q').lo = x, (lenS q').hi = y
  generalize k * k = K at *
  rintro a1 a2 - a4 a5 b1 b2 - b4 b5 rfl
  refine half_alg hK ?_ ?_
  · refine of_sq_le (Int.mul_nonneg hK (by omega)) ?_
    have := Int.mul_le_mul_of_nonneg_left a5 (Int.mul_nonneg hK hK)
    have e1 : K * h * (K * h) = K * K * (h * h) := by grind
    have e2 : K * K * (q * 1099511627776) = K * K * q * 1099511627776 := by grind
    omega
  · refine of_sq_le (by omega) ?_
    have := Int.mul_le_mul_of_nonneg_left a4 (Int.mul_nonneg hK hK)
    have e1 : K * l * (K * l) = K * K * (l * l) := by grind
    have e2 : K * K * (q * 1099511627776) = K * K * q * 1099511627776 := by grind
    omega
theorem nn_of (h : validE n P m F = 0) {i : Nat} (hi : i < m) : 0 ≤ nnF P F i ∧ nnF P F i ≤ 17179869184 := by
  obtain ⟨-, -, hb, hf, -⟩ := validE_ok h
  exact nnF_bd hb (faceE_0 (facesE_at hf i hi)).1
theorem area_S {k : Int} (hk : 1 ≤ k) (h1 : (areaS n P m F).e = 0) (h2 : (areaS n (sclP P k) m F).e = 0) (h3 : (scaleS (areaS n P m F).lo (areaS n P m F).hi (k * k)).e = 0) :
    (meetS (areaS n (sclP P k) m F).lo (areaS n (sclP P k) m F).hi (scaleS (areaS n P m F).lo (areaS n P m F).hi (k * k)).lo (scaleS (areaS n P m F).lo (areaS n P m F).hi (k * k)).hi).ok = true ∧
    (meetS (areaS n (sclP P k) m F).lo (areaS n (sclP P k) m F).hi (scaleS (areaS n P m F).lo (areaS n P m F).hi (k * k)).lo (scaleS (areaS n P m F).lo (areaS n P m F).hi (k * k)).hi).e = 0 := by
  obtain ⟨v1, l1, u1, -⟩ := area_ok h1
  obtain ⟨v2, l2, u2, r2⟩ := area_ok h2
  obtain ⟨l3, u3, r3⟩ := scale_okT h3 (Int.mul_nonneg (by omega) (by omega))
  refine meet_ok r2 r3 ?_ ?_
  · rw [l2, u3, u1, ← sumF_mul]
    exact sumF_le fun i hi => (ar_scale hk (nn_of v1 hi) (nn_of v2 hi)).1
  · rw [l3, u2, l1, ← sumF_mul]
    exact sumF_le fun i hi => (ar_scale hk (nn_of v1 hi) (nn_of v2 hi)).2
/-- A surface that is cut finer. -/
theorem area_F (ho : Oth F al m) (h1 : (areaS n P m F).e = 0) (h2 : (areaS (npt n al (3 * m)) (finP n m P F al) (4 * m) (finF n F al)).e = 0) (h3 : (scaleS (areaS n P m F).lo (areaS n P m F).hi 4).e = 0) :
    (meetS (areaS (npt n al (3 * m)) (finP n m P F al) (4 * m) (finF n F al)).lo (areaS (npt n al (3 * m)) (finP n m P F al) (4 * m) (finF n F al)).hi (scaleS (areaS n P m F).lo (areaS n P m F).hi 4).lo (scaleS (areaS n P m F).lo (areaS n P m F).hi 4).hi).ok = true ∧
    (meetS (areaS (npt n al (3 * m)) (finP n m P F al) (4 * m) (finF n F al)).lo (areaS (npt n al (3 * m)) (finP n m P F al) (4 * m) (finF n F al)).hi (scaleS (areaS n P m F).lo (areaS n P m F).hi 4).lo (scaleS (areaS n P m F).lo (areaS n P m F).hi 4).hi).e = 0 := by
  obtain ⟨v1, l1, u1, r1⟩ := area_ok h1
  obtain ⟨v2, l2, u2, r2⟩ := area_ok h2
  obtain ⟨l3, u3, r3⟩ := scale_okT h3 (by omega)
  have k1 := of_decide_eq_true r1
  have hin := (clo_of v1).inn
  rw [fin_ar ho hin] at l2 u2
  refine meet_ok r2 r3 ?_ ?_ <;> omega
end
section
variable {n m n2 m2 : Nat} {P F Q G : Nat → Nat → Int} {q0 q1 q2 : Int}
theorem uni_co (h1 : ∀ i, i < m → ∀ k, k < 3 → 0 ≤ F i k ∧ F i k < n) (h2 : ∀ i, i < m2 → ∀ k, k < 3 → 0 ≤ G i k ∧ G i k < n2) :
    (∀ i, i < m → ∀ k, k < 3 → ∀ c, co (uniP n P Q) (uniF n m F G) i k c = co P F i k c) ∧ (∀ i, i < m2 → ∀ k, k < 3 → ∀ c, co (uniP n P Q) (uniF n m F G) (m + i) k c = co Q G i k c) := by
  refine ⟨fun i hi k hk c => ?_, fun i hi k hk c => ?_⟩
  · have := h1 i hi k hk
    unfold co uniF uniP
    rw [if_pos hi, if_pos (by omega)]
  · have := h2 i hi k hk
    have e1 : uniF n m F G (m + i) k = G i k + n := by
      unfold uniF
      rw [if_neg (by omega), Nat.add_sub_cancel_left]
    have e2 : (G i k + n).toNat = (G i k).toNat + n := by omega
    unfold co
    rw [e1, e2]
    unfold uniP
    rw [if_neg (by omega), Nat.add_sub_cancel]
theorem any_add (f : Nat → Bool) (m : Nat) : ∀ k, (List.range (m + k)).any f = ((List.range m).any f || (List.range k).any fun i => f (m + i))
  | 0 => by simp
  | k + 1 => by
    rw [← Nat.add_assoc, List.range_succ, List.any_append, any_add f m k, List.range_succ, List.any_append]
    simp [Bool.or_assoc]
theorem any_congr2 {f g : Nat → Bool} {m : Nat} (h : ∀ i, i < m → f i = g i) : (List.range m).any f = (List.range m).any g := by
  rw [Bool.eq_iff_iff]
  simp only [List.any_eq_true, List.mem_range]
  exact ⟨fun ⟨i, hi, e⟩ => ⟨i, hi, by rw [← h i hi]; exact e⟩, fun ⟨i, hi, e⟩ => ⟨i, hi, by rw [h i hi]; exact e⟩⟩
theorem uni_on (h1 : ∀ i, i < m → ∀ k, k < 3 → 0 ≤ F i k ∧ F i k < n) (h2 : ∀ i, i < m2 → ∀ k, k < 3 → 0 ≤ G i k ∧ G i k < n2) : onS (uniP n P Q) (uniF n m F G) q0 q1 q2 (m + m2) = (onS P F q0 q1 q2 m || onS Q G q0 q1 q2 m2) := by
  obtain ⟨a, b⟩ := uni_co (P := P) (Q := Q) h1 h2
  unfold onS
  rw [any_add, any_congr2 (g := fun k => tchF P F q0 q1 q2 k) (fun i hi => ?_), any_congr2 (m := m2) (g := fun k => tchF Q G q0 q1 q2 k) (fun i hi => ?_)]
  · unfold tchF
    simp only [b i hi 0 (by omega), b i hi 1 (by omega), b i hi 2 (by omega)]
  · unfold tchF
    simp only [a i hi 0 (by omega), a i hi 1 (by omega), a i hi 2 (by omega)]
theorem sumZ_split (f : Nat → Int) (m : Nat) : ∀ k, sumZ f (m + k) = sumZ f m + sumZ (fun i => f (m + i)) k
  | 0 => (Int.add_zero _).symm
  | k + 1 => by
    show sumZ f (m + k) + f (m + k) = sumZ f m + (sumZ (fun i => f (m + i)) k + f (m + k))
    rw [sumZ_split f m k]
    omega
theorem uni_wsum (h1 : ∀ i, i < m → ∀ k, k < 3 → 0 ≤ F i k ∧ F i k < n) (h2 : ∀ i, i < m2 → ∀ k, k < 3 → 0 ≤ G i k ∧ G i k < n2) : wsum (uniP n P Q) (uniF n m F G) q0 q1 q2 (m + m2) = wsum P F q0 q1 q2 m + wsum Q G q0 q1 q2 m2 := by
  obtain ⟨a, b⟩ := uni_co (P := P) (Q := Q) h1 h2
  rw [wsum_sum, wsum_sum, wsum_sum, sumZ_split, sumZ_congr (g := wndF P F q0 q1 q2) (fun i hi => ?_), sumZ_congr (m := m2) (g := wndF Q G q0 q1 q2) (fun i hi => ?_)]
  · unfold wndF
    simp only [b i hi 0 (by omega), b i hi 1 (by omega), b i hi 2 (by omega)]
  · unfold wndF
    simp only [a i hi 0 (by omega), a i hi 1 (by omega), a i hi 2 (by omega)]
theorem uniE_0 (h : uniE n P m F n2 Q m2 G = 0) : validE n P m F = 0 ∧ validE n2 Q m2 G = 0 ∧ validE (n + n2) (uniP n P Q) (m + m2) (uniF n m F G) = 0 := by
  unfold uniE at h
  split at h
  · rename_i q; exact absurd h q
  · rename_i q
    split at h
    · rename_i r; exact absurd h r
    · rename_i r
      exact ⟨by simpa using q, by simpa using r, h⟩
/-- Winding numbers of two surfaces together. -/
theorem uni_win (v1 : validE n P m F = 0) (v2 : validE n2 Q m2 G = 0) (v3 : validE (n + n2) (uniP n P Q) (m + m2) (uniF n m F G) = 0) :
    (winE n P m F q0 q1 q2 = 1 ∧ winE n2 Q m2 G q0 q1 q2 = 1 ∧ winE (n + n2) (uniP n P Q) (m + m2) (uniF n m F G) q0 q1 q2 = 1) ∨
    (winE n P m F q0 q1 q2 = 9 ∧ winE (n + n2) (uniP n P Q) (m + m2) (uniF n m F G) q0 q1 q2 = 9) ∨
    (winE n P m F q0 q1 q2 = 0 ∧ winE n2 Q m2 G q0 q1 q2 = 9 ∧ winE (n + n2) (uniP n P Q) (m + m2) (uniF n m F G) q0 q1 q2 = 9) ∨
    (winE n P m F q0 q1 q2 = 0 ∧ winE n2 Q m2 G q0 q1 q2 = 0 ∧ winE (n + n2) (uniP n P Q) (m + m2) (uniF n m F G) q0 q1 q2 = 0 ∧ winV (n + n2) (uniP n P Q) (m + m2) (uniF n m F G) q0 q1 q2 = winV n P m F q0 q1 q2 + winV n2 Q m2 G q0 q1 q2) := by
  rw [winE_valid v1, winE_valid v2, winE_valid v3]
  by_cases hq : inB q0 q1 q2 256 = true
  · rw [winV_valid v1 hq, winV_valid v2 hq, winV_valid v3 hq, uni_on (clo_of v1).inn (clo_of v2).inn, uni_wsum (clo_of v1).inn (clo_of v2).inn]
    rw [if_pos hq, if_pos hq, if_pos hq]
    cases onS P F q0 q1 q2 m <;> cases onS Q G q0 q1 q2 m2 <;> simp
  · rw [if_neg hq, if_neg hq, if_neg hq]
    exact .inl ⟨rfl, rfl, rfl⟩
end
end Go.Proofs.Ytbhcjdgfcinpcaa
