/- Signs of three numbers and of three others: plain facts for the winding number under two rays. Conditions: those of each theorem. What a face gives to the winding number under two rays: the difference is a sum over its sides. Plain facts. Conditions: those of each theorem. The winding number of a closed surface is the same along two rays: sums over sides cancel. Plain facts. Conditions: those of each theorem. The program's winding number along whole rays: its own, the mirrored one and the turned one. Plain facts. Conditions: bounds. Faces along the program's ray, the mirrored and the turned one: bounds. Plain facts. Conditions: those of each theorem. The winding number of a closed surface that is turned or mirrored. Plain facts. Conditions: those of each theorem. Whether a point lies on a surface, when both are turned, mirrored or moved. Plain facts. Conditions: those of each theorem. A triangle cut in four: its part of the winding number is the sum of theirs, and a point lies on it if it lies on one of them. Plain facts. Conditions: those of each theorem. -/
import Derived.Test.YtbhcjdgfcinpcaaGwl
import Derived.Test.YtbhcjdgfcinpcaaUfp
import Derived.Test.YtbhcjdgfcinpcaaGcq
namespace Go.Proofs.Ytbhcjdgfcinpcaa
set_option linter.unusedVariables false
set_option linter.unusedSimpArgs false
/-- What a side gives when the ray changes: its ends on the two sides of the plane of both rays, its signs for both. -/
def dlt (x y p q : Int) : Int := (if x < 0 ∧ 0 ≤ y ∧ q < 0 ∧ 0 < p then 1 else 0) - (if 0 ≤ x ∧ y < 0 ∧ 0 < q ∧ p < 0 then 1 else 0)
theorem dlt_anti (x y p q : Int) : dlt y x (-p) (-q) = -dlt x y p q := by
  unfold dlt
  split <;> split <;> split <;> split <;> omega
/-- All three are positive. -/
def pos3 (p1 p2 p3 : Int) : Int := if 0 < p1 ∧ 0 < p2 ∧ 0 < p3 then 1 else 0
def dB (a b s t : Bool) : Int := (if (a && !b && !t && s) = true then 1 else 0) - (if (!a && b && t && !s) = true then 1 else 0)
def pB (s1 s2 s3 : Bool) : Int := if (s1 && s2 && s3) = true then 1 else 0
def oneB (u v a : Bool) : Bool := !(u && !v && a) && !(!u && v && !a)
def conB (s1 s2 s3 a b c : Bool) : Bool :=
  !((s1 != a) && (s2 != b) && (s3 != c) && ((!s1 && a) || (!s2 && b) || (!s3 && c))) && !((s1 == a) && (s2 == b) && (s3 == c) && ((s1 && a) || (s2 && b) || (s3 && c))) && !(s1 && s2 && s3 && !a && !b && !c) && !(!s1 && !s2 && !s3 && !a && !b && !c)
set_option maxRecDepth 100000 in
theorem core1B : ∀ s1 s2 s3 t1 t2 t3 a b c : Bool, oneB (s2 == t3) (s3 == t2) a = true → oneB (s3 == t1) (s1 == t3) b = true → oneB (s1 == t2) (s2 == t1) c = true → conB s1 s2 s3 a b c = true → pB s1 s2 s3 - pB t1 t2 t3 = dB a b s3 t3 + dB b c s1 t1 + dB c a s2 t2 := by
  decide
theorem cls (p x : Int) (hp : p ≠ 0) : (decide (0 < p) = true ∧ decide (x < 0) = true ∧ p * x < 0) ∨ (decide (0 < p) = true ∧ decide (x < 0) = false ∧ 0 ≤ p * x ∧ (p * x = 0 → x = 0)) ∨ (decide (0 < p) = false ∧ decide (x < 0) = true ∧ 0 < p * x) ∨ (decide (0 < p) = false ∧ decide (x < 0) = false ∧ p * x ≤ 0 ∧ (p * x = 0 → x = 0)) := by
  have hz : p * x = 0 → x = 0 := fun h => (Int.mul_eq_zero.1 h).resolve_left hp
  simp only [decide_eq_true_eq, decide_eq_false_iff_not]
  rcases (show p < 0 ∨ 0 < p by omega) with h | h <;> rcases (show x < 0 ∨ 0 ≤ x by omega) with k | k
  · exact .inr (.inr (.inl ⟨by omega, k, Int.mul_pos_of_neg_of_neg h k⟩))
  · exact .inr (.inr (.inr ⟨by omega, by omega, Int.mul_nonpos_of_nonpos_of_nonneg (by omega) k, hz⟩))
  · exact .inl ⟨h, k, Int.mul_neg_of_pos_of_neg h k⟩
  · exact .inr (.inl ⟨h, by omega, Int.mul_nonneg (by omega) k, hz⟩)
theorem con_of {p1 p2 p3 x y z : Int} (h1 : p1 ≠ 0) (h2 : p2 ≠ 0) (h3 : p3 ≠ 0) (hs : p1 * x + p2 * y + p3 * z = 0) (hn : ¬ (x = 0 ∧ y = 0 ∧ z = 0)) : conB (decide (0 < p1)) (decide (0 < p2)) (decide (0 < p3)) (decide (x < 0)) (decide (y < 0)) (decide (z < 0)) = true := by
  have c1 := cls p1 x h1
  have c2 := cls p2 y h2
  have c3 := cls p3 z h3
  generalize p1 * x = u at *
  generalize p2 * y = v at *
  generalize p3 * z = w at *
  rcases c1 with ⟨a1, a2, a3⟩ | ⟨a1, a2, a3, a4⟩ | ⟨a1, a2, a3⟩ | ⟨a1, a2, a3, a4⟩ <;> rcases c2 with ⟨b1, b2, b3⟩ | ⟨b1, b2, b3, b4⟩ | ⟨b1, b2, b3⟩ | ⟨b1, b2, b3, b4⟩ <;> rcases c3 with ⟨d1, d2, d3⟩ | ⟨d1, d2, d3, d4⟩ | ⟨d1, d2, d3⟩ | ⟨d1, d2, d3, d4⟩ <;> rw [a1, a2, b1, b2, d1, d2] <;> first | rfl | (exfalso; omega)
theorem one_of {p q r s x : Int} (h1 : p ≠ 0) (h2 : q ≠ 0) (h3 : r ≠ 0) (h4 : s ≠ 0) (hx : x = p * q - r * s) : oneB (decide (0 < p) == decide (0 < q)) (decide (0 < r) == decide (0 < s)) (decide (x < 0)) = true := by
  have e1 : decide (0 < p * q) = (decide (0 < p) == decide (0 < q)) ∧ p * q ≠ 0 := by
    refine ⟨?_, fun h => by rcases Int.mul_eq_zero.1 h with h | h <;> omega⟩
    rcases (show p < 0 ∨ 0 < p by omega) with h | h <;> rcases (show q < 0 ∨ 0 < q by omega) with k | k
    · simp [Int.mul_pos_of_neg_of_neg h k, show ¬ 0 < p by omega, show ¬ 0 < q by omega]
    · have := Int.mul_neg_of_neg_of_pos h k
      simp [show ¬ 0 < p * q by omega, show ¬ 0 < p by omega, k]
    · have := Int.mul_neg_of_pos_of_neg h k
      simp [show ¬ 0 < p * q by omega, show ¬ 0 < q by omega, h]
    · simp [Int.mul_pos h k, h, k]
  have e2 : decide (0 < r * s) = (decide (0 < r) == decide (0 < s)) ∧ r * s ≠ 0 := by
    refine ⟨?_, fun h => by rcases Int.mul_eq_zero.1 h with h | h <;> omega⟩
    rcases (show r < 0 ∨ 0 < r by omega) with h | h <;> rcases (show s < 0 ∨ 0 < s by omega) with k | k
    · simp [Int.mul_pos_of_neg_of_neg h k, show ¬ 0 < r by omega, show ¬ 0 < s by omega]
    · have := Int.mul_neg_of_neg_of_pos h k
      simp [show ¬ 0 < r * s by omega, show ¬ 0 < r by omega, k]
    · have := Int.mul_neg_of_pos_of_neg h k
      simp [show ¬ 0 < r * s by omega, show ¬ 0 < s by omega, h]
    · simp [Int.mul_pos h k, h, k]
  rw [← e1.1, ← e2.1]
  obtain ⟨-, e1⟩ := e1
  obtain ⟨-, e2⟩ := e2
  generalize p * q = u at *
  generalize r * s = v at *
  subst hx
  rcases (show u < 0 ∨ 0 < u by omega) with h | h <;> rcases (show v < 0 ∨ 0 < v by omega) with k | k
  · simp [oneB, show ¬ 0 < u by omega, show ¬ 0 < v by omega]
  · simp [oneB, show ¬ 0 < u by omega, k, show u - v < 0 by omega]
  · simp [oneB, show ¬ 0 < v by omega, h, show ¬ u - v < 0 by omega]
  · simp [oneB, h, k]
theorem dlt_b {x y p q : Int} (hp : p ≠ 0) (hq : q ≠ 0) : dlt x y p q = dB (decide (x < 0)) (decide (y < 0)) (decide (0 < p)) (decide (0 < q)) := by
  unfold dlt dB
  congr 1
  · congr 1
    simp only [Bool.and_eq_true, Bool.not_eq_true', decide_eq_true_eq, decide_eq_false_iff_not, eq_iff_iff]
    omega
  · congr 1
    simp only [Bool.and_eq_true, Bool.not_eq_true', decide_eq_true_eq, decide_eq_false_iff_not, eq_iff_iff]
    omega
theorem pos3_b (p1 p2 p3 : Int) : pos3 p1 p2 p3 = pB (decide (0 < p1)) (decide (0 < p2)) (decide (0 < p3)) := by
  unfold pos3 pB
  congr 1
  simp only [Bool.and_eq_true, decide_eq_true_eq, eq_iff_iff]
  omega
/-- Two rays and a cone that is not flat. -/
theorem core1 {p1 p2 p3 q1 q2 q3 : Int} (h1 : p1 ≠ 0) (h2 : p2 ≠ 0) (h3 : p3 ≠ 0) (k1 : q1 ≠ 0) (k2 : q2 ≠ 0) (k3 : q3 ≠ 0) (hn : ¬ (p2 * q3 - p3 * q2 = 0 ∧ p3 * q1 - p1 * q3 = 0 ∧ p1 * q2 - p2 * q1 = 0)) :
    pos3 p1 p2 p3 - pos3 q1 q2 q3 = dlt (p2 * q3 - p3 * q2) (p3 * q1 - p1 * q3) p3 q3 + dlt (p3 * q1 - p1 * q3) (p1 * q2 - p2 * q1) p1 q1 + dlt (p1 * q2 - p2 * q1) (p2 * q3 - p3 * q2) p2 q2 := by
  have c := con_of h1 h2 h3 (x := p2 * q3 - p3 * q2) (y := p3 * q1 - p1 * q3) (z := p1 * q2 - p2 * q1) (by grind) hn
  rw [dlt_b h3 k3, dlt_b h1 k1, dlt_b h2 k2, pos3_b, pos3_b]
  exact core1B _ _ _ _ _ _ _ _ _ (one_of h2 k3 h3 k2 rfl) (one_of h3 k1 h1 k3 rfl) (one_of h1 k2 h2 k1 rfl) c
end Go.Proofs.Ytbhcjdgfcinpcaa
namespace Go.Proofs.Ytbhcjdgfcinpcaa
set_option linter.unusedVariables false
set_option linter.unusedSimpArgs false
/-- A face's part of the winding number along the ray r. -/
def wndR (r0 r1 r2 a0 a1 a2 b0 b1 b2 c0 c1 c2 : Int) : Int :=
  if 0 < pr9 a0 a1 a2 b0 b1 b2 c0 c1 c2 then pos3 (dc r0 r1 r2 b0 b1 b2 c0 c1 c2) (dc r0 r1 r2 c0 c1 c2 a0 a1 a2) (dc r0 r1 r2 a0 a1 a2 b0 b1 b2)
  else if pr9 a0 a1 a2 b0 b1 b2 c0 c1 c2 < 0 then -pos3 (-dc r0 r1 r2 b0 b1 b2 c0 c1 c2) (-dc r0 r1 r2 c0 c1 c2 a0 a1 a2) (-dc r0 r1 r2 a0 a1 a2 b0 b1 b2) else 0
/-- What a side gives when the ray changes from r to s. -/
def dlR (r0 r1 r2 s0 s1 s2 a0 a1 a2 b0 b1 b2 : Int) : Int := dlt (dc a0 a1 a2 r0 r1 r2 s0 s1 s2) (dc b0 b1 b2 r0 r1 r2 s0 s1 s2) (dc r0 r1 r2 a0 a1 a2 b0 b1 b2) (dc s0 s1 s2 a0 a1 a2 b0 b1 b2)
theorem dc_swap (r0 r1 r2 a0 a1 a2 b0 b1 b2 : Int) : dc r0 r1 r2 b0 b1 b2 a0 a1 a2 = -dc r0 r1 r2 a0 a1 a2 b0 b1 b2 := by unfold dc d3; grind
theorem dlR_anti (r0 r1 r2 s0 s1 s2 a0 a1 a2 b0 b1 b2 : Int) : dlR r0 r1 r2 s0 s1 s2 b0 b1 b2 a0 a1 a2 = -dlR r0 r1 r2 s0 s1 s2 a0 a1 a2 b0 b1 b2 := by
  unfold dlR
  rw [dc_swap r0 r1 r2 a0 a1 a2 b0 b1 b2, dc_swap s0 s1 s2 a0 a1 a2 b0 b1 b2]
  exact dlt_anti _ _ _ _
/-- A ray is off the plane of two vectors, if they have one. -/
def Gen (r0 r1 r2 a0 a1 a2 b0 b1 b2 : Int) : Prop := dc r0 r1 r2 a0 a1 a2 b0 b1 b2 = 0 → a1 * b2 - a2 * b1 = 0 ∧ a2 * b0 - a0 * b2 = 0 ∧ a0 * b1 - a1 * b0 = 0
theorem det_c (a0 a1 a2 b0 b1 b2 c0 c1 c2 : Int) : pr9 a0 a1 a2 b0 b1 b2 c0 c1 c2 = d3 a0 a1 a2 (b1 * c2 - b2 * c1) (b2 * c0 - b0 * c2) (b0 * c1 - b1 * c0) ∧ pr9 a0 a1 a2 b0 b1 b2 c0 c1 c2 = d3 b0 b1 b2 (c1 * a2 - c2 * a1) (c2 * a0 - c0 * a2) (c0 * a1 - c1 * a0) ∧ pr9 a0 a1 a2 b0 b1 b2 c0 c1 c2 = d3 c0 c1 c2 (a1 * b2 - a2 * b1) (a2 * b0 - a0 * b2) (a0 * b1 - a1 * b0) := by
  unfold pr9 d3
  refine ⟨?_, ?_, ?_⟩ <;> grind
theorem cram (r0 r1 r2 s0 s1 s2 a0 a1 a2 b0 b1 b2 c0 c1 c2 : Int) : pr9 a0 a1 a2 b0 b1 b2 c0 c1 c2 * dc a0 a1 a2 r0 r1 r2 s0 s1 s2 = dc r0 r1 r2 c0 c1 c2 a0 a1 a2 * dc s0 s1 s2 a0 a1 a2 b0 b1 b2 - dc r0 r1 r2 a0 a1 a2 b0 b1 b2 * dc s0 s1 s2 c0 c1 c2 a0 a1 a2 := by
  unfold pr9 dc d3; grind
theorem cram2 (a0 a1 a2 b0 b1 b2 c0 c1 c2 n0 n1 n2 : Int) : pr9 a0 a1 a2 b0 b1 b2 c0 c1 c2 * n0 = d3 a0 a1 a2 n0 n1 n2 * (b1 * c2 - b2 * c1) + d3 b0 b1 b2 n0 n1 n2 * (c1 * a2 - c2 * a1) + d3 c0 c1 c2 n0 n1 n2 * (a1 * b2 - a2 * b1) ∧ pr9 a0 a1 a2 b0 b1 b2 c0 c1 c2 * n1 = d3 a0 a1 a2 n0 n1 n2 * (b2 * c0 - b0 * c2) + d3 b0 b1 b2 n0 n1 n2 * (c2 * a0 - c0 * a2) + d3 c0 c1 c2 n0 n1 n2 * (a2 * b0 - a0 * b2) ∧ pr9 a0 a1 a2 b0 b1 b2 c0 c1 c2 * n2 = d3 a0 a1 a2 n0 n1 n2 * (b0 * c1 - b1 * c0) + d3 b0 b1 b2 n0 n1 n2 * (c0 * a1 - c1 * a0) + d3 c0 c1 c2 n0 n1 n2 * (a0 * b1 - a1 * b0) := by
  unfold pr9 d3
  refine ⟨?_, ?_, ?_⟩ <;> grind
theorem dlt_scale {d x y p q : Int} (hd : 0 < d) : dlt (d * x) (d * y) p q = dlt x y p q := by
  have h : ∀ z : Int, d * z < 0 ↔ z < 0 := fun z => ⟨fun h => by
    rcases (show z < 0 ∨ 0 ≤ z by omega) with k | k
    · exact k
    · have := Int.mul_nonneg (show 0 ≤ d by omega) k
      omega, fun h => Int.mul_neg_of_pos_of_neg hd h⟩
  have h' : ∀ z : Int, 0 ≤ d * z ↔ 0 ≤ z := fun z => by have := h z; omega
  unfold dlt
  simp only [h, h']
theorem face_pos (r0 r1 r2 s0 s1 s2 a0 a1 a2 b0 b1 b2 c0 c1 c2 : Int) (hD : 0 < pr9 a0 a1 a2 b0 b1 b2 c0 c1 c2)
    (g1 : Gen r0 r1 r2 b0 b1 b2 c0 c1 c2) (g2 : Gen r0 r1 r2 c0 c1 c2 a0 a1 a2) (g3 : Gen r0 r1 r2 a0 a1 a2 b0 b1 b2) (k1 : Gen s0 s1 s2 b0 b1 b2 c0 c1 c2) (k2 : Gen s0 s1 s2 c0 c1 c2 a0 a1 a2) (k3 : Gen s0 s1 s2 a0 a1 a2 b0 b1 b2)
    (hrs : ¬ (r1 * s2 - r2 * s1 = 0 ∧ r2 * s0 - r0 * s2 = 0 ∧ r0 * s1 - r1 * s0 = 0)) :
    pos3 (dc r0 r1 r2 b0 b1 b2 c0 c1 c2) (dc r0 r1 r2 c0 c1 c2 a0 a1 a2) (dc r0 r1 r2 a0 a1 a2 b0 b1 b2) - pos3 (dc s0 s1 s2 b0 b1 b2 c0 c1 c2) (dc s0 s1 s2 c0 c1 c2 a0 a1 a2) (dc s0 s1 s2 a0 a1 a2 b0 b1 b2) =
      dlR r0 r1 r2 s0 s1 s2 a0 a1 a2 b0 b1 b2 + dlR r0 r1 r2 s0 s1 s2 b0 b1 b2 c0 c1 c2 + dlR r0 r1 r2 s0 s1 s2 c0 c1 c2 a0 a1 a2 := by
  obtain ⟨e1, e2, e3⟩ := det_c a0 a1 a2 b0 b1 b2 c0 c1 c2
  have z1 : ∀ {u v w : Int}, u = 0 ∧ v = 0 ∧ w = 0 → d3 a0 a1 a2 u v w = 0 := fun ⟨h1, h2, h3⟩ => by rw [h1, h2, h3]; simp [d3]
  have z2 : ∀ {u v w : Int}, u = 0 ∧ v = 0 ∧ w = 0 → d3 b0 b1 b2 u v w = 0 := fun ⟨h1, h2, h3⟩ => by rw [h1, h2, h3]; simp [d3]
  have z3 : ∀ {u v w : Int}, u = 0 ∧ v = 0 ∧ w = 0 → d3 c0 c1 c2 u v w = 0 := fun ⟨h1, h2, h3⟩ => by rw [h1, h2, h3]; simp [d3]
  have y1 := cram r0 r1 r2 s0 s1 s2 a0 a1 a2 b0 b1 b2 c0 c1 c2
  have y2 := cram r0 r1 r2 s0 s1 s2 b0 b1 b2 c0 c1 c2 a0 a1 a2
  have y3 := cram r0 r1 r2 s0 s1 s2 c0 c1 c2 a0 a1 a2 b0 b1 b2
  rw [show pr9 b0 b1 b2 c0 c1 c2 a0 a1 a2 = pr9 a0 a1 a2 b0 b1 b2 c0 c1 c2 by unfold pr9; grind] at y2
  rw [show pr9 c0 c1 c2 a0 a1 a2 b0 b1 b2 = pr9 a0 a1 a2 b0 b1 b2 c0 c1 c2 by unfold pr9; grind] at y3
  have h := core1 (p1 := dc r0 r1 r2 b0 b1 b2 c0 c1 c2) (p2 := dc r0 r1 r2 c0 c1 c2 a0 a1 a2) (p3 := dc r0 r1 r2 a0 a1 a2 b0 b1 b2) (q1 := dc s0 s1 s2 b0 b1 b2 c0 c1 c2) (q2 := dc s0 s1 s2 c0 c1 c2 a0 a1 a2) (q3 := dc s0 s1 s2 a0 a1 a2 b0 b1 b2) (fun h => by have := z1 (g1 h); omega) (fun h => by have := z2 (g2 h); omega) (fun h => by have := z3 (g3 h); omega) (fun h => by have := z1 (k1 h); omega) (fun h => by have := z2 (k2 h); omega) (fun h => by have := z3 (k3 h); omega) (fun hz => by
    rw [← y1, ← y2, ← y3] at hz
    have y : ∀ {z : Int}, pr9 a0 a1 a2 b0 b1 b2 c0 c1 c2 * z = 0 → z = 0 := fun h => (Int.mul_eq_zero.1 h).resolve_left (by omega)
    obtain ⟨f1, f2, f3⟩ := hz
    have f1 := y f1
    have f2 := y f2
    have f3 := y f3
    unfold dc at f1 f2 f3
    obtain ⟨m1, m2, m3⟩ := cram2 a0 a1 a2 b0 b1 b2 c0 c1 c2 (r1 * s2 - r2 * s1) (r2 * s0 - r0 * s2) (r0 * s1 - r1 * s0)
    rw [f1, f2, f3] at m1 m2 m3
    exact hrs ⟨y (by rw [m1]; simp), y (by rw [m2]; simp), y (by rw [m3]; simp)⟩)
  rw [← y1, ← y2, ← y3, dlt_scale hD, dlt_scale hD, dlt_scale hD] at h
  exact h
/-- What a side gives in a flat cone. -/
def flt (x y t : Int) : Int := (if x < 0 ∧ 0 ≤ y ∧ 0 < t then 1 else 0) - (if 0 ≤ x ∧ y < 0 ∧ t < 0 then 1 else 0)
theorem sg2 (t x : Int) : (0 < t ∧ x < 0 ∧ t * x < 0) ∨ (0 < t ∧ 0 ≤ x ∧ 0 ≤ t * x) ∨ (t < 0 ∧ x < 0 ∧ 0 < t * x) ∨ (t < 0 ∧ 0 ≤ x ∧ t * x ≤ 0) ∨ (t = 0 ∧ x < 0 ∧ t * x = 0) ∨ (t = 0 ∧ 0 ≤ x ∧ t * x = 0) := by
  rcases (show t < 0 ∨ t = 0 ∨ 0 < t by omega) with h | h | h <;> rcases (show x < 0 ∨ 0 ≤ x by omega) with k | k
  · exact .inr (.inr (.inl ⟨h, k, Int.mul_pos_of_neg_of_neg h k⟩))
  · exact .inr (.inr (.inr (.inl ⟨h, k, Int.mul_nonpos_of_nonpos_of_nonneg (by omega) k⟩)))
  · exact .inr (.inr (.inr (.inr (.inl ⟨h, k, by rw [h, Int.zero_mul]⟩))))
  · exact .inr (.inr (.inr (.inr (.inr ⟨h, k, by rw [h, Int.zero_mul]⟩))))
  · exact .inl ⟨h, k, Int.mul_neg_of_pos_of_neg h k⟩
  · exact .inr (.inl ⟨h, k, Int.mul_nonneg (by omega) k⟩)
theorem fl_pn {x y t : Int} (h : 0 ≤ x ∧ 0 ≤ y ∨ x < 0 ∧ y < 0 ∨ t = 0) : flt x y t = 0 := by
  unfold flt
  rw [if_neg (by omega), if_neg (by omega)]
  rfl
theorem fl_up {x y t : Int} (h : x < 0) (k : 0 ≤ y) : flt x y t = if 0 < t then 1 else 0 := by
  unfold flt
  by_cases g : 0 < t
  · rw [if_pos ⟨h, k, g⟩, if_neg (by omega), if_pos g]; rfl
  · rw [if_neg (by omega), if_neg (by omega), if_neg g]; rfl
theorem fl_dn {x y t : Int} (h : 0 ≤ x) (k : y < 0) : flt x y t = if t < 0 then -1 else 0 := by
  unfold flt
  by_cases g : t < 0
  · rw [if_neg (by omega), if_pos ⟨h, k, g⟩, if_pos g]; rfl
  · rw [if_neg (by omega), if_neg (by omega), if_neg g]; rfl
/-- A flat cone that does not have its top. -/
theorem core2 {t1 t2 t3 x y z : Int} (hs : t1 * x + t2 * y + t3 * z = 0) (hn : t1 < 0 ∨ t2 < 0 ∨ t3 < 0) (hp : 0 < t1 + t2 + t3) : flt x y t3 + flt y z t1 + flt z x t2 = 0 := by
  have c1 := sg2 t1 x
  have c2 := sg2 t2 y
  have c3 := sg2 t3 z
  generalize t1 * x = u at *
  generalize t2 * y = v at *
  generalize t3 * z = w at *
  rcases (show x < 0 ∨ 0 ≤ x by omega) with hx | hx <;> rcases (show y < 0 ∨ 0 ≤ y by omega) with hy | hy <;> rcases (show z < 0 ∨ 0 ≤ z by omega) with hz | hz
  · rw [fl_pn (by omega), fl_pn (by omega), fl_pn (by omega)]; rfl
  · rw [fl_pn (.inr (.inl ⟨hx, hy⟩)), fl_up hy hz, fl_dn hz hx]
    omega
  · rw [fl_up hx hy, fl_dn hy hz, fl_pn (.inr (.inl ⟨hz, hx⟩))]
    omega
  · rw [fl_up hx hy, fl_pn (.inl ⟨hy, hz⟩), fl_dn hz hx]
    omega
  · rw [fl_dn hx hy, fl_pn (.inr (.inl ⟨hy, hz⟩)), fl_up hz hx]
    omega
  · rw [fl_dn hx hy, fl_up hy hz, fl_pn (.inl ⟨hz, hx⟩)]
    omega
  · rw [fl_pn (.inl ⟨hx, hy⟩), fl_dn hy hz, fl_up hz hx]
    omega
  · rw [fl_pn (by omega), fl_pn (by omega), fl_pn (by omega)]; rfl
theorem sgn_of {k p t g : Int} (h : k * p = t * g) (hk : 0 < k) : (0 < g → (0 < p ↔ 0 < t) ∧ (p < 0 ↔ t < 0)) ∧ (g < 0 → (0 < p ↔ t < 0) ∧ (p < 0 ↔ 0 < t)) := by
  have c1 := sg2 k p
  have z : p = 0 → k * p = 0 := fun e => by rw [e, Int.mul_zero]
  have y : 0 < p → 0 < k * p := fun e => Int.mul_pos hk e
  have a1 := sg2 t g
  have a2 : 0 < t → 0 < g → 0 < t * g := fun e f => Int.mul_pos e f
  have a3 : t < 0 → 0 < g → t * g < 0 := fun e f => Int.mul_neg_of_neg_of_pos e f
  generalize k * p = u at *
  subst h
  generalize t * g = v at *
  constructor <;> intro hg <;> constructor <;> constructor <;> intro hp <;> omega
theorem dlt_flat {x y k p q t g h : Int} (hk : 0 < k) (h1 : k * p = t * g) (h2 : k * q = t * h) (hg : g ≠ 0) (hh : h ≠ 0) :
    ((0 < g ∧ 0 < h ∨ g < 0 ∧ h < 0) → dlt x y p q = 0) ∧ (0 < g → h < 0 → dlt x y p q = flt x y t) ∧ (g < 0 → 0 < h → dlt x y p q = -flt y x t) := by
  have s1 := sgn_of h1 hk
  have s2 := sgn_of h2 hk
  unfold dlt flt
  refine ⟨fun h => ?_, fun a b => ?_, fun a b => ?_⟩
  · rw [if_neg (by omega), if_neg (by omega)]
    rfl
  · obtain ⟨e1, e2⟩ := s1.1 a
    obtain ⟨e3, e4⟩ := s2.2 b
    simp only [e1, e2, e3, e4]
    split <;> split <;> split <;> split <;> omega
  · obtain ⟨e1, e2⟩ := s1.2 a
    obtain ⟨e3, e4⟩ := s2.1 b
    simp only [e1, e2, e3, e4]
    split <;> split <;> split <;> split <;> omega
theorem cram3 (a0 a1 a2 b0 b1 b2 c0 c1 c2 n0 n1 n2 m0 m1 m2 : Int) : pr9 a0 a1 a2 b0 b1 b2 c0 c1 c2 * d3 n0 n1 n2 m0 m1 m2 = dc n0 n1 n2 b0 b1 b2 c0 c1 c2 * d3 a0 a1 a2 m0 m1 m2 + dc n0 n1 n2 c0 c1 c2 a0 a1 a2 * d3 b0 b1 b2 m0 m1 m2 + dc n0 n1 n2 a0 a1 a2 b0 b1 b2 * d3 c0 c1 c2 m0 m1 m2 := by
  unfold pr9 dc d3; grind
theorem lagr (n0 n1 n2 r0 r1 r2 a0 a1 a2 b0 b1 b2 : Int) (ha : d3 a0 a1 a2 n0 n1 n2 = 0) (hb : d3 b0 b1 b2 n0 n1 n2 = 0) : d3 n0 n1 n2 n0 n1 n2 * dc r0 r1 r2 a0 a1 a2 b0 b1 b2 = dc n0 n1 n2 a0 a1 a2 b0 b1 b2 * d3 r0 r1 r2 n0 n1 n2 := by
  have e : d3 n0 n1 n2 n0 n1 n2 * dc r0 r1 r2 a0 a1 a2 b0 b1 b2 - dc n0 n1 n2 a0 a1 a2 b0 b1 b2 * d3 r0 r1 r2 n0 n1 n2 = dc a0 a1 a2 n0 n1 n2 r0 r1 r2 * d3 b0 b1 b2 n0 n1 n2 - dc b0 b1 b2 n0 n1 n2 r0 r1 r2 * d3 a0 a1 a2 n0 n1 n2 := by
    unfold dc d3; grind
  rw [ha, hb] at e
  omega
theorem nrm_in (v0 v1 v2 v3 v4 v5 v6 v7 v8 : Int) : d3 v0 v1 v2 (nX v0 v1 v2 v3 v4 v5 v6 v7 v8) (nY v0 v1 v2 v3 v4 v5 v6 v7 v8) (nZ v0 v1 v2 v3 v4 v5 v6 v7 v8) = pr9 v0 v1 v2 v3 v4 v5 v6 v7 v8 ∧ d3 v3 v4 v5 (nX v0 v1 v2 v3 v4 v5 v6 v7 v8) (nY v0 v1 v2 v3 v4 v5 v6 v7 v8) (nZ v0 v1 v2 v3 v4 v5 v6 v7 v8) = pr9 v0 v1 v2 v3 v4 v5 v6 v7 v8 ∧ d3 v6 v7 v8 (nX v0 v1 v2 v3 v4 v5 v6 v7 v8) (nY v0 v1 v2 v3 v4 v5 v6 v7 v8) (nZ v0 v1 v2 v3 v4 v5 v6 v7 v8) = pr9 v0 v1 v2 v3 v4 v5 v6 v7 v8 := by
  unfold d3 nX nY nZ pr9
  refine ⟨?_, ?_, ?_⟩ <;> grind
theorem nrm_t (n0 n1 n2 v0 v1 v2 v3 v4 v5 v6 v7 v8 : Int) : dc n0 n1 n2 v3 v4 v5 v6 v7 v8 + dc n0 n1 n2 v6 v7 v8 v0 v1 v2 + dc n0 n1 n2 v0 v1 v2 v3 v4 v5 = d3 n0 n1 n2 (nX v0 v1 v2 v3 v4 v5 v6 v7 v8) (nY v0 v1 v2 v3 v4 v5 v6 v7 v8) (nZ v0 v1 v2 v3 v4 v5 v6 v7 v8) := by
  unfold dc d3 nX nY nZ
  grind
theorem cram4 (n0 n1 n2 r0 r1 r2 s0 s1 s2 a0 a1 a2 b0 b1 b2 c0 c1 c2 : Int) : pr9 a0 a1 a2 b0 b1 b2 c0 c1 c2 * dc n0 n1 n2 r0 r1 r2 s0 s1 s2 = dc n0 n1 n2 b0 b1 b2 c0 c1 c2 * dc a0 a1 a2 r0 r1 r2 s0 s1 s2 + dc n0 n1 n2 c0 c1 c2 a0 a1 a2 * dc b0 b1 b2 r0 r1 r2 s0 s1 s2 + dc n0 n1 n2 a0 a1 a2 b0 b1 b2 * dc c0 c1 c2 r0 r1 r2 s0 s1 s2 :=
  cram3 a0 a1 a2 b0 b1 b2 c0 c1 c2 n0 n1 n2 (r1 * s2 - r2 * s1) (r2 * s0 - r0 * s2) (r0 * s1 - r1 * s0)
theorem flat_core {x y z t1 t2 t3 p1 p2 p3 q1 q2 q3 g h k : Int} (hk : 0 < k) (e : t1 * x + t2 * y + t3 * z = 0) (hm : t1 < 0 ∨ t2 < 0 ∨ t3 < 0) (ht : 0 < t1 + t2 + t3) (hg : g ≠ 0) (hh : h ≠ 0)
    (l1 : k * p1 = t1 * g) (l2 : k * p2 = t2 * g) (l3 : k * p3 = t3 * g) (n1 : k * q1 = t1 * h) (n2 : k * q2 = t2 * h) (n3 : k * q3 = t3 * h) : dlt x y p3 q3 + dlt y z p1 q1 + dlt z x p2 q2 = 0 := by
  have f1 := dlt_flat (x := x) (y := y) hk l3 n3 hg hh
  have f2 := dlt_flat (x := y) (y := z) hk l1 n1 hg hh
  have f3 := dlt_flat (x := z) (y := x) hk l2 n2 hg hh
  have k1 := core2 e hm ht
  have k2 := core2 (t1 := t2) (t2 := t1) (t3 := t3) (x := y) (y := x) (z := z) (show t2 * y + t1 * x + t3 * z = 0 by rw [Int.add_comm (t2 * y)]; exact e) (or_left_comm.1 hm) (by rw [Int.add_comm t2]; exact ht)
  rcases Int.lt_or_gt_of_ne hg with u | u <;> rcases Int.lt_or_gt_of_ne hh with v | v
  · rw [f1.1 (.inr ⟨u, v⟩), f2.1 (.inr ⟨u, v⟩), f3.1 (.inr ⟨u, v⟩)]; rfl
  · rw [f1.2.2 u v, f2.2.2 u v, f3.2.2 u v]
    clear f1 f2 f3 k1 l1 l2 l3 n1 n2 n3 e hm ht
    omega
  · rw [f1.2.1 u v, f2.2.1 u v, f3.2.1 u v]
    exact k1
  · rw [f1.1 (.inl ⟨u, v⟩), f2.1 (.inl ⟨u, v⟩), f3.1 (.inl ⟨u, v⟩)]; rfl
theorem face_flat (r0 r1 r2 s0 s1 s2 n0 n1 n2 a0 a1 a2 b0 b1 b2 c0 c1 c2 : Int) (hD : pr9 a0 a1 a2 b0 b1 b2 c0 c1 c2 = 0) (ha : d3 a0 a1 a2 n0 n1 n2 = 0) (hb : d3 b0 b1 b2 n0 n1 n2 = 0) (hc : d3 c0 c1 c2 n0 n1 n2 = 0) (hn : 0 < d3 n0 n1 n2 n0 n1 n2)
    (ht : 0 < dc n0 n1 n2 b0 b1 b2 c0 c1 c2 + dc n0 n1 n2 c0 c1 c2 a0 a1 a2 + dc n0 n1 n2 a0 a1 a2 b0 b1 b2) (hm : dc n0 n1 n2 b0 b1 b2 c0 c1 c2 < 0 ∨ dc n0 n1 n2 c0 c1 c2 a0 a1 a2 < 0 ∨ dc n0 n1 n2 a0 a1 a2 b0 b1 b2 < 0) (hr : d3 r0 r1 r2 n0 n1 n2 ≠ 0) (hs : d3 s0 s1 s2 n0 n1 n2 ≠ 0) :
    dlR r0 r1 r2 s0 s1 s2 a0 a1 a2 b0 b1 b2 + dlR r0 r1 r2 s0 s1 s2 b0 b1 b2 c0 c1 c2 + dlR r0 r1 r2 s0 s1 s2 c0 c1 c2 a0 a1 a2 = 0 := by
  have e := cram4 n0 n1 n2 r0 r1 r2 s0 s1 s2 a0 a1 a2 b0 b1 b2 c0 c1 c2
  rw [hD, Int.zero_mul] at e
  unfold dlR
  refine flat_core (k := d3 n0 n1 n2 n0 n1 n2) (g := d3 r0 r1 r2 n0 n1 n2) (h := d3 s0 s1 s2 n0 n1 n2) (t1 := dc n0 n1 n2 b0 b1 b2 c0 c1 c2) (t2 := dc n0 n1 n2 c0 c1 c2 a0 a1 a2) (t3 := dc n0 n1 n2 a0 a1 a2 b0 b1 b2) hn e.symm hm ht hr hs (lagr n0 n1 n2 r0 r1 r2 b0 b1 b2 c0 c1 c2 hb hc) (lagr n0 n1 n2 r0 r1 r2 c0 c1 c2 a0 a1 a2 hc ha) (lagr n0 n1 n2 r0 r1 r2 a0 a1 a2 b0 b1 b2 ha hb) (lagr n0 n1 n2 s0 s1 s2 b0 b1 b2 c0 c1 c2 hb hc) (lagr n0 n1 n2 s0 s1 s2 c0 c1 c2 a0 a1 a2 hc ha) (lagr n0 n1 n2 s0 s1 s2 a0 a1 a2 b0 b1 b2 ha hb)
theorem pos3_swap (p q r : Int) : pos3 p r q = pos3 p q r := by
  unfold pos3
  split <;> split <;> omega
theorem gen_swap {r0 r1 r2 a0 a1 a2 b0 b1 b2 : Int} (h : Gen r0 r1 r2 a0 a1 a2 b0 b1 b2) : Gen r0 r1 r2 b0 b1 b2 a0 a1 a2 := fun e => by
  rw [dc_swap r0 r1 r2 a0 a1 a2 b0 b1 b2] at e
  obtain ⟨h1, h2, h3⟩ := h (by omega)
  rw [Int.mul_comm b1, Int.mul_comm b2 a1, Int.mul_comm b2 a0, Int.mul_comm b0 a2, Int.mul_comm b0 a1, Int.mul_comm b1 a0]
  omega
/-- A face that is off the point gives the same along two rays, up to what its sides give. -/
theorem face_law (r0 r1 r2 s0 s1 s2 a0 a1 a2 b0 b1 b2 c0 c1 c2 : Int)
    (g1 : Gen r0 r1 r2 b0 b1 b2 c0 c1 c2) (g2 : Gen r0 r1 r2 c0 c1 c2 a0 a1 a2) (g3 : Gen r0 r1 r2 a0 a1 a2 b0 b1 b2) (k1 : Gen s0 s1 s2 b0 b1 b2 c0 c1 c2) (k2 : Gen s0 s1 s2 c0 c1 c2 a0 a1 a2) (k3 : Gen s0 s1 s2 a0 a1 a2 b0 b1 b2)
    (hrs : ¬ (r1 * s2 - r2 * s1 = 0 ∧ r2 * s0 - r0 * s2 = 0 ∧ r0 * s1 - r1 * s0 = 0)) (hr : d3 r0 r1 r2 (nX a0 a1 a2 b0 b1 b2 c0 c1 c2) (nY a0 a1 a2 b0 b1 b2 c0 c1 c2) (nZ a0 a1 a2 b0 b1 b2 c0 c1 c2) ≠ 0) (hs : d3 s0 s1 s2 (nX a0 a1 a2 b0 b1 b2 c0 c1 c2) (nY a0 a1 a2 b0 b1 b2 c0 c1 c2) (nZ a0 a1 a2 b0 b1 b2 c0 c1 c2) ≠ 0) (ht : tchS a0 a1 a2 b0 b1 b2 c0 c1 c2 = false) :
    wndR r0 r1 r2 a0 a1 a2 b0 b1 b2 c0 c1 c2 - wndR s0 s1 s2 a0 a1 a2 b0 b1 b2 c0 c1 c2 = dlR r0 r1 r2 s0 s1 s2 a0 a1 a2 b0 b1 b2 + dlR r0 r1 r2 s0 s1 s2 b0 b1 b2 c0 c1 c2 + dlR r0 r1 r2 s0 s1 s2 c0 c1 c2 a0 a1 a2 := by
  rcases (show 0 < pr9 a0 a1 a2 b0 b1 b2 c0 c1 c2 ∨ pr9 a0 a1 a2 b0 b1 b2 c0 c1 c2 < 0 ∨ pr9 a0 a1 a2 b0 b1 b2 c0 c1 c2 = 0 by omega) with h | h | h
  · unfold wndR
    rw [if_pos h, if_pos h]
    exact face_pos r0 r1 r2 s0 s1 s2 a0 a1 a2 b0 b1 b2 c0 c1 c2 h g1 g2 g3 k1 k2 k3 hrs
  · unfold wndR
    have h0 : ¬ 0 < pr9 a0 a1 a2 b0 b1 b2 c0 c1 c2 := by omega
    rw [if_neg h0, if_pos h, if_neg h0, if_pos h]
    have e : pr9 a0 a1 a2 c0 c1 c2 b0 b1 b2 = -pr9 a0 a1 a2 b0 b1 b2 c0 c1 c2 := by unfold pr9; grind
    have f := face_pos r0 r1 r2 s0 s1 s2 a0 a1 a2 c0 c1 c2 b0 b1 b2 (by omega) (gen_swap g1) (gen_swap g3) (gen_swap g2) (gen_swap k1) (gen_swap k3) (gen_swap k2) hrs
    rw [dc_swap r0 r1 r2 b0 b1 b2 c0 c1 c2, dc_swap r0 r1 r2 a0 a1 a2 b0 b1 b2, dc_swap r0 r1 r2 c0 c1 c2 a0 a1 a2, dc_swap s0 s1 s2 b0 b1 b2 c0 c1 c2, dc_swap s0 s1 s2 a0 a1 a2 b0 b1 b2, dc_swap s0 s1 s2 c0 c1 c2 a0 a1 a2, dlR_anti r0 r1 r2 s0 s1 s2 b0 b1 b2 c0 c1 c2, dlR_anti r0 r1 r2 s0 s1 s2 a0 a1 a2 b0 b1 b2, dlR_anti r0 r1 r2 s0 s1 s2 c0 c1 c2 a0 a1 a2, pos3_swap, pos3_swap (-dc s0 s1 s2 b0 b1 b2 c0 c1 c2)] at f
    omega
  · unfold wndR
    rw [if_neg (by omega), if_neg (by omega), if_neg (by omega), if_neg (by omega)]
    obtain ⟨i1, i2, i3⟩ := nrm_in a0 a1 a2 b0 b1 b2 c0 c1 c2
    rw [h] at i1 i2 i3
    have hsum := nrm_t (nX a0 a1 a2 b0 b1 b2 c0 c1 c2) (nY a0 a1 a2 b0 b1 b2 c0 c1 c2) (nZ a0 a1 a2 b0 b1 b2 c0 c1 c2) a0 a1 a2 b0 b1 b2 c0 c1 c2
    unfold tchS at ht
    simp only [h, decide_true, Bool.true_and, Bool.and_eq_false_iff, decide_eq_false_iff_not] at ht
    generalize nX a0 a1 a2 b0 b1 b2 c0 c1 c2 = n0 at *
    generalize nY a0 a1 a2 b0 b1 b2 c0 c1 c2 = n1 at *
    generalize nZ a0 a1 a2 b0 b1 b2 c0 c1 c2 = n2 at *
    have hp : 0 < d3 n0 n1 n2 n0 n1 n2 := by
      have q : ∀ x : Int, 0 ≤ x * x := fun x => by
        rcases (show x < 0 ∨ 0 ≤ x by omega) with k | k
        · exact Int.le_of_lt (Int.mul_pos_of_neg_of_neg k k)
        · exact Int.mul_nonneg k k
      have q0 := q n0
      have q1 := q n1
      have q2 := q n2
      have y : ¬ (n0 * n0 = 0 ∧ n1 * n1 = 0 ∧ n2 * n2 = 0) := fun ⟨y0, y1, y2⟩ => by
        have z0 : n0 = 0 := by rcases Int.mul_eq_zero.1 y0 with k | k <;> exact k
        have z1 : n1 = 0 := by rcases Int.mul_eq_zero.1 y1 with k | k <;> exact k
        have z2 : n2 = 0 := by rcases Int.mul_eq_zero.1 y2 with k | k <;> exact k
        exact hr (by rw [z0, z1, z2]; simp [d3])
      show 0 < n0 * n0 + n1 * n1 + n2 * n2
      omega
    have f := face_flat r0 r1 r2 s0 s1 s2 n0 n1 n2 a0 a1 a2 b0 b1 b2 c0 c1 c2 h i1 i2 i3 hp (by rw [hsum]; exact hp) (by omega) hr hs
    rw [f]
    rfl
end Go.Proofs.Ytbhcjdgfcinpcaa
namespace Go.Proofs.Ytbhcjdgfcinpcaa
set_option linter.unusedVariables false
set_option linter.unusedSimpArgs false
def sumZ (g : Nat → Int) : Nat → Int
  | 0 => 0
  | k + 1 => sumZ g k + g k
theorem sumZ_cn {g : Nat → Int} : ∀ {N : Nat}, (∀ a, a < N → g a = 1 ∨ g a = 0 ∨ g a = -1) → sumZ g N = (cnB (fun a => decide (g a = 1)) N : Int) - cnB (fun a => decide (g a = -1)) N
  | 0, _ => rfl
  | N + 1, h => by
    have ih := sumZ_cn (N := N) (fun a ha => h a (by omega))
    have e1 : cnB (fun a => decide (g a = 1)) (N + 1) = cnB (fun a => decide (g a = 1)) N + (if decide (g N = 1) = true then 1 else 0) := rfl
    have e2 : cnB (fun a => decide (g a = -1)) (N + 1) = cnB (fun a => decide (g a = -1)) N + (if decide (g N = -1) = true then 1 else 0) := rfl
    have e3 : sumZ g (N + 1) = sumZ g N + g N := rfl
    rcases h N (by omega) with k | k | k
    · rw [if_pos (by simp [k])] at e1
      rw [if_neg (by simp [k])] at e2
      omega
    · rw [if_neg (by simp [k])] at e1
      rw [if_neg (by simp [k])] at e2
      omega
    · rw [if_neg (by simp [k])] at e1
      rw [if_pos (by simp [k])] at e2
      omega
theorem cnB_eq {p q : Nat → Bool} : ∀ {N : Nat}, (∀ a, a < N → p a = q a) → cnB p N = cnB q N
  | 0, _ => rfl
  | N + 1, h => by
    show cnB p N + (if p N = true then 1 else 0) = cnB q N + (if q N = true then 1 else 0)
    rw [cnB_eq (N := N) (fun a ha => h a (by omega)), h N (by omega)]
/-- What sides give cancels, if a side and its other give opposite numbers. -/
theorem sides_zero {F : Nat → Nat → Int} {al : Nat → Nat} {m : Nat} (ho : Oth F al m) {g : Nat → Int} (h1 : ∀ a, a < 3 * m → g a = 1 ∨ g a = 0 ∨ g a = -1) (h2 : ∀ a, a < 3 * m → g (al a) = -g a) : sumZ g (3 * m) = 0 := by
  have e := cnB_perm (s := al) (N := 3 * m) ⟨fun a ha => (ho.nb a ha).1, fun a b ha hb e => by rw [← ho.inv a ha, e, ho.inv b hb]⟩ (fun a => decide (g a = 1))
  rw [cnB_eq (p := fun a => decide (g (al a) = 1)) (q := fun a => decide (g a = -1)) (fun a ha => by
    have := h2 a ha
    simp only [decide_eq_decide]
    omega)] at e
  rw [sumZ_cn h1, e]
  omega
theorem dlt_bd (x y p q : Int) : dlt x y p q = 1 ∨ dlt x y p q = 0 ∨ dlt x y p q = -1 := by
  unfold dlt
  split <;> split <;> omega
/-- A corner as seen from q. -/
def vw (P : Nat → Nat → Int) (q0 q1 q2 : Int) (p : Int) (c : Nat) : Int := P p.toNat c - (if c = 0 then q0 else if c = 1 then q1 else q2)
def dlS (r0 r1 r2 s0 s1 s2 : Int) (V : Int → Nat → Int) (p q : Int) : Int := dlR r0 r1 r2 s0 s1 s2 (V p 0) (V p 1) (V p 2) (V q 0) (V q 1) (V q 2)
def wnV (r0 r1 r2 : Int) (V : Int → Nat → Int) (F : Nat → Nat → Int) (i : Nat) : Int := wndR r0 r1 r2 (V (F i 0) 0) (V (F i 0) 1) (V (F i 0) 2) (V (F i 1) 0) (V (F i 1) 1) (V (F i 1) 2) (V (F i 2) 0) (V (F i 2) 1) (V (F i 2) 2)
theorem rays_sum {r0 r1 r2 s0 s1 s2 : Int} {V : Int → Nat → Int} {F : Nat → Nat → Int} : ∀ {m : Nat}, (∀ i, i < m → wnV r0 r1 r2 V F i - wnV s0 s1 s2 V F i = dlS r0 r1 r2 s0 s1 s2 V (F i 0) (F i 1) + dlS r0 r1 r2 s0 s1 s2 V (F i 1) (F i 2) + dlS r0 r1 r2 s0 s1 s2 V (F i 2) (F i 0)) →
    sumZ (wnV r0 r1 r2 V F) m - sumZ (wnV s0 s1 s2 V F) m = sumZ (fun a => dlS r0 r1 r2 s0 s1 s2 V (tl F a) (tl F (nxt a))) (3 * m)
  | 0, _ => rfl
  | m + 1, h => by
    have ih := rays_sum (m := m) (fun i hi => h i (by omega))
    have hm := h m (by omega)
    have e1 : sumZ (wnV r0 r1 r2 V F) (m + 1) = sumZ (wnV r0 r1 r2 V F) m + wnV r0 r1 r2 V F m := rfl
    have e2 : sumZ (wnV s0 s1 s2 V F) (m + 1) = sumZ (wnV s0 s1 s2 V F) m + wnV s0 s1 s2 V F m := rfl
    have e3 : sumZ (fun a => dlS r0 r1 r2 s0 s1 s2 V (tl F a) (tl F (nxt a))) (3 * (m + 1)) = sumZ (fun a => dlS r0 r1 r2 s0 s1 s2 V (tl F a) (tl F (nxt a))) (3 * m) + dlS r0 r1 r2 s0 s1 s2 V (tl F (3 * m + 0)) (tl F (nxt (3 * m + 0))) + dlS r0 r1 r2 s0 s1 s2 V (tl F (3 * m + 1)) (tl F (nxt (3 * m + 1))) + dlS r0 r1 r2 s0 s1 s2 V (tl F (3 * m + 2)) (tl F (nxt (3 * m + 2))) := rfl
    rw [nxt_at m 0 (by omega), nxt_at m 1 (by omega), nxt_at m 2 (by omega), tl_at F m 0 (by omega), tl_at F m 1 (by omega), tl_at F m 2 (by omega)] at e3
    omega
/-- The winding number does not depend on the ray. -/
theorem rays_eq {r0 r1 r2 s0 s1 s2 : Int} {V : Int → Nat → Int} {F : Nat → Nat → Int} {al : Nat → Nat} {m : Nat} (ho : Oth F al m) (h : ∀ i, i < m → wnV r0 r1 r2 V F i - wnV s0 s1 s2 V F i = dlS r0 r1 r2 s0 s1 s2 V (F i 0) (F i 1) + dlS r0 r1 r2 s0 s1 s2 V (F i 1) (F i 2) + dlS r0 r1 r2 s0 s1 s2 V (F i 2) (F i 0)) :
    sumZ (wnV r0 r1 r2 V F) m = sumZ (wnV s0 s1 s2 V F) m := by
  have e := rays_sum h
  have z := sides_zero ho (g := fun a => dlS r0 r1 r2 s0 s1 s2 V (tl F a) (tl F (nxt a))) (fun a _ => dlt_bd _ _ _ _) (fun a ha => by
    obtain ⟨-, b1, b2⟩ := ho.nb a ha
    simp only [b1, b2]
    exact dlR_anti _ _ _ _ _ _ _ _ _ _ _ _)
  rw [z] at e
  omega
end Go.Proofs.Ytbhcjdgfcinpcaa
namespace Go.Proofs.Ytbhcjdgfcinpcaa
set_option linter.unusedVariables false
set_option linter.unusedSimpArgs false
theorem sgn_pos {t : Int} : sgn t = 1 ↔ 0 < t := by unfold sgn; omega
theorem sgn_neg {t : Int} : sgn t = -1 ↔ t < 0 := by unfold sgn; omega
theorem sgn_zero {t : Int} : sgn t = 0 ↔ t = 0 := by unfold sgn; omega
/-- A face's part by signs of whole numbers. -/
theorem wndS_of (v0 v1 v2 v3 v4 v5 v6 v7 v8 : Int) {p q r : Int} (h1 : alS (v4 * v8 - v5 * v7) (v5 * v6 - v3 * v8) (v3 * v7 - v4 * v6) = sgn p) (h2 : alS (v7 * v2 - v8 * v1) (v8 * v0 - v6 * v2) (v6 * v1 - v7 * v0) = sgn q) (h3 : alS (v1 * v5 - v2 * v4) (v2 * v3 - v0 * v5) (v0 * v4 - v1 * v3) = sgn r) :
    wndS v0 v1 v2 v3 v4 v5 v6 v7 v8 = if 0 < pr9 v0 v1 v2 v3 v4 v5 v6 v7 v8 then pos3 p q r else if pr9 v0 v1 v2 v3 v4 v5 v6 v7 v8 < 0 then -pos3 (-p) (-q) (-r) else 0 := by
  unfold wndS
  rw [h1, h2, h3]
  generalize pr9 v0 v1 v2 v3 v4 v5 v6 v7 v8 = d
  rcases (show 0 < d ∨ d < 0 ∨ d = 0 by omega) with h | h | h
  · rw [sgn_pos.2 h, if_pos h]
    simp only [sgn_pos]
    unfold pos3
    split <;> split <;> omega
  · rw [sgn_neg.2 h, if_neg (show ¬ 0 < d by omega), if_pos h]
    simp only [sgn_neg]
    unfold pos3
    split <;> split <;> omega
  · rw [sgn_zero.2 h, if_neg (by omega), if_neg (by omega), if_neg (by omega)]
/-- The bound of a vector product. -/
def Bx (a1 a2 b1 b2 : Int) : Prop := -524287 ≤ a1 * b2 - a2 * b1 ∧ a1 * b2 - a2 * b1 ≤ 524287
def B3 (a0 a1 a2 b0 b1 b2 : Int) : Prop := Bx a1 a2 b1 b2 ∧ Bx a2 a0 b2 b0 ∧ Bx a0 a1 b0 b1
theorem wndS_R (a0 a1 a2 b0 b1 b2 c0 c1 c2 : Int) (h1 : B3 b0 b1 b2 c0 c1 c2) (h2 : B3 c0 c1 c2 a0 a1 a2) (h3 : B3 a0 a1 a2 b0 b1 b2) : wndS a0 a1 a2 b0 b1 b2 c0 c1 c2 = wndR 1 1048576 1099511627776 a0 a1 a2 b0 b1 b2 c0 c1 c2 := by
  unfold wndR
  exact wndS_of a0 a1 a2 b0 b1 b2 c0 c1 c2 (ray_al h1).symm (ray_al h2).symm (ray_al h3).symm
/-- The rays are off every plane of two small vectors. -/
theorem gen_1 (a0 a1 a2 b0 b1 b2 : Int) (h : B3 a0 a1 a2 b0 b1 b2) : Gen 1 1048576 1099511627776 a0 a1 a2 b0 b1 b2 := fun e => by
  unfold B3 Bx at h
  unfold dc d3 at e
  omega
theorem gen_m (a0 a1 a2 b0 b1 b2 : Int) (h : B3 a0 a1 a2 b0 b1 b2) : Gen (-1) 1048576 1099511627776 a0 a1 a2 b0 b1 b2 := fun e => by
  unfold B3 Bx at h
  unfold dc d3 at e
  omega
theorem gen_t (a0 a1 a2 b0 b1 b2 : Int) (h : B3 a0 a1 a2 b0 b1 b2) : Gen 1048576 (-1) 1099511627776 a0 a1 a2 b0 b1 b2 := fun e => by
  unfold B3 Bx at h
  unfold dc d3 at e
  omega
theorem al_as {x y z t : Int} (h : (-524287 ≤ x ∧ x ≤ 524287) ∧ (-524287 ≤ y ∧ y ≤ 524287) ∧ (-524287 ≤ z ∧ z ≤ 524287)) (e : x + 1048576 * y + 1099511627776 * z = t) : alS x y z = sgn t := by
  rw [← ray_al h, ← e]
  unfold d3
  rw [Int.one_mul]
theorem wndS_T (a0 a1 a2 b0 b1 b2 c0 c1 c2 : Int) (h1 : B3 b0 b1 b2 c0 c1 c2) (h2 : B3 c0 c1 c2 a0 a1 a2) (h3 : B3 a0 a1 a2 b0 b1 b2) : wndS (-a1) a0 a2 (-b1) b0 b2 (-c1) c0 c2 = wndR 1048576 (-1) 1099511627776 a0 a1 a2 b0 b1 b2 c0 c1 c2 := by
  have e : pr9 (-a1) a0 a2 (-b1) b0 b2 (-c1) c0 c2 = pr9 a0 a1 a2 b0 b1 b2 c0 c1 c2 := by unfold pr9; grind
  unfold wndR
  rw [← e]
  unfold B3 Bx at h1 h2 h3
  simp only [Int.mul_comm b1, Int.mul_comm b2, Int.mul_comm b0] at h1 h2 h3
  refine wndS_of _ _ _ _ _ _ _ _ _ (al_as ?_ ?_) (al_as ?_ ?_) (al_as ?_ ?_)
  · have e1 : -b1 * c0 = -(b1 * c0) := Int.neg_mul _ _
    have e2 : b0 * -c1 = -(b0 * c1) := Int.mul_neg _ _
    have e3 : b2 * -c1 = -(b2 * c1) := Int.mul_neg _ _
    have e4 : -b1 * c2 = -(b1 * c2) := Int.neg_mul _ _
    grind
  · unfold dc d3; grind
  · grind
  · unfold dc d3; grind
  · grind
  · unfold dc d3; grind
theorem wndS_M (a0 a1 a2 b0 b1 b2 c0 c1 c2 : Int) (h1 : B3 b0 b1 b2 c0 c1 c2) (h2 : B3 c0 c1 c2 a0 a1 a2) (h3 : B3 a0 a1 a2 b0 b1 b2) : wndS (-a0) a1 a2 (-c0) c1 c2 (-b0) b1 b2 = wndR (-1) 1048576 1099511627776 a0 a1 a2 b0 b1 b2 c0 c1 c2 := by
  have e : pr9 (-a0) a1 a2 (-c0) c1 c2 (-b0) b1 b2 = pr9 a0 a1 a2 b0 b1 b2 c0 c1 c2 := by unfold pr9; grind
  unfold wndR
  rw [← e, pos3_swap _ (dc (-1) 1048576 1099511627776 a0 a1 a2 b0 b1 b2), pos3_swap _ (-dc (-1) 1048576 1099511627776 a0 a1 a2 b0 b1 b2)]
  unfold B3 Bx at h1 h2 h3
  refine wndS_of _ _ _ _ _ _ _ _ _ (al_as ?_ ?_) (al_as ?_ ?_) (al_as ?_ ?_)
  · grind
  · unfold dc d3; grind
  · grind
  · unfold dc d3; grind
  · grind
  · unfold dc d3; grind
end Go.Proofs.Ytbhcjdgfcinpcaa
namespace Go.Proofs.Ytbhcjdgfcinpcaa
set_option linter.unusedVariables false
set_option linter.unusedSimpArgs false
theorem mul_bk {x y k C : Int} (hx : -k ≤ x ∧ x ≤ k) (hy : -k ≤ y ∧ y ≤ k) (hC : k * k = C) : -C ≤ x * y ∧ x * y ≤ C := by
  have h1 := Int.mul_nonneg (show 0 ≤ k - x by omega) (show 0 ≤ k - y by omega)
  have h2 := Int.mul_nonneg (show 0 ≤ k + x by omega) (show 0 ≤ k + y by omega)
  have h3 := Int.mul_nonneg (show 0 ≤ k - x by omega) (show 0 ≤ k + y by omega)
  have h4 := Int.mul_nonneg (show 0 ≤ k + x by omega) (show 0 ≤ k - y by omega)
  have e1 : (k - x) * (k - y) = k * k - k * y - x * k + x * y := by grind
  have e2 : (k + x) * (k + y) = k * k + k * y + x * k + x * y := by grind
  have e3 : (k - x) * (k + y) = k * k + k * y - x * k - x * y := by grind
  have e4 : (k + x) * (k - y) = k * k - k * y + x * k - x * y := by grind
  omega
theorem B3_of {a0 a1 a2 b0 b1 b2 : Int} (ha : (-384 ≤ a0 ∧ a0 ≤ 384) ∧ (-384 ≤ a1 ∧ a1 ≤ 384) ∧ (-384 ≤ a2 ∧ a2 ≤ 384)) (hb : (-384 ≤ b0 ∧ b0 ≤ 384) ∧ (-384 ≤ b1 ∧ b1 ≤ 384) ∧ (-384 ≤ b2 ∧ b2 ≤ 384)) : B3 a0 a1 a2 b0 b1 b2 := by
  have m := fun {x y : Int} (hx : -384 ≤ x ∧ x ≤ 384) (hy : -384 ≤ y ∧ y ≤ 384) => mul_bk hx hy (C := 147456) rfl
  have m12 := m ha.2.1 hb.2.2
  have m21 := m ha.2.2 hb.2.1
  have m20 := m ha.2.2 hb.1
  have m02 := m ha.1 hb.2.2
  have m01 := m ha.1 hb.2.1
  have m10 := m ha.2.1 hb.1
  unfold B3 Bx
  omega
theorem ray_n {x y z : Int} (hn : ¬ (x = 0 ∧ y = 0 ∧ z = 0)) (hb : (-524287 ≤ x ∧ x ≤ 524287) ∧ (-524287 ≤ y ∧ y ≤ 524287) ∧ (-524287 ≤ z ∧ z ≤ 524287)) : d3 1 1048576 1099511627776 x y z ≠ 0 ∧ d3 (-1) 1048576 1099511627776 x y z ≠ 0 ∧ d3 1048576 (-1) 1099511627776 x y z ≠ 0 := by
  unfold d3
  refine ⟨?_, ?_, ?_⟩ <;> intro h <;> omega
/-- A face that is off the point, along the mirrored and the turned ray. -/
theorem face_mt {a0 a1 a2 b0 b1 b2 c0 c1 c2 : Int} (ha : (-384 ≤ a0 ∧ a0 ≤ 384) ∧ (-384 ≤ a1 ∧ a1 ≤ 384) ∧ (-384 ≤ a2 ∧ a2 ≤ 384)) (hb : (-384 ≤ b0 ∧ b0 ≤ 384) ∧ (-384 ≤ b1 ∧ b1 ≤ 384) ∧ (-384 ≤ b2 ∧ b2 ≤ 384)) (hc : (-384 ≤ c0 ∧ c0 ≤ 384) ∧ (-384 ≤ c1 ∧ c1 ≤ 384) ∧ (-384 ≤ c2 ∧ c2 ≤ 384))
    (hn : ¬ (nX a0 a1 a2 b0 b1 b2 c0 c1 c2 = 0 ∧ nY a0 a1 a2 b0 b1 b2 c0 c1 c2 = 0 ∧ nZ a0 a1 a2 b0 b1 b2 c0 c1 c2 = 0)) (hnb : (-524287 ≤ nX a0 a1 a2 b0 b1 b2 c0 c1 c2 ∧ nX a0 a1 a2 b0 b1 b2 c0 c1 c2 ≤ 524287) ∧ (-524287 ≤ nY a0 a1 a2 b0 b1 b2 c0 c1 c2 ∧ nY a0 a1 a2 b0 b1 b2 c0 c1 c2 ≤ 524287) ∧ (-524287 ≤ nZ a0 a1 a2 b0 b1 b2 c0 c1 c2 ∧ nZ a0 a1 a2 b0 b1 b2 c0 c1 c2 ≤ 524287)) (ht : tchS a0 a1 a2 b0 b1 b2 c0 c1 c2 = false) :
    (wndR 1 1048576 1099511627776 a0 a1 a2 b0 b1 b2 c0 c1 c2 - wndR (-1) 1048576 1099511627776 a0 a1 a2 b0 b1 b2 c0 c1 c2 = dlR 1 1048576 1099511627776 (-1) 1048576 1099511627776 a0 a1 a2 b0 b1 b2 + dlR 1 1048576 1099511627776 (-1) 1048576 1099511627776 b0 b1 b2 c0 c1 c2 + dlR 1 1048576 1099511627776 (-1) 1048576 1099511627776 c0 c1 c2 a0 a1 a2) ∧
    (wndR 1 1048576 1099511627776 a0 a1 a2 b0 b1 b2 c0 c1 c2 - wndR 1048576 (-1) 1099511627776 a0 a1 a2 b0 b1 b2 c0 c1 c2 = dlR 1 1048576 1099511627776 1048576 (-1) 1099511627776 a0 a1 a2 b0 b1 b2 + dlR 1 1048576 1099511627776 1048576 (-1) 1099511627776 b0 b1 b2 c0 c1 c2 + dlR 1 1048576 1099511627776 1048576 (-1) 1099511627776 c0 c1 c2 a0 a1 a2) := by
  obtain ⟨n1, n2, n3⟩ := ray_n hn hnb
  have b1 := B3_of hb hc
  have b2 := B3_of hc ha
  have b3 := B3_of ha hb
  exact ⟨face_law _ _ _ _ _ _ _ _ _ _ _ _ _ _ _ (gen_1 _ _ _ _ _ _ b1) (gen_1 _ _ _ _ _ _ b2) (gen_1 _ _ _ _ _ _ b3) (gen_m _ _ _ _ _ _ b1) (gen_m _ _ _ _ _ _ b2) (gen_m _ _ _ _ _ _ b3) (by omega) n1 n2 ht, face_law _ _ _ _ _ _ _ _ _ _ _ _ _ _ _ (gen_1 _ _ _ _ _ _ b1) (gen_1 _ _ _ _ _ _ b2) (gen_1 _ _ _ _ _ _ b3) (gen_t _ _ _ _ _ _ b1) (gen_t _ _ _ _ _ _ b2) (gen_t _ _ _ _ _ _ b3) (by omega) n1 n3 ht⟩
end Go.Proofs.Ytbhcjdgfcinpcaa
namespace Go.Proofs.Ytbhcjdgfcinpcaa
set_option linter.unusedVariables false
set_option linter.unusedSimpArgs false
theorem sumZ_congr {f g : Nat → Int} : ∀ {m : Nat}, (∀ i, i < m → f i = g i) → sumZ f m = sumZ g m
  | 0, _ => rfl
  | m + 1, h => by
    show sumZ f m + f m = sumZ g m + g m
    rw [sumZ_congr (m := m) (fun i hi => h i (by omega)), h m (by omega)]
theorem wsum_sum (P F : Nat → Nat → Int) (q0 q1 q2 : Int) : ∀ m, wsum P F q0 q1 q2 m = sumZ (wndF P F q0 q1 q2) m
  | 0 => rfl
  | m + 1 => by
    show wsum P F q0 q1 q2 m + wndF P F q0 q1 q2 m = sumZ (wndF P F q0 q1 q2) m + wndF P F q0 q1 q2 m
    rw [wsum_sum P F q0 q1 q2 m]
theorem sub_neg2 (x y : Int) : -x - -y = -(x - y) := by omega
section
variable {P F : Nat → Nat → Int} {q0 q1 q2 : Int} {m : Nat}
/-- Corners are near the point. -/
def Near (P F : Nat → Nat → Int) (q0 q1 q2 : Int) (m : Nat) : Prop := ∀ i, i < m → ∀ k, k < 3 → (-384 ≤ vw P q0 q1 q2 (F i k) 0 ∧ vw P q0 q1 q2 (F i k) 0 ≤ 384) ∧ (-384 ≤ vw P q0 q1 q2 (F i k) 1 ∧ vw P q0 q1 q2 (F i k) 1 ≤ 384) ∧ (-384 ≤ vw P q0 q1 q2 (F i k) 2 ∧ vw P q0 q1 q2 (F i k) 2 ≤ 384)
theorem wsum_R (h : Near P F q0 q1 q2 m) : wsum P F q0 q1 q2 m = sumZ (wnV 1 1048576 1099511627776 (vw P q0 q1 q2) F) m := by
  rw [wsum_sum]
  exact sumZ_congr fun i hi => wndS_R _ _ _ _ _ _ _ _ _ (B3_of (h i hi 1 (by omega)) (h i hi 2 (by omega))) (B3_of (h i hi 2 (by omega)) (h i hi 0 (by omega))) (B3_of (h i hi 0 (by omega)) (h i hi 1 (by omega)))
theorem wsum_T (h : Near P F q0 q1 q2 m) : wsum (turnP P) F (-q1) q0 q2 m = sumZ (wnV 1048576 (-1) 1099511627776 (vw P q0 q1 q2) F) m := by
  rw [wsum_sum]
  refine sumZ_congr fun i hi => ?_
  have e := wndS_T _ _ _ _ _ _ _ _ _ (B3_of (h i hi 1 (by omega)) (h i hi 2 (by omega))) (B3_of (h i hi 2 (by omega)) (h i hi 0 (by omega))) (B3_of (h i hi 0 (by omega)) (h i hi 1 (by omega)))
  refine Eq.trans ?_ e
  show wndS (-P (F i 0).toNat 1 - -q1) (P (F i 0).toNat 0 - q0) (P (F i 0).toNat 2 - q2) (-P (F i 1).toNat 1 - -q1) (P (F i 1).toNat 0 - q0) (P (F i 1).toNat 2 - q2) (-P (F i 2).toNat 1 - -q1) (P (F i 2).toNat 0 - q0) (P (F i 2).toNat 2 - q2) = _
  rw [sub_neg2, sub_neg2, sub_neg2]
  rfl
theorem wsum_M (h : Near P F q0 q1 q2 m) : wsum (mirP P) (mirF F) (-q0) q1 q2 m = sumZ (wnV (-1) 1048576 1099511627776 (vw P q0 q1 q2) F) m := by
  rw [wsum_sum]
  refine sumZ_congr fun i hi => ?_
  have e := wndS_M _ _ _ _ _ _ _ _ _ (B3_of (h i hi 1 (by omega)) (h i hi 2 (by omega))) (B3_of (h i hi 2 (by omega)) (h i hi 0 (by omega))) (B3_of (h i hi 0 (by omega)) (h i hi 1 (by omega)))
  refine Eq.trans ?_ e
  show wndS (-P (F i 0).toNat 0 - -q0) (P (F i 0).toNat 1 - q1) (P (F i 0).toNat 2 - q2) (-P (F i 2).toNat 0 - -q0) (P (F i 2).toNat 1 - q1) (P (F i 2).toNat 2 - q2) (-P (F i 1).toNat 0 - -q0) (P (F i 1).toNat 1 - q1) (P (F i 1).toNat 2 - q2) = _
  rw [sub_neg2, sub_neg2, sub_neg2]
  rfl
/-- Turned and mirrored, a closed surface goes around as before. -/
theorem wsum_alike {al : Nat → Nat} (ho : Oth F al m) (h : Near P F q0 q1 q2 m)
    (hn : ∀ i, i < m → ¬ (nX (vw P q0 q1 q2 (F i 0) 0) (vw P q0 q1 q2 (F i 0) 1) (vw P q0 q1 q2 (F i 0) 2) (vw P q0 q1 q2 (F i 1) 0) (vw P q0 q1 q2 (F i 1) 1) (vw P q0 q1 q2 (F i 1) 2) (vw P q0 q1 q2 (F i 2) 0) (vw P q0 q1 q2 (F i 2) 1) (vw P q0 q1 q2 (F i 2) 2) = 0 ∧ nY (vw P q0 q1 q2 (F i 0) 0) (vw P q0 q1 q2 (F i 0) 1) (vw P q0 q1 q2 (F i 0) 2) (vw P q0 q1 q2 (F i 1) 0) (vw P q0 q1 q2 (F i 1) 1) (vw P q0 q1 q2 (F i 1) 2) (vw P q0 q1 q2 (F i 2) 0) (vw P q0 q1 q2 (F i 2) 1) (vw P q0 q1 q2 (F i 2) 2) = 0 ∧ nZ (vw P q0 q1 q2 (F i 0) 0) (vw P q0 q1 q2 (F i 0) 1) (vw P q0 q1 q2 (F i 0) 2) (vw P q0 q1 q2 (F i 1) 0) (vw P q0 q1 q2 (F i 1) 1) (vw P q0 q1 q2 (F i 1) 2) (vw P q0 q1 q2 (F i 2) 0) (vw P q0 q1 q2 (F i 2) 1) (vw P q0 q1 q2 (F i 2) 2) = 0))
    (hb : ∀ i, i < m → (-524287 ≤ nX (vw P q0 q1 q2 (F i 0) 0) (vw P q0 q1 q2 (F i 0) 1) (vw P q0 q1 q2 (F i 0) 2) (vw P q0 q1 q2 (F i 1) 0) (vw P q0 q1 q2 (F i 1) 1) (vw P q0 q1 q2 (F i 1) 2) (vw P q0 q1 q2 (F i 2) 0) (vw P q0 q1 q2 (F i 2) 1) (vw P q0 q1 q2 (F i 2) 2) ∧ nX (vw P q0 q1 q2 (F i 0) 0) (vw P q0 q1 q2 (F i 0) 1) (vw P q0 q1 q2 (F i 0) 2) (vw P q0 q1 q2 (F i 1) 0) (vw P q0 q1 q2 (F i 1) 1) (vw P q0 q1 q2 (F i 1) 2) (vw P q0 q1 q2 (F i 2) 0) (vw P q0 q1 q2 (F i 2) 1) (vw P q0 q1 q2 (F i 2) 2) ≤ 524287) ∧ (-524287 ≤ nY (vw P q0 q1 q2 (F i 0) 0) (vw P q0 q1 q2 (F i 0) 1) (vw P q0 q1 q2 (F i 0) 2) (vw P q0 q1 q2 (F i 1) 0) (vw P q0 q1 q2 (F i 1) 1) (vw P q0 q1 q2 (F i 1) 2) (vw P q0 q1 q2 (F i 2) 0) (vw P q0 q1 q2 (F i 2) 1) (vw P q0 q1 q2 (F i 2) 2) ∧ nY (vw P q0 q1 q2 (F i 0) 0) (vw P q0 q1 q2 (F i 0) 1) (vw P q0 q1 q2 (F i 0) 2) (vw P q0 q1 q2 (F i 1) 0) (vw P q0 q1 q2 (F i 1) 1) (vw P q0 q1 q2 (F i 1) 2) (vw P q0 q1 q2 (F i 2) 0) (vw P q0 q1 q2 (F i 2) 1) (vw P q0 q1 q2 (F i 2) 2) ≤ 524287) ∧ (-524287 ≤ nZ (vw P q0 q1 q2 (F i 0) 0) (vw P q0 q1 q2 (F i 0) 1) (vw P q0 q1 q2 (F i 0) 2) (vw P q0 q1 q2 (F i 1) 0) (vw P q0 q1 q2 (F i 1) 1) (vw P q0 q1 q2 (F i 1) 2) (vw P q0 q1 q2 (F i 2) 0) (vw P q0 q1 q2 (F i 2) 1) (vw P q0 q1 q2 (F i 2) 2) ∧ nZ (vw P q0 q1 q2 (F i 0) 0) (vw P q0 q1 q2 (F i 0) 1) (vw P q0 q1 q2 (F i 0) 2) (vw P q0 q1 q2 (F i 1) 0) (vw P q0 q1 q2 (F i 1) 1) (vw P q0 q1 q2 (F i 1) 2) (vw P q0 q1 q2 (F i 2) 0) (vw P q0 q1 q2 (F i 2) 1) (vw P q0 q1 q2 (F i 2) 2) ≤ 524287))
    (ht : onS P F q0 q1 q2 m = false) : wsum (turnP P) F (-q1) q0 q2 m = wsum P F q0 q1 q2 m ∧ wsum (mirP P) (mirF F) (-q0) q1 q2 m = wsum P F q0 q1 q2 m := by
  have t := of_any_false ht
  have f := fun i (hi : i < m) => face_mt (h i hi 0 (by omega)) (h i hi 1 (by omega)) (h i hi 2 (by omega)) (hn i hi) (hb i hi) (t i hi)
  rw [wsum_T h, wsum_M h, wsum_R h]
  exact ⟨(rays_eq ho fun i hi => (f i hi).2).symm, (rays_eq ho fun i hi => (f i hi).1).symm⟩
end
end Go.Proofs.Ytbhcjdgfcinpcaa
namespace Go.Proofs.Ytbhcjdgfcinpcaa
set_option linter.unusedVariables false
set_option linter.unusedSimpArgs false
theorem tch_T (a0 a1 a2 b0 b1 b2 c0 c1 c2 : Int) : tchS (-a1) a0 a2 (-b1) b0 b2 (-c1) c0 c2 = tchS a0 a1 a2 b0 b1 b2 c0 c1 c2 := by
  have e : pr9 (-a1) a0 a2 (-b1) b0 b2 (-c1) c0 c2 = pr9 a0 a1 a2 b0 b1 b2 c0 c1 c2 := by unfold pr9; grind
  have e1 : nX (-a1) a0 a2 (-b1) b0 b2 (-c1) c0 c2 = -nY a0 a1 a2 b0 b1 b2 c0 c1 c2 := by unfold nX nY; grind
  have e2 : nY (-a1) a0 a2 (-b1) b0 b2 (-c1) c0 c2 = nX a0 a1 a2 b0 b1 b2 c0 c1 c2 := by unfold nX nY; grind
  have e3 : nZ (-a1) a0 a2 (-b1) b0 b2 (-c1) c0 c2 = nZ a0 a1 a2 b0 b1 b2 c0 c1 c2 := by unfold nZ; grind
  have d : ∀ n0 n1 n2 x0 x1 x2 y0 y1 y2 : Int, dc (-n1) n0 n2 (-x1) x0 x2 (-y1) y0 y2 = dc n0 n1 n2 x0 x1 x2 y0 y1 y2 := fun n0 n1 n2 x0 x1 x2 y0 y1 y2 => by unfold dc d3; grind
  unfold tchS
  rw [e, e1, e2, e3, d, d, d]
theorem tch_M (a0 a1 a2 b0 b1 b2 c0 c1 c2 : Int) : tchS (-a0) a1 a2 (-c0) c1 c2 (-b0) b1 b2 = tchS a0 a1 a2 b0 b1 b2 c0 c1 c2 := by
  have e : pr9 (-a0) a1 a2 (-c0) c1 c2 (-b0) b1 b2 = pr9 a0 a1 a2 b0 b1 b2 c0 c1 c2 := by unfold pr9; grind
  have e1 : nX (-a0) a1 a2 (-c0) c1 c2 (-b0) b1 b2 = -nX a0 a1 a2 b0 b1 b2 c0 c1 c2 := by unfold nX; grind
  have e2 : nY (-a0) a1 a2 (-c0) c1 c2 (-b0) b1 b2 = nY a0 a1 a2 b0 b1 b2 c0 c1 c2 := by unfold nY; grind
  have e3 : nZ (-a0) a1 a2 (-c0) c1 c2 (-b0) b1 b2 = nZ a0 a1 a2 b0 b1 b2 c0 c1 c2 := by unfold nZ; grind
  have d : ∀ n0 n1 n2 x0 x1 x2 y0 y1 y2 : Int, dc (-n0) n1 n2 (-x0) x1 x2 (-y0) y1 y2 = dc n0 n1 n2 y0 y1 y2 x0 x1 x2 := fun n0 n1 n2 x0 x1 x2 y0 y1 y2 => by unfold dc d3; grind
  unfold tchS
  rw [e, e1, e2, e3, d, d, d]
  generalize decide (0 ≤ dc _ _ _ a0 a1 a2 b0 b1 b2) = x
  generalize decide (0 ≤ dc _ _ _ b0 b1 b2 c0 c1 c2) = y
  generalize decide (0 ≤ dc _ _ _ c0 c1 c2 a0 a1 a2) = z
  cases x <;> cases y <;> cases z <;> rfl
theorem any_eq {f g : Nat → Bool} {m : Nat} (h : ∀ i, f i = g i) : (List.range m).any f = (List.range m).any g := by rw [show f = g from funext h]
section
variable (P F : Nat → Nat → Int) (q0 q1 q2 : Int) (m : Nat)
theorem on_T : onS (turnP P) F (-q1) q0 q2 m = onS P F q0 q1 q2 m := by
  refine any_eq fun i => ?_
  show tchS (-P (F i 0).toNat 1 - -q1) (P (F i 0).toNat 0 - q0) (P (F i 0).toNat 2 - q2) (-P (F i 1).toNat 1 - -q1) (P (F i 1).toNat 0 - q0) (P (F i 1).toNat 2 - q2) (-P (F i 2).toNat 1 - -q1) (P (F i 2).toNat 0 - q0) (P (F i 2).toNat 2 - q2) = _
  rw [sub_neg2, sub_neg2, sub_neg2, tch_T (P (F i 0).toNat 0 - q0) (P (F i 0).toNat 1 - q1)]
  rfl
theorem on_M : onS (mirP P) (mirF F) (-q0) q1 q2 m = onS P F q0 q1 q2 m := by
  refine any_eq fun i => ?_
  show tchS (-P (F i 0).toNat 0 - -q0) (P (F i 0).toNat 1 - q1) (P (F i 0).toNat 2 - q2) (-P (F i 2).toNat 0 - -q0) (P (F i 2).toNat 1 - q1) (P (F i 2).toNat 2 - q2) (-P (F i 1).toNat 0 - -q0) (P (F i 1).toNat 1 - q1) (P (F i 1).toNat 2 - q2) = _
  rw [sub_neg2, sub_neg2, sub_neg2, tch_M (P (F i 0).toNat 0 - q0)]
  rfl
theorem add_sub2 (x y z : Int) : x + z - (y + z) = x - y := by omega
theorem on_V (v0 v1 v2 : Int) : onS (movP P v0 v1 v2) F (q0 + v0) (q1 + v1) (q2 + v2) m = onS P F q0 q1 q2 m := by
  refine any_eq fun i => ?_
  show tchS (P (F i 0).toNat 0 + v0 - (q0 + v0)) (P (F i 0).toNat 1 + v1 - (q1 + v1)) (P (F i 0).toNat 2 + v2 - (q2 + v2)) (P (F i 1).toNat 0 + v0 - (q0 + v0)) (P (F i 1).toNat 1 + v1 - (q1 + v1)) (P (F i 1).toNat 2 + v2 - (q2 + v2)) (P (F i 2).toNat 0 + v0 - (q0 + v0)) (P (F i 2).toNat 1 + v1 - (q1 + v1)) (P (F i 2).toNat 2 + v2 - (q2 + v2)) = _
  simp only [add_sub2]
  rfl
theorem wsum_V (v0 v1 v2 : Int) : wsum (movP P v0 v1 v2) F (q0 + v0) (q1 + v1) (q2 + v2) m = wsum P F q0 q1 q2 m := by
  rw [wsum_sum, wsum_sum]
  refine sumZ_congr fun i _ => ?_
  show wndS (P (F i 0).toNat 0 + v0 - (q0 + v0)) (P (F i 0).toNat 1 + v1 - (q1 + v1)) (P (F i 0).toNat 2 + v2 - (q2 + v2)) (P (F i 1).toNat 0 + v0 - (q0 + v0)) (P (F i 1).toNat 1 + v1 - (q1 + v1)) (P (F i 1).toNat 2 + v2 - (q2 + v2)) (P (F i 2).toNat 0 + v0 - (q0 + v0)) (P (F i 2).toNat 1 + v1 - (q1 + v1)) (P (F i 2).toNat 2 + v2 - (q2 + v2)) = _
  simp only [add_sub2]
  rfl
end
end Go.Proofs.Ytbhcjdgfcinpcaa
namespace Go.Proofs.Ytbhcjdgfcinpcaa
set_option linter.unusedVariables false
set_option linter.unusedSimpArgs false
/-- The four parts of a cone, by their sides' signs. -/
theorem core3 {p q r : Int} (h1 : p - q - r ≠ 0) (h2 : q - r - p ≠ 0) (h3 : r - p - q ≠ 0) : pos3 p q r = pos3 (p - q - r) q r + pos3 p (q - r - p) r + pos3 p q (r - p - q) + pos3 (q + r - p) (r + p - q) (p + q - r) := by
  unfold pos3
  split <;> split <;> split <;> split <;> split <;> omega
/-- A flat triangle has its top, if one of its four parts has. -/
theorem core4 (p q r : Int) (h : 0 < p + q + r) : (0 ≤ p ∧ 0 ≤ q ∧ 0 ≤ r) ↔ ((0 ≤ p - q - r ∧ 0 ≤ q ∧ 0 ≤ r) ∨ (0 ≤ p ∧ 0 ≤ q - r - p ∧ 0 ≤ r) ∨ (0 ≤ p ∧ 0 ≤ q ∧ 0 ≤ r - p - q) ∨ (0 ≤ q + r - p ∧ 0 ≤ r + p - q ∧ 0 ≤ p + q - r)) := by
  omega
theorem part0_d (r0 r1 r2 a0 a1 a2 b0 b1 b2 c0 c1 c2 : Int) : pr9 (2 * a0) (2 * a1) (2 * a2) (a0 + b0) (a1 + b1) (a2 + b2) (c0 + a0) (c1 + a1) (c2 + a2) = 2 * pr9 a0 a1 a2 b0 b1 b2 c0 c1 c2 ∧ dc r0 r1 r2 (a0 + b0) (a1 + b1) (a2 + b2) (c0 + a0) (c1 + a1) (c2 + a2) = dc r0 r1 r2 b0 b1 b2 c0 c1 c2 - dc r0 r1 r2 c0 c1 c2 a0 a1 a2 - dc r0 r1 r2 a0 a1 a2 b0 b1 b2 ∧ dc r0 r1 r2 (c0 + a0) (c1 + a1) (c2 + a2) (2 * a0) (2 * a1) (2 * a2) = 2 * dc r0 r1 r2 c0 c1 c2 a0 a1 a2 ∧ dc r0 r1 r2 (2 * a0) (2 * a1) (2 * a2) (a0 + b0) (a1 + b1) (a2 + b2) = 2 * dc r0 r1 r2 a0 a1 a2 b0 b1 b2 := by
  unfold pr9 dc d3
  refine ⟨?_, ?_, ?_, ?_⟩ <;> grind
theorem part1_d (r0 r1 r2 a0 a1 a2 b0 b1 b2 c0 c1 c2 : Int) : pr9 (a0 + b0) (a1 + b1) (a2 + b2) (2 * b0) (2 * b1) (2 * b2) (b0 + c0) (b1 + c1) (b2 + c2) = 2 * pr9 a0 a1 a2 b0 b1 b2 c0 c1 c2 ∧ dc r0 r1 r2 (2 * b0) (2 * b1) (2 * b2) (b0 + c0) (b1 + c1) (b2 + c2) = 2 * dc r0 r1 r2 b0 b1 b2 c0 c1 c2 ∧ dc r0 r1 r2 (b0 + c0) (b1 + c1) (b2 + c2) (a0 + b0) (a1 + b1) (a2 + b2) = dc r0 r1 r2 c0 c1 c2 a0 a1 a2 - dc r0 r1 r2 a0 a1 a2 b0 b1 b2 - dc r0 r1 r2 b0 b1 b2 c0 c1 c2 ∧ dc r0 r1 r2 (a0 + b0) (a1 + b1) (a2 + b2) (2 * b0) (2 * b1) (2 * b2) = 2 * dc r0 r1 r2 a0 a1 a2 b0 b1 b2 := by
  unfold pr9 dc d3
  refine ⟨?_, ?_, ?_, ?_⟩ <;> grind
theorem part2_d (r0 r1 r2 a0 a1 a2 b0 b1 b2 c0 c1 c2 : Int) : pr9 (c0 + a0) (c1 + a1) (c2 + a2) (b0 + c0) (b1 + c1) (b2 + c2) (2 * c0) (2 * c1) (2 * c2) = 2 * pr9 a0 a1 a2 b0 b1 b2 c0 c1 c2 ∧ dc r0 r1 r2 (b0 + c0) (b1 + c1) (b2 + c2) (2 * c0) (2 * c1) (2 * c2) = 2 * dc r0 r1 r2 b0 b1 b2 c0 c1 c2 ∧ dc r0 r1 r2 (2 * c0) (2 * c1) (2 * c2) (c0 + a0) (c1 + a1) (c2 + a2) = 2 * dc r0 r1 r2 c0 c1 c2 a0 a1 a2 ∧ dc r0 r1 r2 (c0 + a0) (c1 + a1) (c2 + a2) (b0 + c0) (b1 + c1) (b2 + c2) = dc r0 r1 r2 a0 a1 a2 b0 b1 b2 - dc r0 r1 r2 b0 b1 b2 c0 c1 c2 - dc r0 r1 r2 c0 c1 c2 a0 a1 a2 := by
  unfold pr9 dc d3
  refine ⟨?_, ?_, ?_, ?_⟩ <;> grind
theorem part3_d (r0 r1 r2 a0 a1 a2 b0 b1 b2 c0 c1 c2 : Int) : pr9 (a0 + b0) (a1 + b1) (a2 + b2) (b0 + c0) (b1 + c1) (b2 + c2) (c0 + a0) (c1 + a1) (c2 + a2) = 2 * pr9 a0 a1 a2 b0 b1 b2 c0 c1 c2 ∧ dc r0 r1 r2 (b0 + c0) (b1 + c1) (b2 + c2) (c0 + a0) (c1 + a1) (c2 + a2) = dc r0 r1 r2 b0 b1 b2 c0 c1 c2 + dc r0 r1 r2 c0 c1 c2 a0 a1 a2 - dc r0 r1 r2 a0 a1 a2 b0 b1 b2 ∧ dc r0 r1 r2 (c0 + a0) (c1 + a1) (c2 + a2) (a0 + b0) (a1 + b1) (a2 + b2) = dc r0 r1 r2 c0 c1 c2 a0 a1 a2 + dc r0 r1 r2 a0 a1 a2 b0 b1 b2 - dc r0 r1 r2 b0 b1 b2 c0 c1 c2 ∧ dc r0 r1 r2 (a0 + b0) (a1 + b1) (a2 + b2) (b0 + c0) (b1 + c1) (b2 + c2) = dc r0 r1 r2 a0 a1 a2 b0 b1 b2 + dc r0 r1 r2 b0 b1 b2 c0 c1 c2 - dc r0 r1 r2 c0 c1 c2 a0 a1 a2 := by
  unfold pr9 dc d3
  refine ⟨?_, ?_, ?_, ?_⟩ <;> grind
theorem wnd_form {d p q r : Int} : (if 0 < d then pos3 p q r else if d < 0 then -pos3 (-p) (-q) (-r) else 0) = if 0 < 2 * d then pos3 p q r else if 2 * d < 0 then -pos3 (-p) (-q) (-r) else 0 := by
  split <;> split <;> (try split) <;> (try split) <;> first | rfl | omega
theorem core5 {d p q r : Int} (h1 : d ≠ 0 → p - q - r ≠ 0) (h2 : d ≠ 0 → q - r - p ≠ 0) (h3 : d ≠ 0 → r - p - q ≠ 0) : (if 0 < d then pos3 p q r else if d < 0 then -pos3 (-p) (-q) (-r) else 0) =
    (if 0 < 2 * d then pos3 (p - q - r) (2 * q) (2 * r) else if 2 * d < 0 then -pos3 (-(p - q - r)) (-(2 * q)) (-(2 * r)) else 0) + (if 0 < 2 * d then pos3 (2 * p) (q - r - p) (2 * r) else if 2 * d < 0 then -pos3 (-(2 * p)) (-(q - r - p)) (-(2 * r)) else 0) + (if 0 < 2 * d then pos3 (2 * p) (2 * q) (r - p - q) else if 2 * d < 0 then -pos3 (-(2 * p)) (-(2 * q)) (-(r - p - q)) else 0) + (if 0 < 2 * d then pos3 (p + q - r) (q + r - p) (r + p - q) else if 2 * d < 0 then -pos3 (-(p + q - r)) (-(q + r - p)) (-(r + p - q)) else 0) := by
  rcases (show 0 < d ∨ d < 0 ∨ d = 0 by omega) with h | h | h
  · rw [if_pos h, if_pos (by omega), if_pos (by omega), if_pos (by omega), if_pos (by omega), core3 (h1 (by omega)) (h2 (by omega)) (h3 (by omega))]
    unfold pos3
    congr 1
    · congr 1
      · congr 1 <;> congr 1 <;> simp only [eq_iff_iff] <;> omega
      · congr 1
        simp only [eq_iff_iff]
        omega
    · congr 1
      simp only [eq_iff_iff]
      omega
  · have n : ¬ 0 < d := by omega
    have n2 : ¬ 0 < 2 * d := by omega
    have k2 : 2 * d < 0 := by omega
    have h1 := h1 (by omega)
    have h2 := h2 (by omega)
    have h3 := h3 (by omega)
    rw [if_neg n, if_pos h]
    simp only [if_neg n2, if_pos k2]
    rw [core3 (p := -p) (q := -q) (r := -r) (by omega) (by omega) (by omega)]
    have e1 : pos3 (-p - -q - -r) (-q) (-r) = pos3 (-(p - q - r)) (-(2 * q)) (-(2 * r)) := by unfold pos3; congr 1; simp only [eq_iff_iff]; omega
    have e2 : pos3 (-p) (-q - -r - -p) (-r) = pos3 (-(2 * p)) (-(q - r - p)) (-(2 * r)) := by unfold pos3; congr 1; simp only [eq_iff_iff]; omega
    have e3 : pos3 (-p) (-q) (-r - -p - -q) = pos3 (-(2 * p)) (-(2 * q)) (-(r - p - q)) := by unfold pos3; congr 1; simp only [eq_iff_iff]; omega
    have e4 : pos3 (-q + -r - -p) (-r + -p - -q) (-p + -q - -r) = pos3 (-(p + q - r)) (-(q + r - p)) (-(r + p - q)) := by unfold pos3; congr 1; simp only [eq_iff_iff]; omega
    rw [e1, e2, e3, e4]
    omega
  · subst h
    rfl
theorem wnd_four (r0 r1 r2 a0 a1 a2 b0 b1 b2 c0 c1 c2 : Int) (g0 : Gen r0 r1 r2 (a0 + b0) (a1 + b1) (a2 + b2) (c0 + a0) (c1 + a1) (c2 + a2)) (g1 : Gen r0 r1 r2 (b0 + c0) (b1 + c1) (b2 + c2) (a0 + b0) (a1 + b1) (a2 + b2)) (g2 : Gen r0 r1 r2 (c0 + a0) (c1 + a1) (c2 + a2) (b0 + c0) (b1 + c1) (b2 + c2)) : wndR r0 r1 r2 a0 a1 a2 b0 b1 b2 c0 c1 c2 = wndR r0 r1 r2 (2 * a0) (2 * a1) (2 * a2) (a0 + b0) (a1 + b1) (a2 + b2) (c0 + a0) (c1 + a1) (c2 + a2) + wndR r0 r1 r2 (a0 + b0) (a1 + b1) (a2 + b2) (2 * b0) (2 * b1) (2 * b2) (b0 + c0) (b1 + c1) (b2 + c2) + wndR r0 r1 r2 (c0 + a0) (c1 + a1) (c2 + a2) (b0 + c0) (b1 + c1) (b2 + c2) (2 * c0) (2 * c1) (2 * c2) + wndR r0 r1 r2 (a0 + b0) (a1 + b1) (a2 + b2) (b0 + c0) (b1 + c1) (b2 + c2) (c0 + a0) (c1 + a1) (c2 + a2) := by
  obtain ⟨w1, w2, w3, w4⟩ := part0_d r0 r1 r2 a0 a1 a2 b0 b1 b2 c0 c1 c2
  obtain ⟨b1', b2', b3', b4'⟩ := part1_d r0 r1 r2 a0 a1 a2 b0 b1 b2 c0 c1 c2
  obtain ⟨c1', c2', c3', c4'⟩ := part2_d r0 r1 r2 a0 a1 a2 b0 b1 b2 c0 c1 c2
  obtain ⟨d1, d2, d3', d4⟩ := part3_d r0 r1 r2 a0 a1 a2 b0 b1 b2 c0 c1 c2
  unfold wndR
  rw [w1, w2, w3, w4, b1', b2', b3', b4', c1', c2', c3', c4', d1, d2, d3', d4]
  refine core5 (fun h e => ?_) (fun h e => ?_) (fun h e => ?_)
  · obtain ⟨z1, z2, z3⟩ := g0 (w2.trans e)
    have k := (det_c (2 * a0) (2 * a1) (2 * a2) (a0 + b0) (a1 + b1) (a2 + b2) (c0 + a0) (c1 + a1) (c2 + a2)).1
    rw [z1, z2, z3, w1] at k
    unfold d3 at k
    omega
  · obtain ⟨z1, z2, z3⟩ := g1 (b3'.trans e)
    have k := (det_c (a0 + b0) (a1 + b1) (a2 + b2) (2 * b0) (2 * b1) (2 * b2) (b0 + c0) (b1 + c1) (b2 + c2)).2.1
    rw [z1, z2, z3, b1'] at k
    unfold d3 at k
    omega
  · obtain ⟨z1, z2, z3⟩ := g2 (c4'.trans e)
    have k := (det_c (c0 + a0) (c1 + a1) (c2 + a2) (b0 + c0) (b1 + c1) (b2 + c2) (2 * c0) (2 * c1) (2 * c2)).2.2
    rw [z1, z2, z3, c1'] at k
    unfold d3 at k
    omega
theorem part0_n (a0 a1 a2 b0 b1 b2 c0 c1 c2 : Int) : nX (2 * a0) (2 * a1) (2 * a2) (a0 + b0) (a1 + b1) (a2 + b2) (c0 + a0) (c1 + a1) (c2 + a2) = nX a0 a1 a2 b0 b1 b2 c0 c1 c2 ∧ nY (2 * a0) (2 * a1) (2 * a2) (a0 + b0) (a1 + b1) (a2 + b2) (c0 + a0) (c1 + a1) (c2 + a2) = nY a0 a1 a2 b0 b1 b2 c0 c1 c2 ∧ nZ (2 * a0) (2 * a1) (2 * a2) (a0 + b0) (a1 + b1) (a2 + b2) (c0 + a0) (c1 + a1) (c2 + a2) = nZ a0 a1 a2 b0 b1 b2 c0 c1 c2 := by
  unfold nX nY nZ
  refine ⟨?_, ?_, ?_⟩ <;> grind
theorem part1_n (a0 a1 a2 b0 b1 b2 c0 c1 c2 : Int) : nX (a0 + b0) (a1 + b1) (a2 + b2) (2 * b0) (2 * b1) (2 * b2) (b0 + c0) (b1 + c1) (b2 + c2) = nX a0 a1 a2 b0 b1 b2 c0 c1 c2 ∧ nY (a0 + b0) (a1 + b1) (a2 + b2) (2 * b0) (2 * b1) (2 * b2) (b0 + c0) (b1 + c1) (b2 + c2) = nY a0 a1 a2 b0 b1 b2 c0 c1 c2 ∧ nZ (a0 + b0) (a1 + b1) (a2 + b2) (2 * b0) (2 * b1) (2 * b2) (b0 + c0) (b1 + c1) (b2 + c2) = nZ a0 a1 a2 b0 b1 b2 c0 c1 c2 := by
  unfold nX nY nZ
  refine ⟨?_, ?_, ?_⟩ <;> grind
theorem part2_n (a0 a1 a2 b0 b1 b2 c0 c1 c2 : Int) : nX (c0 + a0) (c1 + a1) (c2 + a2) (b0 + c0) (b1 + c1) (b2 + c2) (2 * c0) (2 * c1) (2 * c2) = nX a0 a1 a2 b0 b1 b2 c0 c1 c2 ∧ nY (c0 + a0) (c1 + a1) (c2 + a2) (b0 + c0) (b1 + c1) (b2 + c2) (2 * c0) (2 * c1) (2 * c2) = nY a0 a1 a2 b0 b1 b2 c0 c1 c2 ∧ nZ (c0 + a0) (c1 + a1) (c2 + a2) (b0 + c0) (b1 + c1) (b2 + c2) (2 * c0) (2 * c1) (2 * c2) = nZ a0 a1 a2 b0 b1 b2 c0 c1 c2 := by
  unfold nX nY nZ
  refine ⟨?_, ?_, ?_⟩ <;> grind
theorem part3_n (a0 a1 a2 b0 b1 b2 c0 c1 c2 : Int) : nX (a0 + b0) (a1 + b1) (a2 + b2) (b0 + c0) (b1 + c1) (b2 + c2) (c0 + a0) (c1 + a1) (c2 + a2) = nX a0 a1 a2 b0 b1 b2 c0 c1 c2 ∧ nY (a0 + b0) (a1 + b1) (a2 + b2) (b0 + c0) (b1 + c1) (b2 + c2) (c0 + a0) (c1 + a1) (c2 + a2) = nY a0 a1 a2 b0 b1 b2 c0 c1 c2 ∧ nZ (a0 + b0) (a1 + b1) (a2 + b2) (b0 + c0) (b1 + c1) (b2 + c2) (c0 + a0) (c1 + a1) (c2 + a2) = nZ a0 a1 a2 b0 b1 b2 c0 c1 c2 := by
  unfold nX nY nZ
  refine ⟨?_, ?_, ?_⟩ <;> grind
/-- A point lies on a triangle, if it lies on one of its four parts. -/
theorem tch_four (a0 a1 a2 b0 b1 b2 c0 c1 c2 : Int) (hp : 0 < dc (nX a0 a1 a2 b0 b1 b2 c0 c1 c2) (nY a0 a1 a2 b0 b1 b2 c0 c1 c2) (nZ a0 a1 a2 b0 b1 b2 c0 c1 c2) b0 b1 b2 c0 c1 c2 + dc (nX a0 a1 a2 b0 b1 b2 c0 c1 c2) (nY a0 a1 a2 b0 b1 b2 c0 c1 c2) (nZ a0 a1 a2 b0 b1 b2 c0 c1 c2) c0 c1 c2 a0 a1 a2 + dc (nX a0 a1 a2 b0 b1 b2 c0 c1 c2) (nY a0 a1 a2 b0 b1 b2 c0 c1 c2) (nZ a0 a1 a2 b0 b1 b2 c0 c1 c2) a0 a1 a2 b0 b1 b2) : tchS a0 a1 a2 b0 b1 b2 c0 c1 c2 = (tchS (2 * a0) (2 * a1) (2 * a2) (a0 + b0) (a1 + b1) (a2 + b2) (c0 + a0) (c1 + a1) (c2 + a2) || (tchS (a0 + b0) (a1 + b1) (a2 + b2) (2 * b0) (2 * b1) (2 * b2) (b0 + c0) (b1 + c1) (b2 + c2) || (tchS (c0 + a0) (c1 + a1) (c2 + a2) (b0 + c0) (b1 + c1) (b2 + c2) (2 * c0) (2 * c1) (2 * c2) || (tchS (a0 + b0) (a1 + b1) (a2 + b2) (b0 + c0) (b1 + c1) (b2 + c2) (c0 + a0) (c1 + a1) (c2 + a2))))) := by
  obtain ⟨x0, y0, z0⟩ := part0_n a0 a1 a2 b0 b1 b2 c0 c1 c2
  obtain ⟨s0, t0, u0, v0⟩ := part0_d (nX a0 a1 a2 b0 b1 b2 c0 c1 c2) (nY a0 a1 a2 b0 b1 b2 c0 c1 c2) (nZ a0 a1 a2 b0 b1 b2 c0 c1 c2) a0 a1 a2 b0 b1 b2 c0 c1 c2
  obtain ⟨x1, y1, z1⟩ := part1_n a0 a1 a2 b0 b1 b2 c0 c1 c2
  obtain ⟨s1, t1, u1, v1⟩ := part1_d (nX a0 a1 a2 b0 b1 b2 c0 c1 c2) (nY a0 a1 a2 b0 b1 b2 c0 c1 c2) (nZ a0 a1 a2 b0 b1 b2 c0 c1 c2) a0 a1 a2 b0 b1 b2 c0 c1 c2
  obtain ⟨x2, y2, z2⟩ := part2_n a0 a1 a2 b0 b1 b2 c0 c1 c2
  obtain ⟨s2, t2, u2, v2⟩ := part2_d (nX a0 a1 a2 b0 b1 b2 c0 c1 c2) (nY a0 a1 a2 b0 b1 b2 c0 c1 c2) (nZ a0 a1 a2 b0 b1 b2 c0 c1 c2) a0 a1 a2 b0 b1 b2 c0 c1 c2
  obtain ⟨x3, y3, z3⟩ := part3_n a0 a1 a2 b0 b1 b2 c0 c1 c2
  obtain ⟨s3, t3, u3, v3⟩ := part3_d (nX a0 a1 a2 b0 b1 b2 c0 c1 c2) (nY a0 a1 a2 b0 b1 b2 c0 c1 c2) (nZ a0 a1 a2 b0 b1 b2 c0 c1 c2) a0 a1 a2 b0 b1 b2 c0 c1 c2
  unfold tchS
  rw [x0, y0, z0, x1, y1, z1, x2, y2, z2, x3, y3, z3, s0, t0, u0, v0, s1, t1, u1, v1, s2, t2, u2, v2, s3, t3, u3, v3]
  rw [Bool.eq_iff_iff]
  simp only [Bool.and_eq_true, Bool.or_eq_true, decide_eq_true_eq]
  clear x0 y0 z0 x1 y1 z1 x2 y2 z2 x3 y3 z3 s0 t0 u0 v0 s1 t1 u1 v1 s2 t2 u2 v2 s3 t3 u3 v3
  generalize dc (nX a0 a1 a2 b0 b1 b2 c0 c1 c2) (nY a0 a1 a2 b0 b1 b2 c0 c1 c2) (nZ a0 a1 a2 b0 b1 b2 c0 c1 c2) b0 b1 b2 c0 c1 c2 = p at *
  generalize dc (nX a0 a1 a2 b0 b1 b2 c0 c1 c2) (nY a0 a1 a2 b0 b1 b2 c0 c1 c2) (nZ a0 a1 a2 b0 b1 b2 c0 c1 c2) c0 c1 c2 a0 a1 a2 = q at *
  generalize dc (nX a0 a1 a2 b0 b1 b2 c0 c1 c2) (nY a0 a1 a2 b0 b1 b2 c0 c1 c2) (nZ a0 a1 a2 b0 b1 b2 c0 c1 c2) a0 a1 a2 b0 b1 b2 = r at *
  generalize pr9 a0 a1 a2 b0 b1 b2 c0 c1 c2 = d
  have c := core4 p q r hp
  omega
end Go.Proofs.Ytbhcjdgfcinpcaa
