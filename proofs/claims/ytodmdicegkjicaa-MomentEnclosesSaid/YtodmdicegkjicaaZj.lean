/- Far fields over the rational numbers: all panels together; what is proved encloses one number, as near as wanted. Conditions: those of each theorem. Contracts: common parts, inclusion and order of spans, and the statement SpanMeets. No conditions. Far fields and potentials by panels enclose one number: what is proved meets. Plain. Conditions: those of each theorem. The far fields of panels meet each other and the potential by panels. Plain. Conditions: those of each theorem. -/
import Derived.Test.YtodmdicegkjicaaZe
import Derived.Test.YtodmdicegkjicaaZi
import Derived.Test.YtodmdicegkjicaaZh
import Derived.Test.YtodmdicegkjicaaZa
import Derived.Test.YtodmdicegkjicaaZb
namespace Go.Proofs.Ytodmdicegkjicaa
set_option linter.unusedVariables false
set_option linter.unusedSimpArgs false
open Go.RowKit
def rowP (g : Nat → Int) : Pn := ⟨g 0, g 1, g 2, g 3, g 4, g 5, g 6, g 7, g 8⟩
def hitB (d : Nat) (x0 x1 x2 : Int) (p : Pn) : Bool := (cutL d p).any fun P => decide (nearP P.at 3 (ptF (2 ^ d * x0) (2 ^ d * x1) (2 ^ d * x2)) 1 = 0)
/-- The mean of 1/r over a panel. -/
def meanX (d : Nat) (x0 x1 x2 : Int) (p : Pn) : R := if hitB d x0 x1 x2 p then ⟨0, 0, 10⟩ else ⟨(partS (sumP (lowX d (2 ^ d * x0) (2 ^ d * x1) (2 ^ d * x2)) (cutL d p)) (sumP (higX d (2 ^ d * x0) (2 ^ d * x1) (2 ^ d * x2)) (cutL d p)) (4 ^ d)).lo, (partS (sumP (lowX d (2 ^ d * x0) (2 ^ d * x1) (2 ^ d * x2)) (cutL d p)) (sumP (higX d (2 ^ d * x0) (2 ^ d * x1) (2 ^ d * x2)) (cutL d p)) (4 ^ d)).hi, 0⟩
def ptS (d : Nat) (x0 x1 x2 : Int) (g : Nat → Int) : R := if (meanX d x0 x1 x2 (rowP g)).e = 0 then scaleS (meanX d x0 x1 x2 (rowP g)).lo (meanX d x0 x1 x2 (rowP g)).hi (g 9) else ⟨0, 0, (meanX d x0 x1 x2 (rowP g)).e⟩
def potE (f : Nat → Nat → Int) (d : Nat) (x0 x1 x2 : Int) : Nat → Int
  | 0 => 0
  | n + 1 => if potE f d x0 x1 x2 n = 0 then (ptS d x0 x1 x2 (f n)).e else potE f d x0 x1 x2 n
def potV (n : Nat) (f : Nat → Nat → Int) (d : Nat) (x0 x1 x2 : Int) : R := if potE f d x0 x1 x2 n = 0 then sumsS n (fun k => (ptS d x0 x1 x2 (f k)).lo) (fun k => (ptS d x0 x1 x2 (f k)).hi) else ⟨0, 0, potE f d x0 x1 x2 n⟩
/-- What the moments say, up to an order. -/
def gM (u0 u1 u2 : Int) (n : Rat) (m : Mo) : Nat → Rat
  | 0 => m.q
  | 1 => (m.q : Rat) + ((m.x : Rat) * u0 + m.y * u1 + m.z * u2) / (3 * n)
  | _ => (m.q : Rat) + ((m.x : Rat) * u0 + m.y * u1 + m.z * u2) / (3 * n) + (3 * ((u0 : Rat) * m.a * u0 + 2 * (u0 * m.b * u1) + 2 * (u0 * m.c * u2) + u1 * m.d * u1 + 2 * (u1 * m.e * u2) + u2 * m.f * u2) - n * ((m.a : Rat) + m.d + m.f)) / (24 * n * n)
theorem gM_add (u0 u1 u2 : Int) (n : Rat) (m : Mo) (q : Int) (p : Pn) (j : Nat) : gM u0 u1 u2 n (addA m q p.a0 p.a1 p.a2 p.b0 p.b1 p.b2 p.c0 p.c1 p.c2) j = gM u0 u1 u2 n m j + q * oneS u0 u1 u2 n p j := by
  rcases j with _ | _ | j
  · simp only [gM, addA, oneS]
    push_cast
    grind
  · simp only [gM, addA, oneS]
    push_cast
    simp only [Rat.div_def]
    grind
  · simp only [gM, addA, oneS, qua]
    push_cast
    simp only [Rat.div_def]
    grind
theorem sum_two {a b x y : Rat} (h1 : a ≤ x) (h2 : b ≤ y) : a + b ≤ x + y := by grind
/-- A charge times a number that is near. -/
theorem near_mul {q : Int} {W A E : Rat} (h1 : W ≤ A + E) (h2 : A ≤ W + E) : (q : Rat) * W ≤ q * A + (max q (-q) : Int) * E ∧ (q : Rat) * A ≤ q * W + (max q (-q) : Int) * E := by
  rcases Int.le_total 0 q with h | h
  · rw [show max q (-q) = q by omega]
    have h0 : (0 : Rat) ≤ q := cast_le (a := 0) h
    have a1 := Rat.mul_le_mul_of_nonneg_left h1 h0
    have a2 := Rat.mul_le_mul_of_nonneg_left h2 h0
    grind
  · rw [show max q (-q) = -q by omega, Rat.intCast_neg]
    have h0 : (0 : Rat) ≤ -(q : Rat) := by have := cast_le (b := 0) h; grind
    have a1 := Rat.mul_le_mul_of_nonneg_left h1 h0
    have a2 := Rat.mul_le_mul_of_nonneg_left h2 h0
    grind
theorem all_z {u0 u1 u2 c0 c1 c2 g a r : Int} {d : Nat} {f : Nat → Nat → Int} {e ρ : Rat} (hd : d ≤ 3) (hn : 1 ≤ n3 u0 u1 u2) (ha : 0 ≤ a) (hr : a < r) (hr2 : r * r ≤ n3 u0 u1 u2 * 1099511627776) (ha2 : g * 1099511627776 ≤ a * a)
    (he : 0 < e) (he2 : e ≤ 1 / 4) (he3 : 2 * e ≤ (1 - (a : Rat) / r) ^ 2) (hρ : 0 ≤ ρ) (h1 : 1 - e ≤ ρ ^ 2 * (n3 u0 u1 u2 : Int)) (h2 : ρ ^ 2 * (n3 u0 u1 u2 : Int) ≤ 1 + e) :
    ∀ n : Nat, (∀ k, k < n → ((rowP (f k)).sh c0 c1 c2).inS g) → (∀ k, k < n → (∀ P ∈ cutL d (rowP (f k)), farI P.at (ptF (2 ^ d * (c0 + u0)) (2 ^ d * (c1 + u1)) (2 ^ d * (c2 + u2))) 1 3 ≤ 1099511627776) ∧ (∀ P ∈ cutL d (rowP (f k)), 0 ≤ nearP P.at 3 (ptF (2 ^ d * (c0 + u0)) (2 ^ d * (c1 + u1)) (2 ^ d * (c2 + u2))) 1)) →
    (∀ k, k < n → hitB d (c0 + u0) (c1 + u1) (c2 + u2) (rowP (f k)) = false → (partS (sumP (lowX d (2 ^ d * (c0 + u0)) (2 ^ d * (c1 + u1)) (2 ^ d * (c2 + u2))) (cutL d (rowP (f k)))) (sumP (higX d (2 ^ d * (c0 + u0)) (2 ^ d * (c1 + u1)) (2 ^ d * (c2 + u2))) (cutL d (rowP (f k)))) (4 ^ d)).e = 0) →
    ∃ V : Rat, (potE f d (c0 + u0) (c1 + u1) (c2 + u2) n = 0 → enc (sumF n (fun k => (ptS d (c0 + u0) (c1 + u1) (c2 + u2) (f k)).lo)) (sumF n (fun k => (ptS d (c0 + u0) (c1 + u1) (c2 + u2) (f k)).hi)) (1048576 * V)) ∧
      ∀ j, j ≤ 2 → V ≤ ρ * gM u0 u1 u2 (n3 u0 u1 u2 : Int) (momF f c0 c1 c2 n) j + (momF f c0 c1 c2 n).t * (fT ((a : Rat) / r) j / ((r : Rat) / 1048576) + cC ((a : Rat) / r) ((r : Rat) / 1048576) j * e) ∧ ρ * gM u0 u1 u2 (n3 u0 u1 u2 : Int) (momF f c0 c1 c2 n) j ≤ V + (momF f c0 c1 c2 n).t * (fT ((a : Rat) / r) j / ((r : Rat) / 1048576) + cC ((a : Rat) / r) ((r : Rat) / 1048576) j * e)
  | 0, _, _, _ => by
    refine ⟨0, fun _ => ?_, fun j hj => ?_⟩
    · unfold enc
      simp only [sumF]
      exact ⟨by rw [Rat.mul_zero]; exact Rat.le_refl, by rw [Rat.mul_zero]; exact Rat.le_refl⟩
    · have hz : gM u0 u1 u2 (n3 u0 u1 u2 : Int) (momF f c0 c1 c2 0) j = 0 := by
        rcases j with _ | _ | j <;> simp only [gM, momF, moZ, Rat.div_def] <;> simp <;> grind
      rw [hz]
      have ht : (((momF f c0 c1 c2 0).t : Int) : Rat) = 0 := rfl
      rw [ht]
      constructor <;> grind
  | n + 1, hin, hbd, hpt => by
    obtain ⟨V, v1, v2⟩ := all_z hd hn ha hr hr2 ha2 he he2 he3 hρ h1 h2 n (fun k hk => hin k (by omega)) (fun k hk => hbd k (by omega)) (fun k hk => hpt k (by omega))
    obtain ⟨W, w1, w2⟩ := pan_z (p := rowP (f n)) hd hn ha hr hr2 ha2 (hin n (by omega)) he he2 he3 hρ h1 h2
    refine ⟨V + (f n 9 : Int) * W, fun h0 => ?_, fun j hj => ?_⟩
    · unfold potE at h0
      split at h0
      · rename_i q
        have e1 := v1 q
        have hm : (meanX d (c0 + u0) (c1 + u1) (c2 + u2) (rowP (f n))).e = 0 := by
          unfold ptS at h0
          split at h0
          · rename_i q2; exact q2
          · rename_i q2; exact absurd h0 q2
        have hh : hitB d (c0 + u0) (c1 + u1) (c2 + u2) (rowP (f n)) = false := by
          unfold meanX at hm
          cases hq : hitB d (c0 + u0) (c1 + u1) (c2 + u2) (rowP (f n))
          · rfl
          · rw [hq] at hm
            cases hm
        have hw := w1 fun P hP => by
          refine ⟨?_, (hbd n (by omega)).1 P hP⟩
          have h3 := (hbd n (by omega)).2 P hP
          have h4 := List.any_eq_false.1 hh P hP
          have h5 := of_decide_eq_false (eq_false_of_ne_true h4)
          omega
        have hp4 : (0 : Int) < 4 ^ d := Int.pow_pos (by decide)
        have hpe := enc_part hp4 (hpt n (by omega) hh) hw
        have h4R : (0 : Rat) < 4 ^ d := Rat.pow_pos (by decide)
        have e4 : (((4 ^ d : Int)) : Rat) = 4 ^ d := by push_cast; rfl
        have e5 : 1048576 * W * 4 ^ d / (((4 ^ d : Int)) : Rat) = 1048576 * W := by
          rw [e4]
          exact Rat.mul_div_cancel (Rat.ne_of_gt h4R)
        rw [e5] at hpe
        have hme : meanX d (c0 + u0) (c1 + u1) (c2 + u2) (rowP (f n)) = _ := if_neg (by rw [hh]; exact Bool.false_ne_true)
        have hps : ptS d (c0 + u0) (c1 + u1) (c2 + u2) (f n) = scaleS (meanX d (c0 + u0) (c1 + u1) (c2 + u2) (rowP (f n))).lo (meanX d (c0 + u0) (c1 + u1) (c2 + u2) (rowP (f n))).hi (f n 9) := if_pos hm
        rw [hps] at h0
        rw [hme] at h0
        have hsc := enc_scale h0 hpe
        have e6 : 1048576 * (V + (f n 9 : Int) * W) = 1048576 * V + (f n 9 : Int) * (1048576 * W) := by grind
        rw [e6]
        unfold sumF
        refine enc_add e1 ?_
        simp only [hps, hme]
        exact hsc
      · rename_i q
        exact absurd h0 q
    · obtain ⟨x1, x2⟩ := v2 j hj
      obtain ⟨y1, y2⟩ := w2 j hj
      obtain ⟨z1, z2⟩ := near_mul (q := f n 9) y1 y2
      have em : momF f c0 c1 c2 (n + 1) = addA (momF f c0 c1 c2 n) (f n 9) ((rowP (f n)).sh c0 c1 c2).a0 ((rowP (f n)).sh c0 c1 c2).a1 ((rowP (f n)).sh c0 c1 c2).a2 ((rowP (f n)).sh c0 c1 c2).b0 ((rowP (f n)).sh c0 c1 c2).b1 ((rowP (f n)).sh c0 c1 c2).b2 ((rowP (f n)).sh c0 c1 c2).c0 ((rowP (f n)).sh c0 c1 c2).c1 ((rowP (f n)).sh c0 c1 c2).c2 := rfl
      have et : (((momF f c0 c1 c2 (n + 1)).t : Int) : Rat) = (momF f c0 c1 c2 n).t + (max (f n 9) (-f n 9) : Int) := by
        rw [em]
        show (((momF f c0 c1 c2 n).t + max (f n 9) (-f n 9) : Int) : Rat) = _
        rw [Rat.intCast_add]
      rw [et, em, gM_add]
      generalize fT ((a : Rat) / r) j / ((r : Rat) / 1048576) + cC ((a : Rat) / r) ((r : Rat) / 1048576) j * e = E at *
      generalize gM u0 u1 u2 (n3 u0 u1 u2 : Int) (momF f c0 c1 c2 n) j = A at *
      generalize oneS u0 u1 u2 (n3 u0 u1 u2 : Int) ((rowP (f n)).sh c0 c1 c2) j = B at *
      clear em et v1 w1 hin hbd hpt w2 v2
      constructor
      · have := sum_two x1 z1
        grind
      · have := sum_two x2 z2
        grind
end Go.Proofs.Ytodmdicegkjicaa

namespace Go.Proofs.Ytodmdicegkjicaa
set_option linter.unusedVariables false
set_option linter.unusedSimpArgs false
open Go.ChangeShapes Go.WideShapes Go.ChangeAt Go.RowKit
structure M where
  lo : Int
  hi : Int
  ok : Bool
  e : Int
theorem ret_M {a : M} {x y z : Int} {b : Bool} (h : ⟨x, y, b, z⟩ = a) : Ending.returned (.tuple #[.agg #[.int .i64 x, .int .i64 y], .bool b, .int .i64 z]) = Ending.returned (.tuple #[.agg #[.int .i64 a.lo, .int .i64 a.hi], .bool a.ok, .int .i64 a.e]) := by rw [← h]
def meetS (al ah bl bh : Int) : M := if validB al ah && validB bl bh then (if max al bl ≤ min ah bh then ⟨max al bl, min ah bh, true, 0⟩ else ⟨0, 0, false, 0⟩) else ⟨0, 0, false, 1⟩
set_option maxHeartbeats 400000 in
theorem meet_any (al ah bl bh : Int) (w : World) :
    Calls Try.prog 11 #[.agg #[.int .i64 al, .int .i64 ah], .agg #[.int .i64 bl, .int .i64 bh]] w fun e w' => e = .returned (.tuple #[.agg #[.int .i64 (meetS al ah bl bh).lo, .int .i64 (meetS al ah bl bh).hi], .bool (meetS al ah bl bh).ok, .int .i64 (meetS al ah bl bh).e]) ∧ Kept w w' := by
  cases h : (validB al ah && validB bl bh)
  · go_enter Try.func11, Try.ntmps11
    go_wp2_with (first | (go_at_call 27; refine (check2_any _ _ _ _ _ _ (by simp)).mono ?_; rintro e w1 ⟨rfl, x, rfl⟩))
    all_goals (refine bodyPost_ret (by simp only [results, Try.results11]; go_simp; rfl) rfl ?_; refine ⟨ret_M (by simp_all [meetS]), ?_⟩; (repeat (first | exact Kept.refl _ | assumption | refine Kept.alloc ?_ _ | refine Kept.ext ?_ _ | refine Kept.drew ?_ | refine Kept.drewN ?_ _)))
  · by_cases hm : max al bl ≤ min ah bh
    all_goals
      go_enter Try.func11, Try.ntmps11
      go_wp2_with (first | (go_at_call 27; refine (check2_any _ _ _ _ _ _ (by simp)).mono ?_; rintro e w1 ⟨rfl, x, rfl⟩))
      all_goals (refine bodyPost_ret (by simp only [results, Try.results11]; go_simp; rfl) rfl ?_; refine ⟨ret_M (by simp only [meetS, h, if_true]; first | (rw [if_pos (by omega)]; done) | (rw [if_neg (by omega)]; done)), ?_⟩; (repeat (first | exact Kept.refl _ | assumption | refine Kept.alloc ?_ _ | refine Kept.ext ?_ _ | refine Kept.drew ?_ | refine Kept.drewN ?_ _)))
end Go.Proofs.Ytodmdicegkjicaa

namespace Go.Proofs.Ytodmdicegkjicaa
set_option linter.unusedVariables false
set_option linter.unusedSimpArgs false
open Go.RowKit
theorem over_enc {num den n : Int} {ρ : Rat} (hd : 0 < den) (hρ : enc (inverseS n 1).lo (inverseS n 1).hi (1048576 * ρ)) (h : (overS num den n).e = 0) : enc (overS num den n).lo (overS num den n).hi (1048576 * (ρ * ((num : Rat) / den))) := by
  unfold overS at *
  split at h
  · rename_i q
    rw [if_pos q]
    have h1 := enc_mul h (enc_q hd q) hρ
    have e : (num : Rat) * 1048576 / den * (1048576 * ρ) / 1048576 = 1048576 * (ρ * ((num : Rat) / den)) := by
      simp only [Rat.div_def]
      grind
    rw [e] at h1
    exact h1
  · cases h
theorem term_enc {m : Mo} {u0 u1 u2 : Int} {ρ : Rat} (hn : 1 ≤ n3 u0 u1 u2) (hρ : enc (inverseS (n3 u0 u1 u2) 1).lo (inverseS (n3 u0 u1 u2) 1).hi (1048576 * ρ)) :
    ((termS m u0 u1 u2 0).e = 0 → enc (termS m u0 u1 u2 0).lo (termS m u0 u1 u2 0).hi (1048576 * (ρ * m.q))) ∧
    ((termS m u0 u1 u2 1).e = 0 → enc (termS m u0 u1 u2 1).lo (termS m u0 u1 u2 1).hi (1048576 * (ρ * (((m.x : Rat) * u0 + m.y * u1 + m.z * u2) / (3 * (n3 u0 u1 u2 : Int)))))) ∧
    ((termS m u0 u1 u2 2).e = 0 → enc (termS m u0 u1 u2 2).lo (termS m u0 u1 u2 2).hi (1048576 * (ρ * ((3 * ((u0 : Rat) * m.a * u0 + 2 * (u0 * m.b * u1) + 2 * (u0 * m.c * u2) + u1 * m.d * u1 + 2 * (u1 * m.e * u2) + u2 * m.f * u2) - (n3 u0 u1 u2 : Int) * ((m.a : Rat) + m.d + m.f)) / (24 * (n3 u0 u1 u2 : Int) * (n3 u0 u1 u2 : Int)))))) := by
  have e0 : nS u0 u1 u2 = n3 u0 u1 u2 := rfl
  have t0 : termS m u0 u1 u2 0 = scaleS (inverseS (n3 u0 u1 u2) 1).lo (inverseS (n3 u0 u1 u2) 1).hi m.q := rfl
  have t1 : termS m u0 u1 u2 1 = overS (m.x * u0 + m.y * u1 + m.z * u2) (3 * n3 u0 u1 u2) (n3 u0 u1 u2) := rfl
  have t2 : termS m u0 u1 u2 2 = overS (3 * twS m.a m.b m.c m.d m.e m.f u0 u1 u2 - n3 u0 u1 u2 * (m.a + m.d + m.f)) (24 * n3 u0 u1 u2 * n3 u0 u1 u2) (n3 u0 u1 u2) := rfl
  rw [t0, t1, t2]
  refine ⟨fun h => ?_, fun h => ?_, fun h => ?_⟩
  · have := enc_scale h hρ
    have e : (m.q : Rat) * (1048576 * ρ) = 1048576 * (ρ * m.q) := by grind
    rw [e] at this
    exact this
  · have := over_enc (by omega) hρ h
    push_cast at this
    exact this
  · have := over_enc (by
      have h1 : 0 < n3 u0 u1 u2 * n3 u0 u1 u2 := Int.mul_pos (by omega) (by omega)
      rw [Int.mul_assoc]
      omega) hρ h
    unfold twS at this
    push_cast at this
    exact this
theorem val_enc {m : Mo} {u0 u1 u2 : Int} {ρ : Rat} {k : Nat} (hk : k ≤ 2) (hn : 1 ≤ n3 u0 u1 u2) (hρ : enc (inverseS (n3 u0 u1 u2) 1).lo (inverseS (n3 u0 u1 u2) 1).hi (1048576 * ρ)) (h : (valV m u0 u1 u2 k).e = 0) :
    enc (valV m u0 u1 u2 k).lo (valV m u0 u1 u2 k).hi (1048576 * (ρ * gM u0 u1 u2 (n3 u0 u1 u2 : Int) m k)) := by
  obtain ⟨t0, t1, t2⟩ := term_enc (m := m) hn hρ
  rcases (show k = 0 ∨ k = 1 ∨ k = 2 by omega) with rfl | rfl | rfl
  · have e : valV m u0 u1 u2 (0 : Nat) = v1 (termS m u0 u1 u2 0) := rfl
    rw [e] at h ⊢
    unfold v1 at h ⊢
    split at h
    · rename_i q
      rw [if_pos q]
      obtain ⟨r1, -⟩ := res_e h
      rw [r1]
      exact t0 q
    · cases h
  · have e : valV m u0 u1 u2 (1 : Nat) = v2 (termS m u0 u1 u2 0) (termS m u0 u1 u2 1) := rfl
    rw [e] at h ⊢
    unfold v2 at h ⊢
    split at h
    · rename_i q
      rw [if_pos q]
      obtain ⟨r1, -⟩ := res_e h
      rw [r1]
      have := enc_add (t0 q.1) (t1 q.2)
      simp only [gM]
      have e2 : ∀ a b : Rat, 1048576 * (ρ * a) + 1048576 * (ρ * b) = 1048576 * (ρ * (a + b)) := fun a b => by grind
      rw [e2] at this
      exact this
    · cases h
  · have e : valV m u0 u1 u2 (2 : Nat) = v3 (termS m u0 u1 u2 0) (termS m u0 u1 u2 1) (termS m u0 u1 u2 2) := rfl
    rw [e] at h ⊢
    unfold v3 at h ⊢
    split at h
    · rename_i q
      rw [if_pos q]
      obtain ⟨r1, -⟩ := res_e h
      rw [r1]
      have := enc_add (enc_add (t0 q.1) (t1 q.2.1)) (t2 q.2.2)
      simp only [gM]
      have e2 : ∀ a b : Rat, 1048576 * (ρ * a) + 1048576 * (ρ * b) = 1048576 * (ρ * (a + b)) := fun a b => by grind
      rw [e2, e2] at this
      exact this
    · cases h
/-- What a far field without an error is made of. -/
theorem far_parts {m : Mo} {g u0 u1 u2 : Int} {k : Nat} (h : (farV m g u0 u1 u2 k).e = 0) : k ≤ 2 ∧ (1 ≤ n3 u0 u1 u2 ∧ n3 u0 u1 u2 ≤ 442368) ∧ 0 ≤ m.t ∧ inB u0 u1 u2 384 = true ∧ (valV m u0 u1 u2 k).e = 0 ∧ rootUpS (g * 1048576 * 1048576) < sqrtS (n3 u0 u1 u2 * 1048576 * 1048576) ∧ 0 ≤ g ∧
    validB (farV m g u0 u1 u2 k).lo (farV m g u0 u1 u2 k).hi = true ∧
    (farV m g u0 u1 u2 k).lo = (valV m u0 u1 u2 k).lo - upS (m.t * eS (upS (rootUpS (g * 1048576 * 1048576) * 1048576) (sqrtS (n3 u0 u1 u2 * 1048576 * 1048576))) k * 1048576) (sqrtS (n3 u0 u1 u2 * 1048576 * 1048576) - rootUpS (g * 1048576 * 1048576)) ∧
    (farV m g u0 u1 u2 k).hi = (valV m u0 u1 u2 k).hi + upS (m.t * eS (upS (rootUpS (g * 1048576 * 1048576) * 1048576) (sqrtS (n3 u0 u1 u2 * 1048576 * 1048576))) k * 1048576) (sqrtS (n3 u0 u1 u2 * 1048576 * 1048576) - rootUpS (g * 1048576 * 1048576)) := by
  unfold farV at h ⊢
  split at h
  · rename_i q1
    rw [if_pos q1]
    split at h
    · rename_i q2
      rw [if_pos q2]
      obtain ⟨r1, r2⟩ := res_e h
      rw [r1]
      have r2' := r2
      have q1' : (ValS m u0 u1 u2 k).e = 0 := q1
      unfold ValS at q1
      split at q1
      · rename_i q3
        obtain ⟨c1, c2, c3, c4⟩ := rdy_0 q3
        have eV : ValS m u0 u1 u2 k = valV m u0 u1 u2 k := if_pos q3
        rw [eV]
        have k2 := frB_true c3
        unfold restS at q2 ⊢
        split at q2
        · rename_i q4
          rw [if_pos q4]
          simp only [Bool.and_eq_true] at q4
          obtain ⟨⟨⟨d1, d2⟩, d3⟩, d4⟩ := q4
          unfold restV at q2 ⊢
          split at q2
          · cases q2
          · rename_i q5
            rw [if_neg q5]
            split at q2
            · cases q2
            · rename_i q6
              rw [if_neg q6]
              refine ⟨by omega, nS_bd c2 c4, (frB_true d1).1, c2, q1, by unfold n3; omega, (frB_true d2).1, ?_, rfl, rfl⟩
              rw [eV] at r2'
              unfold restS restV at r2'
              simp only [d1, d2, d3, d4, Bool.and_self, if_true, if_neg q5, if_neg q6] at r2'
              exact r2'
        · cases q2
      · rename_i q3
        exact absurd q1 q3
    · rename_i q2
      exact absurd h q2
  · rename_i q1
    exact absurd h q1
theorem root_up {n : Int} (h : 0 ≤ n) : 0 ≤ rootUpS n ∧ n ≤ rootUpS n * rootUpS n := by
  obtain ⟨s0, s1, s2⟩ := sqrtS_spec h
  unfold rootUpS
  split <;> omega
/-- The slack of a far field at order j. -/
def slk (m : Mo) (a r : Int) (j : Nat) : Rat := 1048576 * (m.t * cC ((a : Rat) / r) ((r : Rat) / 1048576) j)
theorem limit {a b : Int} {e0 C : Rat} (h0 : 0 < e0) (hC : 0 ≤ C) (h : ∀ e, 0 < e → e ≤ e0 → (a : Rat) ≤ b + C * e) : a ≤ b := by
  have hC1 : 0 < 2 * (C + 1) := by grind
  have k1 : 1 / (2 * (C + 1)) * (2 * (C + 1)) = 1 := Rat.div_mul_cancel (Rat.ne_of_gt hC1)
  have k0 : 0 < 1 / (2 * (C + 1)) := div_ps (by decide) hC1
  have key : ∀ e, 0 < e → e ≤ e0 → e ≤ 1 / (2 * (C + 1)) → a ≤ b := fun e e1 e2 e3 => by
    have h1 := h e e1 e2
    have h2 := Rat.mul_le_mul_of_nonneg_left e3 hC
    have h3 : C * (1 / (2 * (C + 1))) ≤ 1 / 2 := by
      generalize 1 / (2 * (C + 1)) = x at *
      grind
    have h4 : (a : Rat) < ((b + 1 : Int) : Rat) := by
      push_cast
      grind
    have := Rat.intCast_lt_intCast.1 h4
    omega
  by_cases hq : e0 ≤ 1 / (2 * (C + 1))
  · exact key e0 h0 Rat.le_refl hq
  · exact key _ k0 (by grind) Rat.le_refl
end Go.Proofs.Ytodmdicegkjicaa

namespace Go.Proofs.Ytodmdicegkjicaa
set_option linter.unusedVariables false
set_option linter.unusedSimpArgs false
open Go.RowKit
theorem sq_small {a m : Int} (h : -m ≤ a ∧ a ≤ m) : a * a ≤ m * m := by
  have h1 : a.natAbs ≤ m.natAbs := by omega
  have h2 := Nat.mul_le_mul h1 h1
  have e1 := Int.natAbs_mul_self (a := a)
  have e2 := Int.natAbs_mul_self (a := m)
  omega
theorem pt_bd {P : Pn} {m x0 x1 x2 : Int} (hm : 0 ≤ m) (hP : P.bd m) (h0 : -(7 * m) ≤ x0 ∧ x0 ≤ 7 * m) (h1 : -(7 * m) ≤ x1 ∧ x1 ≤ 7 * m) (h2 : -(7 * m) ≤ x2 ∧ x2 ≤ 7 * m) : 0 ≤ nearP P.at 3 (ptF x0 x1 x2) 1 ∧ farI P.at (ptF x0 x1 x2) 1 3 ≤ 3 * (8 * m * (8 * m)) := by
  obtain ⟨⟨a0, a1, a2⟩, ⟨b0, b1, b2⟩, d0, d1, d2⟩ := hP
  constructor
  · have g0 := isq (gapS (loB P.at 0 3) (hiB P.at 0 3) (loB (ptF x0 x1 x2) 0 1) (hiB (ptF x0 x1 x2) 0 1))
    have g1 := isq (gapS (loB P.at 1 3) (hiB P.at 1 3) (loB (ptF x0 x1 x2) 1 1) (hiB (ptF x0 x1 x2) 1 1))
    have g2 := isq (gapS (loB P.at 2 3) (hiB P.at 2 3) (loB (ptF x0 x1 x2) 2 1) (hiB (ptF x0 x1 x2) 2 1))
    unfold nearP
    omega
  · have s : ∀ p q r : Int, (-m ≤ p ∧ p ≤ m) → (-m ≤ q ∧ q ≤ m) → (-m ≤ r ∧ r ≤ m) → sq3 p q r x0 x1 x2 ≤ 3 * (8 * m * (8 * m)) := fun p q r hp hq hr => by
      have k0 := sq_small (a := p - x0) (m := 8 * m) (by omega)
      have k1 := sq_small (a := q - x1) (m := 8 * m) (by omega)
      have k2 := sq_small (a := r - x2) (m := 8 * m) (by omega)
      unfold sq3
      omega
    have s0 := s P.a0 P.a1 P.a2 a0 a1 a2
    have s1 := s P.b0 P.b1 P.b2 b0 b1 b2
    have s2 := s P.c0 P.c1 P.c2 d0 d1 d2
    have z := isq (8 * m)
    show max (max (max 0 (sq3 P.a0 P.a1 P.a2 x0 x1 x2)) (sq3 P.b0 P.b1 P.b2 x0 x1 x2)) (sq3 P.c0 P.c1 P.c2 x0 x1 x2) ≤ _
    omega
theorem pow_d {d : Nat} (hd : d ≤ 3) : (1 : Int) ≤ 2 ^ d ∧ (2 : Int) ^ d ≤ 8 ∧ (1 : Int) ≤ 4 ^ d ∧ (4 : Int) ^ d ≤ 64 ∧ 4 ^ d ≤ 64 := by
  rcases (show d = 0 ∨ d = 1 ∨ d = 2 ∨ d = 3 by omega) with rfl | rfl | rfl | rfl <;> decide
theorem part_bdX {d : Nat} {p P : Pn} {x0 x1 x2 : Int} (hd : d ≤ 3) (hp : p.bd 64) (h0 : -448 ≤ x0 ∧ x0 ≤ 448) (h1 : -448 ≤ x1 ∧ x1 ≤ 448) (h2 : -448 ≤ x2 ∧ x2 ≤ 448) (hP : P ∈ cutL d p) : 0 ≤ nearP P.at 3 (ptF (2 ^ d * x0) (2 ^ d * x1) (2 ^ d * x2)) 1 ∧ farI P.at (ptF (2 ^ d * x0) (2 ^ d * x1) (2 ^ d * x2)) 1 3 ≤ 1099511627776 := by
  have hb := cutL_bd d p 64 hp P hP
  have hd2 := pow_d hd
  have q : ∀ x : Int, -448 ≤ x ∧ x ≤ 448 → -(7 * (2 ^ d * 64)) ≤ 2 ^ d * x ∧ 2 ^ d * x ≤ 7 * (2 ^ d * 64) := fun x hx => by
    have k1 := Int.mul_le_mul_of_nonneg_left hx.1 (show (0 : Int) ≤ 2 ^ d by omega)
    have k2 := Int.mul_le_mul_of_nonneg_left hx.2 (show (0 : Int) ≤ 2 ^ d by omega)
    omega
  obtain ⟨k1, k2⟩ := pt_bd (by omega) hb (q x0 h0) (q x1 h1) (q x2 h2)
  refine ⟨k1, Int.le_trans k2 ?_⟩
  have := sq_small (a := 8 * (2 ^ d * 64)) (m := 4096) (by omega)
  omega
theorem low_high {d : Nat} {P : Pn} {x0 x1 x2 : Int} (hd : d ≤ 3) (h1 : 1 ≤ nearP P.at 3 (ptF x0 x1 x2) 1) (h2 : farI P.at (ptF x0 x1 x2) 1 3 ≤ 1099511627776) : 0 ≤ lowX d x0 x1 x2 P ∧ lowX d x0 x1 x2 P ≤ higX d x0 x1 x2 P ∧ higX d x0 x1 x2 P ≤ 8388609 := by
  have hnf : nearP P.at 3 (ptF x0 x1 x2) 1 ≤ farI P.at (ptF x0 x1 x2) 1 3 := near_far (by omega) (by omega)
  obtain ⟨-, i1, i2, i4, i3, -⟩ := inverse_k (n := farI P.at (ptF x0 x1 x2) 1 3) (d := d) (by omega) hd
  obtain ⟨-, j1, j2, j4, -, j3⟩ := inverse_k (n := nearP P.at 3 (ptF x0 x1 x2) 1) (d := d) (by omega) hd
  unfold lowX higX
  refine ⟨i1, ?_, j4⟩
  generalize (inverseS (farI P.at (ptF x0 x1 x2) 1 3) (2 ^ d)).lo = x at *
  generalize (inverseS (nearP P.at 3 (ptF x0 x1 x2) 1) (2 ^ d)).hi = z at *
  have q1 : x * x * nearP P.at 3 (ptF x0 x1 x2) 1 ≤ x * x * farI P.at (ptF x0 x1 x2) 1 3 := Int.mul_le_mul_of_nonneg_left hnf (isq x)
  have q2 : x * x * nearP P.at 3 (ptF x0 x1 x2) 1 ≤ z * z * nearP P.at 3 (ptF x0 x1 x2) 1 := by omega
  have q3 : x * x ≤ z * z := Int.le_of_mul_le_mul_right q2 (by omega)
  exact of_sq_le (by omega) q3
/-- The sums of a panel's bounds are not too large. -/
theorem pan_sums {d : Nat} {p : Pn} {x0 x1 x2 : Int} (hd : d ≤ 3) (hp : p.bd 64) (h0 : -448 ≤ x0 ∧ x0 ≤ 448) (h1 : -448 ≤ x1 ∧ x1 ≤ 448) (h2 : -448 ≤ x2 ∧ x2 ≤ 448) (hh : hitB d x0 x1 x2 p = false) :
    0 ≤ sumP (lowX d (2 ^ d * x0) (2 ^ d * x1) (2 ^ d * x2)) (cutL d p) ∧ sumP (lowX d (2 ^ d * x0) (2 ^ d * x1) (2 ^ d * x2)) (cutL d p) ≤ sumP (higX d (2 ^ d * x0) (2 ^ d * x1) (2 ^ d * x2)) (cutL d p) ∧ sumP (higX d (2 ^ d * x0) (2 ^ d * x1) (2 ^ d * x2)) (cutL d p) ≤ 536870976 := by
  have := sumP_bd (g := lowX d (2 ^ d * x0) (2 ^ d * x1) (2 ^ d * x2)) (h := higX d (2 ^ d * x0) (2 ^ d * x1) (2 ^ d * x2)) (t := 8388609) (l := cutL d p) fun P hP => by
    obtain ⟨k1, k2⟩ := part_bdX hd hp h0 h1 h2 hP
    have h4 := List.any_eq_false.1 hh P hP
    have h5 := of_decide_eq_false (eq_false_of_ne_true h4)
    exact low_high hd (by omega) k2
  rw [cutL_len] at this
  have := pow_d hd
  omega
theorem part_ok {a b n : Int} (h1 : 0 ≤ a) (h2 : a ≤ b) (h3 : b ≤ 536870976) (hn : 1 ≤ n ∧ n ≤ 64) : partS a b n = ⟨a / n, -(-b / n), 0⟩ ∧ 0 ≤ a / n ∧ a / n ≤ -(-b / n) ∧ -(-b / n) ≤ 536870976 := by
  have d0 : 0 ≤ a / n := Int.ediv_nonneg h1 (by omega)
  have d1 : a / n ≤ b / n := Int.ediv_le_ediv (c := n) (by omega) h2
  have m1 : b / n * n ≤ b := Int.ediv_mul_le _ (by omega)
  have m2 : (-b) / n * n ≤ -b := Int.ediv_mul_le _ (by omega)
  have m3 : b / n ≤ -(-b / n) := by
    have m6 : b / n * n ≤ -(-b / n) * n := by
      rw [Int.neg_mul]
      omega
    exact Int.le_of_mul_le_mul_right m6 (by omega)
  have m4 : -b < (-b / n + 1) * n := Int.lt_ediv_add_one_mul_self _ (by omega)
  have m5 : -(-b / n) ≤ b := by
    by_cases h : -(-b / n) ≤ b
    · exact h
    · exfalso
      have k : (-b / n + 1) * n ≤ -b * n := Int.mul_le_mul_of_nonneg_right (by omega) (by omega)
      have k2 : -b * n ≤ -b * 1 := by
        have := Int.mul_le_mul_of_nonneg_left hn.1 (show 0 ≤ b by omega)
        rw [Int.neg_mul, Int.neg_mul]
        omega
      omega
  refine ⟨?_, d0, by omega, by omega⟩
  have v1 : validB a b = true := decide_eq_true (by omega)
  have v2 : validB (a / n) (-(-b / n)) = true := decide_eq_true (by omega)
  unfold partS resultS
  rw [v1, decide_eq_true (show 1 ≤ n ∧ n ≤ 1099511627776 by omega), v2]
  rfl
theorem rad_mono (f : Nat → Nat → Int) (c0 c1 c2 : Int) : ∀ n k, k < n → ((rowP (f k)).sh c0 c1 c2).inS (radF f c0 c1 c2 n)
  | 0, k, hk => absurd hk (by omega)
  | n + 1, k, hk => by
    by_cases e : k = n
    · subst e
      show sqv _ _ _ ≤ max (max (max _ (sqd _ _ _)) (sqd _ _ _)) (sqd _ _ _) ∧ sqv _ _ _ ≤ max (max (max _ (sqd _ _ _)) (sqd _ _ _)) (sqd _ _ _) ∧ sqv _ _ _ ≤ max (max (max _ (sqd _ _ _)) (sqd _ _ _)) (sqd _ _ _)
      simp only [rowP, Pn.sh, sqv, sqd]
      omega
    · obtain ⟨h1, h2, h3⟩ := rad_mono f c0 c1 c2 n k (by omega)
      have h4 : radF f c0 c1 c2 n ≤ radF f c0 c1 c2 (n + 1) := by
        show _ ≤ max (max (max _ _) _) _
        omega
      exact ⟨Int.le_trans h1 h4, Int.le_trans h2 h4, Int.le_trans h3 h4⟩
theorem first_each {f : Nat → Nat → Int} : ∀ {n : Nat}, firstE f n = 0 → ∀ k, k < n → chE (f k) = 0
  | 0, _, k, hk => absurd hk (by omega)
  | n + 1, h, k, hk => by
    unfold firstE at h
    split at h
    · rename_i q
      by_cases e : k = n
      · subst e; exact h
      · exact first_each q k (by omega)
    · rename_i q
      exact absurd h q
theorem all_meet {n : Nat} {f : Nat → Nat → Int} {c0 c1 c2 u0 u1 u2 : Int} {d : Nat} (hd : d ≤ 3) (hg : givE n f c0 c1 c2 = 0) {j : Nat} (hj : (farV (momF f c0 c1 c2 n) (radF f c0 c1 c2 n) u0 u1 u2 j).e = 0) :
    (∀ k : Nat, (farV (momF f c0 c1 c2 n) (radF f c0 c1 c2 n) u0 u1 u2 k).e = 0 → (farV (momF f c0 c1 c2 n) (radF f c0 c1 c2 n) u0 u1 u2 j).lo ≤ (farV (momF f c0 c1 c2 n) (radF f c0 c1 c2 n) u0 u1 u2 k).hi) ∧
    ((potV n f d (c0 + u0) (c1 + u1) (c2 + u2)).e = 0 → (farV (momF f c0 c1 c2 n) (radF f c0 c1 c2 n) u0 u1 u2 j).lo ≤ (potV n f d (c0 + u0) (c1 + u1) (c2 + u2)).hi ∧ (potV n f d (c0 + u0) (c1 + u1) (c2 + u2)).lo ≤ (farV (momF f c0 c1 c2 n) (radF f c0 c1 c2 n) u0 u1 u2 j).hi) := by
  obtain ⟨hn96, hf, hcB⟩ := givE_ok hg
  obtain ⟨k1, k2, k3, k4, k5, k6⟩ := inB_true hcB
  obtain ⟨hj2, hn, -, huB, -, hra, hg0, -⟩ := far_parts hj
  obtain ⟨l1, l2, l3, l4, l5, l6⟩ := inB_true huB
  obtain ⟨ha0, ha2⟩ := root_up (show 0 ≤ radF f c0 c1 c2 n * 1048576 * 1048576 by omega)
  obtain ⟨hr0, hr2, -⟩ := sqrtS_spec (show 0 ≤ n3 u0 u1 u2 * 1048576 * 1048576 by omega)
  obtain ⟨hie, hi0, hi1, -, hi2, hi3⟩ := inverse_k (n := n3 u0 u1 u2) (d := 0) (by omega) (by omega)
  have hpow : (2 : Int) ^ 0 = 1 := rfl
  rw [hpow] at hie hi0 hi1 hi2 hi3
  have hin : ∀ k, k < n → ((rowP (f k)).sh c0 c1 c2).inS (radF f c0 c1 c2 n) := fun k hk => rad_mono f c0 c1 c2 n k hk
  have hpb : ∀ k, k < n → (rowP (f k)).bd 64 := fun k hk => by
    obtain ⟨b0, b1, b2, b3, b4, b5, b6, b7, b8, -⟩ := chE_bd (first_each hf k hk)
    exact ⟨⟨b0, b1, b2⟩, ⟨b3, b4, b5⟩, b6, b7, b8⟩
  have x0 : -448 ≤ c0 + u0 ∧ c0 + u0 ≤ 448 := by omega
  have x1 : -448 ≤ c1 + u1 ∧ c1 + u1 ≤ 448 := by omega
  have x2 : -448 ≤ c2 + u2 ∧ c2 + u2 ≤ 448 := by omega
  have hbd : ∀ k, k < n → (∀ P ∈ cutL d (rowP (f k)), farI P.at (ptF (2 ^ d * (c0 + u0)) (2 ^ d * (c1 + u1)) (2 ^ d * (c2 + u2))) 1 3 ≤ 1099511627776) ∧ (∀ P ∈ cutL d (rowP (f k)), 0 ≤ nearP P.at 3 (ptF (2 ^ d * (c0 + u0)) (2 ^ d * (c1 + u1)) (2 ^ d * (c2 + u2))) 1) := fun k hk =>
    ⟨fun P hP => (part_bdX hd (hpb k hk) x0 x1 x2 hP).2, fun P hP => (part_bdX hd (hpb k hk) x0 x1 x2 hP).1⟩
  have hpt : ∀ k, k < n → hitB d (c0 + u0) (c1 + u1) (c2 + u2) (rowP (f k)) = false → (partS (sumP (lowX d (2 ^ d * (c0 + u0)) (2 ^ d * (c1 + u1)) (2 ^ d * (c2 + u2))) (cutL d (rowP (f k)))) (sumP (higX d (2 ^ d * (c0 + u0)) (2 ^ d * (c1 + u1)) (2 ^ d * (c2 + u2))) (cutL d (rowP (f k)))) (4 ^ d)).e = 0 := fun k hk hh => by
    obtain ⟨s1, s2, s3⟩ := pan_sums hd (hpb k hk) x0 x1 x2 hh
    rw [(part_ok s1 s2 s3 (by have := pow_d hd; omega)).1]
  have hnR : (1 : Rat) ≤ (n3 u0 u1 u2 : Int) := cast_le (a := 1) hn.1
  have harR : ((rootUpS (radF f c0 c1 c2 n * 1048576 * 1048576) : Int) : Rat) < (sqrtS (n3 u0 u1 u2 * 1048576 * 1048576) : Int) := Rat.intCast_lt_intCast.2 hra
  have hrR : (0 : Rat) < (sqrtS (n3 u0 u1 u2 * 1048576 * 1048576) : Int) := Rat.intCast_lt_intCast.2 (show (0 : Int) < _ by omega)
  have haR : (0 : Rat) ≤ (rootUpS (radF f c0 c1 c2 n * 1048576 * 1048576) : Int) := cast_le (a := 0) ha0
  obtain ⟨m, hm⟩ : ∃ m, momF f c0 c1 c2 n = m := ⟨_, rfl⟩
  obtain ⟨g, hgg⟩ : ∃ g, radF f c0 c1 c2 n = g := ⟨_, rfl⟩
  obtain ⟨a, hae⟩ : ∃ a, rootUpS (g * 1048576 * 1048576) = a := ⟨_, rfl⟩
  obtain ⟨r, hre⟩ : ∃ r, sqrtS (n3 u0 u1 u2 * 1048576 * 1048576) = r := ⟨_, rfl⟩
  rw [hgg] at hin hj ha0 ha2 hra hg0 harR haR ⊢
  rw [hae] at ha0 ha2 hra harR haR
  rw [hre] at hr0 hr2 hra harR hrR
  have kt : (a : Rat) / r * r = a := Rat.div_mul_cancel (Rat.ne_of_gt hrR)
  have t0 : 0 ≤ (a : Rat) / r := div_nn haR hrR
  have t1 : (a : Rat) / r < 1 := by
    by_cases h : (a : Rat) / r < 1
    · exact h
    · have := Rat.mul_le_mul_of_nonneg_right (show 1 ≤ (a : Rat) / r by grind) (Rat.le_of_lt hrR)
      grind
  have hR : (0 : Rat) < (r : Rat) / 1048576 := div_ps hrR (by decide)
  -- what is so for each small number
  have key : ∀ e : Rat, 0 < e → e ≤ 1 / 4 → 2 * e ≤ (1 - (a : Rat) / r) ^ 2 → ∃ V : Rat, ((potV n f d (c0 + u0) (c1 + u1) (c2 + u2)).e = 0 → enc (potV n f d (c0 + u0) (c1 + u1) (c2 + u2)).lo (potV n f d (c0 + u0) (c1 + u1) (c2 + u2)).hi (1048576 * V)) ∧
      ∀ k : Nat, (farV m g u0 u1 u2 k).e = 0 → ((farV m g u0 u1 u2 k).lo : Rat) ≤ 1048576 * V + slk m a r k * e ∧ 1048576 * V ≤ ((farV m g u0 u1 u2 k).hi : Rat) + slk m a r k * e := fun e e1 e2 e3 => by
    obtain ⟨ρ, p1, p2, p3, p4⟩ := inv_near (a := ((inverseS (n3 u0 u1 u2) 1).lo : Rat) / 1048576) (b := ((inverseS (n3 u0 u1 u2) 1).hi : Rat) / 1048576) (q := ((n3 u0 u1 u2 : Int) : Rat)) (d := e) (div_nn (cast_le (a := 0) hi0) (by decide)) (by have := cast_le hi1; grind) (by grind) (by
        have c := cast_le hi2
        push_cast at c
        grind) (by
        have c := cast_le hi3
        push_cast at c
        grind) e1
    have p0 : 0 ≤ ρ := Rat.le_trans (div_nn (cast_le (a := 0) hi0) (by decide)) p1
    have hρ : enc (inverseS (n3 u0 u1 u2) 1).lo (inverseS (n3 u0 u1 u2) 1).hi (1048576 * ρ) := ⟨by grind, by grind⟩
    obtain ⟨V, w1, w2⟩ := all_z (f := f) hd hn.1 ha0 hra (by omega) (by omega) e1 e2 e3 p0 p3 p4 n hin hbd hpt
    rw [hm] at w2
    refine ⟨V, fun h0 => ?_, fun k hk => ?_⟩
    · unfold potV at h0 ⊢
      split at h0
      · rename_i q
        rw [if_pos q]
        unfold sumsS at h0 ⊢
        split at h0
        · rename_i q2
          rw [if_pos q2]
          obtain ⟨r1, -⟩ := res_e h0
          rw [r1]
          unfold totS at q2 ⊢
          split at q2
          · cases q2
          · rename_i q3
            rw [if_neg q3]
            split at q2
            · rename_i q4
              rw [if_pos q4]
              exact w1 q
            · cases q2
        · rename_i q2
          exact absurd h0 q2
      · rename_i q
        exact absurd h0 q
    · obtain ⟨b1, -, b3, -, b5, -, -, -, b8, b9⟩ := far_parts hk
      rw [hae, hre] at b8 b9
      obtain ⟨z1, z2⟩ := w2 k b1
      obtain ⟨y1, y2⟩ := val_enc b1 hn.1 hρ b5
      have hrest := rest_ge (T := m.t) (k := k) b3 ha0 hra (fT_eq t1 k)
      rw [b8, b9, Rat.intCast_sub, Rat.intCast_add]
      unfold slk
      generalize ((upS (m.t * eS (upS (a * 1048576) r) k * 1048576) (r - a) : Int) : Rat) = U at *
      generalize ρ * gM u0 u1 u2 ((n3 u0 u1 u2 : Int) : Rat) m k = A at *
      generalize fT ((a : Rat) / r) k / ((r : Rat) / 1048576) = Fk at *
      generalize cC ((a : Rat) / r) ((r : Rat) / 1048576) k = Ck at *
      generalize ((valV m u0 u1 u2 k).lo : Rat) = vl at *
      generalize ((valV m u0 u1 u2 k).hi : Rat) = vh at *
      generalize ((m.t : Int) : Rat) = T at *
      clear hin hbd hpt w1 w2 hj b8 b9 e3 hi2 hi3 ha2 hr2 kt p1 p2 p3 p4 hm hgg
      constructor <;> grind
  have hs0 : ∀ k : Nat, 0 ≤ m.t → 0 ≤ slk m a r k := fun k hk => by
    unfold slk
    exact Rat.mul_nonneg (by decide) (Rat.mul_nonneg (cast_le (a := 0) hk) (cC_nn t0 t1 hR k))
  have hm0 : 0 ≤ m.t := by
    rw [hm] at hj
    obtain ⟨-, -, b3, -⟩ := far_parts hj
    exact b3
  obtain ⟨e0, q0, q1, q2⟩ : ∃ e0 : Rat, 0 < e0 ∧ e0 ≤ 1 / 4 ∧ 2 * e0 ≤ (1 - (a : Rat) / r) ^ 2 := by
    have hp : 0 < (1 - (a : Rat) / r) ^ 2 := Rat.pow_pos (by grind)
    by_cases h : (1 : Rat) / 4 ≤ (1 - (a : Rat) / r) ^ 2 / 2
    · exact ⟨1 / 4, by grind, Rat.le_refl, by grind⟩
    · exact ⟨(1 - (a : Rat) / r) ^ 2 / 2, by grind, by grind, by grind⟩
  rw [hm] at hj ⊢
  refine ⟨fun k hk => limit q0 (C := slk m a r j + slk m a r k) (by have := hs0 j hm0; have := hs0 k hm0; grind) fun e z1 z2 => ?_, fun hp => ⟨limit q0 (C := slk m a r j) (hs0 j hm0) fun e z1 z2 => ?_, limit q0 (C := slk m a r j) (hs0 j hm0) fun e z1 z2 => ?_⟩⟩
  · obtain ⟨V, -, v2⟩ := key e z1 (by grind) (by grind)
    have h1 := (v2 j hj).1
    have h2 := (v2 k hk).2
    grind
  · obtain ⟨V, v1, v2⟩ := key e z1 (by grind) (by grind)
    have h1 := (v2 j hj).1
    have h2 := (v1 hp).2
    grind
  · obtain ⟨V, v1, v2⟩ := key e z1 (by grind) (by grind)
    have h1 := (v2 j hj).2
    have h2 := (v1 hp).1
    grind
end Go.Proofs.Ytodmdicegkjicaa

