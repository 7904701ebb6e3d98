/- Contract: the moments of charged panels about a center, of the reference. No conditions but those of each theorem. -/
import Derived.Test.YtldchncnadllpaaMof
import Derived.Test.YtldchncnadllpaaFrs
namespace Go.Proofs.Ytldchncnadllpaa
set_option linter.unusedVariables false
set_option linter.unusedSimpArgs false
open Go.ChangeShapes Go.WideShapes Go.ChangeAt Go.RowKit
attribute [local go_sem ↓] Go.wp_at_zero Go.wp_at_succ
theorem prod3 {q x y : Int} (hq : -100 ≤ q ∧ q ≤ 100) (hx : -384 ≤ x ∧ x ≤ 384) (hy : -384 ≤ y ∧ y ≤ 384) : (-38400 ≤ q * x ∧ q * x ≤ 38400) ∧ (-14745600 ≤ q * x * y ∧ q * x * y ≤ 14745600) := by
  have h := mul_bd (a := q) (b := x) (A := 100) (B := 384) 38400 hq hx rfl
  exact ⟨h, mul_bd (a := q * x) (b := y) (A := 38400) (B := 384) 14745600 h hy rfl⟩
set_option maxRecDepth 100000 in
set_option maxHeartbeats 4000000 in
theorem r4prod_any (x y z k : Int) (w : World) (h : (-384 ≤ x ∧ x ≤ 384) ∧ (-384 ≤ y ∧ y ≤ 384) ∧ (-384 ≤ z ∧ z ≤ 384) ∧ (-100 ≤ k ∧ k ≤ 100)) :
    Calls Try.prog 44 #[.agg #[.int .i64 x, .int .i64 y, .int .i64 z], .int .i64 k] w fun r w' => r = .returned (.agg #[.int .i64 (k * x * x), .int .i64 (k * x * y), .int .i64 (k * x * z), .int .i64 (k * y * y), .int .i64 (k * y * z), .int .i64 (k * z * z)]) ∧ Kept w w' := by
  obtain ⟨hx, hy, hz, hk⟩ := h
  have p0 := prod3 hk hx hx
  have p1 := prod3 hk hx hy
  have p2 := prod3 hk hx hz
  have p3 := prod3 hk hy hy
  have p4 := prod3 hk hy hz
  have p5 := prod3 hk hz hz
  go_enter Try.func44, Try.ntmps44
  go_wp2_with fail
  refine bodyPost_ret (by simp only [results, Try.results44]; go_simp; rfl) rfl ?_
  exact ⟨rfl, by (repeat (first | exact Kept.refl _ | assumption | refine Kept.alloc ?_ _ | refine Kept.ext ?_ _ | refine Kept.drew ?_ | refine Kept.drewN ?_ _))⟩
theorem ref_add {m0 m1 m2 m3 m4 m5 m6 m7 m8 m9 m10 q a0 a1 a2 a3 a4 a5 a6 a7 a8 s0 s1 s2 : Int} (h0 : a0 + (a3 + a6) = s0) (h1 : a1 + (a4 + a7) = s1) (h2 : a2 + (a5 + a8) = s2) : (⟨m0 + q, m1 + max q (-q), m2 + q * s0, m3 + q * s1, m4 + q * s2, m5 + (q * a0 * a0 + q * a3 * a3 + (q * a6 * a6 + q * s0 * s0)), m6 + (q * a0 * a1 + q * a3 * a4 + (q * a6 * a7 + q * s0 * s1)), m7 + (q * a0 * a2 + q * a3 * a5 + (q * a6 * a8 + q * s0 * s2)), m8 + (q * a1 * a1 + q * a4 * a4 + (q * a7 * a7 + q * s1 * s1)), m9 + (q * a1 * a2 + q * a4 * a5 + (q * a7 * a8 + q * s1 * s2)), m10 + (q * a2 * a2 + q * a5 * a5 + (q * a8 * a8 + q * s2 * s2))⟩ : Mo) = addA ⟨m0, m1, m2, m3, m4, m5, m6, m7, m8, m9, m10⟩ q a0 a1 a2 a3 a4 a5 a6 a7 a8 := by
  subst h0 h1 h2
  unfold addA
  simp only [Mo.mk.injEq]
  refine ⟨trivial, trivial, ?_, ?_, ?_, ?_, ?_, ?_, ?_, ?_, ?_⟩ <;> grind
end Go.Proofs.Ytldchncnadllpaa
