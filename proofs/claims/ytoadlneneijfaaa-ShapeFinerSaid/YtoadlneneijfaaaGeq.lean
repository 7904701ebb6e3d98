/- Comparisons of points and panels. No conditions. -/
import Derived.Test.YtoadlneneijfaaaGsp
import Derived.Laws.StructEq
namespace Go.Proofs.Ytoadlneneijfaaa
set_option linter.unusedVariables false
set_option linter.unusedSimpArgs false
open Go.RowKit
theorem stoodP : Try.prog.stoodInHeld 34 = false := by kernel_rfl
theorem stoodPn : Try.prog.stoodInHeld 36 = false := by kernel_rfl
@[go_sem] theorem eq_pt (d : Nat) (a0 a1 a2 b0 b1 b2 : Int) (w : World) : (Op.equalIn (d + 1 + 1) 34 (.agg #[.int .i64 a0, .int .i64 a1, .int .i64 a2]) (.agg #[.int .i64 b0, .int .i64 b1, .int .i64 b2])).run Try.prog w = .ok (a0 == b0 && (a1 == b1 && a2 == b2)) w := by
  cases h0 : a0 == b0 <;> cases h1 : a1 == b1 <;> cases h2 : a2 == b2 <;> go_simp
@[go_sem] theorem eq_pn (d : Nat) (a0 a1 a2 a3 a4 a5 a6 a7 a8 b0 b1 b2 b3 b4 b5 b6 b7 b8 : Int) (w : World) : (Op.equalIn (d + 1 + 1 + 1) 36 (.agg #[.int .i64 a0, .int .i64 a1, .int .i64 a2, .int .i64 a3, .int .i64 a4, .int .i64 a5, .int .i64 a6, .int .i64 a7, .int .i64 a8]) (.agg #[.int .i64 b0, .int .i64 b1, .int .i64 b2, .int .i64 b3, .int .i64 b4, .int .i64 b5, .int .i64 b6, .int .i64 b7, .int .i64 b8])).run Try.prog w = .ok ((a0 == b0 && (a1 == b1 && a2 == b2)) && ((a3 == b3 && (a4 == b4 && a5 == b5)) && (a6 == b6 && (a7 == b7 && a8 == b8)))) w := by
  cases h0 : a0 == b0 && (a1 == b1 && a2 == b2) <;> cases h1 : a3 == b3 && (a4 == b4 && a5 == b5) <;> cases h2 : a6 == b6 && (a7 == b7 && a8 == b8) <;> (go_simp; try (intros; simp_all))
end Go.Proofs.Ytoadlneneijfaaa
