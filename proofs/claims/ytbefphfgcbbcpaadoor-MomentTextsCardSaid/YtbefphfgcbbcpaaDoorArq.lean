/- Equality of arrays of six ints. No conditions. -/
import Derived.Test.YtbefphfgcbbcpaaDoorArr
import Derived.Laws.StructEq
namespace Go.Proofs.YtbefphfgcbbcpaaDoor
set_option linter.unusedVariables false
set_option linter.unusedSimpArgs false
open Go.RowKit
theorem part6_0 (a0 a1 a2 a3 a4 a5 : Int) (w : World) : (part 3 #[.int .i64 a0, .int .i64 a1, .int .i64 a2, .int .i64 a3, .int .i64 a4, .int .i64 a5] 0).run Tryd.prog w = .ok (.int .i64 a0) w := by kernel_rfl
theorem part6_1 (a0 a1 a2 a3 a4 a5 : Int) (w : World) : (part 3 #[.int .i64 a0, .int .i64 a1, .int .i64 a2, .int .i64 a3, .int .i64 a4, .int .i64 a5] 1).run Tryd.prog w = .ok (.int .i64 a1) w := by kernel_rfl
theorem part6_2 (a0 a1 a2 a3 a4 a5 : Int) (w : World) : (part 3 #[.int .i64 a0, .int .i64 a1, .int .i64 a2, .int .i64 a3, .int .i64 a4, .int .i64 a5] 2).run Tryd.prog w = .ok (.int .i64 a2) w := by kernel_rfl
theorem part6_3 (a0 a1 a2 a3 a4 a5 : Int) (w : World) : (part 3 #[.int .i64 a0, .int .i64 a1, .int .i64 a2, .int .i64 a3, .int .i64 a4, .int .i64 a5] 3).run Tryd.prog w = .ok (.int .i64 a3) w := by kernel_rfl
theorem part6_4 (a0 a1 a2 a3 a4 a5 : Int) (w : World) : (part 3 #[.int .i64 a0, .int .i64 a1, .int .i64 a2, .int .i64 a3, .int .i64 a4, .int .i64 a5] 4).run Tryd.prog w = .ok (.int .i64 a4) w := by kernel_rfl
theorem part6_5 (a0 a1 a2 a3 a4 a5 : Int) (w : World) : (part 3 #[.int .i64 a0, .int .i64 a1, .int .i64 a2, .int .i64 a3, .int .i64 a4, .int .i64 a5] 5).run Tryd.prog w = .ok (.int .i64 a5) w := by kernel_rfl
theorem size_int (w : World) : (sizeOf 3).run Tryd.prog w = .ok 1 w := by kernel_rfl
@[go_sem] theorem eq_a6 (d : Nat) (a0 a1 a2 a3 a4 a5 b0 b1 b2 b3 b4 b5 : Int) (w : World) : (Op.equalIn (d + 1 + 1) 37 (.agg #[.int .i64 a0, .int .i64 a1, .int .i64 a2, .int .i64 a3, .int .i64 a4, .int .i64 a5]) (.agg #[.int .i64 b0, .int .i64 b1, .int .i64 b2, .int .i64 b3, .int .i64 b4, .int .i64 b5])).run Tryd.prog w = .ok (a0 == b0 && (a1 == b1 && (a2 == b2 && (a3 == b3 && (a4 == b4 && a5 == b5))))) w := by
  rw [Op.equalIn]
  simp only [Sem.run_bind, run_underlying Tryd.underlying37, Result.andThen_ok, size_int, Nat.mul_one]
  rw [Std.Legacy.Range.forIn_eq_forIn_range']
  simp only [Std.Legacy.Range.size, List.range'_succ, List.range'_zero, List.forIn_cons, List.forIn_nil, Sem.run_bind, part6_0, part6_1, part6_2, part6_3, part6_4, part6_5, Result.andThen_ok, run_equalIn_int _ _ _ _ _ _ _ Tryd.underlying3, Nat.reduceAdd, Nat.reduceSub, Nat.reduceDiv, Nat.zero_add]
  cases h0 : a0 == b0 <;> cases h1 : a1 == b1 <;> cases h2 : a2 == b2 <;> cases h3 : a3 == b3 <;> cases h4 : a4 == b4 <;> cases h5 : a5 == b5 <;> simp [Sem.run_pure, Sem.run_bind, Sem.run_ite, part6_0, part6_1, part6_2, part6_3, part6_4, part6_5, run_equalIn_int _ _ _ _ _ _ _ Tryd.underlying3, h0, h1, h2, h3, h4, h5]
end Go.Proofs.YtbefphfgcbbcpaaDoor
