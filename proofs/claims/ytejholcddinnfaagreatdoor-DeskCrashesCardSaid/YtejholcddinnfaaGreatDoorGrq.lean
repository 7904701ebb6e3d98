/- Contracts: how often a side is in the faces, and 6 times the volume, of the reference. Conditions: no more than 96 faces. Comparisons of points and panels. No conditions. -/
import Derived.Test.YtejholcddinnfaaGreatDoorGcv
import Derived.Test.YtejholcddinnfaaGreatDoorGsf
import Derived.Laws.StructEq
namespace Go.Proofs.YtejholcddinnfaaGreatDoor
set_option linter.unusedVariables false
set_option linter.unusedSimpArgs false
open Go.RowKit
/-- The sides of a face that are p q, of the first j. -/
def cpart (F : Nat → Nat → Int) (i : Nat) (p q : Int) : Nat → Int
  | 0 => 0
  | 1 => ind (F i 0) (F i 1) p q
  | 2 => ind (F i 0) (F i 1) p q + ind (F i 1) (F i 2) p q
  | _ => ind (F i 0) (F i 1) p q + ind (F i 1) (F i 2) p q + ind (F i 2) (F i 0) p q
theorem cpart_bd (F : Nat → Nat → Int) (i : Nat) (p q : Int) (j : Nat) : 0 ≤ cpart F i p q j ∧ cpart F i p q j ≤ 3 := by
  have a := ind_bd (F i 0) (F i 1) p q
  have b := ind_bd (F i 1) (F i 2) p q
  have c := ind_bd (F i 2) (F i 0) p q
  unfold cpart
  split <;> omega
theorem cnt_next (F : Nat → Nat → Int) (i : Nat) (p q : Int) : cnt F (i + 1) p q = cnt F i p q + cpart F i p q 3 := by
  show cnt F i p q + _ + _ + _ = _ + (_ + _ + _)
  omega
theorem ind_0 {a b p q : Int} (h : ¬ a = p) : ind a b p q = 0 := if_neg fun e => h e.1
theorem ind_1 {a b p q : Int} (h : ¬ b = q) : ind a b p q = 0 := if_neg fun e => h e.2
theorem ind_2 {a b p q : Int} (h1 : a = p) (h2 : b = q) : ind a b p q = 1 := if_pos ⟨h1, h2⟩
end Go.Proofs.YtejholcddinnfaaGreatDoor
namespace Go.Proofs.YtejholcddinnfaaGreatDoor
set_option linter.unusedVariables false
set_option linter.unusedSimpArgs false
open Go.RowKit
theorem stoodP : Tryz.prog.stoodInHeld 104 = false := by kernel_rfl
theorem stoodPn : Tryz.prog.stoodInHeld 232 = false := by kernel_rfl
@[go_sem] theorem eq_pt (d : Nat) (a0 a1 a2 b0 b1 b2 : Int) (w : World) : (Op.equalIn (d + 1 + 1) 104 (.agg #[.int .i64 a0, .int .i64 a1, .int .i64 a2]) (.agg #[.int .i64 b0, .int .i64 b1, .int .i64 b2])).run Tryz.prog w = .ok (a0 == b0 && (a1 == b1 && a2 == b2)) w := by
  cases h0 : a0 == b0 <;> cases h1 : a1 == b1 <;> cases h2 : a2 == b2 <;> go_simp
@[go_sem] theorem eq_pn (d : Nat) (a0 a1 a2 a3 a4 a5 a6 a7 a8 b0 b1 b2 b3 b4 b5 b6 b7 b8 : Int) (w : World) : (Op.equalIn (d + 1 + 1 + 1) 232 (.agg #[.int .i64 a0, .int .i64 a1, .int .i64 a2, .int .i64 a3, .int .i64 a4, .int .i64 a5, .int .i64 a6, .int .i64 a7, .int .i64 a8]) (.agg #[.int .i64 b0, .int .i64 b1, .int .i64 b2, .int .i64 b3, .int .i64 b4, .int .i64 b5, .int .i64 b6, .int .i64 b7, .int .i64 b8])).run Tryz.prog w = .ok ((a0 == b0 && (a1 == b1 && a2 == b2)) && ((a3 == b3 && (a4 == b4 && a5 == b5)) && (a6 == b6 && (a7 == b7 && a8 == b8)))) w := by
  cases h0 : a0 == b0 && (a1 == b1 && a2 == b2) <;> cases h1 : a3 == b3 && (a4 == b4 && a5 == b5) <;> cases h2 : a6 == b6 && (a7 == b7 && a8 == b8) <;> (go_simp; try (intros; simp_all))
end Go.Proofs.YtejholcddinnfaaGreatDoor
