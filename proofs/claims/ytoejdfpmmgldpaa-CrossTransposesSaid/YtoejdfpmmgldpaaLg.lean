/- Contracts: whether a matrix or a choice is long. Conditions: the number of rows is an int. -/
import Derived.Test.YtoejdfpmmgldpaaKn
import Derived.Test.YtoejdfpmmgldpaaOpm
namespace Go.Proofs.Ytoejdfpmmgldpaa
set_option linter.unusedVariables false
set_option linter.unusedSimpArgs false
open Go.RowKit Go.Deep
def longB (n : Nat) (m : Nat → Nat) : Bool := decide (20 < n) || (List.range n).any fun k => decide (20 < m k)
set_option maxRecDepth 100000 in
theorem long6_any (A : Option Addr) (n cap : Nat) (B : Nat → Option Addr) (m cp : Nat → Nat) (f : Nat → Nat → Int) (w : World) (hn : n ≤ 9223372036854775807) (h : MatAt w A n B m cp f) :
    Calls Try.prog 15 #[.slice A n cap] w fun e w' => e = .returned (.bool (longB n m)) ∧ w = w' := by
  have HM := Lib.hid h
  clear h
  obtain ⟨r, hr⟩ : ∃ r, longB n m = r := ⟨_, rfl⟩
  rw [hr]
  unfold longB at hr
  by_cases h20 : 20 < n
  · rw [decide_eq_true h20] at hr
    have g1 : decide (20 < n) = true := decide_eq_true h20
    have HR := Lib.hid hr
    clear hr
    go_enter Try.func15, Try.ntmps15
    go_wp2
    go_ret
    exact ⟨ret_bool HR.out, rfl⟩
  · rw [decide_eq_false h20, Bool.false_or] at hr
    have g1 : decide (20 < n) = false := decide_eq_false h20
    have HR := Lib.hid hr
    clear hr
    go_enter Try.func15, Try.ntmps15
    go_wp2
    go_loopw [3] (fun i1 wr => ∃ k : Nat, k ≤ n ∧ i1 = .int .i64 k ∧ (∀ j, j < k → decide (20 < m j) = false) ∧ w = wr) (fun i1 _ => n - (intOf i1).toNat)
    case atStart => exact ⟨0, by omega, rfl, fun j hj => absurd hj (by omega), by first | rfl | trivial⟩
    case round =>
      obtain ⟨k, hk, rfl, hno, rfl⟩ := hrel
      have HNO := Lib.hid hno
      clear hno
      by_cases hlt : k < n
      · obtain ⟨b, off, rfl, hb, c0⟩ := HM.out.at hlt
        have LB : Lower b w.heap.size := ⟨hb⟩
        by_cases he : 20 < m k
        · have g2 : decide (20 < m k) = true := decide_eq_true he
          go_wp2
          go_ret
          exact ⟨ret_bool (by rw [← HR.out]; exact (any_range.2 ⟨k, hlt, g2⟩).symm), rfl⟩
        · have g2 : decide (20 < m k) = false := decide_eq_false he
          go_wp2
          go_roundw
          case rel =>
            refine ⟨k + 1, by omega, by go_num, fun j hj => ?_, by first | rfl | trivial⟩
            by_cases e : j = k
            · rw [e]; exact g2
            · exact HNO.out j (by omega)
          case measure => simp [intOf]; omega
      · obtain rfl : k = n := by omega
        go_wp2
        go_ret
        exact ⟨ret_bool (by rw [← HR.out]; exact (any_range_false.2 HNO.out).symm), rfl⟩
def manyB (rl cl : Nat) : Bool := decide ((40 : Int) < rl) || decide ((40 : Int) < cl)
theorem many6_any (RA : Option Addr) (rl rc : Nat) (CA : Option Addr) (cl cc : Nat) (w : World) :
    Calls Try.prog 16 #[.agg #[.slice RA rl rc, .slice CA cl cc]] w fun e w' => e = .returned (.bool (manyB rl cl)) ∧ Kept w w' := by
  by_cases h1 : (40 : Int) < rl
  · have g1 : decide ((40 : Int) < rl) = true := decide_eq_true h1
    go_enter Try.func16, Try.ntmps16
    go_wp2
    go_ret
    exact ⟨ret_bool (by unfold manyB; rw [g1]; rfl), by (repeat (first | exact Kept.refl _ | assumption | refine Kept.alloc ?_ _ | refine Kept.ext ?_ _ | refine Kept.drew ?_ | refine Kept.drewN ?_ _))⟩
  · have g1 : decide ((40 : Int) < rl) = false := decide_eq_false h1
    go_enter Try.func16, Try.ntmps16
    go_wp2
    go_ret
    exact ⟨ret_bool (by unfold manyB; first | rfl | (rw [g1]; rfl) | simp [g1]), by (repeat (first | exact Kept.refl _ | assumption | refine Kept.alloc ?_ _ | refine Kept.ext ?_ _ | refine Kept.drew ?_ | refine Kept.drewN ?_ _))⟩
end Go.Proofs.Ytoejdfpmmgldpaa
