/- Contracts: which lists are sets of numbers below a bound, of the program and of the reference. Conditions: the list's length is an int, the bound is small. -/
import Derived.Test.YtoejdfpmmgldpaaVa
namespace Go.Proofs.Ytoejdfpmmgldpaa
set_option linter.unusedVariables false
set_option linter.unusedSimpArgs false
open Go.RowKit
/-- A place at which a list is no set of numbers below N. -/
def badS (N : Nat) (x : Nat → Nat → Int) (i : Nat) : Bool := !(decide (0 ≤ x i 0 ∧ x i 0 ≤ (N : Int) - 1)) || (decide (0 < i) && decide (x i 0 ≤ x (i - 1) 0))
def setB (N l : Nat) (x : Nat → Nat → Int) : Bool := !(List.range l).any (badS N x)
theorem set_bad {N l k : Nat} {x : Nat → Nat → Int} {r : Bool} (hk : k < l) (h : badS N x k = true) (hr : setB N l x = r) : r = false := by
  unfold setB at hr; rw [any_range.2 ⟨k, hk, h⟩] at hr; exact hr.symm
theorem set_ok {N l : Nat} {x : Nat → Nat → Int} {r : Bool} (h : ∀ k, k < l → badS N x k = false) (hr : setB N l x = r) : r = true := by
  unfold setB at hr; rw [any_range_false.2 h] at hr; exact hr.symm
theorem badS_1 {N k : Nat} {x : Nat → Nat → Int} (h : decide (0 ≤ x k 0 ∧ x k 0 ≤ (N : Int) - 1) = false) : badS N x k = true := by
  unfold badS; rw [h]; rfl
theorem badS_2 {N j : Nat} {x : Nat → Nat → Int} (h : x (j + 1) 0 ≤ x j 0) : badS N x (j + 1) = true := by
  unfold badS; rw [show j + 1 - 1 = j by omega, decide_eq_true h, decide_eq_true (show 0 < j + 1 by omega)]; simp
theorem badS_0 {N : Nat} {x : Nat → Nat → Int} (h : decide (0 ≤ x 0 0 ∧ x 0 0 ≤ (N : Int) - 1) = true) : badS N x 0 = false := by
  unfold badS; rw [h]; rfl
theorem badS_3 {N j : Nat} {x : Nat → Nat → Int} (h : decide (0 ≤ x (j + 1) 0 ∧ x (j + 1) 0 ≤ (N : Int) - 1) = true) (h2 : ¬ x (j + 1) 0 ≤ x j 0) : badS N x (j + 1) = false := by
  unfold badS; rw [h, show j + 1 - 1 = j by omega, decide_eq_false h2]; simp
theorem setB_at {N l k : Nat} {x : Nat → Nat → Int} (h : setB N l x = true) (hk : k < l) : 0 ≤ x k 0 ∧ x k 0 < N ∧ ∀ j, j + 1 = k → x j 0 < x k 0 := by
  unfold setB at h
  have := any_range_false.1 (by simpa using h) k hk
  unfold badS at this
  simp only [Bool.or_eq_false_iff, Bool.not_eq_false', decide_eq_true_eq, Bool.and_eq_false_iff, decide_eq_false_iff_not] at this
  refine ⟨this.1.1, by omega, fun j hj => ?_⟩
  subst hj
  rw [show j + 1 - 1 = j by omega] at this
  omega
set_option maxRecDepth 100000 in
set_option maxHeartbeats 4000000 in
theorem cset_any (A : Option Addr) (l cap : Nat) (x : Nat → Nat → Int) (N : Nat) (w : World) (hl : l ≤ 9223372036854775807) (hN : N ≤ 1000) (h : RowsAt w A l 1 x) :
    Calls Try.prog 65 #[.slice A l cap, .int .i64 N] w fun e w' => e = .returned (.bool (setB N l x)) ∧ w = w' := by
  have HX := Lib.hid h
  clear h
  obtain ⟨r, hr⟩ : ∃ r, setB N l x = r := ⟨_, rfl⟩
  rw [hr]
  have HR := Lib.hid hr
  clear hr
  go_enter Try.func65, Try.ntmps65
  go_wp2
  go_loopw [9] (fun i wr => ∃ k : Nat, k ≤ l ∧ i = .int .i64 k ∧ (∀ j, j < k → badS N x j = false) ∧ w = wr) (fun i _ => l - (intOf i).toNat)
  case atStart => exact ⟨0, by omega, rfl, fun j hj => absurd hj (by omega), by first | rfl | trivial⟩
  case round =>
    obtain ⟨k, hk, rfl, hno, rfl⟩ := hrel
    have HNO := Lib.hid hno
    clear hno
    by_cases hlt : k < l
    · obtain ⟨b, off, rfl, hb, c0, i0⟩ := rows1 HX.out hlt
      have LB : Lower b w.heap.size := ⟨hb⟩
      unfold I64 at i0
      by_cases hf : decide (0 ≤ x k 0 ∧ x k 0 ≤ (N : Int) - 1) = true
      · rcases (show k = 0 ∨ ∃ j, k = j + 1 from by cases k with | zero => exact .inl rfl | succ j => exact .inr ⟨j, rfl⟩) with hk0 | ⟨j, hj⟩
        · subst hk0
          rw [Nat.add_zero] at c0
          have z1 : decide (0 < l) = true := decide_eq_true hlt
          go_wp2_with (first | (go_at_call 54; refine (from_any _ _ _ _).mono ?_; rintro e w1 ⟨rfl, rfl⟩))
          go_roundw
          case rel =>
            refine ⟨0 + 1, by omega, by go_num, fun j hj => ?_, by first | rfl | trivial⟩
            obtain rfl : j = 0 := by omega
            exact badS_0 hf
          case measure => simp [intOf]; omega
        · subst hj
          obtain ⟨b', off', e, -, c1, i1⟩ := rows1 (k := j) HX.out (by omega)
          cases e
          unfold I64 at i1
          have z1 : decide (0 < j + 1) = true := decide_eq_true (by omega)
          by_cases hle : x (j + 1) 0 ≤ x j 0
          · have z2 : decide (x (j + 1) 0 ≤ x j 0) = true := decide_eq_true hle
            go_wp2_with (first | (go_at_call 54; refine (from_any _ _ _ _).mono ?_; rintro e w1 ⟨rfl, rfl⟩))
            go_ret
            exact ⟨ret_bool (set_bad hlt (badS_2 hle) HR.out).symm, rfl⟩
          · have z2 : decide (x (j + 1) 0 ≤ x j 0) = false := decide_eq_false hle
            go_wp2_with (first | (go_at_call 54; refine (from_any _ _ _ _).mono ?_; rintro e w1 ⟨rfl, rfl⟩))
            go_roundw
            case rel =>
              refine ⟨j + 1 + 1, by omega, by go_num, fun q hq => ?_, by first | rfl | trivial⟩
              by_cases hjq : q = j + 1
              · subst hjq; exact badS_3 hf (by omega)
              · exact HNO.out q (by omega)
            case measure => simp [intOf]; omega
      · have hf : decide (0 ≤ x k 0 ∧ x k 0 ≤ (N : Int) - 1) = false := by simpa using hf
        go_wp2_with (first | (go_at_call 54; refine (from_any _ _ _ _).mono ?_; rintro e w1 ⟨rfl, rfl⟩))
        go_ret
        exact ⟨ret_bool (set_bad hlt (badS_1 hf) HR.out).symm, rfl⟩
    · obtain rfl : k = l := by omega
      go_wp2
      go_ret
      exact ⟨ret_bool (set_ok HNO.out HR.out).symm, rfl⟩
set_option maxRecDepth 100000 in
set_option maxHeartbeats 4000000 in
theorem r6set_any (A : Option Addr) (l cap : Nat) (x : Nat → Nat → Int) (N : Nat) (w : World) (hl : l ≤ 9223372036854775807) (hN : N ≤ 1000) (h : RowsAt w A l 1 x) :
    Calls Try.prog 66 #[.slice A l cap, .int .i64 N] w fun e w' => e = .returned (.bool (setB N l x)) ∧ Kept w w' := by
  have HX := Lib.hid h
  clear h
  obtain ⟨r, hr⟩ : ∃ r, setB N l x = r := ⟨_, rfl⟩
  rw [hr]
  have HR := Lib.hid hr
  clear hr
  go_enter Try.func66, Try.ntmps66
  go_wp2
  go_loopw [5] (fun i wr => ∃ k : Nat, k ≤ l ∧ i = .int .i64 k ∧ (∀ j, j < k → badS N x j = false) ∧ (∃ y, wr = ext w y)) (fun i _ => l - (intOf i).toNat)
  case atStart => exact ⟨0, by omega, rfl, fun j hj => absurd hj (by omega), show Kept _ _ by (repeat (first | exact Kept.refl _ | assumption | refine Kept.alloc ?_ _ | refine Kept.ext ?_ _ | refine Kept.drew ?_ | refine Kept.drewN ?_ _))⟩
  case round =>
    obtain ⟨k, hk, rfl, hno, ⟨y, rfl⟩⟩ := hrel
    have HNO := Lib.hid hno
    clear hno
    by_cases hlt : k < l
    · obtain ⟨b, off, rfl, hb, c0, i0⟩ := rows1 HX.out hlt
      have LB : Lower b w.heap.size := ⟨hb⟩
      unfold I64 at i0
      by_cases hf : decide (0 ≤ x k 0 ∧ x k 0 ≤ (N : Int) - 1) = true
      · rcases (show k = 0 ∨ ∃ j, k = j + 1 from by cases k with | zero => exact .inl rfl | succ j => exact .inr ⟨j, rfl⟩) with hk0 | ⟨j, hj⟩
        · subst hk0
          rw [Nat.add_zero] at c0
          have z1 : decide (0 < l) = true := decide_eq_true hlt
          have e1 : decide (x 0 0 < 0) = false := decide_eq_false (by have := of_decide_eq_true hf; omega)
          have e2 : decide ((N : Int) ≤ x 0 0) = false := decide_eq_false (by have := of_decide_eq_true hf; omega)
          go_wp2
          ((first | (with_reducible refine wp_region_kept2 (by kernel_rfl) (by kernel_rfl) ?_) | refine wp_region_kept (by kernel_rfl) (by kernel_rfl) ?_); (repeat (go_big_quiet_step (first | fail))); refine wpQuiet_nil ?_; intro x)
          go_wp2
          go_roundw
          case rel =>
            refine ⟨0 + 1, by omega, by go_num, fun j hj => ?_, show Kept _ _ by (repeat (first | exact Kept.refl _ | assumption | refine Kept.alloc ?_ _ | refine Kept.ext ?_ _ | refine Kept.drew ?_ | refine Kept.drewN ?_ _))⟩
            obtain rfl : j = 0 := by omega
            exact badS_0 hf
          case measure => simp [intOf]; omega
        · subst hj
          obtain ⟨b', off', e, -, c1, i1⟩ := rows1 (k := j) HX.out (by omega)
          cases e
          unfold I64 at i1
          have z1 : decide (0 < j + 1) = true := decide_eq_true (by omega)
          have e1 : decide (x (j + 1) 0 < 0) = false := decide_eq_false (by have := of_decide_eq_true hf; omega)
          have e2 : decide ((N : Int) ≤ x (j + 1) 0) = false := decide_eq_false (by have := of_decide_eq_true hf; omega)
          by_cases hle : x (j + 1) 0 ≤ x j 0
          · have z2 : decide (x (j + 1) 0 ≤ x j 0) = true := decide_eq_true hle
            go_wp2
            ((first | (with_reducible refine wp_region_kept2 (by kernel_rfl) (by kernel_rfl) ?_) | refine wp_region_kept (by kernel_rfl) (by kernel_rfl) ?_); (repeat (go_big_quiet_step (first | fail))); refine wpQuiet_nil ?_; intro x)
            go_wp2
            go_ret
            exact ⟨ret_bool (set_bad hlt (badS_2 hle) HR.out).symm, by (repeat (first | exact Kept.refl _ | assumption | refine Kept.alloc ?_ _ | refine Kept.ext ?_ _ | refine Kept.drew ?_ | refine Kept.drewN ?_ _))⟩
          · have z2 : decide (x (j + 1) 0 ≤ x j 0) = false := decide_eq_false hle
            go_wp2
            ((first | (with_reducible refine wp_region_kept2 (by kernel_rfl) (by kernel_rfl) ?_) | refine wp_region_kept (by kernel_rfl) (by kernel_rfl) ?_); (repeat (go_big_quiet_step (first | fail))); refine wpQuiet_nil ?_; intro x)
            go_wp2
            go_roundw
            case rel =>
              refine ⟨j + 1 + 1, by omega, by go_num, fun q hq => ?_, show Kept _ _ by (repeat (first | exact Kept.refl _ | assumption | refine Kept.alloc ?_ _ | refine Kept.ext ?_ _ | refine Kept.drew ?_ | refine Kept.drewN ?_ _))⟩
              by_cases hjq : q = j + 1
              · subst hjq; exact badS_3 hf (by omega)
              · exact HNO.out q (by omega)
            case measure => simp [intOf]; omega
      · have hf : decide (0 ≤ x k 0 ∧ x k 0 ≤ (N : Int) - 1) = false := by simpa using hf
        by_cases hz : x k 0 < 0
        · have e1 : decide (x k 0 < 0) = true := decide_eq_true hz
          go_wp2
          ((first | (with_reducible refine wp_region_kept2 (by kernel_rfl) (by kernel_rfl) ?_) | refine wp_region_kept (by kernel_rfl) (by kernel_rfl) ?_); (repeat (go_big_quiet_step (first | fail))); refine wpQuiet_nil ?_; intro x)
          go_wp2
          go_ret
          exact ⟨ret_bool (set_bad hlt (badS_1 hf) HR.out).symm, by (repeat (first | exact Kept.refl _ | assumption | refine Kept.alloc ?_ _ | refine Kept.ext ?_ _ | refine Kept.drew ?_ | refine Kept.drewN ?_ _))⟩
        · have e1 : decide (x k 0 < 0) = false := decide_eq_false hz
          have e2 : decide ((N : Int) ≤ x k 0) = true := decide_eq_true (by have := of_decide_eq_false hf; omega)
          go_wp2
          ((first | (with_reducible refine wp_region_kept2 (by kernel_rfl) (by kernel_rfl) ?_) | refine wp_region_kept (by kernel_rfl) (by kernel_rfl) ?_); (repeat (go_big_quiet_step (first | fail))); refine wpQuiet_nil ?_; intro x)
          go_wp2
          go_ret
          exact ⟨ret_bool (set_bad hlt (badS_1 hf) HR.out).symm, by (repeat (first | exact Kept.refl _ | assumption | refine Kept.alloc ?_ _ | refine Kept.ext ?_ _ | refine Kept.drew ?_ | refine Kept.drewN ?_ _))⟩
    · obtain rfl : k = l := by omega
      go_wp2
      go_ret
      exact ⟨ret_bool (set_ok HNO.out HR.out).symm, by (repeat (first | exact Kept.refl _ | assumption | refine Kept.alloc ?_ _ | refine Kept.ext ?_ _ | refine Kept.drew ?_ | refine Kept.drewN ?_ _))⟩
end Go.Proofs.Ytoejdfpmmgldpaa
