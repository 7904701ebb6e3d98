/- Contracts: sums and means of lists of spans, of the program and of the reference. No conditions but that the list's cells can be read. Contracts: sums and means of lists of spans as results, of the program and of the reference. No conditions but that the cells of the list can be read. -/
import Derived.Test.YtbhcjdgfcinpcaaChk
import Derived.Test.YtbhcjdgfcinpcaaQuob
import Derived.Test.YtbhcjdgfcinpcaaOpr
import Derived.Test.YtbhcjdgfcinpcaaPlain
namespace Go.Proofs.Ytbhcjdgfcinpcaa
set_option linter.unusedVariables false
set_option linter.unusedSimpArgs false
open Go.ChangeShapes Go.WideShapes Go.ChangeAt Go.RowKit
theorem SpansAt.of {w w' : World} {A : Option Addr} {n : Nat} {lo hi : Nat → Int} (h : SpansAt w A n lo hi) (hk : Kept w w') : SpansAt w' A n lo hi := by
  intro h0
  obtain ⟨b, off, rfl, hb, hc⟩ := h h0
  obtain ⟨x, rfl⟩ := hk
  refine ⟨b, off, rfl, by rw [ext_size]; exact Nat.lt_of_lt_of_le hb (adv_le _ _), fun k hk => ?_⟩
  have LB : Lower b w.heap.size := ⟨hb⟩
  rw [ext_cell, ext_cell]
  exact hc k hk
def sumF : Nat → (Nat → Int) → Int
  | 0, _ => 0
  | n + 1, f => sumF n f + f n
theorem sumF_bd {n : Nat} {lo hi : Nat → Int} (h : allV n lo hi = true) : -(n * 1099511627776) ≤ sumF n lo ∧ sumF n lo ≤ sumF n hi ∧ sumF n hi ≤ n * 1099511627776 := by
  induction n with
  | zero => simp [sumF]
  | succ n ih =>
    rw [allV_succ, Bool.and_eq_true] at h
    have := ih h.1
    have := valid_bd h.2
    unfold sumF
    omega
theorem allV_of {n k : Nat} {lo hi : Nat → Int} (h : allV n lo hi = true) (hk : k ≤ n) : allV k lo hi = true := by
  induction n with
  | zero => obtain rfl : k = 0 := by omega
            exact h
  | succ n ih =>
    by_cases e : k = n + 1
    · subst e; exact h
    · rw [allV_succ, Bool.and_eq_true] at h
      exact ih h.1 (by omega)
theorem allV_at {n k : Nat} {lo hi : Nat → Int} (h : allV n lo hi = true) (hk : k < n) : validB (lo k) (hi k) = true := by
  have := allV_of h (show k + 1 ≤ n by omega)
  rw [allV_succ, Bool.and_eq_true] at this
  exact this.2
/-- The sums of the bounds, with an error number. -/
def totS (n : Nat) (lo hi : Nat → Int) : R := if 10000 < n then ⟨0, 0, 4⟩ else if allV n lo hi then ⟨sumF n lo, sumF n hi, 0⟩ else ⟨0, 0, 1⟩
theorem errV_ok {n : Nat} {lo hi : Nat → Int} (h : allV n lo hi = true) : errV n lo hi = 0 := by unfold errV; rw [h]; rfl
theorem errV_bad {n : Nat} {lo hi : Nat → Int} (h : allV n lo hi = false) : errV n lo hi = 1 := by unfold errV; rw [h]; rfl
theorem ret_T3 {a : R} {x y z : Int} (h : ⟨x, y, z⟩ = a) : Ending.returned (.tuple #[.int .i64 x, .int .i64 y, .int .i64 z]) = Ending.returned (.tuple #[.int .i64 a.lo, .int .i64 a.hi, .int .i64 a.e]) := by rw [← h]
theorem checkL_any (A : Option Addr) (n cap : Nat) (lo hi : Nat → Int) (w : World) (hn : n ≤ 140737488351232) (h : SpansAt w A n lo hi) :
    Calls Try.prog 39 #[.slice A n cap] w fun e w' => e = .returned (.int .i64 (errV n lo hi)) ∧ Kept w w' := check_any A n cap lo hi w hn h
set_option maxRecDepth 100000 in
set_option maxHeartbeats 1000000 in
theorem total_any (A : Option Addr) (n cap : Nat) (lo hi : Nat → Int) (w : World) (hn : n ≤ 140737488351232) (hs : SpansAt w A n lo hi) :
    Calls Try.prog 66 #[.slice A n cap] w fun e w' => e = .returned (.tuple #[.int .i64 (totS n lo hi).lo, .int .i64 (totS n lo hi).hi, .int .i64 (totS n lo hi).e]) ∧ Kept w w' := by
  by_cases h1 : 10000 < n
  · have e : totS n lo hi = ⟨0, 0, 4⟩ := if_pos h1
    rw [e]
    clear e
    go_enter Try.func66, Try.ntmps66
    go_wp2_with fail
    go_ret3
    exact ⟨rfl, by (repeat (first | exact Kept.refl _ | assumption | refine Kept.alloc ?_ _ | refine Kept.ext ?_ _ | refine Kept.drew ?_ | refine Kept.drewN ?_ _))⟩
  cases h2 : allV n lo hi
  · have e : totS n lo hi = ⟨0, 0, 1⟩ := by unfold totS; rw [if_neg h1, h2]; rfl
    rw [e]
    have e1 := errV_bad h2
    clear e h2
    go_enter Try.func66, Try.ntmps66
    go_wp2_with fail
    refine (checkL_any _ _ _ lo hi _ (by omega) hs).mono ?_
    rintro e w1 ⟨rfl, x, rfl⟩
    go_wp2_with fail
    go_ret3
    exact ⟨rfl, by (repeat (first | exact Kept.refl _ | assumption | refine Kept.alloc ?_ _ | refine Kept.ext ?_ _ | refine Kept.drew ?_ | refine Kept.drewN ?_ _))⟩
  · have e : totS n lo hi = ⟨sumF n lo, sumF n hi, 0⟩ := by unfold totS; rw [if_neg h1, h2]; rfl
    rw [e]
    have e1 := errV_ok h2
    have H2 := Lib.hid h2
    clear e h2
    rcases Nat.eq_zero_or_pos n with rfl | h0
    · go_enter Try.func66, Try.ntmps66
      go_wp2_with fail
      refine (checkL_any _ _ _ lo hi _ (by omega) hs).mono ?_
      rintro e w1 ⟨rfl, x, rfl⟩
      go_wp2_with fail
      go_loopw [2, 3, 18] (fun a b i wr => a = .int .i64 0 ∧ b = .int .i64 0 ∧ i = .int .i64 0 ∧ ∃ y, wr = ext w y) (fun _ _ _ _ => 0)
      case atStart => exact ⟨rfl, rfl, rfl, show Kept _ _ by (repeat (first | exact Kept.refl _ | assumption | refine Kept.alloc ?_ _ | refine Kept.ext ?_ _ | refine Kept.drew ?_ | refine Kept.drewN ?_ _))⟩
      case round =>
        obtain ⟨rfl, rfl, rfl, y, rfl⟩ := hrel
        go_wp2_with fail
        go_ret3
        exact ⟨rfl, by (repeat (first | exact Kept.refl _ | assumption | refine Kept.alloc ?_ _ | refine Kept.ext ?_ _ | refine Kept.drew ?_ | refine Kept.drewN ?_ _))⟩
    · obtain ⟨b, off, rfl, hb, hcell⟩ := hs h0
      have hs' := Lib.hid hs
      clear hs
      have LB : Lower b w.heap.size := ⟨hb⟩
      go_enter Try.func66, Try.ntmps66
      go_wp2_with fail
      refine (checkL_any _ _ _ lo hi _ (by omega) hs'.out).mono ?_
      rintro e w1 ⟨rfl, x, rfl⟩
      go_wp2_with fail
      go_loopw [2, 3, 18] (fun a c i wr => ∃ k : Nat, k ≤ n ∧ a = .int .i64 (sumF k lo) ∧ c = .int .i64 (sumF k hi) ∧ i = .int .i64 k ∧ ∃ y, wr = ext w y) (fun _ _ i _ => n - (intOf i).toNat)
      case atStart => exact ⟨0, by omega, rfl, rfl, rfl, show Kept _ _ by (repeat (first | exact Kept.refl _ | assumption | refine Kept.alloc ?_ _ | refine Kept.ext ?_ _ | refine Kept.drew ?_ | refine Kept.drewN ?_ _))⟩
      case round =>
        obtain ⟨k, hk, rfl, rfl, rfl, y, rfl⟩ := hrel
        by_cases hlt : k < n
        · obtain ⟨c0, c1⟩ := hcell k hlt
          have b1 := sumF_bd (allV_of H2.out hk)
          have b2 := valid_bd (allV_at H2.out hlt)
          go_wp2_with fail
          go_roundw
          case rel => exact ⟨k + 1, by omega, rfl, rfl, by go_num, show Kept w _ by (repeat (first | exact Kept.refl _ | assumption | refine Kept.alloc ?_ _ | refine Kept.ext ?_ _ | refine Kept.drew ?_ | refine Kept.drewN ?_ _))⟩
          case measure => simp [intOf]; omega
        · obtain rfl : k = n := by omega
          go_wp2_with fail
          go_ret3
          exact ⟨rfl, by (repeat (first | exact Kept.refl _ | assumption | refine Kept.alloc ?_ _ | refine Kept.ext ?_ _ | refine Kept.drew ?_ | refine Kept.drewN ?_ _))⟩
end Go.Proofs.Ytbhcjdgfcinpcaa
namespace Go.Proofs.Ytbhcjdgfcinpcaa
set_option linter.unusedVariables false
set_option linter.unusedSimpArgs false
open Go.ChangeShapes Go.WideShapes Go.ChangeAt Go.RowKit
def sumsS (n : Nat) (lo hi : Nat → Int) : R := if (totS n lo hi).e = 0 then resultS (totS n lo hi).lo (totS n lo hi).hi else ⟨0, 0, (totS n lo hi).e⟩
def meanS (n : Nat) (lo hi : Nat → Int) : R := if (totS n lo hi).e = 0 then (if n = 0 then ⟨0, 0, 1⟩ else resultS ((totS n lo hi).lo.fdiv n) (-((-(totS n lo hi).hi).fdiv n))) else ⟨0, 0, (totS n lo hi).e⟩
theorem tot_cases (n : Nat) (lo hi : Nat → Int) : (totS n lo hi = ⟨sumF n lo, sumF n hi, 0⟩ ∧ n ≤ 10000 ∧ allV n lo hi = true) ∨ totS n lo hi = ⟨0, 0, 4⟩ ∨ totS n lo hi = ⟨0, 0, 1⟩ := by
  unfold totS
  by_cases h : 10000 < n
  · rw [if_pos h]; exact .inr (.inl rfl)
  · rw [if_neg h]
    cases hv : allV n lo hi
    · exact .inr (.inr rfl)
    · exact .inl ⟨rfl, by omega, rfl⟩
set_option maxRecDepth 100000 in
theorem ssum_any (A : Option Addr) (n cap : Nat) (lo hi : Nat → Int) (w : World) (hn : n ≤ 140737488351232) (hs : SpansAt w A n lo hi) :
    Calls Try.prog 33 #[.slice A n cap] w fun e w' => e = .returned (.tuple #[.agg #[.int .i64 (sumsS n lo hi).lo, .int .i64 (sumsS n lo hi).hi], .int .i64 (sumsS n lo hi).e]) ∧ Kept w w' := by
  rcases tot_cases n lo hi with ⟨e, -⟩ | e | e
  all_goals
    have e2 : sumsS n lo hi = sumsS n lo hi := rfl
    conv at e2 => rhs; unfold sumsS; rw [e]
    first | rw [if_pos rfl] at e2 | rw [if_neg (by decide)] at e2
    rw [e2]
    clear e2
    have hs' := Lib.hid hs
    clear hs
    go_enter Try.func33, Try.ntmps33
    go_wp2_with fail
    refine (total_any _ _ _ lo hi _ (by omega) (hs'.out.of (by (repeat (first | exact Kept.refl _ | assumption | refine Kept.alloc ?_ _ | refine Kept.ext ?_ _ | refine Kept.drew ?_ | refine Kept.drewN ?_ _))))).mono ?_
    rintro e w1 ⟨rfl, x, rfl⟩
    rw [e]
    go_wp2_with (first | (go_at_call 42; refine (result_any _ _ _).mono ?_; rintro e w1 ⟨rfl, x, rfl⟩))
    refine bodyPost_ret (by simp only [results, Try.results33]; go_simp; rfl) rfl ?_
    refine ⟨rfl, ?_⟩
    (repeat (first | exact Kept.refl _ | assumption | refine Kept.alloc ?_ _ | refine Kept.ext ?_ _ | refine Kept.drew ?_ | refine Kept.drewN ?_ _))
end Go.Proofs.Ytbhcjdgfcinpcaa
