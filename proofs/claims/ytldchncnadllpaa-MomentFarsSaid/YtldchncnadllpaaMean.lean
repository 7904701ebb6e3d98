/- Contracts: sums and means of lists of spans as results, of the program and of the reference. No conditions but that the cells of the list can be read. -/
import Derived.Test.YtldchncnadllpaaTot
import Derived.Test.YtldchncnadllpaaPlain
namespace Go.Proofs.Ytldchncnadllpaa
set_option linter.unusedVariables false
set_option linter.unusedSimpArgs false
open Go.ChangeShapes Go.WideShapes Go.ChangeAt Go.RowKit
def sumsS (n : Nat) (lo hi : Nat → Int) : R := if (totS n lo hi).e = 0 then resultS (totS n lo hi).lo (totS n lo hi).hi else ⟨0, 0, (totS n lo hi).e⟩
def meanS (n : Nat) (lo hi : Nat → Int) : R := if (totS n lo hi).e = 0 then (if n = 0 then ⟨0, 0, 1⟩ else resultS ((totS n lo hi).lo.fdiv n) (-((-(totS n lo hi).hi).fdiv n))) else ⟨0, 0, (totS n lo hi).e⟩
theorem tot_cases (n : Nat) (lo hi : Nat → Int) : (totS n lo hi = ⟨sumF n lo, sumF n hi, 0⟩ ∧ n ≤ 10000 ∧ allV n lo hi = true) ∨ totS n lo hi = ⟨0, 0, 4⟩ ∨ totS n lo hi = ⟨0, 0, 1⟩ := by
  unfold totS
  by_cases h : 10000 < n
  · rw [if_pos h]; exact .inr (.inl rfl)
  · rw [if_neg h]
    cases hv : allV n lo hi
    · exact .inr (.inr rfl)
    · exact .inl ⟨rfl, by omega, rfl⟩
set_option maxRecDepth 100000 in
theorem ssum_any (A : Option Addr) (n cap : Nat) (lo hi : Nat → Int) (w : World) (hn : n ≤ 140737488351232) (hs : SpansAt w A n lo hi) :
    Calls Try.prog 23 #[.slice A n cap] w fun e w' => e = .returned (.tuple #[.agg #[.int .i64 (sumsS n lo hi).lo, .int .i64 (sumsS n lo hi).hi], .int .i64 (sumsS n lo hi).e]) ∧ Kept w w' := by
  rcases tot_cases n lo hi with ⟨e, -⟩ | e | e
  all_goals
    have e2 : sumsS n lo hi = sumsS n lo hi := rfl
    conv at e2 => rhs; unfold sumsS; rw [e]
    first | rw [if_pos rfl] at e2 | rw [if_neg (by decide)] at e2
    rw [e2]
    clear e2
    have hs' := Lib.hid hs
    clear hs
    go_enter Try.func23, Try.ntmps23
    go_wp2_with fail
    refine (total_any _ _ _ lo hi _ (by omega) (hs'.out.of (by (repeat (first | exact Kept.refl _ | assumption | refine Kept.alloc ?_ _ | refine Kept.ext ?_ _ | refine Kept.drew ?_ | refine Kept.drewN ?_ _))))).mono ?_
    rintro e w1 ⟨rfl, x, rfl⟩
    rw [e]
    go_wp2_with (first | (go_at_call 47; refine (result_any _ _ _).mono ?_; rintro e w1 ⟨rfl, x, rfl⟩))
    refine bodyPost_ret (by simp only [results, Try.results23]; go_simp; rfl) rfl ?_
    refine ⟨rfl, ?_⟩
    (repeat (first | exact Kept.refl _ | assumption | refine Kept.alloc ?_ _ | refine Kept.ext ?_ _ | refine Kept.drew ?_ | refine Kept.drewN ?_ _))
set_option maxRecDepth 100000 in
theorem rsum_any (A : Option Addr) (n cap : Nat) (lo hi : Nat → Int) (w : World) (hn : n ≤ 140737488351232) (hs : SpansAt w A n lo hi) :
    Calls Try.prog 24 #[.slice A n cap] w fun e w' => e = .returned (.tuple #[.agg #[.int .i64 (sumsS n lo hi).lo, .int .i64 (sumsS n lo hi).hi], .int .i64 (sumsS n lo hi).e]) ∧ Kept w w' := by
  rcases tot_cases n lo hi with ⟨e, -⟩ | e | e
  all_goals
    have e2 : sumsS n lo hi = sumsS n lo hi := rfl
    conv at e2 => rhs; unfold sumsS; rw [e]
    first | rw [if_pos rfl] at e2 | rw [if_neg (by decide)] at e2
    rw [e2]
    clear e2
    have hs' := Lib.hid hs
    clear hs
    go_enter Try.func24, Try.ntmps24
    go_wp2_with fail
    refine (rtotal_any _ _ _ lo hi _ (by omega) (hs'.out.of (by (repeat (first | exact Kept.refl _ | assumption | refine Kept.alloc ?_ _ | refine Kept.ext ?_ _ | refine Kept.drew ?_ | refine Kept.drewN ?_ _))))).mono ?_
    rintro e w1 ⟨rfl, x, rfl⟩
    rw [e]
    go_wp2_with (first | (go_at_call 42; refine (told_any _ _ _).mono ?_; rintro e w1 ⟨rfl, x, rfl⟩))
    refine bodyPost_ret (by simp only [results, Try.results24]; go_simp; rfl) rfl ?_
    refine ⟨rfl, ?_⟩
    (repeat (first | exact Kept.refl _ | assumption | refine Kept.alloc ?_ _ | refine Kept.ext ?_ _ | refine Kept.drew ?_ | refine Kept.drewN ?_ _))
end Go.Proofs.Ytldchncnadllpaa
