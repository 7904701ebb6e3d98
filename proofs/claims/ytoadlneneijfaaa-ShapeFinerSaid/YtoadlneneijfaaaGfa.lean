/- Contracts: the error of a face. Conditions: the points are small. -/
import Derived.Test.YtoadlneneijfaaaGpa
import Derived.LoopN
import Derived.Deep.DrawnRows
namespace Go.Proofs.Ytoadlneneijfaaa
set_option linter.unusedVariables false
set_option linter.unusedSimpArgs false
open Go.RowKit
attribute [local go_sem ↓] Go.wp_at_zero Go.wp_at_succ
theorem cornB_frB (n : Nat) (F : Nat → Nat → Int) (i : Nat) : cornB n F i = (frB (F i 0) 0 ((n : Int) - 1) && (frB (F i 1) 0 ((n : Int) - 1) && frB (F i 2) 0 ((n : Int) - 1))) := by
  have key : ∀ x : Int, decide (0 ≤ x ∧ x < (n : Int)) = frB x 0 ((n : Int) - 1) := fun x => by unfold frB; rw [decide_eq_decide]; omega
  unfold cornB
  rw [key, key, key]
set_option maxRecDepth 100000 in
set_option maxHeartbeats 4000000 in
theorem sface_any (A B : Option Addr) (n cap m cap2 : Nat) (P F : Nat → Nat → Int) (i : Nat) (w : World) (hn : n ≤ 9223372036854775807) (hb : ptsBad P n = false) (hP : RowsAt w A n 3 P) :
    Calls Try.prog 75 #[.agg #[.slice A n cap, .slice B m cap2], .agg #[.int .i64 (F i 0), .int .i64 (F i 1), .int .i64 (F i 2)]] w fun e w' => e = .returned (.int .i64 (faceE n P F i)) ∧ Kept w w' := by
  have HP := Lib.hid hP
  clear hP
  have hc := cornB_frB n F i
  cases h0 : frB (F i 0) 0 ((n : Int) - 1)
  · have e : faceE n P F i = 5 := by unfold faceE; rw [hc, h0]; rfl
    rw [e]
    clear e hc
    go_enter Try.func75, Try.ntmps75
    go_wp2_with fail
    refine wp_loop_rounds 4 ?_
    rw [rounds_succ]
    go_wp2_with (first | (go_at_call 73; refine (sfrom_any _ _ _ _).mono ?_; rintro e w1 ⟨rfl, rfl⟩))
    go_ret
    exact ⟨rfl, by (repeat (first | exact Kept.refl _ | assumption | refine Kept.alloc ?_ _ | refine Kept.ext ?_ _ | refine Kept.drew ?_ | refine Kept.drewN ?_ _))⟩
  cases h1 : frB (F i 1) 0 ((n : Int) - 1)
  · have e : faceE n P F i = 5 := by unfold faceE; rw [hc, h0, h1]; rfl
    rw [e]
    clear e hc
    go_enter Try.func75, Try.ntmps75
    go_wp2_with fail
    refine wp_loop_rounds 4 ?_
    rw [rounds_succ]
    go_wp2_with (first | (go_at_call 73; refine (sfrom_any _ _ _ _).mono ?_; rintro e w1 ⟨rfl, rfl⟩))
    rw [rounds_succ]
    go_wp2_with (first | (go_at_call 73; refine (sfrom_any _ _ _ _).mono ?_; rintro e w1 ⟨rfl, rfl⟩))
    go_ret
    exact ⟨rfl, by (repeat (first | exact Kept.refl _ | assumption | refine Kept.alloc ?_ _ | refine Kept.ext ?_ _ | refine Kept.drew ?_ | refine Kept.drewN ?_ _))⟩
  cases h2 : frB (F i 2) 0 ((n : Int) - 1)
  · have e : faceE n P F i = 5 := by unfold faceE; rw [hc, h0, h1, h2]; rfl
    rw [e]
    clear e hc
    go_enter Try.func75, Try.ntmps75
    go_wp2_with fail
    refine wp_loop_rounds 4 ?_
    rw [rounds_succ]
    go_wp2_with (first | (go_at_call 73; refine (sfrom_any _ _ _ _).mono ?_; rintro e w1 ⟨rfl, rfl⟩))
    rw [rounds_succ]
    go_wp2_with (first | (go_at_call 73; refine (sfrom_any _ _ _ _).mono ?_; rintro e w1 ⟨rfl, rfl⟩))
    rw [rounds_succ]
    go_wp2_with (first | (go_at_call 73; refine (sfrom_any _ _ _ _).mono ?_; rintro e w1 ⟨rfl, rfl⟩))
    go_ret
    exact ⟨rfl, by (repeat (first | exact Kept.refl _ | assumption | refine Kept.alloc ?_ _ | refine Kept.ext ?_ _ | refine Kept.drew ?_ | refine Kept.drewN ?_ _))⟩
  have hcB : cornB n F i = true := by rw [hc, h0, h1, h2]; rfl
  have e : faceE n P F i = if flatB P F i = true then 6 else 0 := by unfold faceE; rw [if_pos hcB]
  rw [e]
  clear e hc
  obtain ⟨c0, c1, c2⟩ := cornB_true hcB
  have b0 := co_bd hb c0
  have b1 := co_bd hb c1
  have b2 := co_bd hb c2
  clear c0 c1 c2
  unfold flatB
  go_enter Try.func75, Try.ntmps75
  go_wp2_with fail
  refine wp_loop_rounds 4 ?_
  rw [rounds_succ]
  go_wp2_with (first | (go_at_call 73; refine (sfrom_any _ _ _ _).mono ?_; rintro e w1 ⟨rfl, rfl⟩))
  rw [rounds_succ]
  go_wp2_with (first | (go_at_call 73; refine (sfrom_any _ _ _ _).mono ?_; rintro e w1 ⟨rfl, rfl⟩))
  rw [rounds_succ]
  go_wp2_with (first | (go_at_call 73; refine (sfrom_any _ _ _ _).mono ?_; rintro e w1 ⟨rfl, rfl⟩))
  rw [rounds_succ]
  go_wp2_with (go_at_call 117; refine (spanelF_any _ _ _ _ _ _ P F i _ hcB hn (HP.out.of (by (repeat (first | exact Kept.refl _ | assumption | refine Kept.alloc ?_ _ | refine Kept.ext ?_ _ | refine Kept.drew ?_ | refine Kept.drewN ?_ _))))).mono ?_; rintro e w1 ⟨rfl, x, rfl⟩; unfold faceV)
  go_wp2_with (first | (go_at_call 67; refine (snormal_any _ _ _ _ _ _ _ _ _ _ (by omega)).mono ?_; rintro e w1 ⟨rfl, x, rfl⟩))
  all_goals (go_ret; exact ⟨rfl, by (repeat (first | exact Kept.refl _ | assumption | refine Kept.alloc ?_ _ | refine Kept.ext ?_ _ | refine Kept.drew ?_ | refine Kept.drewN ?_ _))⟩)
end Go.Proofs.Ytoadlneneijfaaa
