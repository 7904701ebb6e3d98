/- Contract: whether two faces have a side in common, of the reference. No conditions. -/
import Derived.Test.YtoadlneneijfaaaGcn
namespace Go.Proofs.Ytoadlneneijfaaa
set_option linter.unusedVariables false
set_option linter.unusedSimpArgs false
open Go.RowKit
/-- Side i of f is side j of g turned round, and ends at pt, or pt is below 0. -/
def cmP (f g : Nat → Int) (pt : Int) (i j : Nat) : Prop := g j = f ((i + 1) % 3) ∧ g ((j + 1) % 3) = f i ∧ (pt < 0 ∨ f i = pt ∨ f ((i + 1) % 3) = pt)
def comP (f g : Nat → Int) (pt : Int) : Prop := ∃ i j, i < 3 ∧ j < 3 ∧ cmP f g pt i j
set_option maxRecDepth 100000 in
set_option maxHeartbeats 16000000 in
theorem r2common_any (f g : Nat → Int) (pt : Int) (w : World) :
    Calls Try.prog 125 #[.agg #[.int .i64 (f 0), .int .i64 (f 1), .int .i64 (f 2)], .agg #[.int .i64 (g 0), .int .i64 (g 1), .int .i64 (g 2)], .int .i64 pt] w fun r w' => ∃ b : Bool, r = .returned (.bool b) ∧ (b = true ↔ comP f g pt) ∧ Kept w w' := by
  go_enter Try.func125, Try.ntmps125
  go_wp2_with fail
  go_loopw [7] (fun i wr => ∃ k : Nat, k ≤ 3 ∧ i = .int .i64 k ∧ (∀ i' l, i' < k → l < 3 → ¬ cmP f g pt i' l) ∧ (∃ y, wr = ext ((w.alloc (.cells #[.int .i64 (f 0), .int .i64 (f 1), .int .i64 (f 2)] 54)).alloc (.cells #[.int .i64 (g 0), .int .i64 (g 1), .int .i64 (g 2)] 54)) y)) (fun i _ => 3 - (intOf i).toNat)
  case atStart => exact ⟨0, by omega, rfl, fun i' l h => absurd h (by omega), show Kept _ _ by (repeat (first | exact Kept.refl _ | assumption | refine Kept.alloc ?_ _ | refine Kept.ext ?_ _ | refine Kept.drew ?_ | refine Kept.drewN ?_ _))⟩
  case round =>
    obtain ⟨k, hk, rfl, hz, y, rfl⟩ := hrel
    have HZ := Lib.hid hz
    clear hz
    by_cases hlt : k < 3
    · rcases (show k = 0 ∨ k = 1 ∨ k = 2 by omega) with rfl | rfl | rfl
      · rw [show ((0 : Nat) : Int) = 0 from rfl]
        go_wp2_with fail
        go_loopw [8] (fun j wr => ∃ q : Nat, q ≤ 3 ∧ j = .int .i64 q ∧ (∀ l, l < q → ¬ cmP f g pt 0 l) ∧ (∃ y2, wr = ext ((w.alloc (.cells #[.int .i64 (f 0), .int .i64 (f 1), .int .i64 (f 2)] 54)).alloc (.cells #[.int .i64 (g 0), .int .i64 (g 1), .int .i64 (g 2)] 54)) y2)) (fun j _ => 3 - (intOf j).toNat)
        case atStart => exact ⟨0, by omega, rfl, fun l h => absurd h (by omega), show Kept _ _ by (repeat (first | exact Kept.refl _ | assumption | refine Kept.alloc ?_ _ | refine Kept.ext ?_ _ | refine Kept.drew ?_ | refine Kept.drewN ?_ _))⟩
        case round =>
          obtain ⟨q, hq, rfl, hz, y2, rfl⟩ := hrel
          have HY := Lib.hid hz
          clear hz
          by_cases hlt2 : q < 3
          · rcases (show q = 0 ∨ q = 1 ∨ q = 2 by omega) with rfl | rfl | rfl
            · by_cases e1 : g 0 = f 1
              case neg =>
                have e1b : (g 0 == f 1) = false := by simpa using e1
                have e1c : decide (g 0 = f 1) = false := by simpa using e1
                have HE := Lib.hid e1
                clear e1
                go_wp2_with fail
                ((first | (with_reducible refine wp_region_kept2 (by kernel_rfl) (by kernel_rfl) ?_) | refine wp_region_kept (by kernel_rfl) (by kernel_rfl) ?_); (repeat (go_big_quiet_step (first | fail))); refine wpQuiet_nil ?_; intro x)
                go_wp2_with fail
                go_roundw
                case rel => exact ⟨0+1, by omega, by rfl, fun l h => by
                    by_cases e : l = 0
                    · subst e; rintro ⟨h1, h2, h3⟩; exact HE.out h1
                    · exact HY.out l (by omega), show Kept _ _ by (repeat (first | exact Kept.refl _ | assumption | refine Kept.alloc ?_ _ | refine Kept.ext ?_ _ | refine Kept.drew ?_ | refine Kept.drewN ?_ _))⟩
                case measure => simp [intOf]
              have e1b : (g 0 == f 1) = true := by simpa using e1
              have e1c : decide (g 0 = f 1) = true := by simpa using e1
              have HE1 := Lib.hid e1
              clear e1
              by_cases e2 : g 1 = f 0
              case neg =>
                have e2b : (g 1 == f 0) = false := by simpa using e2
                have e2c : decide (g 1 = f 0) = false := by simpa using e2
                have HE := Lib.hid e2
                clear e2
                go_wp2_with fail
                ((first | (with_reducible refine wp_region_kept2 (by kernel_rfl) (by kernel_rfl) ?_) | refine wp_region_kept (by kernel_rfl) (by kernel_rfl) ?_); (repeat (go_big_quiet_step (first | fail))); refine wpQuiet_nil ?_; intro x)
                go_wp2_with fail
                go_roundw
                case rel => exact ⟨0+1, by omega, by rfl, fun l h => by
                    by_cases e : l = 0
                    · subst e; rintro ⟨h1, h2, h3⟩; exact HE.out h2
                    · exact HY.out l (by omega), show Kept _ _ by (repeat (first | exact Kept.refl _ | assumption | refine Kept.alloc ?_ _ | refine Kept.ext ?_ _ | refine Kept.drew ?_ | refine Kept.drewN ?_ _))⟩
                case measure => simp [intOf]
              have e2b : (g 1 == f 0) = true := by simpa using e2
              have e2c : decide (g 1 = f 0) = true := by simpa using e2
              have HE2 := Lib.hid e2
              clear e2
              by_cases e3 : pt < 0
              case pos =>
                have HC := Lib.hid (show cmP f g pt 0 0 from ⟨HE1.out, HE2.out, .inl e3⟩)
                go_wp2_with fail
                ((first | (with_reducible refine wp_region_kept2 (by kernel_rfl) (by kernel_rfl) ?_) | refine wp_region_kept (by kernel_rfl) (by kernel_rfl) ?_); (repeat (go_big_quiet_step (first | fail))); refine wpQuiet_nil ?_; intro x)
                go_wp2_with fail
                refine bodyPost_ret (by simp only [results, Try.results125]; go_simp; rfl) rfl ?_
                exact ⟨true, rfl, ⟨fun _ => ⟨0, 0, by omega, by omega, HC.out⟩, fun _ => rfl⟩, by (repeat (first | exact Kept.refl _ | assumption | refine Kept.alloc ?_ _ | refine Kept.ext ?_ _ | refine Kept.drew ?_ | refine Kept.drewN ?_ _))⟩
              have e3c : decide (pt < 0) = false := decide_eq_false e3
              have HE3 := Lib.hid e3
              clear e3
              by_cases e4 : f 0 = pt
              case pos =>
                have HC := Lib.hid (show cmP f g pt 0 0 from ⟨HE1.out, HE2.out, .inr (.inl e4)⟩)
                have e4b : (f 0 == pt) = true := by simpa using e4
                have e4c : decide (f 0 = pt) = true := by simpa using e4
                clear e4
                go_wp2_with fail
                ((first | (with_reducible refine wp_region_kept2 (by kernel_rfl) (by kernel_rfl) ?_) | refine wp_region_kept (by kernel_rfl) (by kernel_rfl) ?_); (repeat (go_big_quiet_step (first | fail))); refine wpQuiet_nil ?_; intro x)
                go_wp2_with fail
                refine bodyPost_ret (by simp only [results, Try.results125]; go_simp; rfl) rfl ?_
                exact ⟨true, rfl, ⟨fun _ => ⟨0, 0, by omega, by omega, HC.out⟩, fun _ => rfl⟩, by (repeat (first | exact Kept.refl _ | assumption | refine Kept.alloc ?_ _ | refine Kept.ext ?_ _ | refine Kept.drew ?_ | refine Kept.drewN ?_ _))⟩
              have e4b : (f 0 == pt) = false := by simpa using e4
              have e4c : decide (f 0 = pt) = false := by simpa using e4
              by_cases e5 : f 1 = pt
              case pos =>
                have HC := Lib.hid (show cmP f g pt 0 0 from ⟨HE1.out, HE2.out, .inr (.inr e5)⟩)
                have e5b : (f 1 == pt) = true := by simpa using e5
                have e5c : decide (f 1 = pt) = true := by simpa using e5
                clear e5
                go_wp2_with fail
                ((first | (with_reducible refine wp_region_kept2 (by kernel_rfl) (by kernel_rfl) ?_) | refine wp_region_kept (by kernel_rfl) (by kernel_rfl) ?_); (repeat (go_big_quiet_step (first | fail))); refine wpQuiet_nil ?_; intro x)
                go_wp2_with fail
                refine bodyPost_ret (by simp only [results, Try.results125]; go_simp; rfl) rfl ?_
                exact ⟨true, rfl, ⟨fun _ => ⟨0, 0, by omega, by omega, HC.out⟩, fun _ => rfl⟩, by (repeat (first | exact Kept.refl _ | assumption | refine Kept.alloc ?_ _ | refine Kept.ext ?_ _ | refine Kept.drew ?_ | refine Kept.drewN ?_ _))⟩
              have e5b : (f 1 == pt) = false := by simpa using e5
              have e5c : decide (f 1 = pt) = false := by simpa using e5
              have HE := Lib.hid (And.intro HE3.out (And.intro e4 e5))
              clear e4 e5
              go_wp2_with fail
              ((first | (with_reducible refine wp_region_kept2 (by kernel_rfl) (by kernel_rfl) ?_) | refine wp_region_kept (by kernel_rfl) (by kernel_rfl) ?_); (repeat (go_big_quiet_step (first | fail))); refine wpQuiet_nil ?_; intro x)
              go_wp2_with fail
              go_roundw
              case rel => exact ⟨0+1, by omega, by rfl, fun l h => by
                    by_cases e : l = 0
                    · subst e; rintro ⟨h1, h2, h3⟩; rcases h3 with h3 | h3 | h3
                      · exact absurd h3 (by have := HE.out.1; omega)
                      · exact HE.out.2.1 h3
                      · exact HE.out.2.2 h3
                    · exact HY.out l (by omega), show Kept _ _ by (repeat (first | exact Kept.refl _ | assumption | refine Kept.alloc ?_ _ | refine Kept.ext ?_ _ | refine Kept.drew ?_ | refine Kept.drewN ?_ _))⟩
              case measure => simp [intOf]
            · by_cases e1 : g 1 = f 1
              case neg =>
                have e1b : (g 1 == f 1) = false := by simpa using e1
                have e1c : decide (g 1 = f 1) = false := by simpa using e1
                have HE := Lib.hid e1
                clear e1
                go_wp2_with fail
                ((first | (with_reducible refine wp_region_kept2 (by kernel_rfl) (by kernel_rfl) ?_) | refine wp_region_kept (by kernel_rfl) (by kernel_rfl) ?_); (repeat (go_big_quiet_step (first | fail))); refine wpQuiet_nil ?_; intro x)
                go_wp2_with fail
                go_roundw
                case rel => exact ⟨1+1, by omega, by rfl, fun l h => by
                    by_cases e : l = 1
                    · subst e; rintro ⟨h1, h2, h3⟩; exact HE.out h1
                    · exact HY.out l (by omega), show Kept _ _ by (repeat (first | exact Kept.refl _ | assumption | refine Kept.alloc ?_ _ | refine Kept.ext ?_ _ | refine Kept.drew ?_ | refine Kept.drewN ?_ _))⟩
                case measure => simp [intOf]
              have e1b : (g 1 == f 1) = true := by simpa using e1
              have e1c : decide (g 1 = f 1) = true := by simpa using e1
              have HE1 := Lib.hid e1
              clear e1
              by_cases e2 : g 2 = f 0
              case neg =>
                have e2b : (g 2 == f 0) = false := by simpa using e2
                have e2c : decide (g 2 = f 0) = false := by simpa using e2
                have HE := Lib.hid e2
                clear e2
                go_wp2_with fail
                ((first | (with_reducible refine wp_region_kept2 (by kernel_rfl) (by kernel_rfl) ?_) | refine wp_region_kept (by kernel_rfl) (by kernel_rfl) ?_); (repeat (go_big_quiet_step (first | fail))); refine wpQuiet_nil ?_; intro x)
                go_wp2_with fail
                go_roundw
                case rel => exact ⟨1+1, by omega, by rfl, fun l h => by
                    by_cases e : l = 1
                    · subst e; rintro ⟨h1, h2, h3⟩; exact HE.out h2
                    · exact HY.out l (by omega), show Kept _ _ by (repeat (first | exact Kept.refl _ | assumption | refine Kept.alloc ?_ _ | refine Kept.ext ?_ _ | refine Kept.drew ?_ | refine Kept.drewN ?_ _))⟩
                case measure => simp [intOf]
              have e2b : (g 2 == f 0) = true := by simpa using e2
              have e2c : decide (g 2 = f 0) = true := by simpa using e2
              have HE2 := Lib.hid e2
              clear e2
              by_cases e3 : pt < 0
              case pos =>
                have HC := Lib.hid (show cmP f g pt 0 1 from ⟨HE1.out, HE2.out, .inl e3⟩)
                go_wp2_with fail
                ((first | (with_reducible refine wp_region_kept2 (by kernel_rfl) (by kernel_rfl) ?_) | refine wp_region_kept (by kernel_rfl) (by kernel_rfl) ?_); (repeat (go_big_quiet_step (first | fail))); refine wpQuiet_nil ?_; intro x)
                go_wp2_with fail
                refine bodyPost_ret (by simp only [results, Try.results125]; go_simp; rfl) rfl ?_
                exact ⟨true, rfl, ⟨fun _ => ⟨0, 1, by omega, by omega, HC.out⟩, fun _ => rfl⟩, by (repeat (first | exact Kept.refl _ | assumption | refine Kept.alloc ?_ _ | refine Kept.ext ?_ _ | refine Kept.drew ?_ | refine Kept.drewN ?_ _))⟩
              have e3c : decide (pt < 0) = false := decide_eq_false e3
              have HE3 := Lib.hid e3
              clear e3
              by_cases e4 : f 0 = pt
              case pos =>
                have HC := Lib.hid (show cmP f g pt 0 1 from ⟨HE1.out, HE2.out, .inr (.inl e4)⟩)
                have e4b : (f 0 == pt) = true := by simpa using e4
                have e4c : decide (f 0 = pt) = true := by simpa using e4
                clear e4
                go_wp2_with fail
                ((first | (with_reducible refine wp_region_kept2 (by kernel_rfl) (by kernel_rfl) ?_) | refine wp_region_kept (by kernel_rfl) (by kernel_rfl) ?_); (repeat (go_big_quiet_step (first | fail))); refine wpQuiet_nil ?_; intro x)
                go_wp2_with fail
                refine bodyPost_ret (by simp only [results, Try.results125]; go_simp; rfl) rfl ?_
                exact ⟨true, rfl, ⟨fun _ => ⟨0, 1, by omega, by omega, HC.out⟩, fun _ => rfl⟩, by (repeat (first | exact Kept.refl _ | assumption | refine Kept.alloc ?_ _ | refine Kept.ext ?_ _ | refine Kept.drew ?_ | refine Kept.drewN ?_ _))⟩
              have e4b : (f 0 == pt) = false := by simpa using e4
              have e4c : decide (f 0 = pt) = false := by simpa using e4
              by_cases e5 : f 1 = pt
              case pos =>
                have HC := Lib.hid (show cmP f g pt 0 1 from ⟨HE1.out, HE2.out, .inr (.inr e5)⟩)
                have e5b : (f 1 == pt) = true := by simpa using e5
                have e5c : decide (f 1 = pt) = true := by simpa using e5
                clear e5
                go_wp2_with fail
                ((first | (with_reducible refine wp_region_kept2 (by kernel_rfl) (by kernel_rfl) ?_) | refine wp_region_kept (by kernel_rfl) (by kernel_rfl) ?_); (repeat (go_big_quiet_step (first | fail))); refine wpQuiet_nil ?_; intro x)
                go_wp2_with fail
                refine bodyPost_ret (by simp only [results, Try.results125]; go_simp; rfl) rfl ?_
                exact ⟨true, rfl, ⟨fun _ => ⟨0, 1, by omega, by omega, HC.out⟩, fun _ => rfl⟩, by (repeat (first | exact Kept.refl _ | assumption | refine Kept.alloc ?_ _ | refine Kept.ext ?_ _ | refine Kept.drew ?_ | refine Kept.drewN ?_ _))⟩
              have e5b : (f 1 == pt) = false := by simpa using e5
              have e5c : decide (f 1 = pt) = false := by simpa using e5
              have HE := Lib.hid (And.intro HE3.out (And.intro e4 e5))
              clear e4 e5
              go_wp2_with fail
              ((first | (with_reducible refine wp_region_kept2 (by kernel_rfl) (by kernel_rfl) ?_) | refine wp_region_kept (by kernel_rfl) (by kernel_rfl) ?_); (repeat (go_big_quiet_step (first | fail))); refine wpQuiet_nil ?_; intro x)
              go_wp2_with fail
              go_roundw
              case rel => exact ⟨1+1, by omega, by rfl, fun l h => by
                    by_cases e : l = 1
                    · subst e; rintro ⟨h1, h2, h3⟩; rcases h3 with h3 | h3 | h3
                      · exact absurd h3 (by have := HE.out.1; omega)
                      · exact HE.out.2.1 h3
                      · exact HE.out.2.2 h3
                    · exact HY.out l (by omega), show Kept _ _ by (repeat (first | exact Kept.refl _ | assumption | refine Kept.alloc ?_ _ | refine Kept.ext ?_ _ | refine Kept.drew ?_ | refine Kept.drewN ?_ _))⟩
              case measure => simp [intOf]
            · by_cases e1 : g 2 = f 1
              case neg =>
                have e1b : (g 2 == f 1) = false := by simpa using e1
                have e1c : decide (g 2 = f 1) = false := by simpa using e1
                have HE := Lib.hid e1
                clear e1
                go_wp2_with fail
                ((first | (with_reducible refine wp_region_kept2 (by kernel_rfl) (by kernel_rfl) ?_) | refine wp_region_kept (by kernel_rfl) (by kernel_rfl) ?_); (repeat (go_big_quiet_step (first | fail))); refine wpQuiet_nil ?_; intro x)
                go_wp2_with fail
                go_roundw
                case rel => exact ⟨2+1, by omega, by rfl, fun l h => by
                    by_cases e : l = 2
                    · subst e; rintro ⟨h1, h2, h3⟩; exact HE.out h1
                    · exact HY.out l (by omega), show Kept _ _ by (repeat (first | exact Kept.refl _ | assumption | refine Kept.alloc ?_ _ | refine Kept.ext ?_ _ | refine Kept.drew ?_ | refine Kept.drewN ?_ _))⟩
                case measure => simp [intOf]
              have e1b : (g 2 == f 1) = true := by simpa using e1
              have e1c : decide (g 2 = f 1) = true := by simpa using e1
              have HE1 := Lib.hid e1
              clear e1
              by_cases e2 : g 0 = f 0
              case neg =>
                have e2b : (g 0 == f 0) = false := by simpa using e2
                have e2c : decide (g 0 = f 0) = false := by simpa using e2
                have HE := Lib.hid e2
                clear e2
                go_wp2_with fail
                ((first | (with_reducible refine wp_region_kept2 (by kernel_rfl) (by kernel_rfl) ?_) | refine wp_region_kept (by kernel_rfl) (by kernel_rfl) ?_); (repeat (go_big_quiet_step (first | fail))); refine wpQuiet_nil ?_; intro x)
                go_wp2_with fail
                go_roundw
                case rel => exact ⟨2+1, by omega, by rfl, fun l h => by
                    by_cases e : l = 2
                    · subst e; rintro ⟨h1, h2, h3⟩; exact HE.out h2
                    · exact HY.out l (by omega), show Kept _ _ by (repeat (first | exact Kept.refl _ | assumption | refine Kept.alloc ?_ _ | refine Kept.ext ?_ _ | refine Kept.drew ?_ | refine Kept.drewN ?_ _))⟩
                case measure => simp [intOf]
              have e2b : (g 0 == f 0) = true := by simpa using e2
              have e2c : decide (g 0 = f 0) = true := by simpa using e2
              have HE2 := Lib.hid e2
              clear e2
              by_cases e3 : pt < 0
              case pos =>
                have HC := Lib.hid (show cmP f g pt 0 2 from ⟨HE1.out, HE2.out, .inl e3⟩)
                go_wp2_with fail
                ((first | (with_reducible refine wp_region_kept2 (by kernel_rfl) (by kernel_rfl) ?_) | refine wp_region_kept (by kernel_rfl) (by kernel_rfl) ?_); (repeat (go_big_quiet_step (first | fail))); refine wpQuiet_nil ?_; intro x)
                go_wp2_with fail
                refine bodyPost_ret (by simp only [results, Try.results125]; go_simp; rfl) rfl ?_
                exact ⟨true, rfl, ⟨fun _ => ⟨0, 2, by omega, by omega, HC.out⟩, fun _ => rfl⟩, by (repeat (first | exact Kept.refl _ | assumption | refine Kept.alloc ?_ _ | refine Kept.ext ?_ _ | refine Kept.drew ?_ | refine Kept.drewN ?_ _))⟩
              have e3c : decide (pt < 0) = false := decide_eq_false e3
              have HE3 := Lib.hid e3
              clear e3
              by_cases e4 : f 0 = pt
              case pos =>
                have HC := Lib.hid (show cmP f g pt 0 2 from ⟨HE1.out, HE2.out, .inr (.inl e4)⟩)
                have e4b : (f 0 == pt) = true := by simpa using e4
                have e4c : decide (f 0 = pt) = true := by simpa using e4
                clear e4
                go_wp2_with fail
                ((first | (with_reducible refine wp_region_kept2 (by kernel_rfl) (by kernel_rfl) ?_) | refine wp_region_kept (by kernel_rfl) (by kernel_rfl) ?_); (repeat (go_big_quiet_step (first | fail))); refine wpQuiet_nil ?_; intro x)
                go_wp2_with fail
                refine bodyPost_ret (by simp only [results, Try.results125]; go_simp; rfl) rfl ?_
                exact ⟨true, rfl, ⟨fun _ => ⟨0, 2, by omega, by omega, HC.out⟩, fun _ => rfl⟩, by (repeat (first | exact Kept.refl _ | assumption | refine Kept.alloc ?_ _ | refine Kept.ext ?_ _ | refine Kept.drew ?_ | refine Kept.drewN ?_ _))⟩
              have e4b : (f 0 == pt) = false := by simpa using e4
              have e4c : decide (f 0 = pt) = false := by simpa using e4
              by_cases e5 : f 1 = pt
              case pos =>
                have HC := Lib.hid (show cmP f g pt 0 2 from ⟨HE1.out, HE2.out, .inr (.inr e5)⟩)
                have e5b : (f 1 == pt) = true := by simpa using e5
                have e5c : decide (f 1 = pt) = true := by simpa using e5
                clear e5
                go_wp2_with fail
                ((first | (with_reducible refine wp_region_kept2 (by kernel_rfl) (by kernel_rfl) ?_) | refine wp_region_kept (by kernel_rfl) (by kernel_rfl) ?_); (repeat (go_big_quiet_step (first | fail))); refine wpQuiet_nil ?_; intro x)
                go_wp2_with fail
                refine bodyPost_ret (by simp only [results, Try.results125]; go_simp; rfl) rfl ?_
                exact ⟨true, rfl, ⟨fun _ => ⟨0, 2, by omega, by omega, HC.out⟩, fun _ => rfl⟩, by (repeat (first | exact Kept.refl _ | assumption | refine Kept.alloc ?_ _ | refine Kept.ext ?_ _ | refine Kept.drew ?_ | refine Kept.drewN ?_ _))⟩
              have e5b : (f 1 == pt) = false := by simpa using e5
              have e5c : decide (f 1 = pt) = false := by simpa using e5
              have HE := Lib.hid (And.intro HE3.out (And.intro e4 e5))
              clear e4 e5
              go_wp2_with fail
              ((first | (with_reducible refine wp_region_kept2 (by kernel_rfl) (by kernel_rfl) ?_) | refine wp_region_kept (by kernel_rfl) (by kernel_rfl) ?_); (repeat (go_big_quiet_step (first | fail))); refine wpQuiet_nil ?_; intro x)
              go_wp2_with fail
              go_roundw
              case rel => exact ⟨2+1, by omega, by rfl, fun l h => by
                    by_cases e : l = 2
                    · subst e; rintro ⟨h1, h2, h3⟩; rcases h3 with h3 | h3 | h3
                      · exact absurd h3 (by have := HE.out.1; omega)
                      · exact HE.out.2.1 h3
                      · exact HE.out.2.2 h3
                    · exact HY.out l (by omega), show Kept _ _ by (repeat (first | exact Kept.refl _ | assumption | refine Kept.alloc ?_ _ | refine Kept.ext ?_ _ | refine Kept.drew ?_ | refine Kept.drewN ?_ _))⟩
              case measure => simp [intOf]
          · obtain rfl : q = 3 := by omega
            go_wp2_with fail
            go_roundw
            case rel => exact ⟨0+1, by omega, by rfl, fun i' l h h2 => by
                by_cases e : i' = 0
                · subst e; exact HY.out l h2
                · exact HZ.out i' l (by omega) h2, show Kept _ _ by (repeat (first | exact Kept.refl _ | assumption | refine Kept.alloc ?_ _ | refine Kept.ext ?_ _ | refine Kept.drew ?_ | refine Kept.drewN ?_ _))⟩
            case measure => simp [intOf]
      · rw [show ((1 : Nat) : Int) = 1 from rfl]
        go_wp2_with fail
        go_loopw [8] (fun j wr => ∃ q : Nat, q ≤ 3 ∧ j = .int .i64 q ∧ (∀ l, l < q → ¬ cmP f g pt 1 l) ∧ (∃ y2, wr = ext ((w.alloc (.cells #[.int .i64 (f 0), .int .i64 (f 1), .int .i64 (f 2)] 54)).alloc (.cells #[.int .i64 (g 0), .int .i64 (g 1), .int .i64 (g 2)] 54)) y2)) (fun j _ => 3 - (intOf j).toNat)
        case atStart => exact ⟨0, by omega, rfl, fun l h => absurd h (by omega), show Kept _ _ by (repeat (first | exact Kept.refl _ | assumption | refine Kept.alloc ?_ _ | refine Kept.ext ?_ _ | refine Kept.drew ?_ | refine Kept.drewN ?_ _))⟩
        case round =>
          obtain ⟨q, hq, rfl, hz, y2, rfl⟩ := hrel
          have HY := Lib.hid hz
          clear hz
          by_cases hlt2 : q < 3
          · rcases (show q = 0 ∨ q = 1 ∨ q = 2 by omega) with rfl | rfl | rfl
            · by_cases e1 : g 0 = f 2
              case neg =>
                have e1b : (g 0 == f 2) = false := by simpa using e1
                have e1c : decide (g 0 = f 2) = false := by simpa using e1
                have HE := Lib.hid e1
                clear e1
                go_wp2_with fail
                ((first | (with_reducible refine wp_region_kept2 (by kernel_rfl) (by kernel_rfl) ?_) | refine wp_region_kept (by kernel_rfl) (by kernel_rfl) ?_); (repeat (go_big_quiet_step (first | fail))); refine wpQuiet_nil ?_; intro x)
                go_wp2_with fail
                go_roundw
                case rel => exact ⟨0+1, by omega, by rfl, fun l h => by
                    by_cases e : l = 0
                    · subst e; rintro ⟨h1, h2, h3⟩; exact HE.out h1
                    · exact HY.out l (by omega), show Kept _ _ by (repeat (first | exact Kept.refl _ | assumption | refine Kept.alloc ?_ _ | refine Kept.ext ?_ _ | refine Kept.drew ?_ | refine Kept.drewN ?_ _))⟩
                case measure => simp [intOf]
              have e1b : (g 0 == f 2) = true := by simpa using e1
              have e1c : decide (g 0 = f 2) = true := by simpa using e1
              have HE1 := Lib.hid e1
              clear e1
              by_cases e2 : g 1 = f 1
              case neg =>
                have e2b : (g 1 == f 1) = false := by simpa using e2
                have e2c : decide (g 1 = f 1) = false := by simpa using e2
                have HE := Lib.hid e2
                clear e2
                go_wp2_with fail
                ((first | (with_reducible refine wp_region_kept2 (by kernel_rfl) (by kernel_rfl) ?_) | refine wp_region_kept (by kernel_rfl) (by kernel_rfl) ?_); (repeat (go_big_quiet_step (first | fail))); refine wpQuiet_nil ?_; intro x)
                go_wp2_with fail
                go_roundw
                case rel => exact ⟨0+1, by omega, by rfl, fun l h => by
                    by_cases e : l = 0
                    · subst e; rintro ⟨h1, h2, h3⟩; exact HE.out h2
                    · exact HY.out l (by omega), show Kept _ _ by (repeat (first | exact Kept.refl _ | assumption | refine Kept.alloc ?_ _ | refine Kept.ext ?_ _ | refine Kept.drew ?_ | refine Kept.drewN ?_ _))⟩
                case measure => simp [intOf]
              have e2b : (g 1 == f 1) = true := by simpa using e2
              have e2c : decide (g 1 = f 1) = true := by simpa using e2
              have HE2 := Lib.hid e2
              clear e2
              by_cases e3 : pt < 0
              case pos =>
                have HC := Lib.hid (show cmP f g pt 1 0 from ⟨HE1.out, HE2.out, .inl e3⟩)
                go_wp2_with fail
                ((first | (with_reducible refine wp_region_kept2 (by kernel_rfl) (by kernel_rfl) ?_) | refine wp_region_kept (by kernel_rfl) (by kernel_rfl) ?_); (repeat (go_big_quiet_step (first | fail))); refine wpQuiet_nil ?_; intro x)
                go_wp2_with fail
                refine bodyPost_ret (by simp only [results, Try.results125]; go_simp; rfl) rfl ?_
                exact ⟨true, rfl, ⟨fun _ => ⟨1, 0, by omega, by omega, HC.out⟩, fun _ => rfl⟩, by (repeat (first | exact Kept.refl _ | assumption | refine Kept.alloc ?_ _ | refine Kept.ext ?_ _ | refine Kept.drew ?_ | refine Kept.drewN ?_ _))⟩
              have e3c : decide (pt < 0) = false := decide_eq_false e3
              have HE3 := Lib.hid e3
              clear e3
              by_cases e4 : f 1 = pt
              case pos =>
                have HC := Lib.hid (show cmP f g pt 1 0 from ⟨HE1.out, HE2.out, .inr (.inl e4)⟩)
                have e4b : (f 1 == pt) = true := by simpa using e4
                have e4c : decide (f 1 = pt) = true := by simpa using e4
                clear e4
                go_wp2_with fail
                ((first | (with_reducible refine wp_region_kept2 (by kernel_rfl) (by kernel_rfl) ?_) | refine wp_region_kept (by kernel_rfl) (by kernel_rfl) ?_); (repeat (go_big_quiet_step (first | fail))); refine wpQuiet_nil ?_; intro x)
                go_wp2_with fail
                refine bodyPost_ret (by simp only [results, Try.results125]; go_simp; rfl) rfl ?_
                exact ⟨true, rfl, ⟨fun _ => ⟨1, 0, by omega, by omega, HC.out⟩, fun _ => rfl⟩, by (repeat (first | exact Kept.refl _ | assumption | refine Kept.alloc ?_ _ | refine Kept.ext ?_ _ | refine Kept.drew ?_ | refine Kept.drewN ?_ _))⟩
              have e4b : (f 1 == pt) = false := by simpa using e4
              have e4c : decide (f 1 = pt) = false := by simpa using e4
              by_cases e5 : f 2 = pt
              case pos =>
                have HC := Lib.hid (show cmP f g pt 1 0 from ⟨HE1.out, HE2.out, .inr (.inr e5)⟩)
                have e5b : (f 2 == pt) = true := by simpa using e5
                have e5c : decide (f 2 = pt) = true := by simpa using e5
                clear e5
                go_wp2_with fail
                ((first | (with_reducible refine wp_region_kept2 (by kernel_rfl) (by kernel_rfl) ?_) | refine wp_region_kept (by kernel_rfl) (by kernel_rfl) ?_); (repeat (go_big_quiet_step (first | fail))); refine wpQuiet_nil ?_; intro x)
                go_wp2_with fail
                refine bodyPost_ret (by simp only [results, Try.results125]; go_simp; rfl) rfl ?_
                exact ⟨true, rfl, ⟨fun _ => ⟨1, 0, by omega, by omega, HC.out⟩, fun _ => rfl⟩, by (repeat (first | exact Kept.refl _ | assumption | refine Kept.alloc ?_ _ | refine Kept.ext ?_ _ | refine Kept.drew ?_ | refine Kept.drewN ?_ _))⟩
              have e5b : (f 2 == pt) = false := by simpa using e5
              have e5c : decide (f 2 = pt) = false := by simpa using e5
              have HE := Lib.hid (And.intro HE3.out (And.intro e4 e5))
              clear e4 e5
              go_wp2_with fail
              ((first | (with_reducible refine wp_region_kept2 (by kernel_rfl) (by kernel_rfl) ?_) | refine wp_region_kept (by kernel_rfl) (by kernel_rfl) ?_); (repeat (go_big_quiet_step (first | fail))); refine wpQuiet_nil ?_; intro x)
              go_wp2_with fail
              go_roundw
              case rel => exact ⟨0+1, by omega, by rfl, fun l h => by
                    by_cases e : l = 0
                    · subst e; rintro ⟨h1, h2, h3⟩; rcases h3 with h3 | h3 | h3
                      · exact absurd h3 (by have := HE.out.1; omega)
                      · exact HE.out.2.1 h3
                      · exact HE.out.2.2 h3
                    · exact HY.out l (by omega), show Kept _ _ by (repeat (first | exact Kept.refl _ | assumption | refine Kept.alloc ?_ _ | refine Kept.ext ?_ _ | refine Kept.drew ?_ | refine Kept.drewN ?_ _))⟩
              case measure => simp [intOf]
            · by_cases e1 : g 1 = f 2
              case neg =>
                have e1b : (g 1 == f 2) = false := by simpa using e1
                have e1c : decide (g 1 = f 2) = false := by simpa using e1
                have HE := Lib.hid e1
                clear e1
                go_wp2_with fail
                ((first | (with_reducible refine wp_region_kept2 (by kernel_rfl) (by kernel_rfl) ?_) | refine wp_region_kept (by kernel_rfl) (by kernel_rfl) ?_); (repeat (go_big_quiet_step (first | fail))); refine wpQuiet_nil ?_; intro x)
                go_wp2_with fail
                go_roundw
                case rel => exact ⟨1+1, by omega, by rfl, fun l h => by
                    by_cases e : l = 1
                    · subst e; rintro ⟨h1, h2, h3⟩; exact HE.out h1
                    · exact HY.out l (by omega), show Kept _ _ by (repeat (first | exact Kept.refl _ | assumption | refine Kept.alloc ?_ _ | refine Kept.ext ?_ _ | refine Kept.drew ?_ | refine Kept.drewN ?_ _))⟩
                case measure => simp [intOf]
              have e1b : (g 1 == f 2) = true := by simpa using e1
              have e1c : decide (g 1 = f 2) = true := by simpa using e1
              have HE1 := Lib.hid e1
              clear e1
              by_cases e2 : g 2 = f 1
              case neg =>
                have e2b : (g 2 == f 1) = false := by simpa using e2
                have e2c : decide (g 2 = f 1) = false := by simpa using e2
                have HE := Lib.hid e2
                clear e2
                go_wp2_with fail
                ((first | (with_reducible refine wp_region_kept2 (by kernel_rfl) (by kernel_rfl) ?_) | refine wp_region_kept (by kernel_rfl) (by kernel_rfl) ?_); (repeat (go_big_quiet_step (first | fail))); refine wpQuiet_nil ?_; intro x)
                go_wp2_with fail
                go_roundw
                case rel => exact ⟨1+1, by omega, by rfl, fun l h => by
                    by_cases e : l = 1
                    · subst e; rintro ⟨h1, h2, h3⟩; exact HE.out h2
                    · exact HY.out l (by omega), show Kept _ _ by (repeat (first | exact Kept.refl _ | assumption | refine Kept.alloc ?_ _ | refine Kept.ext ?_ _ | refine Kept.drew ?_ | refine Kept.drewN ?_ _))⟩
                case measure => simp [intOf]
              have e2b : (g 2 == f 1) = true := by simpa using e2
              have e2c : decide (g 2 = f 1) = true := by simpa using e2
              have HE2 := Lib.hid e2
              clear e2
              by_cases e3 : pt < 0
              case pos =>
                have HC := Lib.hid (show cmP f g pt 1 1 from ⟨HE1.out, HE2.out, .inl e3⟩)
                go_wp2_with fail
                ((first | (with_reducible refine wp_region_kept2 (by kernel_rfl) (by kernel_rfl) ?_) | refine wp_region_kept (by kernel_rfl) (by kernel_rfl) ?_); (repeat (go_big_quiet_step (first | fail))); refine wpQuiet_nil ?_; intro x)
                go_wp2_with fail
                refine bodyPost_ret (by simp only [results, Try.results125]; go_simp; rfl) rfl ?_
                exact ⟨true, rfl, ⟨fun _ => ⟨1, 1, by omega, by omega, HC.out⟩, fun _ => rfl⟩, by (repeat (first | exact Kept.refl _ | assumption | refine Kept.alloc ?_ _ | refine Kept.ext ?_ _ | refine Kept.drew ?_ | refine Kept.drewN ?_ _))⟩
              have e3c : decide (pt < 0) = false := decide_eq_false e3
              have HE3 := Lib.hid e3
              clear e3
              by_cases e4 : f 1 = pt
              case pos =>
                have HC := Lib.hid (show cmP f g pt 1 1 from ⟨HE1.out, HE2.out, .inr (.inl e4)⟩)
                have e4b : (f 1 == pt) = true := by simpa using e4
                have e4c : decide (f 1 = pt) = true := by simpa using e4
                clear e4
                go_wp2_with fail
                ((first | (with_reducible refine wp_region_kept2 (by kernel_rfl) (by kernel_rfl) ?_) | refine wp_region_kept (by kernel_rfl) (by kernel_rfl) ?_); (repeat (go_big_quiet_step (first | fail))); refine wpQuiet_nil ?_; intro x)
                go_wp2_with fail
                refine bodyPost_ret (by simp only [results, Try.results125]; go_simp; rfl) rfl ?_
                exact ⟨true, rfl, ⟨fun _ => ⟨1, 1, by omega, by omega, HC.out⟩, fun _ => rfl⟩, by (repeat (first | exact Kept.refl _ | assumption | refine Kept.alloc ?_ _ | refine Kept.ext ?_ _ | refine Kept.drew ?_ | refine Kept.drewN ?_ _))⟩
              have e4b : (f 1 == pt) = false := by simpa using e4
              have e4c : decide (f 1 = pt) = false := by simpa using e4
              by_cases e5 : f 2 = pt
              case pos =>
                have HC := Lib.hid (show cmP f g pt 1 1 from ⟨HE1.out, HE2.out, .inr (.inr e5)⟩)
                have e5b : (f 2 == pt) = true := by simpa using e5
                have e5c : decide (f 2 = pt) = true := by simpa using e5
                clear e5
                go_wp2_with fail
                ((first | (with_reducible refine wp_region_kept2 (by kernel_rfl) (by kernel_rfl) ?_) | refine wp_region_kept (by kernel_rfl) (by kernel_rfl) ?_); (repeat (go_big_quiet_step (first | fail))); refine wpQuiet_nil ?_; intro x)
                go_wp2_with fail
                refine bodyPost_ret (by simp only [results, Try.results125]; go_simp; rfl) rfl ?_
                exact ⟨true, rfl, ⟨fun _ => ⟨1, 1, by omega, by omega, HC.out⟩, fun _ => rfl⟩, by (repeat (first | exact Kept.refl _ | assumption | refine Kept.alloc ?_ _ | refine Kept.ext ?_ _ | refine Kept.drew ?_ | refine Kept.drewN ?_ _))⟩
              have e5b : (f 2 == pt) = false := by simpa using e5
              have e5c : decide (f 2 = pt) = false := by simpa using e5
              have HE := Lib.hid (And.intro HE3.out (And.intro e4 e5))
              clear e4 e5
              go_wp2_with fail
              ((first | (with_reducible refine wp_region_kept2 (by kernel_rfl) (by kernel_rfl) ?_) | refine wp_region_kept (by kernel_rfl) (by kernel_rfl) ?_); (repeat (go_big_quiet_step (first | fail))); refine wpQuiet_nil ?_; intro x)
              go_wp2_with fail
              go_roundw
              case rel => exact ⟨1+1, by omega, by rfl, fun l h => by
                    by_cases e : l = 1
                    · subst e; rintro ⟨h1, h2, h3⟩; rcases h3 with h3 | h3 | h3
                      · exact absurd h3 (by have := HE.out.1; omega)
                      · exact HE.out.2.1 h3
                      · exact HE.out.2.2 h3
                    · exact HY.out l (by omega), show Kept _ _ by (repeat (first | exact Kept.refl _ | assumption | refine Kept.alloc ?_ _ | refine Kept.ext ?_ _ | refine Kept.drew ?_ | refine Kept.drewN ?_ _))⟩
              case measure => simp [intOf]
            · by_cases e1 : g 2 = f 2
              case neg =>
                have e1b : (g 2 == f 2) = false := by simpa using e1
                have e1c : decide (g 2 = f 2) = false := by simpa using e1
                have HE := Lib.hid e1
                clear e1
                go_wp2_with fail
                ((first | (with_reducible refine wp_region_kept2 (by kernel_rfl) (by kernel_rfl) ?_) | refine wp_region_kept (by kernel_rfl) (by kernel_rfl) ?_); (repeat (go_big_quiet_step (first | fail))); refine wpQuiet_nil ?_; intro x)
                go_wp2_with fail
                go_roundw
                case rel => exact ⟨2+1, by omega, by rfl, fun l h => by
                    by_cases e : l = 2
                    · subst e; rintro ⟨h1, h2, h3⟩; exact HE.out h1
                    · exact HY.out l (by omega), show Kept _ _ by (repeat (first | exact Kept.refl _ | assumption | refine Kept.alloc ?_ _ | refine Kept.ext ?_ _ | refine Kept.drew ?_ | refine Kept.drewN ?_ _))⟩
                case measure => simp [intOf]
              have e1b : (g 2 == f 2) = true := by simpa using e1
              have e1c : decide (g 2 = f 2) = true := by simpa using e1
              have HE1 := Lib.hid e1
              clear e1
              by_cases e2 : g 0 = f 1
              case neg =>
                have e2b : (g 0 == f 1) = false := by simpa using e2
                have e2c : decide (g 0 = f 1) = false := by simpa using e2
                have HE := Lib.hid e2
                clear e2
                go_wp2_with fail
                ((first | (with_reducible refine wp_region_kept2 (by kernel_rfl) (by kernel_rfl) ?_) | refine wp_region_kept (by kernel_rfl) (by kernel_rfl) ?_); (repeat (go_big_quiet_step (first | fail))); refine wpQuiet_nil ?_; intro x)
                go_wp2_with fail
                go_roundw
                case rel => exact ⟨2+1, by omega, by rfl, fun l h => by
                    by_cases e : l = 2
                    · subst e; rintro ⟨h1, h2, h3⟩; exact HE.out h2
                    · exact HY.out l (by omega), show Kept _ _ by (repeat (first | exact Kept.refl _ | assumption | refine Kept.alloc ?_ _ | refine Kept.ext ?_ _ | refine Kept.drew ?_ | refine Kept.drewN ?_ _))⟩
                case measure => simp [intOf]
              have e2b : (g 0 == f 1) = true := by simpa using e2
              have e2c : decide (g 0 = f 1) = true := by simpa using e2
              have HE2 := Lib.hid e2
              clear e2
              by_cases e3 : pt < 0
              case pos =>
                have HC := Lib.hid (show cmP f g pt 1 2 from ⟨HE1.out, HE2.out, .inl e3⟩)
                go_wp2_with fail
                ((first | (with_reducible refine wp_region_kept2 (by kernel_rfl) (by kernel_rfl) ?_) | refine wp_region_kept (by kernel_rfl) (by kernel_rfl) ?_); (repeat (go_big_quiet_step (first | fail))); refine wpQuiet_nil ?_; intro x)
                go_wp2_with fail
                refine bodyPost_ret (by simp only [results, Try.results125]; go_simp; rfl) rfl ?_
                exact ⟨true, rfl, ⟨fun _ => ⟨1, 2, by omega, by omega, HC.out⟩, fun _ => rfl⟩, by (repeat (first | exact Kept.refl _ | assumption | refine Kept.alloc ?_ _ | refine Kept.ext ?_ _ | refine Kept.drew ?_ | refine Kept.drewN ?_ _))⟩
              have e3c : decide (pt < 0) = false := decide_eq_false e3
              have HE3 := Lib.hid e3
              clear e3
              by_cases e4 : f 1 = pt
              case pos =>
                have HC := Lib.hid (show cmP f g pt 1 2 from ⟨HE1.out, HE2.out, .inr (.inl e4)⟩)
                have e4b : (f 1 == pt) = true := by simpa using e4
                have e4c : decide (f 1 = pt) = true := by simpa using e4
                clear e4
                go_wp2_with fail
                ((first | (with_reducible refine wp_region_kept2 (by kernel_rfl) (by kernel_rfl) ?_) | refine wp_region_kept (by kernel_rfl) (by kernel_rfl) ?_); (repeat (go_big_quiet_step (first | fail))); refine wpQuiet_nil ?_; intro x)
                go_wp2_with fail
                refine bodyPost_ret (by simp only [results, Try.results125]; go_simp; rfl) rfl ?_
                exact ⟨true, rfl, ⟨fun _ => ⟨1, 2, by omega, by omega, HC.out⟩, fun _ => rfl⟩, by (repeat (first | exact Kept.refl _ | assumption | refine Kept.alloc ?_ _ | refine Kept.ext ?_ _ | refine Kept.drew ?_ | refine Kept.drewN ?_ _))⟩
              have e4b : (f 1 == pt) = false := by simpa using e4
              have e4c : decide (f 1 = pt) = false := by simpa using e4
              by_cases e5 : f 2 = pt
              case pos =>
                have HC := Lib.hid (show cmP f g pt 1 2 from ⟨HE1.out, HE2.out, .inr (.inr e5)⟩)
                have e5b : (f 2 == pt) = true := by simpa using e5
                have e5c : decide (f 2 = pt) = true := by simpa using e5
                clear e5
                go_wp2_with fail
                ((first | (with_reducible refine wp_region_kept2 (by kernel_rfl) (by kernel_rfl) ?_) | refine wp_region_kept (by kernel_rfl) (by kernel_rfl) ?_); (repeat (go_big_quiet_step (first | fail))); refine wpQuiet_nil ?_; intro x)
                go_wp2_with fail
                refine bodyPost_ret (by simp only [results, Try.results125]; go_simp; rfl) rfl ?_
                exact ⟨true, rfl, ⟨fun _ => ⟨1, 2, by omega, by omega, HC.out⟩, fun _ => rfl⟩, by (repeat (first | exact Kept.refl _ | assumption | refine Kept.alloc ?_ _ | refine Kept.ext ?_ _ | refine Kept.drew ?_ | refine Kept.drewN ?_ _))⟩
              have e5b : (f 2 == pt) = false := by simpa using e5
              have e5c : decide (f 2 = pt) = false := by simpa using e5
              have HE := Lib.hid (And.intro HE3.out (And.intro e4 e5))
              clear e4 e5
              go_wp2_with fail
              ((first | (with_reducible refine wp_region_kept2 (by kernel_rfl) (by kernel_rfl) ?_) | refine wp_region_kept (by kernel_rfl) (by kernel_rfl) ?_); (repeat (go_big_quiet_step (first | fail))); refine wpQuiet_nil ?_; intro x)
              go_wp2_with fail
              go_roundw
              case rel => exact ⟨2+1, by omega, by rfl, fun l h => by
                    by_cases e : l = 2
                    · subst e; rintro ⟨h1, h2, h3⟩; rcases h3 with h3 | h3 | h3
                      · exact absurd h3 (by have := HE.out.1; omega)
                      · exact HE.out.2.1 h3
                      · exact HE.out.2.2 h3
                    · exact HY.out l (by omega), show Kept _ _ by (repeat (first | exact Kept.refl _ | assumption | refine Kept.alloc ?_ _ | refine Kept.ext ?_ _ | refine Kept.drew ?_ | refine Kept.drewN ?_ _))⟩
              case measure => simp [intOf]
          · obtain rfl : q = 3 := by omega
            go_wp2_with fail
            go_roundw
            case rel => exact ⟨1+1, by omega, by rfl, fun i' l h h2 => by
                by_cases e : i' = 1
                · subst e; exact HY.out l h2
                · exact HZ.out i' l (by omega) h2, show Kept _ _ by (repeat (first | exact Kept.refl _ | assumption | refine Kept.alloc ?_ _ | refine Kept.ext ?_ _ | refine Kept.drew ?_ | refine Kept.drewN ?_ _))⟩
            case measure => simp [intOf]
      · rw [show ((2 : Nat) : Int) = 2 from rfl]
        go_wp2_with fail
        go_loopw [8] (fun j wr => ∃ q : Nat, q ≤ 3 ∧ j = .int .i64 q ∧ (∀ l, l < q → ¬ cmP f g pt 2 l) ∧ (∃ y2, wr = ext ((w.alloc (.cells #[.int .i64 (f 0), .int .i64 (f 1), .int .i64 (f 2)] 54)).alloc (.cells #[.int .i64 (g 0), .int .i64 (g 1), .int .i64 (g 2)] 54)) y2)) (fun j _ => 3 - (intOf j).toNat)
        case atStart => exact ⟨0, by omega, rfl, fun l h => absurd h (by omega), show Kept _ _ by (repeat (first | exact Kept.refl _ | assumption | refine Kept.alloc ?_ _ | refine Kept.ext ?_ _ | refine Kept.drew ?_ | refine Kept.drewN ?_ _))⟩
        case round =>
          obtain ⟨q, hq, rfl, hz, y2, rfl⟩ := hrel
          have HY := Lib.hid hz
          clear hz
          by_cases hlt2 : q < 3
          · rcases (show q = 0 ∨ q = 1 ∨ q = 2 by omega) with rfl | rfl | rfl
            · by_cases e1 : g 0 = f 0
              case neg =>
                have e1b : (g 0 == f 0) = false := by simpa using e1
                have e1c : decide (g 0 = f 0) = false := by simpa using e1
                have HE := Lib.hid e1
                clear e1
                go_wp2_with fail
                ((first | (with_reducible refine wp_region_kept2 (by kernel_rfl) (by kernel_rfl) ?_) | refine wp_region_kept (by kernel_rfl) (by kernel_rfl) ?_); (repeat (go_big_quiet_step (first | fail))); refine wpQuiet_nil ?_; intro x)
                go_wp2_with fail
                go_roundw
                case rel => exact ⟨0+1, by omega, by rfl, fun l h => by
                    by_cases e : l = 0
                    · subst e; rintro ⟨h1, h2, h3⟩; exact HE.out h1
                    · exact HY.out l (by omega), show Kept _ _ by (repeat (first | exact Kept.refl _ | assumption | refine Kept.alloc ?_ _ | refine Kept.ext ?_ _ | refine Kept.drew ?_ | refine Kept.drewN ?_ _))⟩
                case measure => simp [intOf]
              have e1b : (g 0 == f 0) = true := by simpa using e1
              have e1c : decide (g 0 = f 0) = true := by simpa using e1
              have HE1 := Lib.hid e1
              clear e1
              by_cases e2 : g 1 = f 2
              case neg =>
                have e2b : (g 1 == f 2) = false := by simpa using e2
                have e2c : decide (g 1 = f 2) = false := by simpa using e2
                have HE := Lib.hid e2
                clear e2
                go_wp2_with fail
                ((first | (with_reducible refine wp_region_kept2 (by kernel_rfl) (by kernel_rfl) ?_) | refine wp_region_kept (by kernel_rfl) (by kernel_rfl) ?_); (repeat (go_big_quiet_step (first | fail))); refine wpQuiet_nil ?_; intro x)
                go_wp2_with fail
                go_roundw
                case rel => exact ⟨0+1, by omega, by rfl, fun l h => by
                    by_cases e : l = 0
                    · subst e; rintro ⟨h1, h2, h3⟩; exact HE.out h2
                    · exact HY.out l (by omega), show Kept _ _ by (repeat (first | exact Kept.refl _ | assumption | refine Kept.alloc ?_ _ | refine Kept.ext ?_ _ | refine Kept.drew ?_ | refine Kept.drewN ?_ _))⟩
                case measure => simp [intOf]
              have e2b : (g 1 == f 2) = true := by simpa using e2
              have e2c : decide (g 1 = f 2) = true := by simpa using e2
              have HE2 := Lib.hid e2
              clear e2
              by_cases e3 : pt < 0
              case pos =>
                have HC := Lib.hid (show cmP f g pt 2 0 from ⟨HE1.out, HE2.out, .inl e3⟩)
                go_wp2_with fail
                ((first | (with_reducible refine wp_region_kept2 (by kernel_rfl) (by kernel_rfl) ?_) | refine wp_region_kept (by kernel_rfl) (by kernel_rfl) ?_); (repeat (go_big_quiet_step (first | fail))); refine wpQuiet_nil ?_; intro x)
                go_wp2_with fail
                refine bodyPost_ret (by simp only [results, Try.results125]; go_simp; rfl) rfl ?_
                exact ⟨true, rfl, ⟨fun _ => ⟨2, 0, by omega, by omega, HC.out⟩, fun _ => rfl⟩, by (repeat (first | exact Kept.refl _ | assumption | refine Kept.alloc ?_ _ | refine Kept.ext ?_ _ | refine Kept.drew ?_ | refine Kept.drewN ?_ _))⟩
              have e3c : decide (pt < 0) = false := decide_eq_false e3
              have HE3 := Lib.hid e3
              clear e3
              by_cases e4 : f 2 = pt
              case pos =>
                have HC := Lib.hid (show cmP f g pt 2 0 from ⟨HE1.out, HE2.out, .inr (.inl e4)⟩)
                have e4b : (f 2 == pt) = true := by simpa using e4
                have e4c : decide (f 2 = pt) = true := by simpa using e4
                clear e4
                go_wp2_with fail
                ((first | (with_reducible refine wp_region_kept2 (by kernel_rfl) (by kernel_rfl) ?_) | refine wp_region_kept (by kernel_rfl) (by kernel_rfl) ?_); (repeat (go_big_quiet_step (first | fail))); refine wpQuiet_nil ?_; intro x)
                go_wp2_with fail
                refine bodyPost_ret (by simp only [results, Try.results125]; go_simp; rfl) rfl ?_
                exact ⟨true, rfl, ⟨fun _ => ⟨2, 0, by omega, by omega, HC.out⟩, fun _ => rfl⟩, by (repeat (first | exact Kept.refl _ | assumption | refine Kept.alloc ?_ _ | refine Kept.ext ?_ _ | refine Kept.drew ?_ | refine Kept.drewN ?_ _))⟩
              have e4b : (f 2 == pt) = false := by simpa using e4
              have e4c : decide (f 2 = pt) = false := by simpa using e4
              by_cases e5 : f 0 = pt
              case pos =>
                have HC := Lib.hid (show cmP f g pt 2 0 from ⟨HE1.out, HE2.out, .inr (.inr e5)⟩)
                have e5b : (f 0 == pt) = true := by simpa using e5
                have e5c : decide (f 0 = pt) = true := by simpa using e5
                clear e5
                go_wp2_with fail
                ((first | (with_reducible refine wp_region_kept2 (by kernel_rfl) (by kernel_rfl) ?_) | refine wp_region_kept (by kernel_rfl) (by kernel_rfl) ?_); (repeat (go_big_quiet_step (first | fail))); refine wpQuiet_nil ?_; intro x)
                go_wp2_with fail
                refine bodyPost_ret (by simp only [results, Try.results125]; go_simp; rfl) rfl ?_
                exact ⟨true, rfl, ⟨fun _ => ⟨2, 0, by omega, by omega, HC.out⟩, fun _ => rfl⟩, by (repeat (first | exact Kept.refl _ | assumption | refine Kept.alloc ?_ _ | refine Kept.ext ?_ _ | refine Kept.drew ?_ | refine Kept.drewN ?_ _))⟩
              have e5b : (f 0 == pt) = false := by simpa using e5
              have e5c : decide (f 0 = pt) = false := by simpa using e5
              have HE := Lib.hid (And.intro HE3.out (And.intro e4 e5))
              clear e4 e5
              go_wp2_with fail
              ((first | (with_reducible refine wp_region_kept2 (by kernel_rfl) (by kernel_rfl) ?_) | refine wp_region_kept (by kernel_rfl) (by kernel_rfl) ?_); (repeat (go_big_quiet_step (first | fail))); refine wpQuiet_nil ?_; intro x)
              go_wp2_with fail
              go_roundw
              case rel => exact ⟨0+1, by omega, by rfl, fun l h => by
                    by_cases e : l = 0
                    · subst e; rintro ⟨h1, h2, h3⟩; rcases h3 with h3 | h3 | h3
                      · exact absurd h3 (by have := HE.out.1; omega)
                      · exact HE.out.2.1 h3
                      · exact HE.out.2.2 h3
                    · exact HY.out l (by omega), show Kept _ _ by (repeat (first | exact Kept.refl _ | assumption | refine Kept.alloc ?_ _ | refine Kept.ext ?_ _ | refine Kept.drew ?_ | refine Kept.drewN ?_ _))⟩
              case measure => simp [intOf]
            · by_cases e1 : g 1 = f 0
              case neg =>
                have e1b : (g 1 == f 0) = false := by simpa using e1
                have e1c : decide (g 1 = f 0) = false := by simpa using e1
                have HE := Lib.hid e1
                clear e1
                go_wp2_with fail
                ((first | (with_reducible refine wp_region_kept2 (by kernel_rfl) (by kernel_rfl) ?_) | refine wp_region_kept (by kernel_rfl) (by kernel_rfl) ?_); (repeat (go_big_quiet_step (first | fail))); refine wpQuiet_nil ?_; intro x)
                go_wp2_with fail
                go_roundw
                case rel => exact ⟨1+1, by omega, by rfl, fun l h => by
                    by_cases e : l = 1
                    · subst e; rintro ⟨h1, h2, h3⟩; exact HE.out h1
                    · exact HY.out l (by omega), show Kept _ _ by (repeat (first | exact Kept.refl _ | assumption | refine Kept.alloc ?_ _ | refine Kept.ext ?_ _ | refine Kept.drew ?_ | refine Kept.drewN ?_ _))⟩
                case measure => simp [intOf]
              have e1b : (g 1 == f 0) = true := by simpa using e1
              have e1c : decide (g 1 = f 0) = true := by simpa using e1
              have HE1 := Lib.hid e1
              clear e1
              by_cases e2 : g 2 = f 2
              case neg =>
                have e2b : (g 2 == f 2) = false := by simpa using e2
                have e2c : decide (g 2 = f 2) = false := by simpa using e2
                have HE := Lib.hid e2
                clear e2
                go_wp2_with fail
                ((first | (with_reducible refine wp_region_kept2 (by kernel_rfl) (by kernel_rfl) ?_) | refine wp_region_kept (by kernel_rfl) (by kernel_rfl) ?_); (repeat (go_big_quiet_step (first | fail))); refine wpQuiet_nil ?_; intro x)
                go_wp2_with fail
                go_roundw
                case rel => exact ⟨1+1, by omega, by rfl, fun l h => by
                    by_cases e : l = 1
                    · subst e; rintro ⟨h1, h2, h3⟩; exact HE.out h2
                    · exact HY.out l (by omega), show Kept _ _ by (repeat (first | exact Kept.refl _ | assumption | refine Kept.alloc ?_ _ | refine Kept.ext ?_ _ | refine Kept.drew ?_ | refine Kept.drewN ?_ _))⟩
                case measure => simp [intOf]
              have e2b : (g 2 == f 2) = true := by simpa using e2
              have e2c : decide (g 2 = f 2) = true := by simpa using e2
              have HE2 := Lib.hid e2
              clear e2
              by_cases e3 : pt < 0
              case pos =>
                have HC := Lib.hid (show cmP f g pt 2 1 from ⟨HE1.out, HE2.out, .inl e3⟩)
                go_wp2_with fail
                ((first | (with_reducible refine wp_region_kept2 (by kernel_rfl) (by kernel_rfl) ?_) | refine wp_region_kept (by kernel_rfl) (by kernel_rfl) ?_); (repeat (go_big_quiet_step (first | fail))); refine wpQuiet_nil ?_; intro x)
                go_wp2_with fail
                refine bodyPost_ret (by simp only [results, Try.results125]; go_simp; rfl) rfl ?_
                exact ⟨true, rfl, ⟨fun _ => ⟨2, 1, by omega, by omega, HC.out⟩, fun _ => rfl⟩, by (repeat (first | exact Kept.refl _ | assumption | refine Kept.alloc ?_ _ | refine Kept.ext ?_ _ | refine Kept.drew ?_ | refine Kept.drewN ?_ _))⟩
              have e3c : decide (pt < 0) = false := decide_eq_false e3
              have HE3 := Lib.hid e3
              clear e3
              by_cases e4 : f 2 = pt
              case pos =>
                have HC := Lib.hid (show cmP f g pt 2 1 from ⟨HE1.out, HE2.out, .inr (.inl e4)⟩)
                have e4b : (f 2 == pt) = true := by simpa using e4
                have e4c : decide (f 2 = pt) = true := by simpa using e4
                clear e4
                go_wp2_with fail
                ((first | (with_reducible refine wp_region_kept2 (by kernel_rfl) (by kernel_rfl) ?_) | refine wp_region_kept (by kernel_rfl) (by kernel_rfl) ?_); (repeat (go_big_quiet_step (first | fail))); refine wpQuiet_nil ?_; intro x)
                go_wp2_with fail
                refine bodyPost_ret (by simp only [results, Try.results125]; go_simp; rfl) rfl ?_
                exact ⟨true, rfl, ⟨fun _ => ⟨2, 1, by omega, by omega, HC.out⟩, fun _ => rfl⟩, by (repeat (first | exact Kept.refl _ | assumption | refine Kept.alloc ?_ _ | refine Kept.ext ?_ _ | refine Kept.drew ?_ | refine Kept.drewN ?_ _))⟩
              have e4b : (f 2 == pt) = false := by simpa using e4
              have e4c : decide (f 2 = pt) = false := by simpa using e4
              by_cases e5 : f 0 = pt
              case pos =>
                have HC := Lib.hid (show cmP f g pt 2 1 from ⟨HE1.out, HE2.out, .inr (.inr e5)⟩)
                have e5b : (f 0 == pt) = true := by simpa using e5
                have e5c : decide (f 0 = pt) = true := by simpa using e5
                clear e5
                go_wp2_with fail
                ((first | (with_reducible refine wp_region_kept2 (by kernel_rfl) (by kernel_rfl) ?_) | refine wp_region_kept (by kernel_rfl) (by kernel_rfl) ?_); (repeat (go_big_quiet_step (first | fail))); refine wpQuiet_nil ?_; intro x)
                go_wp2_with fail
                refine bodyPost_ret (by simp only [results, Try.results125]; go_simp; rfl) rfl ?_
                exact ⟨true, rfl, ⟨fun _ => ⟨2, 1, by omega, by omega, HC.out⟩, fun _ => rfl⟩, by (repeat (first | exact Kept.refl _ | assumption | refine Kept.alloc ?_ _ | refine Kept.ext ?_ _ | refine Kept.drew ?_ | refine Kept.drewN ?_ _))⟩
              have e5b : (f 0 == pt) = false := by simpa using e5
              have e5c : decide (f 0 = pt) = false := by simpa using e5
              have HE := Lib.hid (And.intro HE3.out (And.intro e4 e5))
              clear e4 e5
              go_wp2_with fail
              ((first | (with_reducible refine wp_region_kept2 (by kernel_rfl) (by kernel_rfl) ?_) | refine wp_region_kept (by kernel_rfl) (by kernel_rfl) ?_); (repeat (go_big_quiet_step (first | fail))); refine wpQuiet_nil ?_; intro x)
              go_wp2_with fail
              go_roundw
              case rel => exact ⟨1+1, by omega, by rfl, fun l h => by
                    by_cases e : l = 1
                    · subst e; rintro ⟨h1, h2, h3⟩; rcases h3 with h3 | h3 | h3
                      · exact absurd h3 (by have := HE.out.1; omega)
                      · exact HE.out.2.1 h3
                      · exact HE.out.2.2 h3
                    · exact HY.out l (by omega), show Kept _ _ by (repeat (first | exact Kept.refl _ | assumption | refine Kept.alloc ?_ _ | refine Kept.ext ?_ _ | refine Kept.drew ?_ | refine Kept.drewN ?_ _))⟩
              case measure => simp [intOf]
            · by_cases e1 : g 2 = f 0
              case neg =>
                have e1b : (g 2 == f 0) = false := by simpa using e1
                have e1c : decide (g 2 = f 0) = false := by simpa using e1
                have HE := Lib.hid e1
                clear e1
                go_wp2_with fail
                ((first | (with_reducible refine wp_region_kept2 (by kernel_rfl) (by kernel_rfl) ?_) | refine wp_region_kept (by kernel_rfl) (by kernel_rfl) ?_); (repeat (go_big_quiet_step (first | fail))); refine wpQuiet_nil ?_; intro x)
                go_wp2_with fail
                go_roundw
                case rel => exact ⟨2+1, by omega, by rfl, fun l h => by
                    by_cases e : l = 2
                    · subst e; rintro ⟨h1, h2, h3⟩; exact HE.out h1
                    · exact HY.out l (by omega), show Kept _ _ by (repeat (first | exact Kept.refl _ | assumption | refine Kept.alloc ?_ _ | refine Kept.ext ?_ _ | refine Kept.drew ?_ | refine Kept.drewN ?_ _))⟩
                case measure => simp [intOf]
              have e1b : (g 2 == f 0) = true := by simpa using e1
              have e1c : decide (g 2 = f 0) = true := by simpa using e1
              have HE1 := Lib.hid e1
              clear e1
              by_cases e2 : g 0 = f 2
              case neg =>
                have e2b : (g 0 == f 2) = false := by simpa using e2
                have e2c : decide (g 0 = f 2) = false := by simpa using e2
                have HE := Lib.hid e2
                clear e2
                go_wp2_with fail
                ((first | (with_reducible refine wp_region_kept2 (by kernel_rfl) (by kernel_rfl) ?_) | refine wp_region_kept (by kernel_rfl) (by kernel_rfl) ?_); (repeat (go_big_quiet_step (first | fail))); refine wpQuiet_nil ?_; intro x)
                go_wp2_with fail
                go_roundw
                case rel => exact ⟨2+1, by omega, by rfl, fun l h => by
                    by_cases e : l = 2
                    · subst e; rintro ⟨h1, h2, h3⟩; exact HE.out h2
                    · exact HY.out l (by omega), show Kept _ _ by (repeat (first | exact Kept.refl _ | assumption | refine Kept.alloc ?_ _ | refine Kept.ext ?_ _ | refine Kept.drew ?_ | refine Kept.drewN ?_ _))⟩
                case measure => simp [intOf]
              have e2b : (g 0 == f 2) = true := by simpa using e2
              have e2c : decide (g 0 = f 2) = true := by simpa using e2
              have HE2 := Lib.hid e2
              clear e2
              by_cases e3 : pt < 0
              case pos =>
                have HC := Lib.hid (show cmP f g pt 2 2 from ⟨HE1.out, HE2.out, .inl e3⟩)
                go_wp2_with fail
                ((first | (with_reducible refine wp_region_kept2 (by kernel_rfl) (by kernel_rfl) ?_) | refine wp_region_kept (by kernel_rfl) (by kernel_rfl) ?_); (repeat (go_big_quiet_step (first | fail))); refine wpQuiet_nil ?_; intro x)
                go_wp2_with fail
                refine bodyPost_ret (by simp only [results, Try.results125]; go_simp; rfl) rfl ?_
                exact ⟨true, rfl, ⟨fun _ => ⟨2, 2, by omega, by omega, HC.out⟩, fun _ => rfl⟩, by (repeat (first | exact Kept.refl _ | assumption | refine Kept.alloc ?_ _ | refine Kept.ext ?_ _ | refine Kept.drew ?_ | refine Kept.drewN ?_ _))⟩
              have e3c : decide (pt < 0) = false := decide_eq_false e3
              have HE3 := Lib.hid e3
              clear e3
              by_cases e4 : f 2 = pt
              case pos =>
                have HC := Lib.hid (show cmP f g pt 2 2 from ⟨HE1.out, HE2.out, .inr (.inl e4)⟩)
                have e4b : (f 2 == pt) = true := by simpa using e4
                have e4c : decide (f 2 = pt) = true := by simpa using e4
                clear e4
                go_wp2_with fail
                ((first | (with_reducible refine wp_region_kept2 (by kernel_rfl) (by kernel_rfl) ?_) | refine wp_region_kept (by kernel_rfl) (by kernel_rfl) ?_); (repeat (go_big_quiet_step (first | fail))); refine wpQuiet_nil ?_; intro x)
                go_wp2_with fail
                refine bodyPost_ret (by simp only [results, Try.results125]; go_simp; rfl) rfl ?_
                exact ⟨true, rfl, ⟨fun _ => ⟨2, 2, by omega, by omega, HC.out⟩, fun _ => rfl⟩, by (repeat (first | exact Kept.refl _ | assumption | refine Kept.alloc ?_ _ | refine Kept.ext ?_ _ | refine Kept.drew ?_ | refine Kept.drewN ?_ _))⟩
              have e4b : (f 2 == pt) = false := by simpa using e4
              have e4c : decide (f 2 = pt) = false := by simpa using e4
              by_cases e5 : f 0 = pt
              case pos =>
                have HC := Lib.hid (show cmP f g pt 2 2 from ⟨HE1.out, HE2.out, .inr (.inr e5)⟩)
                have e5b : (f 0 == pt) = true := by simpa using e5
                have e5c : decide (f 0 = pt) = true := by simpa using e5
                clear e5
                go_wp2_with fail
                ((first | (with_reducible refine wp_region_kept2 (by kernel_rfl) (by kernel_rfl) ?_) | refine wp_region_kept (by kernel_rfl) (by kernel_rfl) ?_); (repeat (go_big_quiet_step (first | fail))); refine wpQuiet_nil ?_; intro x)
                go_wp2_with fail
                refine bodyPost_ret (by simp only [results, Try.results125]; go_simp; rfl) rfl ?_
                exact ⟨true, rfl, ⟨fun _ => ⟨2, 2, by omega, by omega, HC.out⟩, fun _ => rfl⟩, by (repeat (first | exact Kept.refl _ | assumption | refine Kept.alloc ?_ _ | refine Kept.ext ?_ _ | refine Kept.drew ?_ | refine Kept.drewN ?_ _))⟩
              have e5b : (f 0 == pt) = false := by simpa using e5
              have e5c : decide (f 0 = pt) = false := by simpa using e5
              have HE := Lib.hid (And.intro HE3.out (And.intro e4 e5))
              clear e4 e5
              go_wp2_with fail
              ((first | (with_reducible refine wp_region_kept2 (by kernel_rfl) (by kernel_rfl) ?_) | refine wp_region_kept (by kernel_rfl) (by kernel_rfl) ?_); (repeat (go_big_quiet_step (first | fail))); refine wpQuiet_nil ?_; intro x)
              go_wp2_with fail
              go_roundw
              case rel => exact ⟨2+1, by omega, by rfl, fun l h => by
                    by_cases e : l = 2
                    · subst e; rintro ⟨h1, h2, h3⟩; rcases h3 with h3 | h3 | h3
                      · exact absurd h3 (by have := HE.out.1; omega)
                      · exact HE.out.2.1 h3
                      · exact HE.out.2.2 h3
                    · exact HY.out l (by omega), show Kept _ _ by (repeat (first | exact Kept.refl _ | assumption | refine Kept.alloc ?_ _ | refine Kept.ext ?_ _ | refine Kept.drew ?_ | refine Kept.drewN ?_ _))⟩
              case measure => simp [intOf]
          · obtain rfl : q = 3 := by omega
            go_wp2_with fail
            go_roundw
            case rel => exact ⟨2+1, by omega, by rfl, fun i' l h h2 => by
                by_cases e : i' = 2
                · subst e; exact HY.out l h2
                · exact HZ.out i' l (by omega) h2, show Kept _ _ by (repeat (first | exact Kept.refl _ | assumption | refine Kept.alloc ?_ _ | refine Kept.ext ?_ _ | refine Kept.drew ?_ | refine Kept.drewN ?_ _))⟩
            case measure => simp [intOf]
    · obtain rfl : k = 3 := by omega
      go_wp2_with fail
      refine bodyPost_ret (by simp only [results, Try.results125]; go_simp; rfl) rfl ?_
      exact ⟨false, rfl, ⟨fun h => (by cases h), fun ⟨i, j, hi, hj, h⟩ => absurd h (HZ.out i j hi hj)⟩, by (repeat (first | exact Kept.refl _ | assumption | refine Kept.alloc ?_ _ | refine Kept.ext ?_ _ | refine Kept.drew ?_ | refine Kept.drewN ?_ _))⟩
/-- The same with the answer told ahead. -/
theorem r2common_is (f g : Nat → Int) (pt : Int) (b : Bool) (hb : b = true ↔ comP f g pt) (w : World) :
    Calls Try.prog 125 #[.agg #[.int .i64 (f 0), .int .i64 (f 1), .int .i64 (f 2)], .agg #[.int .i64 (g 0), .int .i64 (g 1), .int .i64 (g 2)], .int .i64 pt] w fun r w' => r = .returned (.bool b) ∧ Kept w w' :=
  (r2common_any f g pt w).mono fun e w' ⟨b', h1, h2, h3⟩ => ⟨by rw [h1, show b' = b by rw [Bool.eq_iff_iff, h2, hb]], h3⟩
theorem comP_dec (f g : Nat → Int) (pt : Int) : ∃ b : Bool, b = true ↔ comP f g pt := by
  by_cases h : comP f g pt
  · exact ⟨true, fun _ => h, fun _ => rfl⟩
  · exact ⟨false, fun e => (by cases e), fun k => absurd k h⟩
end Go.Proofs.Ytoadlneneijfaaa
