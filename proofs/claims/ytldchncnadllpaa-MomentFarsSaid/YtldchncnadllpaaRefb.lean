/- Contracts of the reference's products, quotients, sums and differences of spans. No conditions. -/
import Derived.Test.YtldchncnadllpaaRef
import Derived.Test.YtldchncnadllpaaBaseb
namespace Go.Proofs.Ytldchncnadllpaa
set_option linter.unusedVariables false
set_option linter.unusedSimpArgs false
open Go.RowKit
def xAt (al ah : Int) : Nat → Int | 0 => al | 1 => al | _ => ah
def yAt (bl bh : Int) : Nat → Int | 0 => bl | 1 => bh | 2 => bl | _ => bh
def lows (al ah bl bh : Int) : Nat → Int
  | 0 => fDown al bl
  | k + 1 => min (lows al ah bl bh k) (fDown (xAt al ah k) (yAt bl bh k))
def highs (al ah bl bh : Int) : Nat → Int
  | 0 => fUp al bl
  | k + 1 => max (highs al ah bl bh k) (fUp (xAt al ah k) (yAt bl bh k))
theorem lows_4 (al ah bl bh : Int) : lows al ah bl bh 4 = min4 fDown al ah bl bh := by simp only [lows, xAt, yAt, min4]; omega
theorem highs_4 (al ah bl bh : Int) : highs al ah bl bh 4 = max4 fUp al ah bl bh := by simp only [highs, xAt, yAt, max4]; omega
set_option maxHeartbeats 4000000 in
theorem rmul_yes (al ah bl bh : Int) (w : World) (h : (validB al ah && validB bl bh) = true) :
    Calls Try.prog 21 #[.agg #[.int .i64 al, .int .i64 ah], .agg #[.int .i64 bl, .int .i64 bh]] w fun e w' => e = .returned (.tuple #[.agg #[.int .i64 (mulS al ah bl bh).lo, .int .i64 (mulS al ah bl bh).hi], .int .i64 (mulS al ah bl bh).e]) ∧ Kept w w' := by
  obtain ⟨⟨a1, a2⟩, ⟨a3, a4⟩, ⟨a5, a6⟩, ⟨a7, a8⟩, a9, a10⟩ := fixes h
  have h' := h
  simp only [Bool.and_eq_true] at h'
  obtain ⟨ha, hb⟩ := h'
  have e : mulS al ah bl bh = resultS (min4 fDown al ah bl bh) (max4 fUp al ah bl bh) := by simp only [mulS, h, if_true]
  rw [e]
  clear e h
  go_enter Try.func21, Try.ntmps21
  go_wp2_with (first | (go_at_call 30; refine (rvalid_any _ _ _).mono ?_; rintro e w1 ⟨rfl, x, rfl⟩) | (go_at_call 45; refine (times01_any _ _ _ ⟨by omega, by omega⟩ ⟨by omega, by omega⟩).mono ?_; rintro e w1 ⟨rfl, rfl⟩))
  rename_i x0 K1 HK1
  go_region_held3 (fun w' => w'.cell? ⟨w.heap.size, 0, none⟩ = some (.int .i64 al) ∧ w'.cell? ⟨w.heap.size, 1, none⟩ = some (.int .i64 ah) ∧ w'.cell? ⟨w.heap.size + 1, 0, none⟩ = some (.int .i64 bl) ∧ w'.cell? ⟨w.heap.size + 1, 1, none⟩ = some (.int .i64 bh)) ((refine ⟨?_, ?_, ?_, ?_⟩ <;> go_simp)) (fail)
  · rename_i hS
    clear hS
    go_wp2_with (first | (go_at_call 30; refine (rvalid_any _ _ _).mono ?_; rintro e w1 ⟨rfl, x, rfl⟩) | (go_at_call 45; refine (times01_any _ _ _ ⟨by omega, by omega⟩ ⟨by omega, by omega⟩).mono ?_; rintro e w1 ⟨rfl, rfl⟩))
    refine wp_gen (fun W0 hW0 => ?_)
    have f0 : W0.cell? ⟨adv (adv (w.heap.size + 1 + 1 + 1) x0.obs.size) x.obs.size, 0, none⟩ = some (.int .i64 al) := by rw [hW0]; go_simp
    have f1 : W0.cell? ⟨adv (adv (w.heap.size + 1 + 1 + 1) x0.obs.size) x.obs.size, 1, none⟩ = some (.int .i64 al) := by rw [hW0]; go_simp
    have f2 : W0.cell? ⟨adv (adv (w.heap.size + 1 + 1 + 1) x0.obs.size) x.obs.size, 2, none⟩ = some (.int .i64 ah) := by rw [hW0]; go_simp
    have f3 : W0.cell? ⟨adv (adv (w.heap.size + 1 + 1 + 1) x0.obs.size) x.obs.size, 3, none⟩ = some (.int .i64 ah) := by rw [hW0]; go_simp
    have f4 : W0.cell? ⟨adv (adv (w.heap.size + 1 + 1 + 1) x0.obs.size) x.obs.size + 1, 0, none⟩ = some (.int .i64 bl) := by rw [hW0]; go_simp
    have f5 : W0.cell? ⟨adv (adv (w.heap.size + 1 + 1 + 1) x0.obs.size) x.obs.size + 1, 1, none⟩ = some (.int .i64 bh) := by rw [hW0]; go_simp
    have f6 : W0.cell? ⟨adv (adv (w.heap.size + 1 + 1 + 1) x0.obs.size) x.obs.size + 1, 2, none⟩ = some (.int .i64 bl) := by rw [hW0]; go_simp
    have f7 : W0.cell? ⟨adv (adv (w.heap.size + 1 + 1 + 1) x0.obs.size) x.obs.size + 1, 3, none⟩ = some (.int .i64 bh) := by rw [hW0]; go_simp
    have g0 : W0.cell? ⟨w.heap.size + 1 + 1, 0, none⟩ = some (.int .i64 0) := by rw [hW0]; go_simp
    have g1 : W0.cell? ⟨w.heap.size + 1 + 1, 1, none⟩ = some (.int .i64 0) := by rw [hW0]; go_simp
    have g2 : W0.frozen? ⟨w.heap.size + 1 + 1, 0, none⟩ = false := by rw [hW0]; go_simp
    have g3 : W0.frozen? ⟨w.heap.size + 1 + 1, 1, none⟩ = false := by rw [hW0]; go_simp
    have L0 : Lower (w.heap.size + 1 + 1) W0.heap.size := ⟨by rw [hW0]; exact low⟩
    have L1 : Lower (adv (adv (w.heap.size + 1 + 1 + 1) x0.obs.size) x.obs.size) W0.heap.size := ⟨by rw [hW0]; exact low⟩
    have L2 : Lower (adv (adv (w.heap.size + 1 + 1 + 1) x0.obs.size) x.obs.size + 1) W0.heap.size := ⟨by rw [hW0]; exact low⟩
    have hk0 : Kept w W0 := by rw [hW0]; (repeat (first | exact Kept.refl _ | assumption | refine Kept.alloc ?_ _ | refine Kept.ext ?_ _ | refine Kept.drew ?_ | refine Kept.drewN ?_ _))
    clear hW0
    go_loopw [8, 9, 10] (fun l h i wr => ∃ k : Nat, k ≤ 4 ∧ i = .int .i64 k ∧ l = .int .i64 (lows al ah bl bh k) ∧ h = .int .i64 (highs al ah bl bh k) ∧ ∃ x, wr = ext W0 x) (fun _ _ i _ => 4 - (intOf i).toNat)
    case atStart => exact ⟨0, by omega, rfl, rfl, rfl, Kept.refl _⟩
    case round =>
      obtain ⟨k, hk, rfl, rfl, rfl, x, rfl⟩ := hrel
      rcases (show k = 0 ∨ k = 1 ∨ k = 2 ∨ k = 3 ∨ k = 4 by omega) with rfl | rfl | rfl | rfl | rfl
      · go_wp2_with (first | (go_at_call 30; refine (rvalid_any _ _ _).mono ?_; rintro e w1 ⟨rfl, x, rfl⟩) | (go_at_call 45; refine (times01_any _ _ _ ⟨by omega, by omega⟩ ⟨by omega, by omega⟩).mono ?_; rintro e w1 ⟨rfl, rfl⟩))
        ((first | (with_reducible refine wp_region_kept2 (by kernel_rfl) (by kernel_rfl) ?_) | refine wp_region_kept (by kernel_rfl) (by kernel_rfl) ?_); (repeat (go_big_quiet_step (first | (go_at_call 45; exact Calls.kept_same (times01_any _ _ _ ⟨by omega, by omega⟩ ⟨by omega, by omega⟩))))); refine wpQuiet_nil ?_; intro x)
        go_wp2_with (first | (go_at_call 30; refine (rvalid_any _ _ _).mono ?_; rintro e w1 ⟨rfl, x, rfl⟩) | (go_at_call 45; refine (times01_any _ _ _ ⟨by omega, by omega⟩ ⟨by omega, by omega⟩).mono ?_; rintro e w1 ⟨rfl, rfl⟩))
        all_goals
          go_roundw
          case rel => exact ⟨1, by omega, by go_num, val_eq (by simp only [lows, xAt, yAt] at *; omega), val_eq (by simp only [highs, xAt, yAt] at *; omega), show Kept W0 _ by (repeat (first | exact Kept.refl _ | assumption | refine Kept.alloc ?_ _ | refine Kept.ext ?_ _ | refine Kept.drew ?_ | refine Kept.drewN ?_ _))⟩
          case measure => simp [intOf]
      · go_wp2_with (first | (go_at_call 30; refine (rvalid_any _ _ _).mono ?_; rintro e w1 ⟨rfl, x, rfl⟩) | (go_at_call 45; refine (times01_any _ _ _ ⟨by omega, by omega⟩ ⟨by omega, by omega⟩).mono ?_; rintro e w1 ⟨rfl, rfl⟩))
        ((first | (with_reducible refine wp_region_kept2 (by kernel_rfl) (by kernel_rfl) ?_) | refine wp_region_kept (by kernel_rfl) (by kernel_rfl) ?_); (repeat (go_big_quiet_step (first | (go_at_call 45; exact Calls.kept_same (times01_any _ _ _ ⟨by omega, by omega⟩ ⟨by omega, by omega⟩))))); refine wpQuiet_nil ?_; intro x)
        go_wp2_with (first | (go_at_call 30; refine (rvalid_any _ _ _).mono ?_; rintro e w1 ⟨rfl, x, rfl⟩) | (go_at_call 45; refine (times01_any _ _ _ ⟨by omega, by omega⟩ ⟨by omega, by omega⟩).mono ?_; rintro e w1 ⟨rfl, rfl⟩))
        all_goals
          go_roundw
          case rel => exact ⟨2, by omega, by go_num, val_eq (by simp only [lows, xAt, yAt] at *; omega), val_eq (by simp only [highs, xAt, yAt] at *; omega), show Kept W0 _ by (repeat (first | exact Kept.refl _ | assumption | refine Kept.alloc ?_ _ | refine Kept.ext ?_ _ | refine Kept.drew ?_ | refine Kept.drewN ?_ _))⟩
          case measure => simp [intOf]
      · go_wp2_with (first | (go_at_call 30; refine (rvalid_any _ _ _).mono ?_; rintro e w1 ⟨rfl, x, rfl⟩) | (go_at_call 45; refine (times01_any _ _ _ ⟨by omega, by omega⟩ ⟨by omega, by omega⟩).mono ?_; rintro e w1 ⟨rfl, rfl⟩))
        ((first | (with_reducible refine wp_region_kept2 (by kernel_rfl) (by kernel_rfl) ?_) | refine wp_region_kept (by kernel_rfl) (by kernel_rfl) ?_); (repeat (go_big_quiet_step (first | (go_at_call 45; exact Calls.kept_same (times01_any _ _ _ ⟨by omega, by omega⟩ ⟨by omega, by omega⟩))))); refine wpQuiet_nil ?_; intro x)
        go_wp2_with (first | (go_at_call 30; refine (rvalid_any _ _ _).mono ?_; rintro e w1 ⟨rfl, x, rfl⟩) | (go_at_call 45; refine (times01_any _ _ _ ⟨by omega, by omega⟩ ⟨by omega, by omega⟩).mono ?_; rintro e w1 ⟨rfl, rfl⟩))
        all_goals
          go_roundw
          case rel => exact ⟨3, by omega, by go_num, val_eq (by simp only [lows, xAt, yAt] at *; omega), val_eq (by simp only [highs, xAt, yAt] at *; omega), show Kept W0 _ by (repeat (first | exact Kept.refl _ | assumption | refine Kept.alloc ?_ _ | refine Kept.ext ?_ _ | refine Kept.drew ?_ | refine Kept.drewN ?_ _))⟩
          case measure => simp [intOf]
      · go_wp2_with (first | (go_at_call 30; refine (rvalid_any _ _ _).mono ?_; rintro e w1 ⟨rfl, x, rfl⟩) | (go_at_call 45; refine (times01_any _ _ _ ⟨by omega, by omega⟩ ⟨by omega, by omega⟩).mono ?_; rintro e w1 ⟨rfl, rfl⟩))
        ((first | (with_reducible refine wp_region_kept2 (by kernel_rfl) (by kernel_rfl) ?_) | refine wp_region_kept (by kernel_rfl) (by kernel_rfl) ?_); (repeat (go_big_quiet_step (first | (go_at_call 45; exact Calls.kept_same (times01_any _ _ _ ⟨by omega, by omega⟩ ⟨by omega, by omega⟩))))); refine wpQuiet_nil ?_; intro x)
        go_wp2_with (first | (go_at_call 30; refine (rvalid_any _ _ _).mono ?_; rintro e w1 ⟨rfl, x, rfl⟩) | (go_at_call 45; refine (times01_any _ _ _ ⟨by omega, by omega⟩ ⟨by omega, by omega⟩).mono ?_; rintro e w1 ⟨rfl, rfl⟩))
        all_goals
          go_roundw
          case rel => exact ⟨4, by omega, by go_num, val_eq (by simp only [lows, xAt, yAt] at *; omega), val_eq (by simp only [highs, xAt, yAt] at *; omega), show Kept W0 _ by (repeat (first | exact Kept.refl _ | assumption | refine Kept.alloc ?_ _ | refine Kept.ext ?_ _ | refine Kept.drew ?_ | refine Kept.drewN ?_ _))⟩
          case measure => simp [intOf]
      · go_wp2_with (first | (go_at_call 42; refine (told_any _ _ _).mono ?_; rintro e w1 ⟨rfl, x, rfl⟩))
        refine bodyPost_ret (by simp only [results, Try.results21]; go_simp; rfl) rfl ?_
        refine ⟨ret_R3 (by rw [lows_4, highs_4]), ?_⟩
        exact (((hk0.setCell (p := ⟨w.heap.size + 1 + 1, 0, none⟩) (show w.heap.size ≤ w.heap.size + 1 + 1 by omega) _).setCell (p := ⟨w.heap.size + 1 + 1, 1, none⟩) (show w.heap.size ≤ w.heap.size + 1 + 1 by omega) _).ext _).ext _
  · rename_i hS
    clear hS
    go_wp2_with (first | (go_at_call 30; refine (rvalid_any _ _ _).mono ?_; rintro e w1 ⟨rfl, x, rfl⟩) | (go_at_call 45; refine (times01_any _ _ _ ⟨by omega, by omega⟩ ⟨by omega, by omega⟩).mono ?_; rintro e w1 ⟨rfl, rfl⟩))
    refine wp_gen (fun W0 hW0 => ?_)
    have f0 : W0.cell? ⟨adv (adv (w.heap.size + 1 + 1 + 1) x0.obs.size) x.obs.size + 1, 0, none⟩ = some (.int .i64 al) := by rw [hW0]; go_simp
    have f1 : W0.cell? ⟨adv (adv (w.heap.size + 1 + 1 + 1) x0.obs.size) x.obs.size + 1, 1, none⟩ = some (.int .i64 al) := by rw [hW0]; go_simp
    have f2 : W0.cell? ⟨adv (adv (w.heap.size + 1 + 1 + 1) x0.obs.size) x.obs.size + 1, 2, none⟩ = some (.int .i64 ah) := by rw [hW0]; go_simp
    have f3 : W0.cell? ⟨adv (adv (w.heap.size + 1 + 1 + 1) x0.obs.size) x.obs.size + 1, 3, none⟩ = some (.int .i64 ah) := by rw [hW0]; go_simp
    have f4 : W0.cell? ⟨adv (adv (w.heap.size + 1 + 1 + 1) x0.obs.size) x.obs.size, 0, none⟩ = some (.int .i64 bl) := by rw [hW0]; go_simp
    have f5 : W0.cell? ⟨adv (adv (w.heap.size + 1 + 1 + 1) x0.obs.size) x.obs.size, 1, none⟩ = some (.int .i64 bh) := by rw [hW0]; go_simp
    have f6 : W0.cell? ⟨adv (adv (w.heap.size + 1 + 1 + 1) x0.obs.size) x.obs.size, 2, none⟩ = some (.int .i64 bl) := by rw [hW0]; go_simp
    have f7 : W0.cell? ⟨adv (adv (w.heap.size + 1 + 1 + 1) x0.obs.size) x.obs.size, 3, none⟩ = some (.int .i64 bh) := by rw [hW0]; go_simp
    have g0 : W0.cell? ⟨w.heap.size + 1 + 1, 0, none⟩ = some (.int .i64 0) := by rw [hW0]; go_simp
    have g1 : W0.cell? ⟨w.heap.size + 1 + 1, 1, none⟩ = some (.int .i64 0) := by rw [hW0]; go_simp
    have g2 : W0.frozen? ⟨w.heap.size + 1 + 1, 0, none⟩ = false := by rw [hW0]; go_simp
    have g3 : W0.frozen? ⟨w.heap.size + 1 + 1, 1, none⟩ = false := by rw [hW0]; go_simp
    have L0 : Lower (w.heap.size + 1 + 1) W0.heap.size := ⟨by rw [hW0]; exact low⟩
    have L1 : Lower (adv (adv (w.heap.size + 1 + 1 + 1) x0.obs.size) x.obs.size + 1) W0.heap.size := ⟨by rw [hW0]; exact low⟩
    have L2 : Lower (adv (adv (w.heap.size + 1 + 1 + 1) x0.obs.size) x.obs.size) W0.heap.size := ⟨by rw [hW0]; exact low⟩
    have hk0 : Kept w W0 := by rw [hW0]; (repeat (first | exact Kept.refl _ | assumption | refine Kept.alloc ?_ _ | refine Kept.ext ?_ _ | refine Kept.drew ?_ | refine Kept.drewN ?_ _))
    clear hW0
    go_loopw [8, 9, 10] (fun l h i wr => ∃ k : Nat, k ≤ 4 ∧ i = .int .i64 k ∧ l = .int .i64 (lows al ah bl bh k) ∧ h = .int .i64 (highs al ah bl bh k) ∧ ∃ x, wr = ext W0 x) (fun _ _ i _ => 4 - (intOf i).toNat)
    case atStart => exact ⟨0, by omega, rfl, rfl, rfl, Kept.refl _⟩
    case round =>
      obtain ⟨k, hk, rfl, rfl, rfl, x, rfl⟩ := hrel
      rcases (show k = 0 ∨ k = 1 ∨ k = 2 ∨ k = 3 ∨ k = 4 by omega) with rfl | rfl | rfl | rfl | rfl
      · go_wp2_with (first | (go_at_call 30; refine (rvalid_any _ _ _).mono ?_; rintro e w1 ⟨rfl, x, rfl⟩) | (go_at_call 45; refine (times01_any _ _ _ ⟨by omega, by omega⟩ ⟨by omega, by omega⟩).mono ?_; rintro e w1 ⟨rfl, rfl⟩))
        ((first | (with_reducible refine wp_region_kept2 (by kernel_rfl) (by kernel_rfl) ?_) | refine wp_region_kept (by kernel_rfl) (by kernel_rfl) ?_); (repeat (go_big_quiet_step (first | (go_at_call 45; exact Calls.kept_same (times01_any _ _ _ ⟨by omega, by omega⟩ ⟨by omega, by omega⟩))))); refine wpQuiet_nil ?_; intro x)
        go_wp2_with (first | (go_at_call 30; refine (rvalid_any _ _ _).mono ?_; rintro e w1 ⟨rfl, x, rfl⟩) | (go_at_call 45; refine (times01_any _ _ _ ⟨by omega, by omega⟩ ⟨by omega, by omega⟩).mono ?_; rintro e w1 ⟨rfl, rfl⟩))
        all_goals
          go_roundw
          case rel => exact ⟨1, by omega, by go_num, val_eq (by simp only [lows, xAt, yAt] at *; omega), val_eq (by simp only [highs, xAt, yAt] at *; omega), show Kept W0 _ by (repeat (first | exact Kept.refl _ | assumption | refine Kept.alloc ?_ _ | refine Kept.ext ?_ _ | refine Kept.drew ?_ | refine Kept.drewN ?_ _))⟩
          case measure => simp [intOf]
      · go_wp2_with (first | (go_at_call 30; refine (rvalid_any _ _ _).mono ?_; rintro e w1 ⟨rfl, x, rfl⟩) | (go_at_call 45; refine (times01_any _ _ _ ⟨by omega, by omega⟩ ⟨by omega, by omega⟩).mono ?_; rintro e w1 ⟨rfl, rfl⟩))
        ((first | (with_reducible refine wp_region_kept2 (by kernel_rfl) (by kernel_rfl) ?_) | refine wp_region_kept (by kernel_rfl) (by kernel_rfl) ?_); (repeat (go_big_quiet_step (first | (go_at_call 45; exact Calls.kept_same (times01_any _ _ _ ⟨by omega, by omega⟩ ⟨by omega, by omega⟩))))); refine wpQuiet_nil ?_; intro x)
        go_wp2_with (first | (go_at_call 30; refine (rvalid_any _ _ _).mono ?_; rintro e w1 ⟨rfl, x, rfl⟩) | (go_at_call 45; refine (times01_any _ _ _ ⟨by omega, by omega⟩ ⟨by omega, by omega⟩).mono ?_; rintro e w1 ⟨rfl, rfl⟩))
        all_goals
          go_roundw
          case rel => exact ⟨2, by omega, by go_num, val_eq (by simp only [lows, xAt, yAt] at *; omega), val_eq (by simp only [highs, xAt, yAt] at *; omega), show Kept W0 _ by (repeat (first | exact Kept.refl _ | assumption | refine Kept.alloc ?_ _ | refine Kept.ext ?_ _ | refine Kept.drew ?_ | refine Kept.drewN ?_ _))⟩
          case measure => simp [intOf]
      · go_wp2_with (first | (go_at_call 30; refine (rvalid_any _ _ _).mono ?_; rintro e w1 ⟨rfl, x, rfl⟩) | (go_at_call 45; refine (times01_any _ _ _ ⟨by omega, by omega⟩ ⟨by omega, by omega⟩).mono ?_; rintro e w1 ⟨rfl, rfl⟩))
        ((first | (with_reducible refine wp_region_kept2 (by kernel_rfl) (by kernel_rfl) ?_) | refine wp_region_kept (by kernel_rfl) (by kernel_rfl) ?_); (repeat (go_big_quiet_step (first | (go_at_call 45; exact Calls.kept_same (times01_any _ _ _ ⟨by omega, by omega⟩ ⟨by omega, by omega⟩))))); refine wpQuiet_nil ?_; intro x)
        go_wp2_with (first | (go_at_call 30; refine (rvalid_any _ _ _).mono ?_; rintro e w1 ⟨rfl, x, rfl⟩) | (go_at_call 45; refine (times01_any _ _ _ ⟨by omega, by omega⟩ ⟨by omega, by omega⟩).mono ?_; rintro e w1 ⟨rfl, rfl⟩))
        all_goals
          go_roundw
          case rel => exact ⟨3, by omega, by go_num, val_eq (by simp only [lows, xAt, yAt] at *; omega), val_eq (by simp only [highs, xAt, yAt] at *; omega), show Kept W0 _ by (repeat (first | exact Kept.refl _ | assumption | refine Kept.alloc ?_ _ | refine Kept.ext ?_ _ | refine Kept.drew ?_ | refine Kept.drewN ?_ _))⟩
          case measure => simp [intOf]
      · go_wp2_with (first | (go_at_call 30; refine (rvalid_any _ _ _).mono ?_; rintro e w1 ⟨rfl, x, rfl⟩) | (go_at_call 45; refine (times01_any _ _ _ ⟨by omega, by omega⟩ ⟨by omega, by omega⟩).mono ?_; rintro e w1 ⟨rfl, rfl⟩))
        ((first | (with_reducible refine wp_region_kept2 (by kernel_rfl) (by kernel_rfl) ?_) | refine wp_region_kept (by kernel_rfl) (by kernel_rfl) ?_); (repeat (go_big_quiet_step (first | (go_at_call 45; exact Calls.kept_same (times01_any _ _ _ ⟨by omega, by omega⟩ ⟨by omega, by omega⟩))))); refine wpQuiet_nil ?_; intro x)
        go_wp2_with (first | (go_at_call 30; refine (rvalid_any _ _ _).mono ?_; rintro e w1 ⟨rfl, x, rfl⟩) | (go_at_call 45; refine (times01_any _ _ _ ⟨by omega, by omega⟩ ⟨by omega, by omega⟩).mono ?_; rintro e w1 ⟨rfl, rfl⟩))
        all_goals
          go_roundw
          case rel => exact ⟨4, by omega, by go_num, val_eq (by simp only [lows, xAt, yAt] at *; omega), val_eq (by simp only [highs, xAt, yAt] at *; omega), show Kept W0 _ by (repeat (first | exact Kept.refl _ | assumption | refine Kept.alloc ?_ _ | refine Kept.ext ?_ _ | refine Kept.drew ?_ | refine Kept.drewN ?_ _))⟩
          case measure => simp [intOf]
      · go_wp2_with (first | (go_at_call 42; refine (told_any _ _ _).mono ?_; rintro e w1 ⟨rfl, x, rfl⟩))
        refine bodyPost_ret (by simp only [results, Try.results21]; go_simp; rfl) rfl ?_
        refine ⟨ret_R3 (by rw [lows_4, highs_4]), ?_⟩
        exact (((hk0.setCell (p := ⟨w.heap.size + 1 + 1, 0, none⟩) (show w.heap.size ≤ w.heap.size + 1 + 1 by omega) _).setCell (p := ⟨w.heap.size + 1 + 1, 1, none⟩) (show w.heap.size ≤ w.heap.size + 1 + 1 by omega) _).ext _).ext _
theorem rMul_no (al ah bl bh : Int) (w : World) (h : (validB al ah && validB bl bh) = false) :
    Calls Try.prog 21 #[.agg #[.int .i64 al, .int .i64 ah], .agg #[.int .i64 bl, .int .i64 bh]] w fun e w' => e = .returned (.tuple #[.agg #[.int .i64 (mulS al ah bl bh).lo, .int .i64 (mulS al ah bl bh).hi], .int .i64 (mulS al ah bl bh).e]) ∧ Kept w w' := by
  have e : mulS al ah bl bh = ⟨0, 0, 1⟩ := by simp [mulS, h]
  cases ha : validB al ah
  · go_enter Try.func21, Try.ntmps21
    go_wp2_with (first | (go_at_call 30; refine (rvalid_any _ _ _).mono ?_; rintro e w1 ⟨rfl, x, rfl⟩))
    all_goals (refine bodyPost_ret (by simp only [results, Try.results21]; go_simp; rfl) rfl ?_; refine ⟨ret_R3 (by rw [e]), ?_⟩; (repeat (first | exact Kept.refl _ | assumption | refine Kept.alloc ?_ _ | refine Kept.ext ?_ _ | refine Kept.drew ?_ | refine Kept.drewN ?_ _)))
  · have hb : validB bl bh = false := by simpa [ha] using h
    go_enter Try.func21, Try.ntmps21
    go_wp2_with (first | (go_at_call 30; refine (rvalid_any _ _ _).mono ?_; rintro e w1 ⟨rfl, x, rfl⟩))
    all_goals (refine bodyPost_ret (by simp only [results, Try.results21]; go_simp; rfl) rfl ?_; refine ⟨ret_R3 (by rw [e]), ?_⟩; (repeat (first | exact Kept.refl _ | assumption | refine Kept.alloc ?_ _ | refine Kept.ext ?_ _ | refine Kept.drew ?_ | refine Kept.drewN ?_ _)))
theorem rmul_any (al ah bl bh : Int) (w : World) :
    Calls Try.prog 21 #[.agg #[.int .i64 al, .int .i64 ah], .agg #[.int .i64 bl, .int .i64 bh]] w fun e w' => e = .returned (.tuple #[.agg #[.int .i64 (mulS al ah bl bh).lo, .int .i64 (mulS al ah bl bh).hi], .int .i64 (mulS al ah bl bh).e]) ∧ Kept w w' := by
  cases h : (validB al ah && validB bl bh)
  · exact rMul_no al ah bl bh w h
  · exact rmul_yes al ah bl bh w h
end Go.Proofs.Ytldchncnadllpaa
