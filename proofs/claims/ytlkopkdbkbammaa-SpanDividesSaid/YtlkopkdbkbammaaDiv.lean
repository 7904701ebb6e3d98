/- Contracts of the reference's quotients of spans. No conditions. -/
import Derived.Test.YtlkopkdbkbammaaRef
import Derived.Test.YtlkopkdbkbammaaBaseb
import Derived.StillTailTactics
namespace Go.Proofs.Ytlkopkdbkbammaa
set_option linter.unusedVariables false
set_option linter.unusedSimpArgs false
open Go.RowKit
theorem div_mono {x x' y : Int} (hx : x ≤ x') (hy : 0 < y) : x.fdiv y ≤ x'.fdiv y := by
  rw [fdiv_pos _ _ hy, fdiv_pos _ _ hy]; exact Int.ediv_le_ediv hy hx
theorem qDown_mono {x x' y : Int} (hx : x ≤ x') (hy : 0 < y) : qDown x y ≤ qDown x' y := div_mono (by omega) hy
theorem qUp_mono {x x' y : Int} (hx : x ≤ x') (hy : 0 < y) : qUp x y ≤ qUp x' y := by
  have := div_mono (x := -(x' * 1048576)) (x' := -(x * 1048576)) (y := y) (by omega) hy
  unfold qUp; omega
theorem qDown_flip (x y : Int) : qDown (-x) (-y) = qDown x y := by unfold qDown; rw [Int.neg_mul, fdiv_flip]
theorem qUp_flip (x y : Int) : qUp (-x) (-y) = qUp x y := by unfold qUp; rw [Int.neg_mul, fdiv_flip]
theorem quo_pos {al ah bl bh : Int} (h : al ≤ ah) (hb : 0 < bl) (hbb : bl ≤ bh) :
    min4 qDown al ah bl bh = min (qDown al bl) (qDown al bh) ∧ max4 qUp al ah bl bh = max (qUp ah bl) (qUp ah bh) := by
  have h1 := qDown_mono (x := al) (x' := ah) (y := bl) h hb
  have h2 := qDown_mono (x := al) (x' := ah) (y := bh) h (by omega)
  have h3 := qUp_mono (x := al) (x' := ah) (y := bl) h hb
  have h4 := qUp_mono (x := al) (x' := ah) (y := bh) h (by omega)
  unfold min4 max4; omega
theorem quo_neg {al ah bl bh : Int} (h : al ≤ ah) (hb : bh < 0) (hbb : bl ≤ bh) :
    min4 qDown al ah bl bh = min (qDown (-ah) (-bh)) (qDown (-ah) (-bl)) ∧ max4 qUp al ah bl bh = max (qUp (-al) (-bh)) (qUp (-al) (-bl)) := by
  have h1 := qDown_mono (x := -ah) (x' := -al) (y := -bl) (by omega) (by omega)
  have h2 := qDown_mono (x := -ah) (x' := -al) (y := -bh) (by omega) (by omega)
  have h3 := qUp_mono (x := -ah) (x' := -al) (y := -bl) (by omega) (by omega)
  have h4 := qUp_mono (x := -ah) (x' := -al) (y := -bh) (by omega) (by omega)
  simp only [qDown_flip, qUp_flip] at *
  unfold min4 max4; omega
theorem rDiv_no (al ah bl bh : Int) (w : World) (h : (validB al ah && validB bl bh) = false) :
    Calls Try.prog 44 #[.agg #[.int .i64 al, .int .i64 ah], .agg #[.int .i64 bl, .int .i64 bh]] w fun e w' => e = .returned (.tuple #[.agg #[.int .i64 (divS al ah bl bh).lo, .int .i64 (divS al ah bl bh).hi], .int .i64 (divS al ah bl bh).e]) ∧ Kept w w' := by
  have e : divS al ah bl bh = ⟨0, 0, 1⟩ := by simp [divS, h]
  cases ha : validB al ah
  · go_enter Try.func44, Try.ntmps44
    go_wp2_with (first | (go_at_call 20; refine (rvalid_any _ _ _).mono ?_; rintro e w1 ⟨rfl, x, rfl⟩))
    all_goals (refine bodyPost_ret (by simp only [results, Try.results44]; go_simp; rfl) rfl ?_; refine ⟨ret_R3 (by rw [e]), ?_⟩; (repeat (first | exact Kept.refl _ | assumption | refine Kept.alloc ?_ _ | refine Kept.ext ?_ _ | refine Kept.drew ?_ | refine Kept.drewN ?_ _)))
  · have hb : validB bl bh = false := by simpa [ha] using h
    go_enter Try.func44, Try.ntmps44
    go_wp2_with (first | (go_at_call 20; refine (rvalid_any _ _ _).mono ?_; rintro e w1 ⟨rfl, x, rfl⟩))
    all_goals (refine bodyPost_ret (by simp only [results, Try.results44]; go_simp; rfl) rfl ?_; refine ⟨ret_R3 (by rw [e]), ?_⟩; (repeat (first | exact Kept.refl _ | assumption | refine Kept.alloc ?_ _ | refine Kept.ext ?_ _ | refine Kept.drew ?_ | refine Kept.drewN ?_ _)))
set_option maxHeartbeats 2000000 in
theorem rdiv_any (al ah bl bh : Int) (w : World) :
    Calls Try.prog 44 #[.agg #[.int .i64 al, .int .i64 ah], .agg #[.int .i64 bl, .int .i64 bh]] w fun e w' => e = .returned (.tuple #[.agg #[.int .i64 (divS al ah bl bh).lo, .int .i64 (divS al ah bl bh).hi], .int .i64 (divS al ah bl bh).e]) ∧ Kept w w' := by
  cases h : (validB al ah && validB bl bh)
  · exact rDiv_no al ah bl bh w h
  · obtain ⟨⟨a1, a2⟩, ⟨a3, a4⟩, ⟨a5, a6⟩, ⟨a7, a8⟩, a9, a10⟩ := fixes h
    have h' := h
    simp only [Bool.and_eq_true] at h'
    obtain ⟨ha, hb⟩ := h'
    by_cases z : bl ≤ 0 ∧ 0 ≤ bh
    · obtain ⟨z1, z2⟩ := z
      have e : divS al ah bl bh = ⟨0, 0, 11⟩ := by simp only [divS, h, if_true]; rw [if_pos ⟨z1, z2⟩]
      go_enter Try.func44, Try.ntmps44
      go_wp2_with (first | (go_at_call 20; refine (rvalid_any _ _ _).mono ?_; rintro e w1 ⟨rfl, x, rfl⟩))
      all_goals (refine bodyPost_ret (by simp only [results, Try.results44]; go_simp; rfl) rfl ?_; refine ⟨ret_R3 (by rw [e]), ?_⟩; (repeat (first | exact Kept.refl _ | assumption | refine Kept.alloc ?_ _ | refine Kept.ext ?_ _ | refine Kept.drew ?_ | refine Kept.drewN ?_ _)))
    · have e : divS al ah bl bh = resultS (min4 qDown al ah bl bh) (max4 qUp al ah bl bh) := by simp only [divS, h, if_true]; rw [if_neg z]
      by_cases hn : bh < 0
      · obtain ⟨q1, q2⟩ := quo_neg a9 hn a10
        have E := Lib.hid e
        have Q1 := Lib.hid q1
        have Q2 := Lib.hid q2
        clear e q1 q2 h z
        go_enter Try.func44, Try.ntmps44
        go_wp2_with (first | (go_at_call 20; refine (rvalid_any _ _ _).mono ?_; rintro e w1 ⟨rfl, x, rfl⟩) | (go_at_call 63; refine (rdown_any _ _ _ (by omega) (by omega)).mono ?_; rintro e w1 ⟨rfl, rfl⟩) | (go_at_call 64; refine (rup_any _ _ _ (by omega) (by omega)).mono ?_; rintro e w1 ⟨rfl, rfl⟩) | (go_at_call 62; refine (told_any _ _ _).mono ?_; rintro e w1 ⟨rfl, x, rfl⟩))
        have n1 : IntKind.i64.wrap (-ah) = -ah := IntWalk.i64_in _ (by omega)
        have n2 : IntKind.i64.wrap (-al) = -al := IntWalk.i64_in _ (by omega)
        have n3 : IntKind.i64.wrap (-bh) = -bh := IntWalk.i64_in _ (by omega)
        have n4 : IntKind.i64.wrap (-bl) = -bl := IntWalk.i64_in _ (by omega)
        go_region
        clear n1 n2 n3 n4
        go_wp2_with (first | (go_at_call 20; refine (rvalid_any _ _ _).mono ?_; rintro e w1 ⟨rfl, x, rfl⟩) | (go_at_call 63; refine (rdown_any _ _ _ (by omega) (by omega)).mono ?_; rintro e w1 ⟨rfl, rfl⟩) | (go_at_call 64; refine (rup_any _ _ _ (by omega) (by omega)).mono ?_; rintro e w1 ⟨rfl, rfl⟩) | (go_at_call 62; refine (told_any _ _ _).mono ?_; rintro e w1 ⟨rfl, x, rfl⟩))
        ((first | (with_reducible refine wp_region_kept2 (by kernel_rfl) (by kernel_rfl) ?_) | refine wp_region_kept (by kernel_rfl) (by kernel_rfl) ?_); (repeat (go_big_quiet_step (first | (go_at_call 63; exact Calls.kept_same (rdown_any _ _ _ (by omega) (by omega))) | (go_at_call 64; exact Calls.kept_same (rup_any _ _ _ (by omega) (by omega)))))); refine wpQuiet_nil ?_; intro x)
        go_wp2_with (first | (go_at_call 20; refine (rvalid_any _ _ _).mono ?_; rintro e w1 ⟨rfl, x, rfl⟩) | (go_at_call 63; refine (rdown_any _ _ _ (by omega) (by omega)).mono ?_; rintro e w1 ⟨rfl, rfl⟩) | (go_at_call 64; refine (rup_any _ _ _ (by omega) (by omega)).mono ?_; rintro e w1 ⟨rfl, rfl⟩) | (go_at_call 62; refine (told_any _ _ _).mono ?_; rintro e w1 ⟨rfl, x, rfl⟩))
        all_goals (refine bodyPost_ret (by simp only [results, Try.results44]; go_simp; rfl) rfl ?_; refine ⟨ret_R3 ?_, ?_⟩; rotate_left 1; ((repeat (first | exact Kept.refl _ | assumption | refine Kept.alloc ?_ _ | refine Kept.ext ?_ _ | refine Kept.drew ?_ | refine Kept.drewN ?_ _))))
        all_goals
          rw [E.out, Q1.out, Q2.out]
          show resultS _ _ = resultS _ _
          simp only [qDown, qUp, fdiv_flip]
          congr 1 <;> omega
      · obtain ⟨q1, q2⟩ := quo_pos a9 (show 0 < bl by omega) a10
        have E := Lib.hid e
        have Q1 := Lib.hid q1
        have Q2 := Lib.hid q2
        have hp : 0 < bl := by omega
        clear e q1 q2 h z
        go_enter Try.func44, Try.ntmps44
        go_wp2_with (first | (go_at_call 20; refine (rvalid_any _ _ _).mono ?_; rintro e w1 ⟨rfl, x, rfl⟩) | (go_at_call 63; refine (rdown_any _ _ _ (by omega) (by omega)).mono ?_; rintro e w1 ⟨rfl, rfl⟩) | (go_at_call 64; refine (rup_any _ _ _ (by omega) (by omega)).mono ?_; rintro e w1 ⟨rfl, rfl⟩) | (go_at_call 62; refine (told_any _ _ _).mono ?_; rintro e w1 ⟨rfl, x, rfl⟩))
        ((first | (with_reducible refine wp_region_kept2 (by kernel_rfl) (by kernel_rfl) ?_) | refine wp_region_kept (by kernel_rfl) (by kernel_rfl) ?_); (repeat (go_big_quiet_step (first | (go_at_call 63; exact Calls.kept_same (rdown_any _ _ _ (by omega) (by omega))) | (go_at_call 64; exact Calls.kept_same (rup_any _ _ _ (by omega) (by omega)))))); refine wpQuiet_nil ?_; intro x)
        go_wp2_with (first | (go_at_call 20; refine (rvalid_any _ _ _).mono ?_; rintro e w1 ⟨rfl, x, rfl⟩) | (go_at_call 63; refine (rdown_any _ _ _ (by omega) (by omega)).mono ?_; rintro e w1 ⟨rfl, rfl⟩) | (go_at_call 64; refine (rup_any _ _ _ (by omega) (by omega)).mono ?_; rintro e w1 ⟨rfl, rfl⟩) | (go_at_call 62; refine (told_any _ _ _).mono ?_; rintro e w1 ⟨rfl, x, rfl⟩))
        all_goals (refine bodyPost_ret (by simp only [results, Try.results44]; go_simp; rfl) rfl ?_; refine ⟨ret_R3 ?_, ?_⟩; rotate_left 1; ((repeat (first | exact Kept.refl _ | assumption | refine Kept.alloc ?_ _ | refine Kept.ext ?_ _ | refine Kept.drew ?_ | refine Kept.drewN ?_ _))))
        all_goals
          rw [E.out, Q1.out, Q2.out]
          show resultS _ _ = resultS _ _
          simp only [qDown, qUp, fdiv_flip]
          congr 1 <;> omega
end Go.Proofs.Ytlkopkdbkbammaa
