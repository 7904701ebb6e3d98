/- Contracts: whether a point lies on a surface, of the program and of the reference. Conditions: the lists' lengths are ints. -/
import Derived.Test.YtoadlneneijfaaaGwp
namespace Go.Proofs.Ytoadlneneijfaaa
set_option linter.unusedVariables false
set_option linter.unusedSimpArgs false
open Go.RowKit
theorem r2cornersX_any (A B : Option Addr) (n cap m cap2 : Nat) (P F : Nat → Nat → Int) (k : Nat) (w : World) (hc : cornB n F k = true) (hn : n ≤ 9223372036854775807 ∧ m ≤ 9223372036854775807 ∧ k < m) (hP : RowsAt w A n 3 P) (hF : RowsAt w B m 3 F) :
    Calls Try.prog 72 #[.agg #[.slice A n cap, .slice B m cap2], .int .i64 k] w fun e w' => e = .returned (.agg #[.int .i64 (co P F k 0 0), .int .i64 (co P F k 0 1), .int .i64 (co P F k 0 2), .int .i64 (co P F k 1 0), .int .i64 (co P F k 1 1), .int .i64 (co P F k 1 2), .int .i64 (co P F k 2 0), .int .i64 (co P F k 2 1), .int .i64 (co P F k 2 2)]) ∧ Kept w w' := r2corners_any A B n cap m cap2 P F k w hc hn hP hF
set_option maxRecDepth 100000 in
set_option maxHeartbeats 16000000 in
theorem son_any (A B : Option Addr) (n cap m cap2 : Nat) (P F : Nat → Nat → Int) (q0 q1 q2 : Int) (w : World) (hm : m ≤ 96) (hn : n ≤ 9223372036854775807) (hq : (-256 ≤ q0 ∧ q0 ≤ 256) ∧ (-256 ≤ q1 ∧ q1 ≤ 256) ∧ (-256 ≤ q2 ∧ q2 ≤ 256)) (hb : ptsBad P n = false) (hc : ∀ i, i < m → cornB n F i = true) (hP : RowsAt w A n 3 P) (hF : RowsAt w B m 3 F) :
    Calls Try.prog 89 #[.agg #[.slice A n cap, .slice B m cap2], .agg #[.int .i64 q0, .int .i64 q1, .int .i64 q2]] w fun r w' => r = .returned (.bool (onS P F q0 q1 q2 m)) ∧ Kept w w' := by
  have HP := Lib.hid hP
  have HF := Lib.hid hF
  have HC := Lib.hid hc
  clear hP hF hc
  go_enter Try.func89, Try.ntmps89
  go_wp2_with fail
  refine (spanels_any _ _ _ _ _ _ P F _ hm hn HC.out (HP.out.of (by (repeat (first | exact Kept.refl _ | assumption | refine Kept.alloc ?_ _ | refine Kept.ext ?_ _ | refine Kept.drew ?_ | refine Kept.drewN ?_ _)))) (HF.out.of (by (repeat (first | exact Kept.refl _ | assumption | refine Kept.alloc ?_ _ | refine Kept.ext ?_ _ | refine Kept.drew ?_ | refine Kept.drewN ?_ _))))).mono ?_
  rintro r w1 ⟨v, rfl, ⟨x, rfl⟩, hown⟩
  obtain ⟨A2, cp, rfl, hcp⟩ := own_sl hown
  have HR := Lib.hid (rows_of_owns hown (pnF_I (rows_I HP.out) HC.out))
  clear hown
  go_wp2_with fail
  go_loopw [10] (fun i wr => ∃ k : Nat, k ≤ m ∧ i = .int .i64 k ∧ (∀ j, j < k → tchF P F q0 q1 q2 j = false) ∧ (∃ y, wr = ext (ext ((w.alloc (.cells #[.slice A n cap, .slice B m cap2] 25)).alloc (.cells #[.int .i64 q0, .int .i64 q1, .int .i64 q2] 34)) x) y)) (fun i _ => m - (intOf i).toNat)
  case atStart => exact ⟨0, by omega, rfl, fun j h => by omega, show Kept _ _ by (repeat (first | exact Kept.refl _ | assumption | refine Kept.alloc ?_ _ | refine Kept.ext ?_ _ | refine Kept.drew ?_ | refine Kept.drewN ?_ _))⟩
  case round =>
    obtain ⟨k, hk, rfl, hz, y, rfl⟩ := hrel
    have HZ := Lib.hid hz
    clear hz
    by_cases hlt : k < m
    · obtain ⟨fb, off, rfl, hfb, f0, f1, f2, f3, f4, f5, f6, f7, f8⟩ := panel_at HR.out hlt
      have LB : Lower fb (adv (w.heap.size + 1 + 1) x.obs.size) := ⟨by simpa using hfb⟩
      obtain ⟨c0, c1, c2⟩ := cornB_true (HC.out k hlt)
      have b0 := co_bd hb c0
      have b1 := co_bd hb c1
      have b2 := co_bd hb c2
      clear c0 c1 c2 hfb
      cases ht : tchF P F q0 q1 q2 k
      · have HT := Lib.hid (show tchS (co P F k 0 0 - q0) (co P F k 0 1 - q1) (co P F k 0 2 - q2) (co P F k 1 0 - q0) (co P F k 1 1 - q1) (co P F k 1 2 - q2) (co P F k 2 0 - q0) (co P F k 2 1 - q1) (co P F k 2 2 - q2) = false from ht)
        go_wp2_with (first | (go_at_call 92; refine (sseen_any _ _ _ _ _ _ _ _ _ _ _ _ _ (by omega)).mono ?_; rintro e w1 ⟨rfl, x9, rfl⟩) | (go_at_call 118; refine (stouch_any _ _ _ _ _ _ _ _ _ _ (by omega)).mono ?_; rintro e w1 ⟨rfl, x9, rfl⟩; rw [HT.out]))
        go_roundw
        case rel => exact ⟨k + 1, by omega, by go_num, fun i hi => by
            by_cases e : i = k
            · subst e; exact ht
            · exact HZ.out i (by omega), show Kept _ _ by (repeat (first | exact Kept.refl _ | assumption | refine Kept.alloc ?_ _ | refine Kept.ext ?_ _ | refine Kept.drew ?_ | refine Kept.drewN ?_ _))⟩
        case measure => simp [intOf]; omega
      · have HT := Lib.hid (show tchS (co P F k 0 0 - q0) (co P F k 0 1 - q1) (co P F k 0 2 - q2) (co P F k 1 0 - q0) (co P F k 1 1 - q1) (co P F k 1 2 - q2) (co P F k 2 0 - q0) (co P F k 2 1 - q1) (co P F k 2 2 - q2) = true from ht)
        have HO := Lib.hid (show onS P F q0 q1 q2 m = true from any_true hlt ht)
        go_wp2_with (first | (go_at_call 92; refine (sseen_any _ _ _ _ _ _ _ _ _ _ _ _ _ (by omega)).mono ?_; rintro e w1 ⟨rfl, x9, rfl⟩) | (go_at_call 118; refine (stouch_any _ _ _ _ _ _ _ _ _ _ (by omega)).mono ?_; rintro e w1 ⟨rfl, x9, rfl⟩; rw [HT.out]))
        go_ret
        rw [HO.out]
        exact ⟨rfl, by (repeat (first | exact Kept.refl _ | assumption | refine Kept.alloc ?_ _ | refine Kept.ext ?_ _ | refine Kept.drew ?_ | refine Kept.drewN ?_ _))⟩
    · obtain rfl : k = m := by omega
      have HO := Lib.hid (show onS P F q0 q1 q2 k = false from any_false HZ.out)
      go_wp2_with fail
      go_ret
      rw [HO.out]
      exact ⟨rfl, by (repeat (first | exact Kept.refl _ | assumption | refine Kept.alloc ?_ _ | refine Kept.ext ?_ _ | refine Kept.drew ?_ | refine Kept.drewN ?_ _))⟩
set_option maxRecDepth 100000 in
set_option maxHeartbeats 16000000 in
theorem r2on_any (A B : Option Addr) (n cap m cap2 : Nat) (P F : Nat → Nat → Int) (q0 q1 q2 : Int) (w : World) (hm : m ≤ 96) (hn : n ≤ 9223372036854775807) (hq : (-256 ≤ q0 ∧ q0 ≤ 256) ∧ (-256 ≤ q1 ∧ q1 ≤ 256) ∧ (-256 ≤ q2 ∧ q2 ≤ 256)) (hb : ptsBad P n = false) (hc : ∀ i, i < m → cornB n F i = true) (hP : RowsAt w A n 3 P) (hF : RowsAt w B m 3 F) :
    Calls Try.prog 91 #[.agg #[.slice A n cap, .slice B m cap2], .agg #[.int .i64 q0, .int .i64 q1, .int .i64 q2]] w fun r w' => r = .returned (.bool (onS P F q0 q1 q2 m)) ∧ Kept w w' := by
  have HP := Lib.hid hP
  have HF := Lib.hid hF
  have HC := Lib.hid hc
  clear hP hF hc
  go_enter Try.func91, Try.ntmps91
  go_wp2_with fail
  go_loopw [5] (fun i wr => ∃ k : Nat, k ≤ m ∧ i = .int .i64 k ∧ (∀ j, j < k → tchF P F q0 q1 q2 j = false) ∧ (∃ y, wr = ext ((w.alloc (.cells #[.slice A n cap, .slice B m cap2] 25)).alloc (.cells #[.int .i64 q0, .int .i64 q1, .int .i64 q2] 34)) y)) (fun i _ => m - (intOf i).toNat)
  case atStart => exact ⟨0, by omega, rfl, fun j h => by omega, show Kept _ _ by (repeat (first | exact Kept.refl _ | assumption | refine Kept.alloc ?_ _ | refine Kept.ext ?_ _ | refine Kept.drew ?_ | refine Kept.drewN ?_ _))⟩
  case round =>
    obtain ⟨k, hk, rfl, hz, y, rfl⟩ := hrel
    have HZ := Lib.hid hz
    clear hz
    by_cases hlt : k < m
    · have hcB := HC.out k hlt
      obtain ⟨c0, c1, c2⟩ := cornB_true hcB
      have b0 := co_bd hb c0
      have b1 := co_bd hb c1
      have b2 := co_bd hb c2
      clear c0 c1 c2
      cases ht : tchF P F q0 q1 q2 k
      · have hT : tchS (co P F k 0 0 - q0) (co P F k 0 1 - q1) (co P F k 0 2 - q2) (co P F k 1 0 - q0) (co P F k 1 1 - q1) (co P F k 1 2 - q2) (co P F k 2 0 - q0) (co P F k 2 1 - q1) (co P F k 2 2 - q2) = false := ht
        have HT0 := Lib.hid ht
        clear ht
        go_wp2_with fail
        ((first | (with_reducible refine wp_region_kept2 (by kernel_rfl) (by kernel_rfl) ?_) | refine wp_region_kept (by kernel_rfl) (by kernel_rfl) ?_); (repeat (go_big_quiet_step (first | (go_at_call 72; exact Calls.kept_of (r2cornersX_any _ _ _ _ _ _ P F k _ hcB (by omega) (HP.out.of (by (repeat (first | exact Kept.refl _ | assumption | refine Kept.alloc ?_ _ | refine Kept.ext ?_ _ | refine Kept.drew ?_ | refine Kept.drewN ?_ _)))) (HF.out.of (by (repeat (first | exact Kept.refl _ | assumption | refine Kept.alloc ?_ _ | refine Kept.ext ?_ _ | refine Kept.drew ?_ | refine Kept.drewN ?_ _)))))) | (go_at_call 119; exact Calls.kept_of (r2touch_any _ _ _ _ _ _ _ _ _ _ _ _ _ (by omega)))))); refine wpQuiet_nil ?_; intro x)
        simp only [hT]
        go_wp2_with fail
        go_roundw
        case rel => exact ⟨k + 1, by omega, by go_num, fun i hi => by
            by_cases e : i = k
            · subst e; exact HT0.out
            · exact HZ.out i (by omega), show Kept _ _ by (repeat (first | exact Kept.refl _ | assumption | refine Kept.alloc ?_ _ | refine Kept.ext ?_ _ | refine Kept.drew ?_ | refine Kept.drewN ?_ _))⟩
        case measure => simp [intOf]; omega
      · have hT : tchS (co P F k 0 0 - q0) (co P F k 0 1 - q1) (co P F k 0 2 - q2) (co P F k 1 0 - q0) (co P F k 1 1 - q1) (co P F k 1 2 - q2) (co P F k 2 0 - q0) (co P F k 2 1 - q1) (co P F k 2 2 - q2) = true := ht
        have HO := Lib.hid (show onS P F q0 q1 q2 m = true from any_true hlt ht)
        clear ht
        go_wp2_with fail
        ((first | (with_reducible refine wp_region_kept2 (by kernel_rfl) (by kernel_rfl) ?_) | refine wp_region_kept (by kernel_rfl) (by kernel_rfl) ?_); (repeat (go_big_quiet_step (first | (go_at_call 72; exact Calls.kept_of (r2cornersX_any _ _ _ _ _ _ P F k _ hcB (by omega) (HP.out.of (by (repeat (first | exact Kept.refl _ | assumption | refine Kept.alloc ?_ _ | refine Kept.ext ?_ _ | refine Kept.drew ?_ | refine Kept.drewN ?_ _)))) (HF.out.of (by (repeat (first | exact Kept.refl _ | assumption | refine Kept.alloc ?_ _ | refine Kept.ext ?_ _ | refine Kept.drew ?_ | refine Kept.drewN ?_ _)))))) | (go_at_call 119; exact Calls.kept_of (r2touch_any _ _ _ _ _ _ _ _ _ _ _ _ _ (by omega)))))); refine wpQuiet_nil ?_; intro x)
        simp only [hT]
        go_wp2_with fail
        go_ret
        rw [HO.out]
        exact ⟨rfl, by (repeat (first | exact Kept.refl _ | assumption | refine Kept.alloc ?_ _ | refine Kept.ext ?_ _ | refine Kept.drew ?_ | refine Kept.drewN ?_ _))⟩
    · obtain rfl : k = m := by omega
      have HO := Lib.hid (show onS P F q0 q1 q2 k = false from any_false HZ.out)
      go_wp2_with fail
      go_ret
      rw [HO.out]
      exact ⟨rfl, by (repeat (first | exact Kept.refl _ | assumption | refine Kept.alloc ?_ _ | refine Kept.ext ?_ _ | refine Kept.drew ?_ | refine Kept.drewN ?_ _))⟩
set_option maxRecDepth 100000 in
theorem sasked_any (A B : Option Addr) (n cap m cap2 : Nat) (P F : Nat → Nat → Int) (q0 q1 q2 : Int) (w : World) (hn : n ≤ 9223372036854775807 ∧ m ≤ 9223372036854775807) (hP : RowsAt w A n 3 P) (hF : RowsAt w B m 3 F) :
    Calls Try.prog 88 #[.agg #[.slice A n cap, .slice B m cap2], .agg #[.int .i64 q0, .int .i64 q1, .int .i64 q2]] w fun r w' => r = .returned (.int .i64 (askE n P m F q0 q1 q2)) ∧ Kept w w' := by
  have HP := Lib.hid hP
  have HF := Lib.hid hF
  clear hP hF
  by_cases hv : validE n P m F = 0
  · have HV := Lib.hid hv
    cases hi : inB q0 q1 q2 256
    · have HA := Lib.hid (show askE n P m F q0 q1 q2 = 1 by unfold askE; rw [if_pos hv, hi]; rfl)
      clear hv
      go_enter Try.func88, Try.ntmps88
      go_wp2_with (first | (go_at_call 30; refine (svalidate_any _ _ _ _ _ _ P F _ hn (HP.out.of (by (repeat (first | exact Kept.refl _ | assumption | refine Kept.alloc ?_ _ | refine Kept.ext ?_ _ | refine Kept.drew ?_ | refine Kept.drewN ?_ _)))) (HF.out.of (by (repeat (first | exact Kept.refl _ | assumption | refine Kept.alloc ?_ _ | refine Kept.ext ?_ _ | refine Kept.drew ?_ | refine Kept.drewN ?_ _))))).mono ?_; rintro e w1 ⟨rfl, x0, rfl⟩; rw [HV.out]) | (go_at_call 69; refine (inRange_any _ _ _ _ _ (by omega)).mono ?_; rintro e w1 ⟨rfl, x1, rfl⟩))
      go_ret
      rw [HA.out]
      exact ⟨rfl, by (repeat (first | exact Kept.refl _ | assumption | refine Kept.alloc ?_ _ | refine Kept.ext ?_ _ | refine Kept.drew ?_ | refine Kept.drewN ?_ _))⟩
    · have HA := Lib.hid (show askE n P m F q0 q1 q2 = 0 by unfold askE; rw [if_pos hv, hi]; rfl)
      clear hv
      go_enter Try.func88, Try.ntmps88
      go_wp2_with (first | (go_at_call 30; refine (svalidate_any _ _ _ _ _ _ P F _ hn (HP.out.of (by (repeat (first | exact Kept.refl _ | assumption | refine Kept.alloc ?_ _ | refine Kept.ext ?_ _ | refine Kept.drew ?_ | refine Kept.drewN ?_ _)))) (HF.out.of (by (repeat (first | exact Kept.refl _ | assumption | refine Kept.alloc ?_ _ | refine Kept.ext ?_ _ | refine Kept.drew ?_ | refine Kept.drewN ?_ _))))).mono ?_; rintro e w1 ⟨rfl, x0, rfl⟩; rw [HV.out]) | (go_at_call 69; refine (inRange_any _ _ _ _ _ (by omega)).mono ?_; rintro e w1 ⟨rfl, x1, rfl⟩))
      go_ret
      rw [HA.out]
      exact ⟨rfl, by (repeat (first | exact Kept.refl _ | assumption | refine Kept.alloc ?_ _ | refine Kept.ext ?_ _ | refine Kept.drew ?_ | refine Kept.drewN ?_ _))⟩
  · have HA := Lib.hid (show askE n P m F q0 q1 q2 = validE n P m F from if_neg hv)
    obtain ⟨e, he⟩ : ∃ e, validE n P m F = e := ⟨_, rfl⟩
    rw [he] at hv
    have HV := Lib.hid he
    clear he
    have hv2 : (e == 0) = false := by simpa using hv
    have hv3 : decide (e = 0) = false := by simpa using hv
    go_enter Try.func88, Try.ntmps88
    go_wp2_with (go_at_call 30; refine (svalidate_any _ _ _ _ _ _ P F _ hn (HP.out.of (by (repeat (first | exact Kept.refl _ | assumption | refine Kept.alloc ?_ _ | refine Kept.ext ?_ _ | refine Kept.drew ?_ | refine Kept.drewN ?_ _)))) (HF.out.of (by (repeat (first | exact Kept.refl _ | assumption | refine Kept.alloc ?_ _ | refine Kept.ext ?_ _ | refine Kept.drew ?_ | refine Kept.drewN ?_ _))))).mono ?_; rintro e w1 ⟨rfl, x, rfl⟩; rw [HV.out])
    go_ret
    rw [HA.out, HV.out]
    exact ⟨rfl, by (repeat (first | exact Kept.refl _ | assumption | refine Kept.alloc ?_ _ | refine Kept.ext ?_ _ | refine Kept.drew ?_ | refine Kept.drewN ?_ _))⟩
set_option maxRecDepth 100000 in
theorem r2asked_any (A B : Option Addr) (n cap m cap2 : Nat) (P F : Nat → Nat → Int) (q0 q1 q2 : Int) (w : World) (hn : n ≤ 9223372036854775807 ∧ m ≤ 9223372036854775807) (hP : RowsAt w A n 3 P) (hF : RowsAt w B m 3 F) :
    Calls Try.prog 90 #[.agg #[.slice A n cap, .slice B m cap2], .agg #[.int .i64 q0, .int .i64 q1, .int .i64 q2]] w fun r w' => r = .returned (.int .i64 (askE n P m F q0 q1 q2)) ∧ Kept w w' := by
  have HP := Lib.hid hP
  have HF := Lib.hid hF
  clear hP hF
  by_cases hv : validE n P m F = 0
  · have HV := Lib.hid hv
    cases hi : inB q0 q1 q2 256
    · have HA := Lib.hid (show askE n P m F q0 q1 q2 = 1 by unfold askE; rw [if_pos hv, hi]; rfl)
      clear hv
      go_enter Try.func90, Try.ntmps90
      go_wp2_with (first | (go_at_call 31; refine (r2validate_any _ _ _ _ _ _ P F _ hn (HP.out.of (by (repeat (first | exact Kept.refl _ | assumption | refine Kept.alloc ?_ _ | refine Kept.ext ?_ _ | refine Kept.drew ?_ | refine Kept.drewN ?_ _)))) (HF.out.of (by (repeat (first | exact Kept.refl _ | assumption | refine Kept.alloc ?_ _ | refine Kept.ext ?_ _ | refine Kept.drew ?_ | refine Kept.drewN ?_ _))))).mono ?_; rintro e w1 ⟨rfl, x0, rfl⟩; rw [HV.out]) | (go_at_call 70; refine (r2near_any _ _ _ _ _ (by omega)).mono ?_; rintro e w1 ⟨rfl, x1, rfl⟩))
      go_ret
      rw [HA.out]
      exact ⟨rfl, by (repeat (first | exact Kept.refl _ | assumption | refine Kept.alloc ?_ _ | refine Kept.ext ?_ _ | refine Kept.drew ?_ | refine Kept.drewN ?_ _))⟩
    · have HA := Lib.hid (show askE n P m F q0 q1 q2 = 0 by unfold askE; rw [if_pos hv, hi]; rfl)
      clear hv
      go_enter Try.func90, Try.ntmps90
      go_wp2_with (first | (go_at_call 31; refine (r2validate_any _ _ _ _ _ _ P F _ hn (HP.out.of (by (repeat (first | exact Kept.refl _ | assumption | refine Kept.alloc ?_ _ | refine Kept.ext ?_ _ | refine Kept.drew ?_ | refine Kept.drewN ?_ _)))) (HF.out.of (by (repeat (first | exact Kept.refl _ | assumption | refine Kept.alloc ?_ _ | refine Kept.ext ?_ _ | refine Kept.drew ?_ | refine Kept.drewN ?_ _))))).mono ?_; rintro e w1 ⟨rfl, x0, rfl⟩; rw [HV.out]) | (go_at_call 70; refine (r2near_any _ _ _ _ _ (by omega)).mono ?_; rintro e w1 ⟨rfl, x1, rfl⟩))
      go_ret
      rw [HA.out]
      exact ⟨rfl, by (repeat (first | exact Kept.refl _ | assumption | refine Kept.alloc ?_ _ | refine Kept.ext ?_ _ | refine Kept.drew ?_ | refine Kept.drewN ?_ _))⟩
  · have HA := Lib.hid (show askE n P m F q0 q1 q2 = validE n P m F from if_neg hv)
    obtain ⟨e, he⟩ : ∃ e, validE n P m F = e := ⟨_, rfl⟩
    rw [he] at hv
    have HV := Lib.hid he
    clear he
    have hv2 : (e == 0) = false := by simpa using hv
    have hv3 : decide (e = 0) = false := by simpa using hv
    go_enter Try.func90, Try.ntmps90
    go_wp2_with (go_at_call 31; refine (r2validate_any _ _ _ _ _ _ P F _ hn (HP.out.of (by (repeat (first | exact Kept.refl _ | assumption | refine Kept.alloc ?_ _ | refine Kept.ext ?_ _ | refine Kept.drew ?_ | refine Kept.drewN ?_ _)))) (HF.out.of (by (repeat (first | exact Kept.refl _ | assumption | refine Kept.alloc ?_ _ | refine Kept.ext ?_ _ | refine Kept.drew ?_ | refine Kept.drewN ?_ _))))).mono ?_; rintro e w1 ⟨rfl, x, rfl⟩; rw [HV.out])
    go_ret
    rw [HA.out, HV.out]
    exact ⟨rfl, by (repeat (first | exact Kept.refl _ | assumption | refine Kept.alloc ?_ _ | refine Kept.ext ?_ _ | refine Kept.drew ?_ | refine Kept.drewN ?_ _))⟩
theorem askE_0 {n m : Nat} {P F : Nat → Nat → Int} {q0 q1 q2 : Int} (h : askE n P m F q0 q1 q2 = 0) : validE n P m F = 0 ∧ (-256 ≤ q0 ∧ q0 ≤ 256) ∧ (-256 ≤ q1 ∧ q1 ≤ 256) ∧ (-256 ≤ q2 ∧ q2 ≤ 256) := by
  unfold askE at h
  split at h
  · rename_i hv
    split at h
    · rename_i hi
      have := inB_true hi
      exact ⟨hv, by omega⟩
    · cases h
  · rename_i hv
    exact absurd h hv
set_option maxRecDepth 100000 in
theorem sOn_any (A B : Option Addr) (n cap m cap2 : Nat) (P F : Nat → Nat → Int) (q0 q1 q2 : Int) (w : World) (hn : n ≤ 9223372036854775807 ∧ m ≤ 9223372036854775807) (hP : RowsAt w A n 3 P) (hF : RowsAt w B m 3 F) :
    Calls Try.prog 42 #[.agg #[.slice A n cap, .slice B m cap2], .agg #[.int .i64 q0, .int .i64 q1, .int .i64 q2]] w fun r w' => r = .returned (.tuple #[.bool (onV n P m F q0 q1 q2), .int .i64 (askE n P m F q0 q1 q2)]) ∧ Kept w w' := by
  have HP := Lib.hid hP
  have HF := Lib.hid hF
  clear hP hF
  by_cases ha : askE n P m F q0 q1 q2 = 0
  · rw [show onV n P m F q0 q1 q2 = onS P F q0 q1 q2 m from if_pos ha]
    have HA := Lib.hid ha
    obtain ⟨hv, hq⟩ := askE_0 ha
    obtain ⟨n64, m96, hb, hf, -⟩ := validE_ok hv
    have HB := Lib.hid hb
    have HC := Lib.hid (corn_of hf)
    clear hv hb hf ha
    go_enter Try.func42, Try.ntmps42
    go_wp2_with (first | (go_at_call 88; refine (sasked_any _ _ _ _ _ _ P F _ _ _ _ hn (HP.out.of (by (repeat (first | exact Kept.refl _ | assumption | refine Kept.alloc ?_ _ | refine Kept.ext ?_ _ | refine Kept.drew ?_ | refine Kept.drewN ?_ _)))) (HF.out.of (by (repeat (first | exact Kept.refl _ | assumption | refine Kept.alloc ?_ _ | refine Kept.ext ?_ _ | refine Kept.drew ?_ | refine Kept.drewN ?_ _))))).mono ?_; rintro e w1 ⟨rfl, x0, rfl⟩; rw [HA.out]) | (go_at_call 89; refine (son_any _ _ _ _ _ _ P F _ _ _ _ (by omega) (by omega) hq HB.out HC.out (HP.out.of (by (repeat (first | exact Kept.refl _ | assumption | refine Kept.alloc ?_ _ | refine Kept.ext ?_ _ | refine Kept.drew ?_ | refine Kept.drewN ?_ _)))) (HF.out.of (by (repeat (first | exact Kept.refl _ | assumption | refine Kept.alloc ?_ _ | refine Kept.ext ?_ _ | refine Kept.drew ?_ | refine Kept.drewN ?_ _))))).mono ?_; rintro e w1 ⟨rfl, x1, rfl⟩))
    refine bodyPost_ret (by simp only [results, Try.results42]; go_simp; rfl) rfl ?_
    rw [HA.out]
    exact ⟨rfl, by (repeat (first | exact Kept.refl _ | assumption | refine Kept.alloc ?_ _ | refine Kept.ext ?_ _ | refine Kept.drew ?_ | refine Kept.drewN ?_ _))⟩
  · rw [show onV n P m F q0 q1 q2 = false from if_neg ha]
    obtain ⟨e, he⟩ : ∃ e, askE n P m F q0 q1 q2 = e := ⟨_, rfl⟩
    rw [he] at ha
    have HA := Lib.hid he
    clear he
    have hv2 : (e == 0) = false := by simpa using ha
    have hv3 : decide (e = 0) = false := by simpa using ha
    go_enter Try.func42, Try.ntmps42
    go_wp2_with (go_at_call 88; refine (sasked_any _ _ _ _ _ _ P F _ _ _ _ hn (HP.out.of (by (repeat (first | exact Kept.refl _ | assumption | refine Kept.alloc ?_ _ | refine Kept.ext ?_ _ | refine Kept.drew ?_ | refine Kept.drewN ?_ _)))) (HF.out.of (by (repeat (first | exact Kept.refl _ | assumption | refine Kept.alloc ?_ _ | refine Kept.ext ?_ _ | refine Kept.drew ?_ | refine Kept.drewN ?_ _))))).mono ?_; rintro e w1 ⟨rfl, x0, rfl⟩; rw [HA.out])
    refine bodyPost_ret (by simp only [results, Try.results42]; go_simp; rfl) rfl ?_
    rw [HA.out]
    exact ⟨rfl, by (repeat (first | exact Kept.refl _ | assumption | refine Kept.alloc ?_ _ | refine Kept.ext ?_ _ | refine Kept.drew ?_ | refine Kept.drewN ?_ _))⟩
set_option maxRecDepth 100000 in
theorem r2On_any (A B : Option Addr) (n cap m cap2 : Nat) (P F : Nat → Nat → Int) (q0 q1 q2 : Int) (w : World) (hn : n ≤ 9223372036854775807 ∧ m ≤ 9223372036854775807) (hP : RowsAt w A n 3 P) (hF : RowsAt w B m 3 F) :
    Calls Try.prog 43 #[.agg #[.slice A n cap, .slice B m cap2], .agg #[.int .i64 q0, .int .i64 q1, .int .i64 q2]] w fun r w' => r = .returned (.tuple #[.bool (onV n P m F q0 q1 q2), .int .i64 (askE n P m F q0 q1 q2)]) ∧ Kept w w' := by
  have HP := Lib.hid hP
  have HF := Lib.hid hF
  clear hP hF
  by_cases ha : askE n P m F q0 q1 q2 = 0
  · rw [show onV n P m F q0 q1 q2 = onS P F q0 q1 q2 m from if_pos ha]
    have HA := Lib.hid ha
    obtain ⟨hv, hq⟩ := askE_0 ha
    obtain ⟨n64, m96, hb, hf, -⟩ := validE_ok hv
    have HB := Lib.hid hb
    have HC := Lib.hid (corn_of hf)
    clear hv hb hf ha
    go_enter Try.func43, Try.ntmps43
    go_wp2_with (first | (go_at_call 90; refine (r2asked_any _ _ _ _ _ _ P F _ _ _ _ hn (HP.out.of (by (repeat (first | exact Kept.refl _ | assumption | refine Kept.alloc ?_ _ | refine Kept.ext ?_ _ | refine Kept.drew ?_ | refine Kept.drewN ?_ _)))) (HF.out.of (by (repeat (first | exact Kept.refl _ | assumption | refine Kept.alloc ?_ _ | refine Kept.ext ?_ _ | refine Kept.drew ?_ | refine Kept.drewN ?_ _))))).mono ?_; rintro e w1 ⟨rfl, x0, rfl⟩; rw [HA.out]) | (go_at_call 91; refine (r2on_any _ _ _ _ _ _ P F _ _ _ _ (by omega) (by omega) hq HB.out HC.out (HP.out.of (by (repeat (first | exact Kept.refl _ | assumption | refine Kept.alloc ?_ _ | refine Kept.ext ?_ _ | refine Kept.drew ?_ | refine Kept.drewN ?_ _)))) (HF.out.of (by (repeat (first | exact Kept.refl _ | assumption | refine Kept.alloc ?_ _ | refine Kept.ext ?_ _ | refine Kept.drew ?_ | refine Kept.drewN ?_ _))))).mono ?_; rintro e w1 ⟨rfl, x1, rfl⟩))
    refine bodyPost_ret (by simp only [results, Try.results43]; go_simp; rfl) rfl ?_
    rw [HA.out]
    exact ⟨rfl, by (repeat (first | exact Kept.refl _ | assumption | refine Kept.alloc ?_ _ | refine Kept.ext ?_ _ | refine Kept.drew ?_ | refine Kept.drewN ?_ _))⟩
  · rw [show onV n P m F q0 q1 q2 = false from if_neg ha]
    obtain ⟨e, he⟩ : ∃ e, askE n P m F q0 q1 q2 = e := ⟨_, rfl⟩
    rw [he] at ha
    have HA := Lib.hid he
    clear he
    have hv2 : (e == 0) = false := by simpa using ha
    have hv3 : decide (e = 0) = false := by simpa using ha
    go_enter Try.func43, Try.ntmps43
    go_wp2_with (go_at_call 90; refine (r2asked_any _ _ _ _ _ _ P F _ _ _ _ hn (HP.out.of (by (repeat (first | exact Kept.refl _ | assumption | refine Kept.alloc ?_ _ | refine Kept.ext ?_ _ | refine Kept.drew ?_ | refine Kept.drewN ?_ _)))) (HF.out.of (by (repeat (first | exact Kept.refl _ | assumption | refine Kept.alloc ?_ _ | refine Kept.ext ?_ _ | refine Kept.drew ?_ | refine Kept.drewN ?_ _))))).mono ?_; rintro e w1 ⟨rfl, x0, rfl⟩; rw [HA.out])
    refine bodyPost_ret (by simp only [results, Try.results43]; go_simp; rfl) rfl ?_
    rw [HA.out]
    exact ⟨rfl, by (repeat (first | exact Kept.refl _ | assumption | refine Kept.alloc ?_ _ | refine Kept.ext ?_ _ | refine Kept.drew ?_ | refine Kept.drewN ?_ _))⟩
end Go.Proofs.Ytoadlneneijfaaa
