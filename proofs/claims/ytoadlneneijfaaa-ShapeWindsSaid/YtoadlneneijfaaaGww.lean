/- Contract: the winding number of a mesh around a point, of the program. Conditions: the lists' lengths are ints. -/
import Derived.Test.YtoadlneneijfaaaGwq
namespace Go.Proofs.Ytoadlneneijfaaa
set_option linter.unusedVariables false
set_option linter.unusedSimpArgs false
open Go.RowKit
theorem ssgn_any (n : Int) (w : World) :
    Calls Try.prog 93 #[.int .i64 n] w fun e w' => e = .returned (.int .i64 (sgn n)) ∧ w = w' := by
  unfold sgn
  go_enter Try.func93, Try.ntmps93
  go_wp2
  go_ret
  exact ⟨rfl, rfl⟩
theorem salong_any (x y z : Int) (w : World) :
    Calls Try.prog 95 #[.agg #[.int .i64 x, .int .i64 y, .int .i64 z]] w fun e w' => e = .returned (.int .i64 (alS x y z)) ∧ Kept w w' := by
  by_cases h1 : z = 0
  · by_cases h2 : y = 0
    · rw [show alS x y z = sgn x by unfold alS; rw [if_neg (by omega), if_neg (by omega)]]
      go_enter Try.func95, Try.ntmps95
      go_wp2_with (first | (go_at_call 93; refine (ssgn_any _ _).mono ?_; rintro e w1 ⟨rfl, rfl⟩))
      go_ret
      exact ⟨rfl, by (repeat (first | exact Kept.refl _ | assumption | refine Kept.alloc ?_ _ | refine Kept.ext ?_ _ | refine Kept.drew ?_ | refine Kept.drewN ?_ _))⟩
    · rw [show alS x y z = sgn y by unfold alS; rw [if_neg (by omega), if_pos h2]]
      have g1 : (y == 0) = false := by simpa using h2
      have g2 : decide (y = 0) = false := by simpa using h2
      go_enter Try.func95, Try.ntmps95
      go_wp2_with (first | (go_at_call 93; refine (ssgn_any _ _).mono ?_; rintro e w1 ⟨rfl, rfl⟩))
      go_ret
      exact ⟨rfl, by (repeat (first | exact Kept.refl _ | assumption | refine Kept.alloc ?_ _ | refine Kept.ext ?_ _ | refine Kept.drew ?_ | refine Kept.drewN ?_ _))⟩
  · rw [show alS x y z = sgn z by unfold alS; rw [if_pos h1]]
    have g1 : (z == 0) = false := by simpa using h1
    have g2 : decide (z = 0) = false := by simpa using h1
    go_enter Try.func95, Try.ntmps95
    go_wp2_with (first | (go_at_call 93; refine (ssgn_any _ _).mono ?_; rintro e w1 ⟨rfl, rfl⟩))
    go_ret
    exact ⟨rfl, by (repeat (first | exact Kept.refl _ | assumption | refine Kept.alloc ?_ _ | refine Kept.ext ?_ _ | refine Kept.drew ?_ | refine Kept.drewN ?_ _))⟩
set_option maxRecDepth 100000 in
set_option maxHeartbeats 16000000 in
theorem sWinding_any (A B : Option Addr) (n cap m cap2 : Nat) (P F : Nat → Nat → Int) (q0 q1 q2 : Int) (w : World) (hn : n ≤ 9223372036854775807 ∧ m ≤ 9223372036854775807) (hP : RowsAt w A n 3 P) (hF : RowsAt w B m 3 F) :
    Calls Try.prog 44 #[.agg #[.slice A n cap, .slice B m cap2], .agg #[.int .i64 q0, .int .i64 q1, .int .i64 q2]] w fun r w' => r = .returned (.tuple #[.int .i64 (winV n P m F q0 q1 q2), .int .i64 (winE n P m F q0 q1 q2)]) ∧ Kept w w' := by
  have HP := Lib.hid hP
  have HF := Lib.hid hF
  clear hP hF
  by_cases ha : askE n P m F q0 q1 q2 = 0
  case neg =>
    have hwe : winE n P m F q0 q1 q2 = askE n P m F q0 q1 q2 := if_neg ha
    rw [show winV n P m F q0 q1 q2 = 0 from if_neg (by rw [hwe]; exact ha), hwe]
    clear hwe
    obtain ⟨e, he⟩ : ∃ e, askE n P m F q0 q1 q2 = e := ⟨_, rfl⟩
    rw [he] at ha
    have HA := Lib.hid he
    clear he
    have hv2 : (e == 0) = false := by simpa using ha
    have hv3 : decide (e = 0) = false := by simpa using ha
    go_enter Try.func44, Try.ntmps44
    go_wp2_with (go_at_call 88; refine (sasked_any _ _ _ _ _ _ P F _ _ _ _ hn (HP.out.of (by (repeat (first | exact Kept.refl _ | assumption | refine Kept.alloc ?_ _ | refine Kept.ext ?_ _ | refine Kept.drew ?_ | refine Kept.drewN ?_ _)))) (HF.out.of (by (repeat (first | exact Kept.refl _ | assumption | refine Kept.alloc ?_ _ | refine Kept.ext ?_ _ | refine Kept.drew ?_ | refine Kept.drewN ?_ _))))).mono ?_; rintro e w1 ⟨rfl, x0, rfl⟩; rw [HA.out])
    refine bodyPost_ret (by simp only [results, Try.results44]; go_simp; rfl) rfl ?_
    rw [HA.out]
    exact ⟨rfl, by (repeat (first | exact Kept.refl _ | assumption | refine Kept.alloc ?_ _ | refine Kept.ext ?_ _ | refine Kept.drew ?_ | refine Kept.drewN ?_ _))⟩
  have HA := Lib.hid ha
  obtain ⟨hv, hq⟩ := askE_0 ha
  obtain ⟨n64, m96, hb, hf, -⟩ := validE_ok hv
  have HB := Lib.hid hb
  have HC := Lib.hid (corn_of hf)
  clear hv hb hf
  cases ho : onS P F q0 q1 q2 m
  case true =>
    have hwe : winE n P m F q0 q1 q2 = 9 := by unfold winE; rw [if_pos ha, if_pos ho]
    rw [show winV n P m F q0 q1 q2 = 0 from if_neg (by rw [hwe]; omega), hwe]
    have HO := Lib.hid ho
    clear hwe ho ha
    go_enter Try.func44, Try.ntmps44
    go_wp2_with (first | (go_at_call 88; refine (sasked_any _ _ _ _ _ _ P F _ _ _ _ hn (HP.out.of (by (repeat (first | exact Kept.refl _ | assumption | refine Kept.alloc ?_ _ | refine Kept.ext ?_ _ | refine Kept.drew ?_ | refine Kept.drewN ?_ _)))) (HF.out.of (by (repeat (first | exact Kept.refl _ | assumption | refine Kept.alloc ?_ _ | refine Kept.ext ?_ _ | refine Kept.drew ?_ | refine Kept.drewN ?_ _))))).mono ?_; rintro e w1 ⟨rfl, x0, rfl⟩; rw [HA.out]) | (go_at_call 89; refine (son_any _ _ _ _ _ _ P F _ _ _ _ (by omega) (by omega) hq HB.out HC.out (HP.out.of (by (repeat (first | exact Kept.refl _ | assumption | refine Kept.alloc ?_ _ | refine Kept.ext ?_ _ | refine Kept.drew ?_ | refine Kept.drewN ?_ _)))) (HF.out.of (by (repeat (first | exact Kept.refl _ | assumption | refine Kept.alloc ?_ _ | refine Kept.ext ?_ _ | refine Kept.drew ?_ | refine Kept.drewN ?_ _))))).mono ?_; rintro e w1 ⟨rfl, x1, rfl⟩; rw [HO.out]))
    refine bodyPost_ret (by simp only [results, Try.results44]; go_simp; rfl) rfl ?_
    exact ⟨rfl, by (repeat (first | exact Kept.refl _ | assumption | refine Kept.alloc ?_ _ | refine Kept.ext ?_ _ | refine Kept.drew ?_ | refine Kept.drewN ?_ _))⟩
  have hwe : winE n P m F q0 q1 q2 = 0 := by unfold winE; rw [if_pos ha, if_neg (by rw [ho]; simp)]
  rw [show winV n P m F q0 q1 q2 = wsum P F q0 q1 q2 m from if_pos hwe, hwe]
  have HO := Lib.hid ho
  clear hwe ho ha
  go_enter Try.func44, Try.ntmps44
  go_wp2_with (first | (go_at_call 88; refine (sasked_any _ _ _ _ _ _ P F _ _ _ _ hn (HP.out.of (by (repeat (first | exact Kept.refl _ | assumption | refine Kept.alloc ?_ _ | refine Kept.ext ?_ _ | refine Kept.drew ?_ | refine Kept.drewN ?_ _)))) (HF.out.of (by (repeat (first | exact Kept.refl _ | assumption | refine Kept.alloc ?_ _ | refine Kept.ext ?_ _ | refine Kept.drew ?_ | refine Kept.drewN ?_ _))))).mono ?_; rintro e w1 ⟨rfl, x0, rfl⟩; rw [HA.out]) | (go_at_call 89; refine (son_any _ _ _ _ _ _ P F _ _ _ _ (by omega) (by omega) hq HB.out HC.out (HP.out.of (by (repeat (first | exact Kept.refl _ | assumption | refine Kept.alloc ?_ _ | refine Kept.ext ?_ _ | refine Kept.drew ?_ | refine Kept.drewN ?_ _)))) (HF.out.of (by (repeat (first | exact Kept.refl _ | assumption | refine Kept.alloc ?_ _ | refine Kept.ext ?_ _ | refine Kept.drew ?_ | refine Kept.drewN ?_ _))))).mono ?_; rintro e w1 ⟨rfl, x1, rfl⟩; rw [HO.out]))
  refine (spanels_any _ _ _ _ _ _ P F _ (by omega) (by omega) HC.out (HP.out.of (by (repeat (first | exact Kept.refl _ | assumption | refine Kept.alloc ?_ _ | refine Kept.ext ?_ _ | refine Kept.drew ?_ | refine Kept.drewN ?_ _)))) (HF.out.of (by (repeat (first | exact Kept.refl _ | assumption | refine Kept.alloc ?_ _ | refine Kept.ext ?_ _ | refine Kept.drew ?_ | refine Kept.drewN ?_ _))))).mono ?_
  rintro r w1 ⟨v, rfl, ⟨x2, rfl⟩, hown⟩
  obtain ⟨A2, cp, rfl, hcp⟩ := own_sl hown
  have HR := Lib.hid (rows_of_owns hown (pnF_I (rows_I HP.out) HC.out))
  clear hown
  go_wp2_with fail
  go_loopw [7, 24] (fun v i wr => ∃ k : Nat, k ≤ m ∧ i = .int .i64 k ∧ v = .int .i64 (wsum P F q0 q1 q2 k) ∧ (∃ y, wr = ext (ext (ext (ext ((w.alloc (.cells #[.slice A n cap, .slice B m cap2] 25)).alloc (.cells #[.int .i64 q0, .int .i64 q1, .int .i64 q2] 34)) x0) x1) x2) y)) (fun _ i _ => m - (intOf i).toNat)
  case atStart => exact ⟨0, by omega, rfl, rfl, show Kept _ _ by (repeat (first | exact Kept.refl _ | assumption | refine Kept.alloc ?_ _ | refine Kept.ext ?_ _ | refine Kept.drew ?_ | refine Kept.drewN ?_ _))⟩
  case round =>
    obtain ⟨k, hk, rfl, rfl, y, rfl⟩ := hrel
    have bz := wsum_bd P F q0 q1 q2 k
    obtain ⟨z, hz⟩ : ∃ z, z = wsum P F q0 q1 q2 k := ⟨_, rfl⟩
    by_cases hlt : k < m
    · have hsu : wsum P F q0 q1 q2 (k + 1) = z + wndF P F q0 q1 q2 k := by rw [hz]; rfl
      rw [← hz] at bz ⊢
      clear hz
      obtain ⟨fb, off, rfl, hfb, f0, f1, f2, f3, f4, f5, f6, f7, f8⟩ := panel_at HR.out hlt
      have LB : Lower fb (adv (adv (adv (w.heap.size + 1 + 1) x0.obs.size) x1.obs.size) x2.obs.size) := ⟨by simpa using hfb⟩
      obtain ⟨c0, c1, c2⟩ := cornB_true (HC.out k hlt)
      have b0 := co_bd HB.out c0
      have b1 := co_bd HB.out c1
      have b2 := co_bd HB.out c2
      clear c0 c1 c2 hfb
      have hw : wndF P F q0 q1 q2 k = if sgn (pr9 (co P F k 0 0 - q0) (co P F k 0 1 - q1) (co P F k 0 2 - q2) (co P F k 1 0 - q0) (co P F k 1 1 - q1) (co P F k 1 2 - q2) (co P F k 2 0 - q0) (co P F k 2 1 - q1) (co P F k 2 2 - q2)) ≠ 0 ∧ alS ((co P F k 0 1 - q1) * (co P F k 1 2 - q2) - (co P F k 0 2 - q2) * (co P F k 1 1 - q1)) ((co P F k 0 2 - q2) * (co P F k 1 0 - q0) - (co P F k 0 0 - q0) * (co P F k 1 2 - q2)) ((co P F k 0 0 - q0) * (co P F k 1 1 - q1) - (co P F k 0 1 - q1) * (co P F k 1 0 - q0)) = sgn (pr9 (co P F k 0 0 - q0) (co P F k 0 1 - q1) (co P F k 0 2 - q2) (co P F k 1 0 - q0) (co P F k 1 1 - q1) (co P F k 1 2 - q2) (co P F k 2 0 - q0) (co P F k 2 1 - q1) (co P F k 2 2 - q2)) ∧ alS ((co P F k 1 1 - q1) * (co P F k 2 2 - q2) - (co P F k 1 2 - q2) * (co P F k 2 1 - q1)) ((co P F k 1 2 - q2) * (co P F k 2 0 - q0) - (co P F k 1 0 - q0) * (co P F k 2 2 - q2)) ((co P F k 1 0 - q0) * (co P F k 2 1 - q1) - (co P F k 1 1 - q1) * (co P F k 2 0 - q0)) = sgn (pr9 (co P F k 0 0 - q0) (co P F k 0 1 - q1) (co P F k 0 2 - q2) (co P F k 1 0 - q0) (co P F k 1 1 - q1) (co P F k 1 2 - q2) (co P F k 2 0 - q0) (co P F k 2 1 - q1) (co P F k 2 2 - q2)) ∧ alS ((co P F k 2 1 - q1) * (co P F k 0 2 - q2) - (co P F k 2 2 - q2) * (co P F k 0 1 - q1)) ((co P F k 2 2 - q2) * (co P F k 0 0 - q0) - (co P F k 2 0 - q0) * (co P F k 0 2 - q2)) ((co P F k 2 0 - q0) * (co P F k 0 1 - q1) - (co P F k 2 1 - q1) * (co P F k 0 0 - q0)) = sgn (pr9 (co P F k 0 0 - q0) (co P F k 0 1 - q1) (co P F k 0 2 - q2) (co P F k 1 0 - q0) (co P F k 1 1 - q1) (co P F k 1 2 - q2) (co P F k 2 0 - q0) (co P F k 2 1 - q1) (co P F k 2 2 - q2)) then sgn (pr9 (co P F k 0 0 - q0) (co P F k 0 1 - q1) (co P F k 0 2 - q2) (co P F k 1 0 - q0) (co P F k 1 1 - q1) (co P F k 1 2 - q2) (co P F k 2 0 - q0) (co P F k 2 1 - q1) (co P F k 2 2 - q2)) else 0 := rfl
      have bs := sgn_bd (pr9 (co P F k 0 0 - q0) (co P F k 0 1 - q1) (co P F k 0 2 - q2) (co P F k 1 0 - q0) (co P F k 1 1 - q1) (co P F k 1 2 - q2) (co P F k 2 0 - q0) (co P F k 2 1 - q1) (co P F k 2 2 - q2))
      obtain ⟨s, hs⟩ : ∃ s, sgn (pr9 (co P F k 0 0 - q0) (co P F k 0 1 - q1) (co P F k 0 2 - q2) (co P F k 1 0 - q0) (co P F k 1 1 - q1) (co P F k 1 2 - q2) (co P F k 2 0 - q0) (co P F k 2 1 - q1) (co P F k 2 2 - q2)) = s := ⟨_, rfl⟩
      obtain ⟨a1, ha1⟩ : ∃ s, alS ((co P F k 0 1 - q1) * (co P F k 1 2 - q2) - (co P F k 0 2 - q2) * (co P F k 1 1 - q1)) ((co P F k 0 2 - q2) * (co P F k 1 0 - q0) - (co P F k 0 0 - q0) * (co P F k 1 2 - q2)) ((co P F k 0 0 - q0) * (co P F k 1 1 - q1) - (co P F k 0 1 - q1) * (co P F k 1 0 - q0)) = s := ⟨_, rfl⟩
      obtain ⟨a2, ha2⟩ : ∃ s, alS ((co P F k 1 1 - q1) * (co P F k 2 2 - q2) - (co P F k 1 2 - q2) * (co P F k 2 1 - q1)) ((co P F k 1 2 - q2) * (co P F k 2 0 - q0) - (co P F k 1 0 - q0) * (co P F k 2 2 - q2)) ((co P F k 1 0 - q0) * (co P F k 2 1 - q1) - (co P F k 1 1 - q1) * (co P F k 2 0 - q0)) = s := ⟨_, rfl⟩
      obtain ⟨a3, ha3⟩ : ∃ s, alS ((co P F k 2 1 - q1) * (co P F k 0 2 - q2) - (co P F k 2 2 - q2) * (co P F k 0 1 - q1)) ((co P F k 2 2 - q2) * (co P F k 0 0 - q0) - (co P F k 2 0 - q0) * (co P F k 0 2 - q2)) ((co P F k 2 0 - q0) * (co P F k 0 1 - q1) - (co P F k 2 1 - q1) * (co P F k 0 0 - q0)) = s := ⟨_, rfl⟩
      rw [hs, ha1, ha2, ha3] at hw
      rw [hs] at bs
      have HS := Lib.hid hs
      have H1 := Lib.hid ha1
      have H2 := Lib.hid ha2
      have H3 := Lib.hid ha3
      rw [hw] at hsu
      clear hs ha1 ha2 ha3 hw
      by_cases h0 : s = 0
      · subst h0
        have HN := Lib.hid (show wsum P F q0 q1 q2 (k + 1) = z by rw [hsu]; rw [if_neg (by omega)]; omega)
        clear hsu
        go_wp2_with (first | (go_at_call 92; refine (sseen_any _ _ _ _ _ _ _ _ _ _ _ _ _ (by omega)).mono ?_; rintro e w1 ⟨rfl, x9, rfl⟩) | (go_at_call 94; refine (sproduct_any _ _ _ _ _ _ _ _ _ _ (by omega)).mono ?_; rintro e w1 ⟨rfl, x9, rfl⟩) | (go_at_call 93; refine (ssgn_any _ _).mono ?_; rintro e w1 ⟨rfl, rfl⟩; rw [HS.out]) | (go_at_call 96; refine (scross_any _ _ _ _ _ _ _ (by omega)).mono ?_; rintro e w1 ⟨rfl, x9, rfl⟩) | (go_at_call 95; refine (salong_any _ _ _ _).mono ?_; rintro e w1 ⟨rfl, x9, rfl⟩; first | rw [H1.out] | rw [H2.out] | rw [H3.out]))
        go_roundw
        case rel => exact ⟨k + 1, by omega, by go_num, by rw [HN.out], show Kept _ _ by (repeat (first | exact Kept.refl _ | assumption | refine Kept.alloc ?_ _ | refine Kept.ext ?_ _ | refine Kept.drew ?_ | refine Kept.drewN ?_ _))⟩
        case measure => simp [intOf]; omega
      by_cases h1 : a1 = s
      case neg =>
        have g0 : (s == 0) = false := by simpa using h0
        have g0' : decide (s = 0) = false := by simpa using h0
        have g1 : (a1 == s) = false := by simpa using h1
        have g1' : decide (a1 = s) = false := by simpa using h1
        have HN := Lib.hid (show wsum P F q0 q1 q2 (k + 1) = z by rw [hsu]; rw [if_neg (by omega)]; omega)
        clear hsu
        go_wp2_with (first | (go_at_call 92; refine (sseen_any _ _ _ _ _ _ _ _ _ _ _ _ _ (by omega)).mono ?_; rintro e w1 ⟨rfl, x9, rfl⟩) | (go_at_call 94; refine (sproduct_any _ _ _ _ _ _ _ _ _ _ (by omega)).mono ?_; rintro e w1 ⟨rfl, x9, rfl⟩) | (go_at_call 93; refine (ssgn_any _ _).mono ?_; rintro e w1 ⟨rfl, rfl⟩; rw [HS.out]) | (go_at_call 96; refine (scross_any _ _ _ _ _ _ _ (by omega)).mono ?_; rintro e w1 ⟨rfl, x9, rfl⟩) | (go_at_call 95; refine (salong_any _ _ _ _).mono ?_; rintro e w1 ⟨rfl, x9, rfl⟩; first | rw [H1.out] | rw [H2.out] | rw [H3.out]))
        go_roundw
        case rel => exact ⟨k + 1, by omega, by go_num, by rw [HN.out], show Kept _ _ by (repeat (first | exact Kept.refl _ | assumption | refine Kept.alloc ?_ _ | refine Kept.ext ?_ _ | refine Kept.drew ?_ | refine Kept.drewN ?_ _))⟩
        case measure => simp [intOf]; omega
      by_cases h2 : a2 = s
      case neg =>
        have g0 : (s == 0) = false := by simpa using h0
        have g0' : decide (s = 0) = false := by simpa using h0
        have g1 : (a2 == s) = false := by simpa using h2
        have g1' : decide (a2 = s) = false := by simpa using h2
        have HN := Lib.hid (show wsum P F q0 q1 q2 (k + 1) = z by rw [hsu]; rw [if_neg (by omega)]; omega)
        clear hsu
        go_wp2_with (first | (go_at_call 92; refine (sseen_any _ _ _ _ _ _ _ _ _ _ _ _ _ (by omega)).mono ?_; rintro e w1 ⟨rfl, x9, rfl⟩) | (go_at_call 94; refine (sproduct_any _ _ _ _ _ _ _ _ _ _ (by omega)).mono ?_; rintro e w1 ⟨rfl, x9, rfl⟩) | (go_at_call 93; refine (ssgn_any _ _).mono ?_; rintro e w1 ⟨rfl, rfl⟩; rw [HS.out]) | (go_at_call 96; refine (scross_any _ _ _ _ _ _ _ (by omega)).mono ?_; rintro e w1 ⟨rfl, x9, rfl⟩) | (go_at_call 95; refine (salong_any _ _ _ _).mono ?_; rintro e w1 ⟨rfl, x9, rfl⟩; first | rw [H1.out] | rw [H2.out] | rw [H3.out]))
        go_roundw
        case rel => exact ⟨k + 1, by omega, by go_num, by rw [HN.out], show Kept _ _ by (repeat (first | exact Kept.refl _ | assumption | refine Kept.alloc ?_ _ | refine Kept.ext ?_ _ | refine Kept.drew ?_ | refine Kept.drewN ?_ _))⟩
        case measure => simp [intOf]; omega
      by_cases h3 : a3 = s
      case neg =>
        have g0 : (s == 0) = false := by simpa using h0
        have g0' : decide (s = 0) = false := by simpa using h0
        have g1 : (a3 == s) = false := by simpa using h3
        have g1' : decide (a3 = s) = false := by simpa using h3
        have HN := Lib.hid (show wsum P F q0 q1 q2 (k + 1) = z by rw [hsu]; rw [if_neg (by omega)]; omega)
        clear hsu
        go_wp2_with (first | (go_at_call 92; refine (sseen_any _ _ _ _ _ _ _ _ _ _ _ _ _ (by omega)).mono ?_; rintro e w1 ⟨rfl, x9, rfl⟩) | (go_at_call 94; refine (sproduct_any _ _ _ _ _ _ _ _ _ _ (by omega)).mono ?_; rintro e w1 ⟨rfl, x9, rfl⟩) | (go_at_call 93; refine (ssgn_any _ _).mono ?_; rintro e w1 ⟨rfl, rfl⟩; rw [HS.out]) | (go_at_call 96; refine (scross_any _ _ _ _ _ _ _ (by omega)).mono ?_; rintro e w1 ⟨rfl, x9, rfl⟩) | (go_at_call 95; refine (salong_any _ _ _ _).mono ?_; rintro e w1 ⟨rfl, x9, rfl⟩; first | rw [H1.out] | rw [H2.out] | rw [H3.out]))
        go_roundw
        case rel => exact ⟨k + 1, by omega, by go_num, by rw [HN.out], show Kept _ _ by (repeat (first | exact Kept.refl _ | assumption | refine Kept.alloc ?_ _ | refine Kept.ext ?_ _ | refine Kept.drew ?_ | refine Kept.drewN ?_ _))⟩
        case measure => simp [intOf]; omega
      · have g0 : (s == 0) = false := by simpa using h0
        have g0' : decide (s = 0) = false := by simpa using h0
        have HN := Lib.hid (show wsum P F q0 q1 q2 (k + 1) = z + s by rw [hsu]; rw [if_pos ⟨h0, h1, h2, h3⟩])
        clear hsu
        go_wp2_with (first | (go_at_call 92; refine (sseen_any _ _ _ _ _ _ _ _ _ _ _ _ _ (by omega)).mono ?_; rintro e w1 ⟨rfl, x9, rfl⟩) | (go_at_call 94; refine (sproduct_any _ _ _ _ _ _ _ _ _ _ (by omega)).mono ?_; rintro e w1 ⟨rfl, x9, rfl⟩) | (go_at_call 93; refine (ssgn_any _ _).mono ?_; rintro e w1 ⟨rfl, rfl⟩; rw [HS.out]) | (go_at_call 96; refine (scross_any _ _ _ _ _ _ _ (by omega)).mono ?_; rintro e w1 ⟨rfl, x9, rfl⟩) | (go_at_call 95; refine (salong_any _ _ _ _).mono ?_; rintro e w1 ⟨rfl, x9, rfl⟩; first | rw [H1.out] | rw [H2.out] | rw [H3.out]))
        go_roundw
        case rel => exact ⟨k + 1, by omega, by go_num, by rw [HN.out], show Kept _ _ by (repeat (first | exact Kept.refl _ | assumption | refine Kept.alloc ?_ _ | refine Kept.ext ?_ _ | refine Kept.drew ?_ | refine Kept.drewN ?_ _))⟩
        case measure => simp [intOf]; omega
    · obtain rfl : k = m := by omega
      go_wp2_with fail
      refine bodyPost_ret (by simp only [results, Try.results44]; go_simp; rfl) rfl ?_
      exact ⟨rfl, by (repeat (first | exact Kept.refl _ | assumption | refine Kept.alloc ?_ _ | refine Kept.ext ?_ _ | refine Kept.drew ?_ | refine Kept.drewN ?_ _))⟩
end Go.Proofs.Ytoadlneneijfaaa
