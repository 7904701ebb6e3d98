/- Contract: the winding number of a mesh around a point, of the reference. Conditions: the lists' lengths are ints. -/
import Derived.Test.YtoadlneneijfaaaGww
namespace Go.Proofs.Ytoadlneneijfaaa
set_option linter.unusedVariables false
set_option linter.unusedSimpArgs false
open Go.RowKit
theorem r2sgn_any (n : Int) (w : World) :
    Calls Try.prog 98 #[.int .i64 n] w fun e w' => e = .returned (.int .i64 (sgn n)) ∧ w = w' := by
  by_cases h1 : n < 0
  · rw [show sgn n = -1 by unfold sgn; omega]
    go_enter Try.func98, Try.ntmps98
    go_wp2
    go_ret
    exact ⟨rfl, rfl⟩
  by_cases h2 : 0 < n
  · rw [show sgn n = 1 by unfold sgn; omega]
    go_enter Try.func98, Try.ntmps98
    go_wp2
    go_ret
    exact ⟨rfl, rfl⟩
  · rw [show sgn n = 0 by unfold sgn; omega]
    go_enter Try.func98, Try.ntmps98
    go_wp2
    go_ret
    exact ⟨rfl, rfl⟩
set_option maxRecDepth 100000 in
set_option maxHeartbeats 32000000 in
theorem r2Winding_any (A B : Option Addr) (n cap m cap2 : Nat) (P F : Nat → Nat → Int) (q0 q1 q2 : Int) (w : World) (hn : n ≤ 9223372036854775807 ∧ m ≤ 9223372036854775807) (hP : RowsAt w A n 3 P) (hF : RowsAt w B m 3 F) :
    Calls Try.prog 45 #[.agg #[.slice A n cap, .slice B m cap2], .agg #[.int .i64 q0, .int .i64 q1, .int .i64 q2]] w fun r w' => r = .returned (.tuple #[.int .i64 (winV n P m F q0 q1 q2), .int .i64 (winE n P m F q0 q1 q2)]) ∧ Kept w w' := by
  have HP := Lib.hid hP
  have HF := Lib.hid hF
  clear hP hF
  by_cases ha : askE n P m F q0 q1 q2 = 0
  case neg =>
    have hwe : winE n P m F q0 q1 q2 = askE n P m F q0 q1 q2 := if_neg ha
    rw [show winV n P m F q0 q1 q2 = 0 from if_neg (by rw [hwe]; exact ha), hwe]
    clear hwe
    obtain ⟨e, he⟩ : ∃ e, askE n P m F q0 q1 q2 = e := ⟨_, rfl⟩
    rw [he] at ha
    have HA := Lib.hid he
    clear he
    have hv2 : (e == 0) = false := by simpa using ha
    have hv3 : decide (e = 0) = false := by simpa using ha
    go_enter Try.func45, Try.ntmps45
    go_wp2_with (go_at_call 90; refine (r2asked_any _ _ _ _ _ _ P F _ _ _ _ hn (HP.out.of (by (repeat (first | exact Kept.refl _ | assumption | refine Kept.alloc ?_ _ | refine Kept.ext ?_ _ | refine Kept.drew ?_ | refine Kept.drewN ?_ _)))) (HF.out.of (by (repeat (first | exact Kept.refl _ | assumption | refine Kept.alloc ?_ _ | refine Kept.ext ?_ _ | refine Kept.drew ?_ | refine Kept.drewN ?_ _))))).mono ?_; rintro e w1 ⟨rfl, x0, rfl⟩; rw [HA.out])
    refine bodyPost_ret (by simp only [results, Try.results45]; go_simp; rfl) rfl ?_
    rw [HA.out]
    exact ⟨rfl, by (repeat (first | exact Kept.refl _ | assumption | refine Kept.alloc ?_ _ | refine Kept.ext ?_ _ | refine Kept.drew ?_ | refine Kept.drewN ?_ _))⟩
  have HA := Lib.hid ha
  obtain ⟨hv, hq⟩ := askE_0 ha
  obtain ⟨n64, m96, hb, hf, -⟩ := validE_ok hv
  have HB := Lib.hid hb
  have HC := Lib.hid (corn_of hf)
  have HNF := Lib.hid (fun i (hi : i < m) => (faceE_0 (facesE_at hf i hi)).2)
  clear hv hb hf
  cases ho : onS P F q0 q1 q2 m
  case true =>
    have hwe : winE n P m F q0 q1 q2 = 9 := by unfold winE; rw [if_pos ha, if_pos ho]
    rw [show winV n P m F q0 q1 q2 = 0 from if_neg (by rw [hwe]; omega), hwe]
    have HO := Lib.hid ho
    clear hwe ho ha
    go_enter Try.func45, Try.ntmps45
    go_wp2_with (first | (go_at_call 90; refine (r2asked_any _ _ _ _ _ _ P F _ _ _ _ hn (HP.out.of (by (repeat (first | exact Kept.refl _ | assumption | refine Kept.alloc ?_ _ | refine Kept.ext ?_ _ | refine Kept.drew ?_ | refine Kept.drewN ?_ _)))) (HF.out.of (by (repeat (first | exact Kept.refl _ | assumption | refine Kept.alloc ?_ _ | refine Kept.ext ?_ _ | refine Kept.drew ?_ | refine Kept.drewN ?_ _))))).mono ?_; rintro e w1 ⟨rfl, x0, rfl⟩; rw [HA.out]) | (go_at_call 91; refine (r2on_any _ _ _ _ _ _ P F _ _ _ _ (by omega) (by omega) hq HB.out HC.out (HP.out.of (by (repeat (first | exact Kept.refl _ | assumption | refine Kept.alloc ?_ _ | refine Kept.ext ?_ _ | refine Kept.drew ?_ | refine Kept.drewN ?_ _)))) (HF.out.of (by (repeat (first | exact Kept.refl _ | assumption | refine Kept.alloc ?_ _ | refine Kept.ext ?_ _ | refine Kept.drew ?_ | refine Kept.drewN ?_ _))))).mono ?_; rintro e w1 ⟨rfl, x1, rfl⟩; rw [HO.out]))
    refine bodyPost_ret (by simp only [results, Try.results45]; go_simp; rfl) rfl ?_
    exact ⟨rfl, by (repeat (first | exact Kept.refl _ | assumption | refine Kept.alloc ?_ _ | refine Kept.ext ?_ _ | refine Kept.drew ?_ | refine Kept.drewN ?_ _))⟩
  have hwe : winE n P m F q0 q1 q2 = 0 := by unfold winE; rw [if_pos ha, if_neg (by rw [ho]; simp)]
  rw [show winV n P m F q0 q1 q2 = wsum P F q0 q1 q2 m from if_pos hwe, hwe]
  have HO := Lib.hid ho
  clear hwe ho ha
  go_enter Try.func45, Try.ntmps45
  go_wp2_with (first | (go_at_call 90; refine (r2asked_any _ _ _ _ _ _ P F _ _ _ _ hn (HP.out.of (by (repeat (first | exact Kept.refl _ | assumption | refine Kept.alloc ?_ _ | refine Kept.ext ?_ _ | refine Kept.drew ?_ | refine Kept.drewN ?_ _)))) (HF.out.of (by (repeat (first | exact Kept.refl _ | assumption | refine Kept.alloc ?_ _ | refine Kept.ext ?_ _ | refine Kept.drew ?_ | refine Kept.drewN ?_ _))))).mono ?_; rintro e w1 ⟨rfl, x0, rfl⟩; rw [HA.out]) | (go_at_call 91; refine (r2on_any _ _ _ _ _ _ P F _ _ _ _ (by omega) (by omega) hq HB.out HC.out (HP.out.of (by (repeat (first | exact Kept.refl _ | assumption | refine Kept.alloc ?_ _ | refine Kept.ext ?_ _ | refine Kept.drew ?_ | refine Kept.drewN ?_ _)))) (HF.out.of (by (repeat (first | exact Kept.refl _ | assumption | refine Kept.alloc ?_ _ | refine Kept.ext ?_ _ | refine Kept.drew ?_ | refine Kept.drewN ?_ _))))).mono ?_; rintro e w1 ⟨rfl, x1, rfl⟩; rw [HO.out]))
  go_loopw [8, 9] (fun v i wr => ∃ k : Nat, k ≤ m ∧ i = .int .i64 k ∧ v = .int .i64 (wsum P F q0 q1 q2 k) ∧ (∃ y, wr = ext (((ext (ext ((w.alloc (.cells #[.slice A n cap, .slice B m cap2] 25)).alloc (.cells #[.int .i64 q0, .int .i64 q1, .int .i64 q2] 34)) x0) x1)).alloc (.cells #[.int .i64 1, .int .i64 1048576, .int .i64 1099511627776] 34)) y)) (fun _ i _ => m - (intOf i).toNat)
  case atStart => exact ⟨0, by omega, rfl, rfl, show Kept _ _ by (repeat (first | exact Kept.refl _ | assumption | refine Kept.alloc ?_ _ | refine Kept.ext ?_ _ | refine Kept.drew ?_ | refine Kept.drewN ?_ _))⟩
  case round =>
    obtain ⟨k, hk, rfl, rfl, y, rfl⟩ := hrel
    have bz := wsum_bd P F q0 q1 q2 k
    obtain ⟨z, hz⟩ : ∃ z, z = wsum P F q0 q1 q2 k := ⟨_, rfl⟩
    by_cases hlt : k < m
    · have hsu : wsum P F q0 q1 q2 (k + 1) = z + wndF P F q0 q1 q2 k := by rw [hz]; rfl
      rw [← hz] at bz ⊢
      clear hz
      have hcB := HC.out k hlt
      obtain ⟨c0, c1, c2⟩ := cornB_true hcB
      have b0 := co_bd HB.out c0
      have b1 := co_bd HB.out c1
      have b2 := co_bd HB.out c2
      clear c0 c1 c2
      have bn : (-32768 ≤ nX (co P F k 0 0) (co P F k 0 1) (co P F k 0 2) (co P F k 1 0) (co P F k 1 1) (co P F k 1 2) (co P F k 2 0) (co P F k 2 1) (co P F k 2 2) ∧ nX (co P F k 0 0) (co P F k 0 1) (co P F k 0 2) (co P F k 1 0) (co P F k 1 1) (co P F k 1 2) (co P F k 2 0) (co P F k 2 1) (co P F k 2 2) ≤ 32768) ∧ (-32768 ≤ nY (co P F k 0 0) (co P F k 0 1) (co P F k 0 2) (co P F k 1 0) (co P F k 1 1) (co P F k 1 2) (co P F k 2 0) (co P F k 2 1) (co P F k 2 2) ∧ nY (co P F k 0 0) (co P F k 0 1) (co P F k 0 2) (co P F k 1 0) (co P F k 1 1) (co P F k 1 2) (co P F k 2 0) (co P F k 2 1) (co P F k 2 2) ≤ 32768) ∧ (-32768 ≤ nZ (co P F k 0 0) (co P F k 0 1) (co P F k 0 2) (co P F k 1 0) (co P F k 1 1) (co P F k 1 2) (co P F k 2 0) (co P F k 2 1) (co P F k 2 2) ∧ nZ (co P F k 0 0) (co P F k 0 1) (co P F k 0 2) (co P F k 1 0) (co P F k 1 1) (co P F k 1 2) (co P F k 2 0) (co P F k 2 1) (co P F k 2 2) ≤ 32768) := by
        unfold nX nY nZ
        exact ⟨diff_bd (by omega), diff_bd (by omega), diff_bd (by omega)⟩
      have hnz : ¬ (nX (co P F k 0 0) (co P F k 0 1) (co P F k 0 2) (co P F k 1 0) (co P F k 1 1) (co P F k 1 2) (co P F k 2 0) (co P F k 2 1) (co P F k 2 2) = 0 ∧ nY (co P F k 0 0) (co P F k 0 1) (co P F k 0 2) (co P F k 1 0) (co P F k 1 1) (co P F k 1 2) (co P F k 2 0) (co P F k 2 1) (co P F k 2 2) = 0 ∧ nZ (co P F k 0 0) (co P F k 0 1) (co P F k 0 2) (co P F k 1 0) (co P F k 1 1) (co P F k 1 2) (co P F k 2 0) (co P F k 2 1) (co P F k 2 2) = 0) := by
        have := HNF.out k hlt
        unfold flatB at this
        exact of_decide_eq_false this
      have ca := cr_bd (a0 := (co P F k 0 0 - q0)) (a1 := (co P F k 0 1 - q1)) (a2 := (co P F k 0 2 - q2)) (b0 := (co P F k 1 0 - q0)) (b1 := (co P F k 1 1 - q1)) (b2 := (co P F k 1 2 - q2)) 320 320 102400 (by omega) (by omega) rfl
      have cb := cr_bd (a0 := (co P F k 1 0 - q0)) (a1 := (co P F k 1 1 - q1)) (a2 := (co P F k 1 2 - q2)) (b0 := (co P F k 2 0 - q0)) (b1 := (co P F k 2 1 - q1)) (b2 := (co P F k 2 2 - q2)) 320 320 102400 (by omega) (by omega) rfl
      have cc := cr_bd (a0 := (co P F k 2 0 - q0)) (a1 := (co P F k 2 1 - q1)) (a2 := (co P F k 2 2 - q2)) (b0 := (co P F k 0 0 - q0)) (b1 := (co P F k 0 1 - q1)) (b2 := (co P F k 0 2 - q2)) 320 320 102400 (by omega) (by omega) rfl
      have dn := d3_bd 32768 320 10485760 bn (x := (co P F k 0 0 - q0)) (y := (co P F k 0 1 - q1)) (z := (co P F k 0 2 - q2)) (by omega) rfl
      have hw : wndF P F q0 q1 q2 k = if sgn (d3 (nX (co P F k 0 0) (co P F k 0 1) (co P F k 0 2) (co P F k 1 0) (co P F k 1 1) (co P F k 1 2) (co P F k 2 0) (co P F k 2 1) (co P F k 2 2)) (nY (co P F k 0 0) (co P F k 0 1) (co P F k 0 2) (co P F k 1 0) (co P F k 1 1) (co P F k 1 2) (co P F k 2 0) (co P F k 2 1) (co P F k 2 2)) (nZ (co P F k 0 0) (co P F k 0 1) (co P F k 0 2) (co P F k 1 0) (co P F k 1 1) (co P F k 1 2) (co P F k 2 0) (co P F k 2 1) (co P F k 2 2)) (co P F k 0 0 - q0) (co P F k 0 1 - q1) (co P F k 0 2 - q2)) = sgn (d3 1 1048576 1099511627776 (nX (co P F k 0 0) (co P F k 0 1) (co P F k 0 2) (co P F k 1 0) (co P F k 1 1) (co P F k 1 2) (co P F k 2 0) (co P F k 2 1) (co P F k 2 2)) (nY (co P F k 0 0) (co P F k 0 1) (co P F k 0 2) (co P F k 1 0) (co P F k 1 1) (co P F k 1 2) (co P F k 2 0) (co P F k 2 1) (co P F k 2 2)) (nZ (co P F k 0 0) (co P F k 0 1) (co P F k 0 2) (co P F k 1 0) (co P F k 1 1) (co P F k 1 2) (co P F k 2 0) (co P F k 2 1) (co P F k 2 2))) ∧ sgn (d3 1 1048576 1099511627776 ((co P F k 0 1 - q1) * (co P F k 1 2 - q2) - (co P F k 0 2 - q2) * (co P F k 1 1 - q1)) ((co P F k 0 2 - q2) * (co P F k 1 0 - q0) - (co P F k 0 0 - q0) * (co P F k 1 2 - q2)) ((co P F k 0 0 - q0) * (co P F k 1 1 - q1) - (co P F k 0 1 - q1) * (co P F k 1 0 - q0))) = sgn (d3 1 1048576 1099511627776 (nX (co P F k 0 0) (co P F k 0 1) (co P F k 0 2) (co P F k 1 0) (co P F k 1 1) (co P F k 1 2) (co P F k 2 0) (co P F k 2 1) (co P F k 2 2)) (nY (co P F k 0 0) (co P F k 0 1) (co P F k 0 2) (co P F k 1 0) (co P F k 1 1) (co P F k 1 2) (co P F k 2 0) (co P F k 2 1) (co P F k 2 2)) (nZ (co P F k 0 0) (co P F k 0 1) (co P F k 0 2) (co P F k 1 0) (co P F k 1 1) (co P F k 1 2) (co P F k 2 0) (co P F k 2 1) (co P F k 2 2))) ∧ sgn (d3 1 1048576 1099511627776 ((co P F k 1 1 - q1) * (co P F k 2 2 - q2) - (co P F k 1 2 - q2) * (co P F k 2 1 - q1)) ((co P F k 1 2 - q2) * (co P F k 2 0 - q0) - (co P F k 1 0 - q0) * (co P F k 2 2 - q2)) ((co P F k 1 0 - q0) * (co P F k 2 1 - q1) - (co P F k 1 1 - q1) * (co P F k 2 0 - q0))) = sgn (d3 1 1048576 1099511627776 (nX (co P F k 0 0) (co P F k 0 1) (co P F k 0 2) (co P F k 1 0) (co P F k 1 1) (co P F k 1 2) (co P F k 2 0) (co P F k 2 1) (co P F k 2 2)) (nY (co P F k 0 0) (co P F k 0 1) (co P F k 0 2) (co P F k 1 0) (co P F k 1 1) (co P F k 1 2) (co P F k 2 0) (co P F k 2 1) (co P F k 2 2)) (nZ (co P F k 0 0) (co P F k 0 1) (co P F k 0 2) (co P F k 1 0) (co P F k 1 1) (co P F k 1 2) (co P F k 2 0) (co P F k 2 1) (co P F k 2 2))) ∧ sgn (d3 1 1048576 1099511627776 ((co P F k 2 1 - q1) * (co P F k 0 2 - q2) - (co P F k 2 2 - q2) * (co P F k 0 1 - q1)) ((co P F k 2 2 - q2) * (co P F k 0 0 - q0) - (co P F k 2 0 - q0) * (co P F k 0 2 - q2)) ((co P F k 2 0 - q0) * (co P F k 0 1 - q1) - (co P F k 2 1 - q1) * (co P F k 0 0 - q0))) = sgn (d3 1 1048576 1099511627776 (nX (co P F k 0 0) (co P F k 0 1) (co P F k 0 2) (co P F k 1 0) (co P F k 1 1) (co P F k 1 2) (co P F k 2 0) (co P F k 2 1) (co P F k 2 2)) (nY (co P F k 0 0) (co P F k 0 1) (co P F k 0 2) (co P F k 1 0) (co P F k 1 1) (co P F k 1 2) (co P F k 2 0) (co P F k 2 1) (co P F k 2 2)) (nZ (co P F k 0 0) (co P F k 0 1) (co P F k 0 2) (co P F k 1 0) (co P F k 1 1) (co P F k 1 2) (co P F k 2 0) (co P F k 2 1) (co P F k 2 2))) then sgn (d3 1 1048576 1099511627776 (nX (co P F k 0 0) (co P F k 0 1) (co P F k 0 2) (co P F k 1 0) (co P F k 1 1) (co P F k 1 2) (co P F k 2 0) (co P F k 2 1) (co P F k 2 2)) (nY (co P F k 0 0) (co P F k 0 1) (co P F k 0 2) (co P F k 1 0) (co P F k 1 1) (co P F k 1 2) (co P F k 2 0) (co P F k 2 1) (co P F k 2 2)) (nZ (co P F k 0 0) (co P F k 0 1) (co P F k 0 2) (co P F k 1 0) (co P F k 1 1) (co P F k 1 2) (co P F k 2 0) (co P F k 2 1) (co P F k 2 2))) else 0 := by
        rw [ray_al (by omega), ray_al (by omega), ray_al (by omega), ray_al (by omega)]
        have := wnd_ref (co P F k 0 0 - q0) (co P F k 0 1 - q1) (co P F k 0 2 - q2) (co P F k 1 0 - q0) (co P F k 1 1 - q1) (co P F k 1 2 - q2) (co P F k 2 0 - q0) (co P F k 2 1 - q1) (co P F k 2 2 - q2) (by rw [nX_move, nY_move, nZ_move]; exact hnz)
        rw [nX_move, nY_move, nZ_move, pr9_n, nX_move, nY_move, nZ_move] at this
        exact this
      obtain ⟨th, hth⟩ : ∃ s, sgn (d3 1 1048576 1099511627776 (nX (co P F k 0 0) (co P F k 0 1) (co P F k 0 2) (co P F k 1 0) (co P F k 1 1) (co P F k 1 2) (co P F k 2 0) (co P F k 2 1) (co P F k 2 2)) (nY (co P F k 0 0) (co P F k 0 1) (co P F k 0 2) (co P F k 1 0) (co P F k 1 1) (co P F k 1 2) (co P F k 2 0) (co P F k 2 1) (co P F k 2 2)) (nZ (co P F k 0 0) (co P F k 0 1) (co P F k 0 2) (co P F k 1 0) (co P F k 1 1) (co P F k 1 2) (co P F k 2 0) (co P F k 2 1) (co P F k 2 2))) = s := ⟨_, rfl⟩
      obtain ⟨s, hs⟩ : ∃ s, sgn (d3 (nX (co P F k 0 0) (co P F k 0 1) (co P F k 0 2) (co P F k 1 0) (co P F k 1 1) (co P F k 1 2) (co P F k 2 0) (co P F k 2 1) (co P F k 2 2)) (nY (co P F k 0 0) (co P F k 0 1) (co P F k 0 2) (co P F k 1 0) (co P F k 1 1) (co P F k 1 2) (co P F k 2 0) (co P F k 2 1) (co P F k 2 2)) (nZ (co P F k 0 0) (co P F k 0 1) (co P F k 0 2) (co P F k 1 0) (co P F k 1 1) (co P F k 1 2) (co P F k 2 0) (co P F k 2 1) (co P F k 2 2)) (co P F k 0 0 - q0) (co P F k 0 1 - q1) (co P F k 0 2 - q2)) = s := ⟨_, rfl⟩
      obtain ⟨a1, ha1⟩ : ∃ s, sgn (d3 1 1048576 1099511627776 ((co P F k 0 1 - q1) * (co P F k 1 2 - q2) - (co P F k 0 2 - q2) * (co P F k 1 1 - q1)) ((co P F k 0 2 - q2) * (co P F k 1 0 - q0) - (co P F k 0 0 - q0) * (co P F k 1 2 - q2)) ((co P F k 0 0 - q0) * (co P F k 1 1 - q1) - (co P F k 0 1 - q1) * (co P F k 1 0 - q0))) = s := ⟨_, rfl⟩
      obtain ⟨a2, ha2⟩ : ∃ s, sgn (d3 1 1048576 1099511627776 ((co P F k 1 1 - q1) * (co P F k 2 2 - q2) - (co P F k 1 2 - q2) * (co P F k 2 1 - q1)) ((co P F k 1 2 - q2) * (co P F k 2 0 - q0) - (co P F k 1 0 - q0) * (co P F k 2 2 - q2)) ((co P F k 1 0 - q0) * (co P F k 2 1 - q1) - (co P F k 1 1 - q1) * (co P F k 2 0 - q0))) = s := ⟨_, rfl⟩
      obtain ⟨a3, ha3⟩ : ∃ s, sgn (d3 1 1048576 1099511627776 ((co P F k 2 1 - q1) * (co P F k 0 2 - q2) - (co P F k 2 2 - q2) * (co P F k 0 1 - q1)) ((co P F k 2 2 - q2) * (co P F k 0 0 - q0) - (co P F k 2 0 - q0) * (co P F k 0 2 - q2)) ((co P F k 2 0 - q0) * (co P F k 0 1 - q1) - (co P F k 2 1 - q1) * (co P F k 0 0 - q0))) = s := ⟨_, rfl⟩
      have bt : -1 ≤ th ∧ th ≤ 1 := by rw [← hth]; exact sgn_bd _
      rw [hs, ha1, ha2, ha3, hth] at hw
      rw [hw] at hsu
      clear hnz hw
      have HSU := Lib.hid hsu
      have HTH := Lib.hid hth
      have HSS := Lib.hid (And.intro hs (And.intro ha1 (And.intro ha2 ha3)))
      clear hsu hth hs ha1 ha2 ha3
      go_wp2_with (go_at_call 72; refine (r2cornersX_any _ _ _ _ _ _ P F k _ hcB (by omega) (HP.out.of (by (repeat (first | exact Kept.refl _ | assumption | refine Kept.alloc ?_ _ | refine Kept.ext ?_ _ | refine Kept.drew ?_ | refine Kept.drewN ?_ _)))) (HF.out.of (by (repeat (first | exact Kept.refl _ | assumption | refine Kept.alloc ?_ _ | refine Kept.ext ?_ _ | refine Kept.drew ?_ | refine Kept.drewN ?_ _))))).mono ?_; rintro e w1 ⟨rfl, x, rfl⟩)
      have hFr : frsB [.q, .q, .q, .q, .q, .q, .q, .q, .q, .q, .q, .q, .s, .s, .s, .s, .s, .s] [⟨12, 15, 34, #[.int .i64 0, .int .i64 0, .int .i64 0], #[.int .i64 (co P F k 0 0 - q0), .int .i64 (co P F k 0 1 - q1), .int .i64 (co P F k 0 2 - q2)]⟩, ⟨13, 16, 34, #[.int .i64 0, .int .i64 0, .int .i64 0], #[.int .i64 (co P F k 1 0 - q0), .int .i64 (co P F k 1 1 - q1), .int .i64 (co P F k 1 2 - q2)]⟩, ⟨14, 17, 34, #[.int .i64 0, .int .i64 0, .int .i64 0], #[.int .i64 (co P F k 2 0 - q0), .int .i64 (co P F k 2 1 - q1), .int .i64 (co P F k 2 2 - q2)]⟩] = true := by kernel_rfl
      refine wp_region_frs _ _ (by kernel_rfl) (by kernel_rfl) hFr (fun b => by kernel_rfl) ?_
      apply Exists.intro
      refine ⟨?_, ?_, ?_, ?_⟩
      · rintro b' W ⟨yy, rfl⟩
        simp only [swapL, Nat.reduceAdd]
        repeat (go_big_quiet_step (first | (go_at_call 97; exact Calls.kept_of (r2minus_any _ _ _ _ _ _ _ (by omega)))))
        refine wpQuiet_nil ?_
        rfl
      · simp only [EachS, and_true]
        refine ⟨?_, ?_, ?_, ?_, ?_, ?_⟩
        · exact fun L b' w' hd hL hI => FI.tells_alloc hFr 0 rfl hI hL (by go_simp)
        · exact fun L b' w' hd hL hI => FI.tells_alloc hFr 1 rfl hI hL (by go_simp)
        · exact fun L b' w' hd hL hI => FI.tells_alloc hFr 2 rfl hI hL (by go_simp)
        · exact fun L b' w' hd hL hI => FI.tells_store hFr 0 rfl hI hL (hd { on := 12, ground := .data } (by simp) rfl) 34 (.tmp 11) (.tmp 38) rfl rfl rfl (by kernel_rfl) rfl (by kernel_rfl)
        · exact fun L b' w' hd hL hI => FI.tells_store hFr 1 rfl hI hL (hd { on := 13, ground := .data } (by simp) rfl) 34 (.tmp 12) (.tmp 42) rfl rfl rfl (by kernel_rfl) rfl (by kernel_rfl)
        · exact fun L b' w' hd hL hI => FI.tells_store hFr 2 rfl hI hL (hd { on := 14, ground := .data } (by simp) rfl) 34 (.tmp 13) (.tmp 46) rfl rfl rfl (by kernel_rfl) rfl (by kernel_rfl)
      · intro b1 b2 d hd
        simp [callSlots, dullOp] at hd
        rcases hd with rfl | rfl | rfl <;> rfl
      · intro L b' w' hL hI
        obtain ⟨k0, e0, l0, h0⟩ := hI.ends 0 rfl (hL 12 (by decide)) (hL 15 (by decide))
        have e0' : b' 12 = _ := e0
        obtain ⟨k1, e1, l1, h1⟩ := hI.ends 1 rfl (hL 13 (by decide)) (hL 16 (by decide))
        have e1' : b' 13 = _ := e1
        obtain ⟨k2, e2, l2, h2⟩ := hI.ends 2 rfl (hL 14 (by decide)) (hL 17 (by decide))
        have e2' : b' 14 = _ := e2
        clear hFr
        obtain ⟨zz, rfl⟩ := hI.kept
        clear hI hL
        obtain ⟨i0, rfl, -, t0, d0, f0⟩ := late_at h0 l0
        obtain ⟨i1, rfl, -, t1, d1, f1⟩ := late_at h1 l1
        obtain ⟨i2, rfl, -, t2, d2, f2⟩ := late_at h2 l2
        clear h0 h1 h2 l0 l1 l2 e0 e1 e2
        simp only [e0', e1', e2']
        clear e0' e1' e2'
        go_wp2_with fail
        ((first | refine wp_region_tail 5 (by kernel_rfl) (by kernel_rfl) ?_); simp only [List.take_succ_cons, List.take_zero, List.drop_succ_cons, List.drop_zero]; (repeat (go_big_quiet_step (first | (go_at_call 68; exact Calls.kept_of (r2across_any _ _ _ _ _ _ _ _ _ _ (by omega))) | (go_at_call 99; exact Calls.kept_of (r2dotd_any _ _ _ _ _ _ _ (by omega))) | (go_at_call 98; exact Calls.kept_same (r2sgn_any _ _))))); refine wpQuiet_nil ?_; intro x)
        have hth := HTH.out
        simp only [hth]
        clear hth
        go_wp2_with fail
        by_cases h0 : s = th
        case neg =>
          have HN := Lib.hid (show wsum P F q0 q1 q2 (k + 1) = z by rw [HSU.out, if_neg (fun h => h0 h.1)]; omega)
          have g1 : (s == th) = false := by simpa using h0
          have g2 : decide (s = th) = false := by simpa using h0
          have hs := HSS.out.1
          ((first | refine wp_region_kept (by kernel_rfl) (by kernel_rfl) ?_); (repeat (go_big_quiet_step (first | (go_at_call 68; exact Calls.kept_of (r2across_any _ _ _ _ _ _ _ _ _ _ (by omega))) | (go_at_call 99; exact Calls.kept_of (r2dotd_any _ _ _ _ _ _ _ (by omega))) | (go_at_call 98; exact Calls.kept_same (r2sgn_any _ _))))); refine wpQuiet_nil ?_; intro x)
          simp only [hs]
          clear hs
          go_wp2_with fail
          go_roundw
          case rel => exact ⟨k + 1, by omega, by go_num, by rw [HN.out], show Kept _ _ by (repeat (first | exact Kept.refl _ | assumption | refine Kept.alloc ?_ _ | refine Kept.ext ?_ _ | refine Kept.drew ?_ | refine Kept.drewN ?_ _))⟩
          case measure => simp [intOf]; omega
        subst h0
        have hs := HSS.out.1
        ((first | refine wp_region_kept (by kernel_rfl) (by kernel_rfl) ?_); (repeat (go_big_quiet_step (first | (go_at_call 68; exact Calls.kept_of (r2across_any _ _ _ _ _ _ _ _ _ _ (by omega))) | (go_at_call 99; exact Calls.kept_of (r2dotd_any _ _ _ _ _ _ _ (by omega))) | (go_at_call 98; exact Calls.kept_same (r2sgn_any _ _))))); refine wpQuiet_nil ?_; intro x)
        simp only [hs]
        clear hs
        go_wp2_with fail
        by_cases h1 : a1 = s
        case neg =>
          have HN := Lib.hid (show wsum P F q0 q1 q2 (k + 1) = z by rw [HSU.out, if_neg (fun h => h1 h.2.1)]; omega)
          have g1 : (a1 == s) = false := by simpa using h1
          have g2 : decide (a1 = s) = false := by simpa using h1
          have hs1 := HSS.out.2.1
          ((first | refine wp_region_kept (by kernel_rfl) (by kernel_rfl) ?_); (repeat (go_big_quiet_step (first | (go_at_call 100; exact Calls.kept_of (r2cross_any _ _ _ _ _ _ _ (by omega))) | (go_at_call 99; exact Calls.kept_of (r2dotd_any _ _ _ _ _ _ _ (by omega))) | (go_at_call 98; exact Calls.kept_same (r2sgn_any _ _))))); refine wpQuiet_nil ?_; intro x)
          simp only [hs1]
          clear hs1
          go_wp2_with fail
          go_roundw
          case rel => exact ⟨k + 1, by omega, by go_num, by rw [HN.out], show Kept _ _ by (repeat (first | exact Kept.refl _ | assumption | refine Kept.alloc ?_ _ | refine Kept.ext ?_ _ | refine Kept.drew ?_ | refine Kept.drewN ?_ _))⟩
          case measure => simp [intOf]; omega
        by_cases h2 : a2 = s
        case neg =>
          have HN := Lib.hid (show wsum P F q0 q1 q2 (k + 1) = z by rw [HSU.out, if_neg (fun h => h2 h.2.2.1)]; omega)
          have g1 : (a2 == s) = false := by simpa using h2
          have g2 : decide (a2 = s) = false := by simpa using h2
          have hs1 := HSS.out.2.1
          have hs2 := HSS.out.2.2.1
          ((first | refine wp_region_kept (by kernel_rfl) (by kernel_rfl) ?_); (repeat (go_big_quiet_step (first | (go_at_call 100; exact Calls.kept_of (r2cross_any _ _ _ _ _ _ _ (by omega))) | (go_at_call 99; exact Calls.kept_of (r2dotd_any _ _ _ _ _ _ _ (by omega))) | (go_at_call 98; exact Calls.kept_same (r2sgn_any _ _))))); refine wpQuiet_nil ?_; intro x)
          simp only [hs1, hs2]
          clear hs1 hs2
          go_wp2_with fail
          go_roundw
          case rel => exact ⟨k + 1, by omega, by go_num, by rw [HN.out], show Kept _ _ by (repeat (first | exact Kept.refl _ | assumption | refine Kept.alloc ?_ _ | refine Kept.ext ?_ _ | refine Kept.drew ?_ | refine Kept.drewN ?_ _))⟩
          case measure => simp [intOf]; omega
        by_cases h3 : a3 = s
        case neg =>
          have HN := Lib.hid (show wsum P F q0 q1 q2 (k + 1) = z by rw [HSU.out, if_neg (fun h => h3 h.2.2.2)]; omega)
          have g1 : (a3 == s) = false := by simpa using h3
          have g2 : decide (a3 = s) = false := by simpa using h3
          have hs1 := HSS.out.2.1
          have hs2 := HSS.out.2.2.1
          have hs3 := HSS.out.2.2.2
          ((first | refine wp_region_kept (by kernel_rfl) (by kernel_rfl) ?_); (repeat (go_big_quiet_step (first | (go_at_call 100; exact Calls.kept_of (r2cross_any _ _ _ _ _ _ _ (by omega))) | (go_at_call 99; exact Calls.kept_of (r2dotd_any _ _ _ _ _ _ _ (by omega))) | (go_at_call 98; exact Calls.kept_same (r2sgn_any _ _))))); refine wpQuiet_nil ?_; intro x)
          simp only [hs1, hs2, hs3]
          clear hs1 hs2 hs3
          go_wp2_with fail
          go_roundw
          case rel => exact ⟨k + 1, by omega, by go_num, by rw [HN.out], show Kept _ _ by (repeat (first | exact Kept.refl _ | assumption | refine Kept.alloc ?_ _ | refine Kept.ext ?_ _ | refine Kept.drew ?_ | refine Kept.drewN ?_ _))⟩
          case measure => simp [intOf]; omega
        have HN := Lib.hid (show wsum P F q0 q1 q2 (k + 1) = z + s by rw [HSU.out, if_pos (by simp [h1, h2, h3])])
        have hs1 := HSS.out.2.1.trans h1
        have hs2 := HSS.out.2.2.1.trans h2
        have hs3 := HSS.out.2.2.2.trans h3
        ((first | refine wp_region_kept (by kernel_rfl) (by kernel_rfl) ?_); (repeat (go_big_quiet_step (first | (go_at_call 100; exact Calls.kept_of (r2cross_any _ _ _ _ _ _ _ (by omega))) | (go_at_call 99; exact Calls.kept_of (r2dotd_any _ _ _ _ _ _ _ (by omega))) | (go_at_call 98; exact Calls.kept_same (r2sgn_any _ _))))); refine wpQuiet_nil ?_; intro x)
        simp only [hs1, hs2, hs3]
        clear hs1 hs2 hs3
        go_wp2_with fail
        go_roundw
        case rel => exact ⟨k + 1, by omega, by go_num, by rw [HN.out], show Kept _ _ by (repeat (first | exact Kept.refl _ | assumption | refine Kept.alloc ?_ _ | refine Kept.ext ?_ _ | refine Kept.drew ?_ | refine Kept.drewN ?_ _))⟩
        case measure => simp [intOf]; omega
    · obtain rfl : k = m := by omega
      go_wp2_with fail
      refine bodyPost_ret (by simp only [results, Try.results45]; go_simp; rfl) rfl ?_
      exact ⟨rfl, by (repeat (first | exact Kept.refl _ | assumption | refine Kept.alloc ?_ _ | refine Kept.ext ?_ _ | refine Kept.drew ?_ | refine Kept.drewN ?_ _))⟩
end Go.Proofs.Ytoadlneneijfaaa
