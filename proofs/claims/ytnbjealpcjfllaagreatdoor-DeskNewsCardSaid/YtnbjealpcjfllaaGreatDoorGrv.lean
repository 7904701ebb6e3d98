/- Contract: the error of a mesh, of the reference. Conditions: the lists' lengths are ints. -/
import Derived.Test.YtnbjealpcjfllaaGreatDoorGva
import Derived.Test.YtnbjealpcjfllaaGreatDoorGrq
namespace Go.Proofs.YtnbjealpcjfllaaGreatDoor
set_option linter.unusedVariables false
set_option linter.unusedSimpArgs false
open Go.RowKit Go.Maps
set_option maxRecDepth 100000 in
set_option maxHeartbeats 40000000 in
theorem r2validate_any (A B : Option Addr) (n cap m cap2 : Nat) (P F : Nat → Nat → Int) (w : World) (hn : n ≤ 9223372036854775807 ∧ m ≤ 9223372036854775807) (hP : RowsAt w A n 3 P) (hF : RowsAt w B m 3 F) :
    Calls Tryz.prog 89 #[.agg #[.slice A n cap, .slice B m cap2]] w fun r w' => r = .returned (.int .i64 (validE n P m F)) ∧ Kept w w' := by
  obtain ⟨hn1, hn2⟩ := hn
  have HP := Lib.hid hP
  have HF := Lib.hid hF
  have IF := rows_I hF
  clear hP hF
  have hfr := frB_range m
  by_cases h1 : 64 < n
  · rw [validE_4a h1]
    clear hfr
    go_enter Tryz.func89, Tryz.ntmps89
    go_wp2_with fail
    go_ret
    exact ⟨rfl, by (repeat (first | exact Kept.refl _ | assumption | refine Kept.alloc ?_ _ | refine Kept.ext ?_ _ | refine Kept.drew ?_ | refine Kept.drewN ?_ _))⟩
  have h1' : n ≤ 64 := by omega
  by_cases h2 : 1 ≤ m ∧ m ≤ 96
  case neg =>
    rw [validE_4b h2]
    rw [decide_eq_false h2] at hfr
    clear h2
    go_enter Tryz.func89, Tryz.ntmps89
    go_wp2_with (first | (go_at_call 129; refine (r2within_any _ _ _ _).mono ?_; rintro e w1 ⟨rfl, rfl⟩))
    go_ret
    exact ⟨rfl, by (repeat (first | exact Kept.refl _ | assumption | refine Kept.alloc ?_ _ | refine Kept.ext ?_ _ | refine Kept.drew ?_ | refine Kept.drewN ?_ _))⟩
  rw [decide_eq_true h2] at hfr
  obtain ⟨i0, hi, hz0, hz1, hz2⟩ := info_parts infoBool
  have HI := Lib.hid (And.intro hi (And.intro hz0 (And.intro hz1 hz2)))
  clear hi hz0 hz1 hz2
  go_enter Tryz.func89, Tryz.ntmps89
  go_wp2_with (first | (go_at_call 129; refine (r2within_any _ _ _ _).mono ?_; rintro e w1 ⟨rfl, rfl⟩))
  clear hfr
  go_loopw [3] (fun i wr => ∃ k : Nat, k ≤ n ∧ i = .int .i64 k ∧ (∀ j, j < k → ptBad P j = false) ∧ (∃ y, wr = ext (w.alloc (.cells #[.slice A n cap, .slice B m cap2] 42)) y)) (fun i _ => n - (intOf i).toNat)
  case atStart => exact ⟨0, by omega, rfl, fun j h => by omega, show Kept _ _ by (repeat (first | exact Kept.refl _ | assumption | refine Kept.alloc ?_ _ | refine Kept.ext ?_ _ | refine Kept.drew ?_ | refine Kept.drewN ?_ _))⟩
  case round =>
    obtain ⟨k, hk, rfl, hz, y, rfl⟩ := hrel
    have HZ := Lib.hid hz
    clear hz
    by_cases hlt : k < n
    · obtain ⟨fb, off, rfl, hb, f0, f1, f2⟩ := rows3 HP.out hlt
      have LB : Lower fb w.heap.size := ⟨hb⟩
      have bad1 : ptBad P k = true → validE n P m F = 1 := fun h => validE_1 h1' h2 (any_true hlt h)
      cases hin : inB (P k 0) (P k 1) (P k 2) 64
      · have HV1 := Lib.hid (bad1 (by unfold ptBad; rw [hin]; rfl))
        go_wp2_with (first | (go_at_call 130; refine (r2near_any _ _ _ _ _ (by omega)).mono ?_; rintro e w1 ⟨rfl, x, rfl⟩))
        go_ret
        rw [HV1.out]
        exact ⟨rfl, by (repeat (first | exact Kept.refl _ | assumption | refine Kept.alloc ?_ _ | refine Kept.ext ?_ _ | refine Kept.drew ?_ | refine Kept.drewN ?_ _))⟩
      · go_wp2_with (first | (go_at_call 130; refine (r2near_any _ _ _ _ _ (by omega)).mono ?_; rintro e w1 ⟨rfl, x, rfl⟩))
        go_loopw [4] (fun i wr => ∃ q : Nat, q ≤ k ∧ i = .int .i64 q ∧ (∀ j, j < q → eqPt P k j = false) ∧ (∃ z, wr = ext (w.alloc (.cells #[.slice (some ⟨fb, off, none⟩) n cap, .slice B m cap2] 42)) z)) (fun i _ => k - (intOf i).toNat)
        case atStart => exact ⟨0, by omega, rfl, fun j h => by omega, show Kept _ _ by (repeat (first | exact Kept.refl _ | assumption | refine Kept.alloc ?_ _ | refine Kept.ext ?_ _ | refine Kept.drew ?_ | refine Kept.drewN ?_ _))⟩
        case round =>
          obtain ⟨q, hq, rfl, hz2, z, rfl⟩ := hrel
          have HZ2 := Lib.hid hz2
          clear hz2
          by_cases hlt2 : q < k
          · obtain ⟨fb2, off2, e, -, g0, g1, g2⟩ := rows3 HP.out (show q < n by omega)
            cases e
            by_cases e0 : P k 0 = P q 0
            · by_cases e1 : P k 1 = P q 1
              · by_cases e2 : P k 2 = P q 2
                · have HV1 := Lib.hid (bad1 (by unfold ptBad; rw [any_true hlt2 (show eqPt P k q = true by unfold eqPt; rw [decide_eq_true e0, decide_eq_true e1, decide_eq_true e2]; rfl)]; exact Bool.or_true _))
                  go_wp2_with fail
                  ((first | (with_reducible refine wp_region_kept2 (by kernel_rfl) (by kernel_rfl) ?_) | refine wp_region_kept (by kernel_rfl) (by kernel_rfl) ?_); (repeat (go_big_quiet_step (first | fail))); refine wpQuiet_nil ?_; intro x)
                  go_wp2_with fail
                  go_ret
                  rw [HV1.out]
                  exact ⟨rfl, by (repeat (first | exact Kept.refl _ | assumption | refine Kept.alloc ?_ _ | refine Kept.ext ?_ _ | refine Kept.drew ?_ | refine Kept.drewN ?_ _))⟩
                · have HG := Lib.hid (show eqPt P k q = false by unfold eqPt; rw [decide_eq_false e2]; simp)
                  go_wp2_with fail
                  ((first | (with_reducible refine wp_region_kept2 (by kernel_rfl) (by kernel_rfl) ?_) | refine wp_region_kept (by kernel_rfl) (by kernel_rfl) ?_); (repeat (go_big_quiet_step (first | fail))); refine wpQuiet_nil ?_; intro x)
                  go_wp2_with fail
                  go_roundw
                  case rel => exact ⟨q + 1, by omega, by go_num, fun i hi => by
                      by_cases e : i = q
                      · subst e; exact HG.out
                      · exact HZ2.out i (by omega), show Kept _ _ by (repeat (first | exact Kept.refl _ | assumption | refine Kept.alloc ?_ _ | refine Kept.ext ?_ _ | refine Kept.drew ?_ | refine Kept.drewN ?_ _))⟩
                  case measure => simp [intOf]; omega
              · have HG := Lib.hid (show eqPt P k q = false by unfold eqPt; rw [decide_eq_false e1]; simp)
                go_wp2_with fail
                ((first | (with_reducible refine wp_region_kept2 (by kernel_rfl) (by kernel_rfl) ?_) | refine wp_region_kept (by kernel_rfl) (by kernel_rfl) ?_); (repeat (go_big_quiet_step (first | fail))); refine wpQuiet_nil ?_; intro x)
                go_wp2_with fail
                go_roundw
                case rel => exact ⟨q + 1, by omega, by go_num, fun i hi => by
                    by_cases e : i = q
                    · subst e; exact HG.out
                    · exact HZ2.out i (by omega), show Kept _ _ by (repeat (first | exact Kept.refl _ | assumption | refine Kept.alloc ?_ _ | refine Kept.ext ?_ _ | refine Kept.drew ?_ | refine Kept.drewN ?_ _))⟩
                case measure => simp [intOf]; omega
            · have HG := Lib.hid (show eqPt P k q = false by unfold eqPt; rw [decide_eq_false e0]; simp)
              go_wp2_with fail
              ((first | (with_reducible refine wp_region_kept2 (by kernel_rfl) (by kernel_rfl) ?_) | refine wp_region_kept (by kernel_rfl) (by kernel_rfl) ?_); (repeat (go_big_quiet_step (first | fail))); refine wpQuiet_nil ?_; intro x)
              go_wp2_with fail
              go_roundw
              case rel => exact ⟨q + 1, by omega, by go_num, fun i hi => by
                  by_cases e : i = q
                  · subst e; exact HG.out
                  · exact HZ2.out i (by omega), show Kept _ _ by (repeat (first | exact Kept.refl _ | assumption | refine Kept.alloc ?_ _ | refine Kept.ext ?_ _ | refine Kept.drew ?_ | refine Kept.drewN ?_ _))⟩
              case measure => simp [intOf]; omega
          · obtain rfl : q = k := by omega
            have hg : ptBad P q = false := by
              unfold ptBad
              rw [hin, any_false HZ2.out]
              rfl
            have HG := Lib.hid hg
            clear hg
            go_wp2_with fail
            go_roundw
            case rel => exact ⟨q + 1, by omega, by go_num, fun i hi => by
                by_cases e : i = q
                · subst e; exact HG.out
                · exact HZ.out i (by omega), show Kept _ _ by (repeat (first | exact Kept.refl _ | assumption | refine Kept.alloc ?_ _ | refine Kept.ext ?_ _ | refine Kept.drew ?_ | refine Kept.drewN ?_ _))⟩
            case measure => simp [intOf]; omega
    · have HB := Lib.hid (show ptsBad P n = false from any_false fun i hi => HZ.out i (by omega))
      clear HZ
      have hkn : ((k : Int) < (n : Int)) = False := eq_false (by omega)
      go_wp2_with (at_make; refine wpList_make_row _ rfl _ _ _ rfl 4 i0 _ Tryz.underlying185 HI.out.1 HI.out.2.1 HI.out.2.2.1 rfl .i64 .i64 n rfl rfl ?_ (by omega) ?_)
      · rw [HI.out.2.2.2]; omega
      clear hkn hlt hk
      go_loopw [6] (fun i wr => ∃ k : Nat, k ≤ m ∧ i = .int .i64 k ∧ (∀ j, j < k → faceE n P F j = 0) ∧ (∃ z, wr = ext (ext (w.alloc (.cells #[.slice A n cap, .slice B m cap2] 42)) y) z) ∧ RowU wr (adv (w.heap.size + 1) y.obs.size) n (usedB F k)) (fun i _ => m - (intOf i).toNat)
      case atStart => exact ⟨0, by omega, rfl, fun j h => by omega, show Kept _ _ by (repeat (first | exact Kept.refl _ | assumption | refine Kept.alloc ?_ _ | refine Kept.ext ?_ _ | refine Kept.drew ?_ | refine Kept.drewN ?_ _)), by
        have := RowU.made (ext (w.alloc (.cells #[.slice A n cap, .slice B m cap2] 42)) y) n 4
        rw [ext_size, World.size_alloc] at this
        exact this⟩
      case round =>
        obtain ⟨k, hk, rfl, hz, ⟨z, rfl⟩, hU⟩ := hrel
        have HZ := Lib.hid hz
        have HU := Lib.hid hU
        clear hz hU
        by_cases hlt : k < m
        · obtain ⟨fb, off, rfl, hb, f0, f1, f2⟩ := rows3 HF.out hlt
          have LB : Lower fb w.heap.size := ⟨hb⟩
          have badf : faceE n P F k ≠ 0 → validE n P m F = faceE n P F k := fun h => by
            have hv := validE_f h1' h2 HB.out (by rw [facesE_hit HZ.out h hlt]; exact h)
            rw [facesE_hit HZ.out h hlt] at hv
            exact hv
          have HBF := Lib.hid badf
          clear badf
          go_wp2_with fail
          refine wp_loop_rounds 4 ?_
          rw [rounds_succ]
          by_cases c0 : 0 ≤ F k 0 ∧ F k 0 < n
          case neg =>
            have hfe : faceE n P F k = 5 := by unfold faceE cornB; rw [decide_eq_false c0]; rfl
            have hv := HBF.out (by rw [hfe]; omega)
            rw [hfe] at hv
            have HV := Lib.hid hv
            clear hfe hv
            rcases (show F k 0 < 0 ∨ (0 ≤ F k 0 ∧ (n : Int) ≤ F k 0) by omega) with c5 | ⟨c5, c6⟩
            · go_wp2_with fail
              go_ret
              rw [HV.out]
              exact ⟨rfl, by (repeat (first | exact Kept.refl _ | assumption | refine Kept.alloc ?_ _ | refine Kept.ext ?_ _ | refine Kept.drew ?_ | refine Kept.drewN ?_ _))⟩
            · go_wp2_with fail
              go_ret
              rw [HV.out]
              exact ⟨rfl, by (repeat (first | exact Kept.refl _ | assumption | refine Kept.alloc ?_ _ | refine Kept.ext ?_ _ | refine Kept.drew ?_ | refine Kept.drewN ?_ _))⟩
          go_wp2_with (refine wp_putU _ rfl _ _ rfl (adv (w.heap.size + 1) y.obs.size) n _ (HU.out.kept (by (repeat (first | exact Kept.refl _ | assumption | refine Kept.alloc ?_ _ | refine Kept.ext ?_ _ | refine Kept.drew ?_ | refine Kept.drewN ?_ _)))) (F k 0).toNat true rfl rfl (by omega) ?_; intro w2 hU2 hg2)
          have hk2 : Kept (ext (w.alloc (.cells #[.slice A n cap, .slice (some ⟨fb, off, none⟩) m cap2] 42)) y) w2 := Kept.map_store (by (repeat (first | exact Kept.refl _ | assumption | refine Kept.alloc ?_ _ | refine Kept.ext ?_ _ | refine Kept.drew ?_ | refine Kept.drewN ?_ _))) (by simp) hg2
          obtain ⟨z1, rfl⟩ := hk2
          have HU1 := Lib.hid hU2
          clear hU2 hg2
          rw [rounds_succ]
          by_cases c1 : 0 ≤ F k 1 ∧ F k 1 < n
          case neg =>
            have hfe : faceE n P F k = 5 := by unfold faceE cornB; rw [decide_eq_true c0, decide_eq_false c1]; rfl
            have hv := HBF.out (by rw [hfe]; omega)
            rw [hfe] at hv
            have HV := Lib.hid hv
            clear hfe hv
            rcases (show F k 1 < 0 ∨ (0 ≤ F k 1 ∧ (n : Int) ≤ F k 1) by omega) with c5 | ⟨c5, c6⟩
            · go_wp2_with fail
              go_ret
              rw [HV.out]
              exact ⟨rfl, by (repeat (first | exact Kept.refl _ | assumption | refine Kept.alloc ?_ _ | refine Kept.ext ?_ _ | refine Kept.drew ?_ | refine Kept.drewN ?_ _))⟩
            · go_wp2_with fail
              go_ret
              rw [HV.out]
              exact ⟨rfl, by (repeat (first | exact Kept.refl _ | assumption | refine Kept.alloc ?_ _ | refine Kept.ext ?_ _ | refine Kept.drew ?_ | refine Kept.drewN ?_ _))⟩
          go_wp2_with (refine wp_putU _ rfl _ _ rfl (adv (w.heap.size + 1) y.obs.size) n _ (HU1.out.kept (by (repeat (first | exact Kept.refl _ | assumption | refine Kept.alloc ?_ _ | refine Kept.ext ?_ _ | refine Kept.drew ?_ | refine Kept.drewN ?_ _)))) (F k 1).toNat true rfl rfl (by omega) ?_; intro w2 hU2 hg2)
          have hk2 : Kept (ext (w.alloc (.cells #[.slice A n cap, .slice (some ⟨fb, off, none⟩) m cap2] 42)) y) w2 := Kept.map_store (by (repeat (first | exact Kept.refl _ | assumption | refine Kept.alloc ?_ _ | refine Kept.ext ?_ _ | refine Kept.drew ?_ | refine Kept.drewN ?_ _))) (by simp) hg2
          obtain ⟨z2, rfl⟩ := hk2
          have HU2 := Lib.hid hU2
          clear hU2 hg2
          rw [rounds_succ]
          by_cases c2 : 0 ≤ F k 2 ∧ F k 2 < n
          case neg =>
            have hfe : faceE n P F k = 5 := by unfold faceE cornB; rw [decide_eq_true c0, decide_eq_true c1, decide_eq_false c2]; rfl
            have hv := HBF.out (by rw [hfe]; omega)
            rw [hfe] at hv
            have HV := Lib.hid hv
            clear hfe hv
            rcases (show F k 2 < 0 ∨ (0 ≤ F k 2 ∧ (n : Int) ≤ F k 2) by omega) with c5 | ⟨c5, c6⟩
            · go_wp2_with fail
              go_ret
              rw [HV.out]
              exact ⟨rfl, by (repeat (first | exact Kept.refl _ | assumption | refine Kept.alloc ?_ _ | refine Kept.ext ?_ _ | refine Kept.drew ?_ | refine Kept.drewN ?_ _))⟩
            · go_wp2_with fail
              go_ret
              rw [HV.out]
              exact ⟨rfl, by (repeat (first | exact Kept.refl _ | assumption | refine Kept.alloc ?_ _ | refine Kept.ext ?_ _ | refine Kept.drew ?_ | refine Kept.drewN ?_ _))⟩
          go_wp2_with (refine wp_putU _ rfl _ _ rfl (adv (w.heap.size + 1) y.obs.size) n _ (HU2.out.kept (by (repeat (first | exact Kept.refl _ | assumption | refine Kept.alloc ?_ _ | refine Kept.ext ?_ _ | refine Kept.drew ?_ | refine Kept.drewN ?_ _)))) (F k 2).toNat true rfl rfl (by omega) ?_; intro w2 hU2 hg2)
          have hk2 : Kept (ext (w.alloc (.cells #[.slice A n cap, .slice (some ⟨fb, off, none⟩) m cap2] 42)) y) w2 := Kept.map_store (by (repeat (first | exact Kept.refl _ | assumption | refine Kept.alloc ?_ _ | refine Kept.ext ?_ _ | refine Kept.drew ?_ | refine Kept.drewN ?_ _))) (by simp) hg2
          obtain ⟨z3, rfl⟩ := hk2
          have HU3 := Lib.hid hU2
          clear hU2 hg2
          rw [rounds_succ]
          have HCB := Lib.hid (show cornB n F k = true by unfold cornB; rw [decide_eq_true c0, decide_eq_true c1, decide_eq_true c2]; rfl)
          have b0 := co_bd HB.out c0
          have b1 := co_bd HB.out c1
          have b2 := co_bd HB.out c2
          by_cases e0 : nX (co P F k 0 0) (co P F k 0 1) (co P F k 0 2) (co P F k 1 0) (co P F k 1 1) (co P F k 1 2) (co P F k 2 0) (co P F k 2 1) (co P F k 2 2) = 0
          · by_cases e1 : nY (co P F k 0 0) (co P F k 0 1) (co P F k 0 2) (co P F k 1 0) (co P F k 1 1) (co P F k 1 2) (co P F k 2 0) (co P F k 2 1) (co P F k 2 2) = 0
            · by_cases e2 : nZ (co P F k 0 0) (co P F k 0 1) (co P F k 0 2) (co P F k 1 0) (co P F k 1 1) (co P F k 1 2) (co P F k 2 0) (co P F k 2 1) (co P F k 2 2) = 0
              · have hfe : faceE n P F k = 6 := by unfold faceE flatB; rw [if_pos HCB.out, if_pos (decide_eq_true ⟨e0, e1, e2⟩)]
                have hv := HBF.out (by rw [hfe]; omega)
                rw [hfe] at hv
                have HV := Lib.hid hv
                clear hfe hv
                go_wp2_with (first | (go_at_call 132; refine (r2corners_any _ _ _ _ _ _ P F k _ HCB.out (by omega) (HP.out.of (by (repeat (first | exact Kept.refl _ | assumption | refine Kept.alloc ?_ _ | refine Kept.ext ?_ _ | refine Kept.drew ?_ | refine Kept.drewN ?_ _)))) (HF.out.of (by (repeat (first | exact Kept.refl _ | assumption | refine Kept.alloc ?_ _ | refine Kept.ext ?_ _ | refine Kept.drew ?_ | refine Kept.drewN ?_ _))))).mono ?_; rintro e w1 ⟨rfl, x, rfl⟩; unfold faceV) | (go_at_call 131; refine (r2across_any _ _ _ _ _ _ _ _ _ _ (by omega)).mono ?_; rintro e w1 ⟨rfl, x, rfl⟩))
                go_ret
                rw [HV.out]
                exact ⟨rfl, by (repeat (first | exact Kept.refl _ | assumption | refine Kept.alloc ?_ _ | refine Kept.ext ?_ _ | refine Kept.drew ?_ | refine Kept.drewN ?_ _))⟩
              · have HG := Lib.hid (show faceE n P F k = 0 by unfold faceE flatB; rw [if_pos HCB.out, if_neg (by simp [e2])])
                go_wp2_with (first | (go_at_call 132; refine (r2corners_any _ _ _ _ _ _ P F k _ HCB.out (by omega) (HP.out.of (by (repeat (first | exact Kept.refl _ | assumption | refine Kept.alloc ?_ _ | refine Kept.ext ?_ _ | refine Kept.drew ?_ | refine Kept.drewN ?_ _)))) (HF.out.of (by (repeat (first | exact Kept.refl _ | assumption | refine Kept.alloc ?_ _ | refine Kept.ext ?_ _ | refine Kept.drew ?_ | refine Kept.drewN ?_ _))))).mono ?_; rintro e w1 ⟨rfl, x, rfl⟩; unfold faceV) | (go_at_call 131; refine (r2across_any _ _ _ _ _ _ _ _ _ _ (by omega)).mono ?_; rintro e w1 ⟨rfl, x, rfl⟩))
                go_roundw
                case rel => exact ⟨k + 1, by omega, by go_num, fun i hi => by
                    by_cases e : i = k
                    · subst e; exact HG.out
                    · exact HZ.out i (by omega), show Kept _ _ by (repeat (first | exact Kept.refl _ | assumption | refine Kept.alloc ?_ _ | refine Kept.ext ?_ _ | refine Kept.drew ?_ | refine Kept.drewN ?_ _)), (HU3.out.kept (by (repeat (first | exact Kept.refl _ | assumption | refine Kept.alloc ?_ _ | refine Kept.ext ?_ _ | refine Kept.drew ?_ | refine Kept.drewN ?_ _)))).congr fun i _ => used_step (n := n) HCB.out i⟩
                case measure => simp [intOf]; omega
            · have HG := Lib.hid (show faceE n P F k = 0 by unfold faceE flatB; rw [if_pos HCB.out, if_neg (by simp [e1])])
              go_wp2_with (first | (go_at_call 132; refine (r2corners_any _ _ _ _ _ _ P F k _ HCB.out (by omega) (HP.out.of (by (repeat (first | exact Kept.refl _ | assumption | refine Kept.alloc ?_ _ | refine Kept.ext ?_ _ | refine Kept.drew ?_ | refine Kept.drewN ?_ _)))) (HF.out.of (by (repeat (first | exact Kept.refl _ | assumption | refine Kept.alloc ?_ _ | refine Kept.ext ?_ _ | refine Kept.drew ?_ | refine Kept.drewN ?_ _))))).mono ?_; rintro e w1 ⟨rfl, x, rfl⟩; unfold faceV) | (go_at_call 131; refine (r2across_any _ _ _ _ _ _ _ _ _ _ (by omega)).mono ?_; rintro e w1 ⟨rfl, x, rfl⟩))
              go_roundw
              case rel => exact ⟨k + 1, by omega, by go_num, fun i hi => by
                  by_cases e : i = k
                  · subst e; exact HG.out
                  · exact HZ.out i (by omega), show Kept _ _ by (repeat (first | exact Kept.refl _ | assumption | refine Kept.alloc ?_ _ | refine Kept.ext ?_ _ | refine Kept.drew ?_ | refine Kept.drewN ?_ _)), (HU3.out.kept (by (repeat (first | exact Kept.refl _ | assumption | refine Kept.alloc ?_ _ | refine Kept.ext ?_ _ | refine Kept.drew ?_ | refine Kept.drewN ?_ _)))).congr fun i _ => used_step (n := n) HCB.out i⟩
              case measure => simp [intOf]; omega
          · have HG := Lib.hid (show faceE n P F k = 0 by unfold faceE flatB; rw [if_pos HCB.out, if_neg (by simp [e0])])
            go_wp2_with (first | (go_at_call 132; refine (r2corners_any _ _ _ _ _ _ P F k _ HCB.out (by omega) (HP.out.of (by (repeat (first | exact Kept.refl _ | assumption | refine Kept.alloc ?_ _ | refine Kept.ext ?_ _ | refine Kept.drew ?_ | refine Kept.drewN ?_ _)))) (HF.out.of (by (repeat (first | exact Kept.refl _ | assumption | refine Kept.alloc ?_ _ | refine Kept.ext ?_ _ | refine Kept.drew ?_ | refine Kept.drewN ?_ _))))).mono ?_; rintro e w1 ⟨rfl, x, rfl⟩; unfold faceV) | (go_at_call 131; refine (r2across_any _ _ _ _ _ _ _ _ _ _ (by omega)).mono ?_; rintro e w1 ⟨rfl, x, rfl⟩))
            go_roundw
            case rel => exact ⟨k + 1, by omega, by go_num, fun i hi => by
                by_cases e : i = k
                · subst e; exact HG.out
                · exact HZ.out i (by omega), show Kept _ _ by (repeat (first | exact Kept.refl _ | assumption | refine Kept.alloc ?_ _ | refine Kept.ext ?_ _ | refine Kept.drew ?_ | refine Kept.drewN ?_ _)), (HU3.out.kept (by (repeat (first | exact Kept.refl _ | assumption | refine Kept.alloc ?_ _ | refine Kept.ext ?_ _ | refine Kept.drew ?_ | refine Kept.drewN ?_ _)))).congr fun i _ => used_step (n := n) HCB.out i⟩
            case measure => simp [intOf]; omega
        · obtain rfl : k = m := by omega
          have HFZ := Lib.hid (facesE_zero HZ.out)
          have HCB := Lib.hid (fun i (hi : i < k) => (faceE_0 (HZ.out i hi)).1)
          clear HZ
          go_wp2_with fail
          go_loopw [9] (fun i wr => ∃ q : Nat, q ≤ k ∧ i = .int .i64 q ∧ (∀ j, j < q → fOpen F k j = false) ∧ (∃ z2, wr = ext (ext (ext (w.alloc (.cells #[.slice A n cap, .slice B k cap2] 42)) y) z) z2)) (fun i _ => k - (intOf i).toNat)
          case atStart => exact ⟨0, by omega, rfl, fun j h => by omega, show Kept _ _ by (repeat (first | exact Kept.refl _ | assumption | refine Kept.alloc ?_ _ | refine Kept.ext ?_ _ | refine Kept.drew ?_ | refine Kept.drewN ?_ _))⟩
          case round =>
            obtain ⟨q, hq, rfl, hz, z2, rfl⟩ := hrel
            have HZ := Lib.hid hz
            clear hz
            by_cases hlt : q < k
            · obtain ⟨fb, off, rfl, hb, f0, f1, f2⟩ := rows3 HF.out hlt
              have LB : Lower fb w.heap.size := ⟨hb⟩
              have bad7 : fOpen F k q = true → validE n P k F = 7 := fun h => validE_7 h1' h2 HB.out HFZ.out (any_true hlt h)
              have HB7 := Lib.hid bad7
              clear bad7
              go_wp2_with fail
              refine wp_loop_rounds 4 ?_
              rw [rounds_succ]
              go_wp2_with fail
              ((first | (with_reducible refine wp_region_kept2 (by kernel_rfl) (by kernel_rfl) ?_) | refine wp_region_kept (by kernel_rfl) (by kernel_rfl) ?_); (repeat (go_big_quiet_step (first | fail))); refine wpQuiet_nil ?_; intro x)
              cases hs0 : sideBad F k (F q 0) (F q 1)
              case true =>
                have HV7 := Lib.hid (HB7.out (by unfold fOpen; rw [hs0]; rfl))
                rcases side_yes hs0 with g1 | ⟨g1, g2⟩
                · have g1b : (cnt F k (F q 0) (F q 1) == 1) = false := by simpa using g1
                  have g1c : decide (cnt F k (F q 0) (F q 1) = 1) = false := by simpa using g1
                  go_wp2_with (go_at_call 133; refine (r2edges_any _ _ _ _ _ _ F _ _ _ (by omega) (HF.out.of (by (repeat (first | exact Kept.refl _ | assumption | refine Kept.alloc ?_ _ | refine Kept.ext ?_ _ | refine Kept.drew ?_ | refine Kept.drewN ?_ _))))).mono ?_; rintro e w1 ⟨rfl, x, rfl⟩)
                  all_goals first
                  | (go_ret; rw [HV7.out]; exact ⟨rfl, by (repeat (first | exact Kept.refl _ | assumption | refine Kept.alloc ?_ _ | refine Kept.ext ?_ _ | refine Kept.drew ?_ | refine Kept.drewN ?_ _))⟩)
                  | (exfalso; omega)
                · have g2b : (cnt F k (F q 1) (F q 0) == 1) = false := by simpa using g2
                  have g2c : decide (cnt F k (F q 1) (F q 0) = 1) = false := by simpa using g2
                  go_wp2_with (go_at_call 133; refine (r2edges_any _ _ _ _ _ _ F _ _ _ (by omega) (HF.out.of (by (repeat (first | exact Kept.refl _ | assumption | refine Kept.alloc ?_ _ | refine Kept.ext ?_ _ | refine Kept.drew ?_ | refine Kept.drewN ?_ _))))).mono ?_; rintro e w1 ⟨rfl, x, rfl⟩)
                  all_goals first
                  | (go_ret; rw [HV7.out]; exact ⟨rfl, by (repeat (first | exact Kept.refl _ | assumption | refine Kept.alloc ?_ _ | refine Kept.ext ?_ _ | refine Kept.drew ?_ | refine Kept.drewN ?_ _))⟩)
                  | (exfalso; omega)
              obtain ⟨g0, g0'⟩ := side_no hs0
              go_wp2_with (go_at_call 133; refine (r2edges_any _ _ _ _ _ _ F _ _ _ (by omega) (HF.out.of (by (repeat (first | exact Kept.refl _ | assumption | refine Kept.alloc ?_ _ | refine Kept.ext ?_ _ | refine Kept.drew ?_ | refine Kept.drewN ?_ _))))).mono ?_; rintro e w1 ⟨rfl, x, rfl⟩)
              clear g0 g0'
              rw [rounds_succ]
              go_wp2_with fail
              ((first | (with_reducible refine wp_region_kept2 (by kernel_rfl) (by kernel_rfl) ?_) | refine wp_region_kept (by kernel_rfl) (by kernel_rfl) ?_); (repeat (go_big_quiet_step (first | fail))); refine wpQuiet_nil ?_; intro x)
              cases hs1 : sideBad F k (F q 1) (F q 2)
              case true =>
                have HV7 := Lib.hid (HB7.out (by unfold fOpen; rw [hs0, hs1]; rfl))
                rcases side_yes hs1 with g1 | ⟨g1, g2⟩
                · have g1b : (cnt F k (F q 1) (F q 2) == 1) = false := by simpa using g1
                  have g1c : decide (cnt F k (F q 1) (F q 2) = 1) = false := by simpa using g1
                  go_wp2_with (go_at_call 133; refine (r2edges_any _ _ _ _ _ _ F _ _ _ (by omega) (HF.out.of (by (repeat (first | exact Kept.refl _ | assumption | refine Kept.alloc ?_ _ | refine Kept.ext ?_ _ | refine Kept.drew ?_ | refine Kept.drewN ?_ _))))).mono ?_; rintro e w1 ⟨rfl, x, rfl⟩)
                  all_goals first
                  | (go_ret; rw [HV7.out]; exact ⟨rfl, by (repeat (first | exact Kept.refl _ | assumption | refine Kept.alloc ?_ _ | refine Kept.ext ?_ _ | refine Kept.drew ?_ | refine Kept.drewN ?_ _))⟩)
                  | (exfalso; omega)
                · have g2b : (cnt F k (F q 2) (F q 1) == 1) = false := by simpa using g2
                  have g2c : decide (cnt F k (F q 2) (F q 1) = 1) = false := by simpa using g2
                  go_wp2_with (go_at_call 133; refine (r2edges_any _ _ _ _ _ _ F _ _ _ (by omega) (HF.out.of (by (repeat (first | exact Kept.refl _ | assumption | refine Kept.alloc ?_ _ | refine Kept.ext ?_ _ | refine Kept.drew ?_ | refine Kept.drewN ?_ _))))).mono ?_; rintro e w1 ⟨rfl, x, rfl⟩)
                  all_goals first
                  | (go_ret; rw [HV7.out]; exact ⟨rfl, by (repeat (first | exact Kept.refl _ | assumption | refine Kept.alloc ?_ _ | refine Kept.ext ?_ _ | refine Kept.drew ?_ | refine Kept.drewN ?_ _))⟩)
                  | (exfalso; omega)
              obtain ⟨g1, g1'⟩ := side_no hs1
              go_wp2_with (go_at_call 133; refine (r2edges_any _ _ _ _ _ _ F _ _ _ (by omega) (HF.out.of (by (repeat (first | exact Kept.refl _ | assumption | refine Kept.alloc ?_ _ | refine Kept.ext ?_ _ | refine Kept.drew ?_ | refine Kept.drewN ?_ _))))).mono ?_; rintro e w1 ⟨rfl, x, rfl⟩)
              clear g1 g1'
              rw [rounds_succ]
              go_wp2_with fail
              ((first | (with_reducible refine wp_region_kept2 (by kernel_rfl) (by kernel_rfl) ?_) | refine wp_region_kept (by kernel_rfl) (by kernel_rfl) ?_); (repeat (go_big_quiet_step (first | fail))); refine wpQuiet_nil ?_; intro x)
              cases hs2 : sideBad F k (F q 2) (F q 0)
              case true =>
                have HV7 := Lib.hid (HB7.out (by unfold fOpen; rw [hs0, hs1, hs2]; rfl))
                rcases side_yes hs2 with g1 | ⟨g1, g2⟩
                · have g1b : (cnt F k (F q 2) (F q 0) == 1) = false := by simpa using g1
                  have g1c : decide (cnt F k (F q 2) (F q 0) = 1) = false := by simpa using g1
                  go_wp2_with (go_at_call 133; refine (r2edges_any _ _ _ _ _ _ F _ _ _ (by omega) (HF.out.of (by (repeat (first | exact Kept.refl _ | assumption | refine Kept.alloc ?_ _ | refine Kept.ext ?_ _ | refine Kept.drew ?_ | refine Kept.drewN ?_ _))))).mono ?_; rintro e w1 ⟨rfl, x, rfl⟩)
                  all_goals first
                  | (go_ret; rw [HV7.out]; exact ⟨rfl, by (repeat (first | exact Kept.refl _ | assumption | refine Kept.alloc ?_ _ | refine Kept.ext ?_ _ | refine Kept.drew ?_ | refine Kept.drewN ?_ _))⟩)
                  | (exfalso; omega)
                · have g2b : (cnt F k (F q 0) (F q 2) == 1) = false := by simpa using g2
                  have g2c : decide (cnt F k (F q 0) (F q 2) = 1) = false := by simpa using g2
                  go_wp2_with (go_at_call 133; refine (r2edges_any _ _ _ _ _ _ F _ _ _ (by omega) (HF.out.of (by (repeat (first | exact Kept.refl _ | assumption | refine Kept.alloc ?_ _ | refine Kept.ext ?_ _ | refine Kept.drew ?_ | refine Kept.drewN ?_ _))))).mono ?_; rintro e w1 ⟨rfl, x, rfl⟩)
                  all_goals first
                  | (go_ret; rw [HV7.out]; exact ⟨rfl, by (repeat (first | exact Kept.refl _ | assumption | refine Kept.alloc ?_ _ | refine Kept.ext ?_ _ | refine Kept.drew ?_ | refine Kept.drewN ?_ _))⟩)
                  | (exfalso; omega)
              obtain ⟨g2, g2'⟩ := side_no hs2
              go_wp2_with (go_at_call 133; refine (r2edges_any _ _ _ _ _ _ F _ _ _ (by omega) (HF.out.of (by (repeat (first | exact Kept.refl _ | assumption | refine Kept.alloc ?_ _ | refine Kept.ext ?_ _ | refine Kept.drew ?_ | refine Kept.drewN ?_ _))))).mono ?_; rintro e w1 ⟨rfl, x, rfl⟩)
              clear g2 g2'
              rw [rounds_succ]
              go_wp2_with fail
              go_roundw
              case rel => exact ⟨q + 1, by omega, by go_num, fun i hi => by
                  by_cases e : i = q
                  · subst e; unfold fOpen; rw [hs0, hs1, hs2]; rfl
                  · exact HZ.out i (by omega), show Kept _ _ by (repeat (first | exact Kept.refl _ | assumption | refine Kept.alloc ?_ _ | refine Kept.ext ?_ _ | refine Kept.drew ?_ | refine Kept.drewN ?_ _))⟩
              case measure => simp [intOf]; omega
            · obtain rfl : q = k := by omega
              have HO := Lib.hid (show openB F q = false from any_false HZ.out)
              clear HZ
              have HV := Lib.hid (HU.out.kept (show Kept _ (ext (ext (ext (w.alloc (.cells #[.slice A n cap, .slice B q cap2] 42)) y) z) z2) by (repeat (first | exact Kept.refl _ | assumption | refine Kept.alloc ?_ _ | refine Kept.ext ?_ _ | refine Kept.drew ?_ | refine Kept.drewN ?_ _))))
              clear HU
              go_wp2_with fail
              go_loopw [13] (fun i wr => ∃ p : Nat, p ≤ n ∧ i = .int .i64 p ∧ (∀ j, j < p → usedB F q j = true) ∧ (∃ z3, wr = ext (ext (ext (ext (w.alloc (.cells #[.slice A n cap, .slice B q cap2] 42)) y) z) z2) z3)) (fun i _ => n - (intOf i).toNat)
              case atStart => exact ⟨0, by omega, rfl, fun j h => by omega, show Kept _ _ by (repeat (first | exact Kept.refl _ | assumption | refine Kept.alloc ?_ _ | refine Kept.ext ?_ _ | refine Kept.drew ?_ | refine Kept.drewN ?_ _))⟩
              case round =>
                obtain ⟨p, hp, rfl, hz, z3, rfl⟩ := hrel
                have HZ := Lib.hid hz
                clear hz
                by_cases hlt2 : p < n
                · have cu := (HV.out.kept (show Kept _ (ext (ext (ext (ext (w.alloc (.cells #[.slice A n cap, .slice B q cap2] 42)) y) z) z2) z3) by (repeat (first | exact Kept.refl _ | assumption | refine Kept.alloc ?_ _ | refine Kept.ext ?_ _ | refine Kept.drew ?_ | refine Kept.drewN ?_ _)))).cell p hlt2
                  cases hu : usedB F q p
                  · rw [hu] at cu
                    have HV5 := Lib.hid (validE_5 h1' h2 HB.out HFZ.out HO.out (show looseB F q n = true from any_true hlt2 (by rw [hu]; rfl)))
                    go_wp2_with fail
                    go_ret
                    rw [HV5.out]
                    exact ⟨rfl, by (repeat (first | exact Kept.refl _ | assumption | refine Kept.alloc ?_ _ | refine Kept.ext ?_ _ | refine Kept.drew ?_ | refine Kept.drewN ?_ _))⟩
                  · rw [hu] at cu
                    go_wp2_with fail
                    go_roundw
                    case rel => exact ⟨p + 1, by omega, by go_num, fun i hi => by
                        by_cases e : i = p
                        · subst e; exact hu
                        · exact HZ.out i (by omega), ⟨z3, rfl⟩⟩
                    case measure => simp [intOf]; omega
                · obtain rfl : p = n := by omega
                  have HVV := Lib.hid (validE_v h1' h2 HB.out HFZ.out HO.out (show looseB F q p = false from any_false fun i hi => by rw [HZ.out i hi]; rfl))
                  clear HZ HV
                  go_wp2_with fail
                  refine (r2volume_any _ _ _ _ _ _ P F _ (by omega) (by omega) HB.out HCB.out (HP.out.of (by (repeat (first | exact Kept.refl _ | assumption | refine Kept.alloc ?_ _ | refine Kept.ext ?_ _ | refine Kept.drew ?_ | refine Kept.drewN ?_ _)))) (HF.out.of (by (repeat (first | exact Kept.refl _ | assumption | refine Kept.alloc ?_ _ | refine Kept.ext ?_ _ | refine Kept.drew ?_ | refine Kept.drewN ?_ _))))).mono ?_
                  rintro e w1 ⟨rfl, x5, rfl⟩
                  by_cases hv : vol P F q ≤ 0
                  · go_wp2_with fail
                    go_ret
                    rw [HVV.out, if_pos hv]
                    exact ⟨rfl, by (repeat (first | exact Kept.refl _ | assumption | refine Kept.alloc ?_ _ | refine Kept.ext ?_ _ | refine Kept.drew ?_ | refine Kept.drewN ?_ _))⟩
                  · go_wp2_with fail
                    go_ret
                    rw [HVV.out, if_neg (by omega)]
                    exact ⟨rfl, by (repeat (first | exact Kept.refl _ | assumption | refine Kept.alloc ?_ _ | refine Kept.ext ?_ _ | refine Kept.drew ?_ | refine Kept.drewN ?_ _))⟩
end Go.Proofs.YtnbjealpcjfllaaGreatDoor
