/- For every input the statement ShapeTurns returns true and leaves its argument as it was. No conditions. -/
import Derived.Test.YtoadlneneijfaaaGin
import Derived.Test.YtoadlneneijfaaaGsm
import Derived.Test.YtoadlneneijfaaaGkn
import Derived.Test.YtoadlneneijfaaaOpm
namespace Go.Proofs.Ytoadlneneijfaaa
set_option linter.unusedVariables false
set_option linter.unusedSimpArgs false
open Go.ChangeShapes Go.WideShapes Go.ChangeAt Go.RowKit Go.Deep
theorem chgE_0 {n m : Nat} {P F P' F' : Nat → Nat → Int} {bad : Bool} (h : chgE n P m F bad P' F' = 0) : validE n P m F = 0 ∧ bad = false ∧ validE n P' m F' = 0 := by
  unfold chgE at h
  split at h
  · rename_i q; exact absurd h q
  · rename_i q
    split at h
    · cases h
    · rename_i q2
      exact ⟨by simpa using q, by simpa using q2, h⟩
theorem pts_I {n m : Nat} {P F : Nat → Nat → Int} (h : validE n P m F = 0) : ∀ k, k < n → ∀ j, j < 3 → I64 (P k j) := by
  intro k hk j hj
  obtain ⟨-, -, hb, -⟩ := validE_ok h
  have := ptsBad_at hb k hk
  unfold I64
  rcases (show j = 0 ∨ j = 1 ∨ j = 2 by omega) with rfl | rfl | rfl <;> omega
theorem rowsO {w : World} {base n cap : Nat} {t : TypeId} {e : Int} {A : Option Addr} {P : Nat → Nat → Int} (h : w.ownsRow base t 3 (.slice A (okN e n) cap) (okN e n) (rowC 3 P (okN e n))) (hI : e = 0 → ∀ k, k < n → ∀ j, j < 3 → I64 (P k j)) : RowsAt w A (okN e n) 3 P := by
  refine rows_of_owns h fun k hk j hj => ?_
  by_cases he : e = 0
  · rw [show okN e n = n from if_pos he] at hk
    exact hI he k hk j hj
  · rw [show okN e n = 0 from if_neg he] at hk
    omega
theorem okN_0 (n : Nat) : okN 0 n = n := rfl
set_option maxRecDepth 100000 in
set_option maxHeartbeats 16000000 in
theorem turns_law (A : Option Addr) (n cap : Nat) (P : Nat → Nat → Int) (B : Option Addr) (m cap2 : Nat) (F : Nat → Nat → Int) (w : World) (h : (n ≤ cap ∧ cap ≤ maxLen ∧ RowsAt w A n 3 P) ∧ (m ≤ cap2 ∧ cap2 ≤ maxLen ∧ RowsAt w B m 3 F)) :
    Calls Try.prog 6 #[.agg #[.slice A n cap, .slice B m cap2]] w fun r w' => r = .returned (.bool true) ∧ Kept w w' := by
  obtain ⟨⟨a1, a2, hP⟩, b1, b2, hF⟩ := h
  unfold maxLen at a2 b2
  have HP := Lib.hid hP
  have HF := Lib.hid hF
  have HPI := Lib.hid (rows_I hP)
  have HFI := Lib.hid (rows_I hF)
  clear hP hF
  have hn : n ≤ 9223372036854775807 ∧ m ≤ 9223372036854775807 := by omega
  by_cases hl : 200 < n ∨ 300 < m
  · have hl2 : (decide (200 < n) || decide (300 < m)) = true := by simpa using hl
    have HL := Lib.hid hl2
    clear hl hl2
    go_enter Try.func6, Try.ntmps6
    go_wp2_with fail
    refine (long_any _ _ _ _ _ _ _).mono ?_
    rintro r w1 ⟨rfl, x0, rfl⟩
    rw [HL.out]
    go_wp2_with (first | (go_at_call 19; refine (known_any _).mono ?_; rintro e w1 ⟨rfl, x, rfl⟩))
    go_ret
    exact ⟨rfl, by (repeat (first | exact Kept.refl _ | assumption | refine Kept.alloc ?_ _ | refine Kept.ext ?_ _ | refine Kept.drew ?_ | refine Kept.drewN ?_ _))⟩
  have hl2 : (decide (200 < n) || decide (300 < m)) = false := by simpa using hl
  have HL := Lib.hid hl2
  clear hl2
  obtain ⟨e, he⟩ : ∃ e, validE n P m F = e := ⟨_, rfl⟩
  have HT := Lib.hid (fun (h0 : e = 0) => pts_I (turn_valid (he.trans h0)))
  have HM := Lib.hid (fun (h0 : e = 0) => pts_I (mir_valid (he.trans h0)))
  have HE := Lib.hid he
  have le1 := okN_le e n
  have le2 := okN_le e m
  by_cases h0 : e = 0
  case neg =>
    have hv2 : (e == 0) = false := by simpa using h0
    have hv3 : decide (e = 0) = false := by simpa using h0
    clear he
    go_enter Try.func6, Try.ntmps6
    go_wp2_with fail
    refine (long_any _ _ _ _ _ _ _).mono ?_
    rintro r w1 ⟨rfl, x0, rfl⟩
    rw [HL.out]
    go_wp2_with fail
    refine (sturn_any _ _ _ _ _ _ P F _ hn (HP.out.of (by (repeat (first | exact Kept.refl _ | assumption | refine Kept.alloc ?_ _ | refine Kept.ext ?_ _ | refine Kept.drew ?_ | refine Kept.drewN ?_ _)))) (HF.out.of (by (repeat (first | exact Kept.refl _ | assumption | refine Kept.alloc ?_ _ | refine Kept.ext ?_ _ | refine Kept.drew ?_ | refine Kept.drewN ?_ _))))).mono ?_
    rw [turn_e, HE.out]
    rintro r w1 ⟨A3, c3, B3, d3, rfl, ⟨x3, rfl⟩, ho1, ho2⟩
    have H3 := Lib.hid ho1
    have H4 := Lib.hid ho2
    clear ho1 ho2
    go_wp2_with fail
    refine (r2turn_any _ _ _ _ _ _ P F _ hn (HP.out.of (by (repeat (first | exact Kept.refl _ | assumption | refine Kept.alloc ?_ _ | refine Kept.ext ?_ _ | refine Kept.drew ?_ | refine Kept.drewN ?_ _)))) (HF.out.of (by (repeat (first | exact Kept.refl _ | assumption | refine Kept.alloc ?_ _ | refine Kept.ext ?_ _ | refine Kept.drew ?_ | refine Kept.drewN ?_ _))))).mono ?_
    rw [turn_e, HE.out]
    rintro r w1 ⟨A4, c4, B4, d4, rfl, ⟨x4, rfl⟩, ho1, ho2⟩
    have H5 := Lib.hid ho1
    have H6 := Lib.hid ho2
    clear ho1 ho2
    go_wp2_with fail
    refine (smirror_any _ _ _ _ _ _ P F _ hn (HP.out.of (by (repeat (first | exact Kept.refl _ | assumption | refine Kept.alloc ?_ _ | refine Kept.ext ?_ _ | refine Kept.drew ?_ | refine Kept.drewN ?_ _)))) (HF.out.of (by (repeat (first | exact Kept.refl _ | assumption | refine Kept.alloc ?_ _ | refine Kept.ext ?_ _ | refine Kept.drew ?_ | refine Kept.drewN ?_ _))))).mono ?_
    rw [mir_e, HE.out]
    rintro r w1 ⟨A5, c5, B5, d5, rfl, ⟨x5, rfl⟩, ho1, ho2⟩
    have H7 := Lib.hid ho1
    have H8 := Lib.hid ho2
    clear ho1 ho2
    go_wp2_with fail
    refine (r2mirror_any _ _ _ _ _ _ P F _ hn (HP.out.of (by (repeat (first | exact Kept.refl _ | assumption | refine Kept.alloc ?_ _ | refine Kept.ext ?_ _ | refine Kept.drew ?_ | refine Kept.drewN ?_ _)))) (HF.out.of (by (repeat (first | exact Kept.refl _ | assumption | refine Kept.alloc ?_ _ | refine Kept.ext ?_ _ | refine Kept.drew ?_ | refine Kept.drewN ?_ _))))).mono ?_
    rw [mir_e, HE.out]
    rintro r w1 ⟨A6, c6, B6, d6, rfl, ⟨x6, rfl⟩, ho1, ho2⟩
    have H9 := Lib.hid ho1
    have H10 := Lib.hid ho2
    clear ho1 ho2
    go_wp2_with fail
    refine (same_any _ _ _ _ _ _ _ _ _ _ (turnP P) F _ (by omega) ((rowsO H3.out HT.out).of (by (repeat (first | exact Kept.refl _ | assumption | refine Kept.alloc ?_ _ | refine Kept.ext ?_ _ | refine Kept.drew ?_ | refine Kept.drewN ?_ _)))) ((rowsO H4.out (fun _ => HFI.out)).of (by (repeat (first | exact Kept.refl _ | assumption | refine Kept.alloc ?_ _ | refine Kept.ext ?_ _ | refine Kept.drew ?_ | refine Kept.drewN ?_ _)))) ((rowsO H5.out HT.out).of (by (repeat (first | exact Kept.refl _ | assumption | refine Kept.alloc ?_ _ | refine Kept.ext ?_ _ | refine Kept.drew ?_ | refine Kept.drewN ?_ _)))) ((rowsO H6.out (fun _ => HFI.out)).of (by (repeat (first | exact Kept.refl _ | assumption | refine Kept.alloc ?_ _ | refine Kept.ext ?_ _ | refine Kept.drew ?_ | refine Kept.drewN ?_ _))))).mono ?_
    rintro r w1 ⟨rfl, x7, rfl⟩
    go_wp2_with fail
    refine (same_any _ _ _ _ _ _ _ _ _ _ (mirP P) (mirF F) _ (by omega) ((rowsO H7.out HM.out).of (by (repeat (first | exact Kept.refl _ | assumption | refine Kept.alloc ?_ _ | refine Kept.ext ?_ _ | refine Kept.drew ?_ | refine Kept.drewN ?_ _)))) ((rowsO H8.out (fun _ => mirF_I HFI.out)).of (by (repeat (first | exact Kept.refl _ | assumption | refine Kept.alloc ?_ _ | refine Kept.ext ?_ _ | refine Kept.drew ?_ | refine Kept.drewN ?_ _)))) ((rowsO H9.out HM.out).of (by (repeat (first | exact Kept.refl _ | assumption | refine Kept.alloc ?_ _ | refine Kept.ext ?_ _ | refine Kept.drew ?_ | refine Kept.drewN ?_ _)))) ((rowsO H10.out (fun _ => mirF_I HFI.out)).of (by (repeat (first | exact Kept.refl _ | assumption | refine Kept.alloc ?_ _ | refine Kept.ext ?_ _ | refine Kept.drew ?_ | refine Kept.drewN ?_ _))))).mono ?_
    rintro r w1 ⟨rfl, x8, rfl⟩
    go_wp2_with (first | (go_at_call 19; refine (known_any _).mono ?_; rintro e w1 ⟨rfl, x, rfl⟩))
    go_ret
    exact ⟨rfl, by (repeat (first | exact Kept.refl _ | assumption | refine Kept.alloc ?_ _ | refine Kept.ext ?_ _ | refine Kept.drew ?_ | refine Kept.drewN ?_ _))⟩
  subst h0
  have V1 := turn_valid he
  have V2 := turn_valid V1
  have V3 := turn_valid V2
  have V4 := mir_valid he
  have HI2 := Lib.hid (pts_I V2)
  have HI3 := Lib.hid (pts_I V3)
  have HI4 := Lib.hid (pts_I (turn_valid V3))
  have HM2 := Lib.hid (pts_I (mir_valid V4))
  have E1 := Lib.hid V1
  have E2 := Lib.hid V2
  have E3 := Lib.hid V3
  have E4 := Lib.hid V4
  clear V1 V2 V3 V4
  clear he
  go_enter Try.func6, Try.ntmps6
  go_wp2_with fail
  refine (long_any _ _ _ _ _ _ _).mono ?_
  rintro r w1 ⟨rfl, x0, rfl⟩
  rw [HL.out]
  go_wp2_with fail
  refine (sturn_any _ _ _ _ _ _ P F _ hn (HP.out.of (by (repeat (first | exact Kept.refl _ | assumption | refine Kept.alloc ?_ _ | refine Kept.ext ?_ _ | refine Kept.drew ?_ | refine Kept.drewN ?_ _)))) (HF.out.of (by (repeat (first | exact Kept.refl _ | assumption | refine Kept.alloc ?_ _ | refine Kept.ext ?_ _ | refine Kept.drew ?_ | refine Kept.drewN ?_ _))))).mono ?_
  rw [turn_e, HE.out]
  simp only [MeshO, okN_0]
  rintro r w1 ⟨A3, c3, B3, d3, rfl, ⟨x3, rfl⟩, ho1, ho2⟩
  have H3 := Lib.hid ho1
  have H4 := Lib.hid ho2
  clear ho1 ho2
  go_wp2_with fail
  refine (r2turn_any _ _ _ _ _ _ P F _ hn (HP.out.of (by (repeat (first | exact Kept.refl _ | assumption | refine Kept.alloc ?_ _ | refine Kept.ext ?_ _ | refine Kept.drew ?_ | refine Kept.drewN ?_ _)))) (HF.out.of (by (repeat (first | exact Kept.refl _ | assumption | refine Kept.alloc ?_ _ | refine Kept.ext ?_ _ | refine Kept.drew ?_ | refine Kept.drewN ?_ _))))).mono ?_
  rw [turn_e, HE.out]
  simp only [MeshO, okN_0]
  rintro r w1 ⟨A4, c4, B4, d4, rfl, ⟨x4, rfl⟩, ho1, ho2⟩
  have H5 := Lib.hid ho1
  have H6 := Lib.hid ho2
  clear ho1 ho2
  go_wp2_with fail
  refine (smirror_any _ _ _ _ _ _ P F _ hn (HP.out.of (by (repeat (first | exact Kept.refl _ | assumption | refine Kept.alloc ?_ _ | refine Kept.ext ?_ _ | refine Kept.drew ?_ | refine Kept.drewN ?_ _)))) (HF.out.of (by (repeat (first | exact Kept.refl _ | assumption | refine Kept.alloc ?_ _ | refine Kept.ext ?_ _ | refine Kept.drew ?_ | refine Kept.drewN ?_ _))))).mono ?_
  rw [mir_e, HE.out]
  simp only [MeshO, okN_0]
  rintro r w1 ⟨A5, c5, B5, d5, rfl, ⟨x5, rfl⟩, ho1, ho2⟩
  have H7 := Lib.hid ho1
  have H8 := Lib.hid ho2
  clear ho1 ho2
  go_wp2_with fail
  refine (r2mirror_any _ _ _ _ _ _ P F _ hn (HP.out.of (by (repeat (first | exact Kept.refl _ | assumption | refine Kept.alloc ?_ _ | refine Kept.ext ?_ _ | refine Kept.drew ?_ | refine Kept.drewN ?_ _)))) (HF.out.of (by (repeat (first | exact Kept.refl _ | assumption | refine Kept.alloc ?_ _ | refine Kept.ext ?_ _ | refine Kept.drew ?_ | refine Kept.drewN ?_ _))))).mono ?_
  rw [mir_e, HE.out]
  simp only [MeshO, okN_0]
  rintro r w1 ⟨A6, c6, B6, d6, rfl, ⟨x6, rfl⟩, ho1, ho2⟩
  have H9 := Lib.hid ho1
  have H10 := Lib.hid ho2
  clear ho1 ho2
  go_wp2_with fail
  refine (same_any _ _ _ _ _ _ _ _ _ _ (turnP P) F _ (by omega) ((rows_of_owns H3.out (HT.out (by simp))).of (by (repeat (first | exact Kept.refl _ | assumption | refine Kept.alloc ?_ _ | refine Kept.ext ?_ _ | refine Kept.drew ?_ | refine Kept.drewN ?_ _)))) ((rows_of_owns H4.out HFI.out).of (by (repeat (first | exact Kept.refl _ | assumption | refine Kept.alloc ?_ _ | refine Kept.ext ?_ _ | refine Kept.drew ?_ | refine Kept.drewN ?_ _)))) ((rows_of_owns H5.out (HT.out (by simp))).of (by (repeat (first | exact Kept.refl _ | assumption | refine Kept.alloc ?_ _ | refine Kept.ext ?_ _ | refine Kept.drew ?_ | refine Kept.drewN ?_ _)))) ((rows_of_owns H6.out HFI.out).of (by (repeat (first | exact Kept.refl _ | assumption | refine Kept.alloc ?_ _ | refine Kept.ext ?_ _ | refine Kept.drew ?_ | refine Kept.drewN ?_ _))))).mono ?_
  rintro r w1 ⟨rfl, x7, rfl⟩
  go_wp2_with fail
  refine (same_any _ _ _ _ _ _ _ _ _ _ (mirP P) (mirF F) _ (by omega) ((rows_of_owns H7.out (HM.out (by simp))).of (by (repeat (first | exact Kept.refl _ | assumption | refine Kept.alloc ?_ _ | refine Kept.ext ?_ _ | refine Kept.drew ?_ | refine Kept.drewN ?_ _)))) ((rows_of_owns H8.out (mirF_I HFI.out)).of (by (repeat (first | exact Kept.refl _ | assumption | refine Kept.alloc ?_ _ | refine Kept.ext ?_ _ | refine Kept.drew ?_ | refine Kept.drewN ?_ _)))) ((rows_of_owns H9.out (HM.out (by simp))).of (by (repeat (first | exact Kept.refl _ | assumption | refine Kept.alloc ?_ _ | refine Kept.ext ?_ _ | refine Kept.drew ?_ | refine Kept.drewN ?_ _)))) ((rows_of_owns H10.out (mirF_I HFI.out)).of (by (repeat (first | exact Kept.refl _ | assumption | refine Kept.alloc ?_ _ | refine Kept.ext ?_ _ | refine Kept.drew ?_ | refine Kept.drewN ?_ _))))).mono ?_
  rintro r w1 ⟨rfl, x8, rfl⟩
  go_wp2_with fail
  refine (sturn_any _ _ _ _ _ _ (turnP P) F _ hn ((rows_of_owns H3.out (HT.out (by simp))).of (by (repeat (first | exact Kept.refl _ | assumption | refine Kept.alloc ?_ _ | refine Kept.ext ?_ _ | refine Kept.drew ?_ | refine Kept.drewN ?_ _)))) ((rows_of_owns H4.out HFI.out).of (by (repeat (first | exact Kept.refl _ | assumption | refine Kept.alloc ?_ _ | refine Kept.ext ?_ _ | refine Kept.drew ?_ | refine Kept.drewN ?_ _))))).mono ?_
  rw [turn_e, E1.out]
  simp only [MeshO, okN_0]
  rintro r w1 ⟨A7, c7, B7, d7, rfl, ⟨x9, rfl⟩, ho1, ho2⟩
  have H11 := Lib.hid ho1
  have H12 := Lib.hid ho2
  clear ho1 ho2
  go_wp2_with fail
  refine (sturn_any _ _ _ _ _ _ (turnP (turnP P)) F _ hn ((rows_of_owns H11.out HI2.out).of (by (repeat (first | exact Kept.refl _ | assumption | refine Kept.alloc ?_ _ | refine Kept.ext ?_ _ | refine Kept.drew ?_ | refine Kept.drewN ?_ _)))) ((rows_of_owns H12.out HFI.out).of (by (repeat (first | exact Kept.refl _ | assumption | refine Kept.alloc ?_ _ | refine Kept.ext ?_ _ | refine Kept.drew ?_ | refine Kept.drewN ?_ _))))).mono ?_
  rw [turn_e, E2.out]
  simp only [MeshO, okN_0]
  rintro r w1 ⟨A8, c8, B8, d8, rfl, ⟨x10, rfl⟩, ho1, ho2⟩
  have H13 := Lib.hid ho1
  have H14 := Lib.hid ho2
  clear ho1 ho2
  go_wp2_with fail
  refine (sturn_any _ _ _ _ _ _ (turnP (turnP (turnP P))) F _ hn ((rows_of_owns H13.out HI3.out).of (by (repeat (first | exact Kept.refl _ | assumption | refine Kept.alloc ?_ _ | refine Kept.ext ?_ _ | refine Kept.drew ?_ | refine Kept.drewN ?_ _)))) ((rows_of_owns H14.out HFI.out).of (by (repeat (first | exact Kept.refl _ | assumption | refine Kept.alloc ?_ _ | refine Kept.ext ?_ _ | refine Kept.drew ?_ | refine Kept.drewN ?_ _))))).mono ?_
  rw [turn_e, E3.out]
  simp only [MeshO, okN_0]
  rintro r w1 ⟨A9, c9, B9, d9, rfl, ⟨x11, rfl⟩, ho1, ho2⟩
  have H15 := Lib.hid ho1
  have H16 := Lib.hid ho2
  clear ho1 ho2
  go_wp2_with fail
  refine (smirror_any _ _ _ _ _ _ (mirP P) (mirF F) _ hn ((rows_of_owns H7.out (HM.out (by simp))).of (by (repeat (first | exact Kept.refl _ | assumption | refine Kept.alloc ?_ _ | refine Kept.ext ?_ _ | refine Kept.drew ?_ | refine Kept.drewN ?_ _)))) ((rows_of_owns H8.out (mirF_I HFI.out)).of (by (repeat (first | exact Kept.refl _ | assumption | refine Kept.alloc ?_ _ | refine Kept.ext ?_ _ | refine Kept.drew ?_ | refine Kept.drewN ?_ _))))).mono ?_
  rw [mir_e, E4.out]
  simp only [MeshO, okN_0]
  rintro r w1 ⟨A10, c10, B10, d10, rfl, ⟨x12, rfl⟩, ho1, ho2⟩
  have H17 := Lib.hid ho1
  have H18 := Lib.hid ho2
  clear ho1 ho2
  go_wp2_with fail
  refine (same_any _ _ _ _ _ _ _ _ _ _ P F _ hn (((rows_of_owns H15.out HI4.out).congr (fun i _ j hj => turn4 P i j hj)).of (by (repeat (first | exact Kept.refl _ | assumption | refine Kept.alloc ?_ _ | refine Kept.ext ?_ _ | refine Kept.drew ?_ | refine Kept.drewN ?_ _)))) ((rows_of_owns H16.out HFI.out).of (by (repeat (first | exact Kept.refl _ | assumption | refine Kept.alloc ?_ _ | refine Kept.ext ?_ _ | refine Kept.drew ?_ | refine Kept.drewN ?_ _)))) (HP.out.of (by (repeat (first | exact Kept.refl _ | assumption | refine Kept.alloc ?_ _ | refine Kept.ext ?_ _ | refine Kept.drew ?_ | refine Kept.drewN ?_ _)))) (HF.out.of (by (repeat (first | exact Kept.refl _ | assumption | refine Kept.alloc ?_ _ | refine Kept.ext ?_ _ | refine Kept.drew ?_ | refine Kept.drewN ?_ _))))).mono ?_
  rintro r w1 ⟨rfl, x13, rfl⟩
  go_wp2_with fail
  refine (same_any _ _ _ _ _ _ _ _ _ _ P F _ hn (((rows_of_owns H17.out HM2.out).congr (fun i _ j hj => mir2 P i j hj)).of (by (repeat (first | exact Kept.refl _ | assumption | refine Kept.alloc ?_ _ | refine Kept.ext ?_ _ | refine Kept.drew ?_ | refine Kept.drewN ?_ _)))) (((rows_of_owns H18.out (mirF_I (mirF_I HFI.out))).congr (fun i _ j hj => mirF2 F i j hj)).of (by (repeat (first | exact Kept.refl _ | assumption | refine Kept.alloc ?_ _ | refine Kept.ext ?_ _ | refine Kept.drew ?_ | refine Kept.drewN ?_ _)))) (HP.out.of (by (repeat (first | exact Kept.refl _ | assumption | refine Kept.alloc ?_ _ | refine Kept.ext ?_ _ | refine Kept.drew ?_ | refine Kept.drewN ?_ _)))) (HF.out.of (by (repeat (first | exact Kept.refl _ | assumption | refine Kept.alloc ?_ _ | refine Kept.ext ?_ _ | refine Kept.drew ?_ | refine Kept.drewN ?_ _))))).mono ?_
  rintro r w1 ⟨rfl, x14, rfl⟩
  go_wp2_with (first | (go_at_call 19; refine (known_any _).mono ?_; rintro e w1 ⟨rfl, x, rfl⟩))
  go_ret
  exact ⟨rfl, by (repeat (first | exact Kept.refl _ | assumption | refine Kept.alloc ?_ _ | refine Kept.ext ?_ _ | refine Kept.drew ?_ | refine Kept.drewN ?_ _))⟩
theorem ownShapeTurns : ownKnob Try.prog.godebug = none := by kernel_rfl
theorem laidOutShapeTurns : laidOutB Try.prog = true := by kernel_rfl
set_option linter.unusedVariables false in
set_option maxRecDepth 100000 in
theorem liftedShapeTurns (os : Os) (started : os.Started) (H : Type) (enc : TypeId × Value → H) :
    ReturnsInHanded {} Try.checked os 6 .any (Rows.shapeTurnsSpec.pre6 enc Try.prog Try.f6 Rows.shapeTurnsRow.domain false) (Rows.shapeTurnsSpec.post enc Try.prog Try.f6 false true false false) := by
  refine returnsInHanded_of_change (C := Try.checked) ownShapeTurns started (by kernel_rfl) Try.func6
    (ChangeSpec.witness6 (enc := enc) (C := Try.checked) false ⟨#[], #[.agg #[.slice none 0 0, .slice none 0 0]], []⟩ 8 (by kernel_rfl) (by kernel_rfl) (by kernel_rfl) (by kernel_rfl)) ?_
  intro W base args ds gs before hval0 hW hcnd _
  have hval : ∀ (j : Nat) t v, Try.f6.params[j]? = some t → args[j]? = some v → Value.okWide Try.prog W .any base t v := hval0
  have hW' := hW
  obtain ⟨p, q, hA0, hV, rfl, hfz, hnd⟩ := hW
  have hA : DataW.TrodAll enc Try.prog W 0 (fun _ => true) true Try.f6.params.toList args.toList ds p := hA0
  rw [Try.params6] at hA hval
  obtain ⟨v0, vs0, d0, ds0, p0, q0, hargs, rfl, rfl, h0, r0⟩ := trodAll_cons hA
  obtain ⟨rfl, rfl, rfl⟩ := trodAll_nil r0
  obtain rfl : args = #[v0] := by cases args; simp_all
  obtain ⟨rfl, rfl⟩ := trodVars_none hV
  have lt0 : ∀ x ∈ p0, x.block < W.heap.size := by obtain ⟨m, hm⟩ := h0; exact DataW.trod_lt m _ _ _ hm
  obtain ⟨A0, n0, cap0, f0, B0, m0, capb0, g0, rfl, hpa0, hpb0⟩ := open_mesh _ _ 25 34 54 3 3 Try.underlying25 ⟨rfl, rfl, by kernel_rfl, by kernel_rfl, by kernel_rfl⟩ Try.underlying22 (by kernel_rfl) (by decide) (by kernel_rfl) Try.underlying23 (by kernel_rfl) (by decide) (by kernel_rfl) (hval 0 25 v0 rfl rfl) h0 lt0
  clear hA0 hval0
  refine (turns_law A0 n0 cap0 f0 B0 m0 capb0 g0 W ⟨hpa0, hpb0⟩).mono fun e W' ⟨he, hk⟩ => ?_
  subst he
  have bel := hk.below
  exact ⟨_, rfl, _, _, _, [], _, [], hW', trodAll_mk1 (shut_bool Try.underlying4 _), (trodAll_cons_mk (Below.trod laidOutShapeTurns (by kernel_rfl) (of_decide_eq_true (by kernel_rfl)) h0 bel lt0) trodAll_mk0), rfl, bel.frame _, fun h => by cases h⟩
/-- For every input the statement ShapeTurns returns true, and each argument reads afterwards as it read before. -/
theorem shapeTurns_holds : Rows.ShapeTurnsSaid :=
  OpenClaim.holds_of_wide 6 Try.f6 rfl rfl rfl rfl rfl rfl rfl ⟨rfl, rfl, rfl, rfl, rfl⟩ rfl rfl rfl rfl rfl (by kernel_rfl) Try.func6 (by kernel_rfl)
    (of_decide_eq_true (by kernel_rfl)) (by unfold Func.isWrapper; first | (rw [if_pos (by decide +kernel)]; kernel_rfl) | (rw [if_neg (by decide +kernel)]; exact ⟨rfl, rfl⟩))
    (fun os started H enc _ => liftedShapeTurns os started H enc)
#print axioms shapeTurns_holds

end Go.Proofs.Ytoadlneneijfaaa
