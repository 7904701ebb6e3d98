/- For every input the statement ShapeWindsAlike returns true and leaves its arguments as they were. No conditions. -/
import Derived.Test.YtbhcjdgfcinpcaaWrq
import Derived.Test.YtbhcjdgfcinpcaaGcm
import Derived.Test.YtbhcjdgfcinpcaaGwt
import Derived.Test.YtbhcjdgfcinpcaaFns
import Derived.Test.YtbhcjdgfcinpcaaGwl
import Derived.Test.YtbhcjdgfcinpcaaOpr
import Derived.Deep.DeepCutAuto
namespace Go.Proofs.Ytbhcjdgfcinpcaa
set_option linter.unusedVariables false
set_option linter.unusedSimpArgs false
open Go.ChangeShapes Go.WideShapes Go.ChangeAt Go.RowKit Go.Deep
theorem chgE_0w {n m : Nat} {P F P' F' : Nat → Nat → Int} {bad : Bool} (h : chgE n P m F bad P' F' = 0) : validE n P m F = 0 ∧ bad = false ∧ validE n P' m F' = 0 := by
  unfold chgE at h
  split at h
  · rename_i q; exact absurd h q
  · rename_i q
    split at h
    · cases h
    · rename_i q2
      exact ⟨by simpa using q, by simpa using q2, h⟩
theorem pts_Iw {n m : Nat} {P F : Nat → Nat → Int} (h : validE n P m F = 0) : ∀ k, k < n → ∀ j, j < 3 → I64 (P k j) := by
  intro k hk j hj
  obtain ⟨-, -, hb, -⟩ := validE_ok h
  have := ptsBad_at hb k hk
  unfold I64
  rcases (show j = 0 ∨ j = 1 ∨ j = 2 by omega) with rfl | rfl | rfl <;> omega
theorem rowsW {w : World} {base n cap : Nat} {t : TypeId} {A : Option Addr} {f : Nat → Nat → Int} {e : Int} (h : w.ownsRow base t 3 (.slice A (okN e n) cap) (okN e n) (rowC 3 f (okN e n))) (h0 : e = 0) (hI : ∀ k, k < n → ∀ j, j < 3 → I64 (f k j)) : RowsAt w A n 3 f := by
  subst h0
  exact rows_of_owns h hI
theorem al_exw (n : Nat) (P : Nat → Nat → Int) (m : Nat) (F : Nat → Nat → Int) : ∃ al, validE n P m F = 0 → Oth F al m := by
  by_cases h : validE n P m F = 0
  · obtain ⟨al, ha⟩ := (clo_of h).oth
    exact ⟨al, fun _ => ha⟩
  · exact ⟨fun a => a, fun h' => absurd h' h⟩
theorem finE_0w {n m : Nat} {P F : Nat → Nat → Int} {al : Nat → Nat} (h : finE n P m F al = 0) : validE (npt n al (3 * m)) (finP n m P F al) (4 * m) (finF n F al) = 0 := by
  unfold finE at h
  split at h
  · omega
  · exact h
theorem winE_ask {n m : Nat} {P F : Nat → Nat → Int} {q0 q1 q2 : Int} (h : askE n P m F q0 q1 q2 = 0) : validE n P m F = 0 ∧ inB q0 q1 q2 256 = true := by
  unfold askE at h
  split at h
  · rename_i q
    split at h
    · exact ⟨q, by assumption⟩
    · omega
  · exact absurd h (by assumption)
theorem winE_noask {n m : Nat} {P F : Nat → Nat → Int} {q0 q1 q2 : Int} (h : askE n P m F q0 q1 q2 ≠ 0) : winE n P m F q0 q1 q2 ≠ 0 ∧ winE n P m F q0 q1 q2 ≠ 9 := by
  unfold winE
  rw [if_neg h]
  refine ⟨h, ?_⟩
  unfold askE
  split
  · split <;> omega
  · exact valid_9
theorem okN_0w (n : Nat) : okN 0 n = n := rfl
set_option maxRecDepth 100000 in
set_option maxHeartbeats 16000000 in
theorem alike_law (A : Option Addr) (n cap : Nat) (P : Nat → Nat → Int) (B : Option Addr) (m cap2 : Nat) (F : Nat → Nat → Int) (q0 q1 q2 v0 v1 v2 : Int) (w : World) (h : (n ≤ cap ∧ cap ≤ maxLen ∧ RowsAt w A n 3 P) ∧ (m ≤ cap2 ∧ cap2 ≤ maxLen ∧ RowsAt w B m 3 F)) :
    Calls Try.prog 4 #[.agg #[.slice A n cap, .slice B m cap2], .agg #[.int .i64 q0, .int .i64 q1, .int .i64 q2], .agg #[.int .i64 v0, .int .i64 v1, .int .i64 v2]] w fun r w' => r = .returned (.bool true) ∧ Kept w w' := by
  obtain ⟨⟨a1, a2, hP⟩, b1, b2, hF⟩ := h
  unfold maxLen at a2 b2
  have HP := Lib.hid hP
  have HF := Lib.hid hF
  have HFI := Lib.hid (rows_I hF)
  clear hP hF
  have hn : n ≤ 9223372036854775807 ∧ m ≤ 9223372036854775807 := by omega
  by_cases hl : 200 < n ∨ 300 < m
  · have hl2 : (decide (200 < n) || decide (300 < m)) = true := by simpa using hl
    have HL := Lib.hid hl2
    clear hl hl2
    go_enter Try.func4, Try.ntmps4
    go_wp2_with fail
    refine (long_any _ _ _ _ _ _ _).mono ?_
    rintro r w1 ⟨rfl, x0, rfl⟩
    rw [HL.out]
    go_wp2_with (first | (go_at_call 21; refine (s2known_any _).mono ?_; rintro e w1 ⟨rfl, x, rfl⟩))
    go_ret
    exact ⟨rfl, by (repeat (first | exact Kept.refl _ | assumption | refine Kept.alloc ?_ _ | refine Kept.ext ?_ _ | refine Kept.drew ?_ | refine Kept.drewN ?_ _))⟩
  have hl2 : (decide (200 < n) || decide (300 < m)) = false := by simpa using hl
  have HL := Lib.hid hl2
  clear hl2
  by_cases ha : askE n P m F q0 q1 q2 = 0
  case neg =>
    obtain ⟨n0, n9⟩ := winE_noask ha
    obtain ⟨e, he⟩ : ∃ e, winE n P m F q0 q1 q2 = e := ⟨_, rfl⟩
    rw [he] at n0 n9
    have HE := Lib.hid he
    have g1 : (e != 0) = true := by simpa using n0
    have g2 : (e != 9) = true := by simpa using n9
    have g3 : (e == 0) = false := by simpa using n0
    have g4 : (e == 9) = false := by simpa using n9
    clear ha he n0 n9
    go_enter Try.func4, Try.ntmps4
    go_wp2_with fail
    refine (long_any _ _ _ _ _ _ _).mono ?_
    rintro r w1 ⟨rfl, x0, rfl⟩
    rw [HL.out]
    go_wp2_with fail
    refine (sWinding_any _ _ _ _ _ _ P F _ _ _ _ hn (HP.out.of (by (repeat (first | exact Kept.refl _ | assumption | refine Kept.alloc ?_ _ | refine Kept.ext ?_ _ | refine Kept.drew ?_ | refine Kept.drewN ?_ _)))) (HF.out.of (by (repeat (first | exact Kept.refl _ | assumption | refine Kept.alloc ?_ _ | refine Kept.ext ?_ _ | refine Kept.drew ?_ | refine Kept.drewN ?_ _))))).mono ?_
    rintro r w1 ⟨rfl, x1, rfl⟩
    rw [HE.out]
    go_wp2_with (first | (go_at_call 21; refine (s2known_any _).mono ?_; rintro e w1 ⟨rfl, x, rfl⟩))
    go_ret
    exact ⟨rfl, by (repeat (first | exact Kept.refl _ | assumption | refine Kept.alloc ?_ _ | refine Kept.ext ?_ _ | refine Kept.drew ?_ | refine Kept.drewN ?_ _))⟩
  obtain ⟨v1', hq⟩ := winE_ask ha
  have hqb := inB_true hq
  have hwe : winE n P m F q0 q1 q2 = 0 ∨ winE n P m F q0 q1 q2 = 9 := by
    rw [winE_valid v1', if_pos hq]
    split <;> omega
  obtain ⟨t, ht⟩ : ∃ t, winV n P m F q0 q1 q2 = t := ⟨_, rfl⟩
  obtain ⟨al, hal⟩ := al_exw n P m F
  have HAL := Lib.hid hal
  have HT := Lib.hid ht
  -- the four changed meshes
  obtain ⟨em, hem⟩ : ∃ e, chgE n P m F (!(inB v0 v1 v2 128)) (movP P v0 v1 v2) F = e := ⟨_, rfl⟩
  obtain ⟨et, het⟩ : ∃ e, chgE n P m F false (turnP P) F = e := ⟨_, rfl⟩
  obtain ⟨er, her⟩ : ∃ e, chgE n P m F false (mirP P) (mirF F) = e := ⟨_, rfl⟩
  obtain ⟨ef, hef⟩ : ∃ e, finE n P m F al = e := ⟨_, rfl⟩
  have XM := Lib.hid (fun (h0 : em = 0) => And.intro (inB_true (by simpa using (chgE_0w (hem.trans h0)).2.1)) (And.intro (pts_Iw (chgE_0w (hem.trans h0)).2.2) (wa_V v0 v1 v2 v1' (chgE_0w (hem.trans h0)).2.2 hq)))
  have XT := Lib.hid (fun (h0 : et = 0) => And.intro (pts_Iw (chgE_0w (het.trans h0)).2.2) (wa_T v1' (chgE_0w (het.trans h0)).2.2 hq))
  have XR := Lib.hid (fun (h0 : er = 0) => And.intro (pts_Iw (chgE_0w (her.trans h0)).2.2) (wa_M v1' (chgE_0w (her.trans h0)).2.2 hq))
  have XF := Lib.hid (fun (h0 : ef = 0) => And.intro (pts_Iw (finE_0w (hef.trans h0))) (wa_F (hal v1') v1' (finE_0w (hef.trans h0)) hq))
  have HIF := Lib.hid (finF_I (F := F) (al := al) (n := n) (m := m) (by have := valid_sz v1'; omega) (hal v1') (clo_of v1').inn)
  have HEM := Lib.hid hem
  have HET := Lib.hid het
  have HER := Lib.hid her
  have HEF := Lib.hid hef
  have hsz := valid_sz v1'
  have hnp : npt n al (3 * m) ≤ n + 3 * m := by unfold npt; have := cnB_le (newB al) (3 * m); omega
  clear ha v1' hq hal ht hem het her hef
  obtain ⟨e, he⟩ : ∃ e, winE n P m F q0 q1 q2 = e := ⟨_, rfl⟩
  rw [he] at hwe
  have HE := Lib.hid he
  clear he
  rcases hwe with rfl | rfl
  all_goals
    go_enter Try.func4, Try.ntmps4
    go_wp2_with fail
    refine (long_any _ _ _ _ _ _ _).mono ?_
    rintro r w1 ⟨rfl, x0, rfl⟩
    rw [HL.out]
    go_wp2_with fail
    refine (sWinding_any _ _ _ _ _ _ P F _ _ _ _ hn (HP.out.of (by (repeat (first | exact Kept.refl _ | assumption | refine Kept.alloc ?_ _ | refine Kept.ext ?_ _ | refine Kept.drew ?_ | refine Kept.drewN ?_ _)))) (HF.out.of (by (repeat (first | exact Kept.refl _ | assumption | refine Kept.alloc ?_ _ | refine Kept.ext ?_ _ | refine Kept.drew ?_ | refine Kept.drewN ?_ _))))).mono ?_
    rintro r w1 ⟨rfl, x1, rfl⟩
    rw [HE.out, HT.out]
    go_wp2_with fail
    refine (smove_any _ _ _ _ _ _ P F _ _ _ _ hn (HP.out.of (by (repeat (first | exact Kept.refl _ | assumption | refine Kept.alloc ?_ _ | refine Kept.ext ?_ _ | refine Kept.drew ?_ | refine Kept.drewN ?_ _)))) (HF.out.of (by (repeat (first | exact Kept.refl _ | assumption | refine Kept.alloc ?_ _ | refine Kept.ext ?_ _ | refine Kept.drew ?_ | refine Kept.drewN ?_ _))))).mono ?_
    rw [HEM.out]
    rintro r w1 ⟨A3, c3, B3, d3, rfl, ⟨x3, rfl⟩, ho1, ho2⟩
    have H3 := Lib.hid ho1
    have H4 := Lib.hid ho2
    clear ho1 ho2
    go_upto_if 48 with fail
    refine wp_gen (fun W hW => ?_)
    have HW := Lib.hid hW
    clear hW
    go_cut [48] (fun _ wx => ∃ x, wx = ext W x)
    case first =>
      have hW := HW.out
      clear HW
      subst hW
      by_cases h0 : em = 0
      · have y := XM.out h0
        subst h0
        obtain ⟨yb, yp, yw⟩ := y
        have K3 := Lib.hid (rowsW H3.out rfl yp)
        have K4 := Lib.hid (rowsW H4.out rfl HFI.out)
        clear yp
        simp only [okN_0w]
        go_wp2_with fail
        ((first | (with_reducible refine wp_region_kept2 (by kernel_rfl) (by kernel_rfl) ?_) | refine wp_region_kept (by kernel_rfl) (by kernel_rfl) ?_); (repeat (go_big_quiet_step (first | (go_at_call 11; exact Calls.kept_of (r2plus_any q0 q1 q2 v0 v1 v2 _ (by omega))) | (go_at_call 20; exact Calls.kept_of (sWinding_any _ _ _ _ _ _ (movP P v0 v1 v2) F _ _ _ _ (by omega) (K3.out.of (by (repeat (first | exact Kept.refl _ | assumption | refine Kept.alloc ?_ _ | refine Kept.ext ?_ _ | refine Kept.drew ?_ | refine Kept.drewN ?_ _)))) (K4.out.of (by (repeat (first | exact Kept.refl _ | assumption | refine Kept.alloc ?_ _ | refine Kept.ext ?_ _ | refine Kept.drew ?_ | refine Kept.drewN ?_ _))))))))); refine wpQuiet_nil ?_; intro x6)
        rcases yw with y1 | ⟨y1, y2⟩
        · rw [y1]
          clear y1
          go_wp2_with fail
          go_meet
          exact (show Kept _ _ by (repeat (first | exact Kept.refl _ | assumption | refine Kept.alloc ?_ _ | refine Kept.ext ?_ _ | refine Kept.drew ?_ | refine Kept.drewN ?_ _)))
        · rw [y1, y2, HE.out, HT.out]
          clear y1 y2
          go_wp2_with fail
          go_meet
          exact (show Kept _ _ by (repeat (first | exact Kept.refl _ | assumption | refine Kept.alloc ?_ _ | refine Kept.ext ?_ _ | refine Kept.drew ?_ | refine Kept.drewN ?_ _)))
      · have g1 : (em == 0) = false := by simpa using h0
        have g2 : decide (em = 0) = false := by simpa using h0
        clear h0
        go_wp2_with fail
        go_meet
        exact (show Kept _ _ by (repeat (first | exact Kept.refl _ | assumption | refine Kept.alloc ?_ _ | refine Kept.ext ?_ _ | refine Kept.drew ?_ | refine Kept.drewN ?_ _)))
    case rest =>
    obtain ⟨x4, rfl⟩ := hcut
    have hW := HW.out
    clear HW H3 H4
    subst hW
    go_wp2_with fail
    refine (sturn_any _ _ _ _ _ _ P F _ hn (HP.out.of (by (repeat (first | exact Kept.refl _ | assumption | refine Kept.alloc ?_ _ | refine Kept.ext ?_ _ | refine Kept.drew ?_ | refine Kept.drewN ?_ _)))) (HF.out.of (by (repeat (first | exact Kept.refl _ | assumption | refine Kept.alloc ?_ _ | refine Kept.ext ?_ _ | refine Kept.drew ?_ | refine Kept.drewN ?_ _))))).mono ?_
    rw [HET.out]
    rintro r w1 ⟨A3, c3, B3, d3, rfl, ⟨x3, rfl⟩, ho1, ho2⟩
    have H3 := Lib.hid ho1
    have H4 := Lib.hid ho2
    clear ho1 ho2
    go_upto_if 75 with fail
    refine wp_gen (fun W hW => ?_)
    have HW := Lib.hid hW
    clear hW
    go_cut [75] (fun _ wx => ∃ x, wx = ext W x)
    case first =>
      have hW := HW.out
      clear HW
      subst hW
      by_cases h0 : et = 0
      · have y := XT.out h0
        subst h0
        obtain ⟨yp, yw⟩ := y
        have K3 := Lib.hid (rowsW H3.out rfl yp)
        have K4 := Lib.hid (rowsW H4.out rfl HFI.out)
        clear yp
        simp only [okN_0w]
        have Y := Lib.hid yw
        clear yw
        go_wp2_with fail
        refine (sWinding_any _ _ _ _ _ _ (turnP P) F _ _ _ _ (by omega) (K3.out.of (by (repeat (first | exact Kept.refl _ | assumption | refine Kept.alloc ?_ _ | refine Kept.ext ?_ _ | refine Kept.drew ?_ | refine Kept.drewN ?_ _)))) (K4.out.of (by (repeat (first | exact Kept.refl _ | assumption | refine Kept.alloc ?_ _ | refine Kept.ext ?_ _ | refine Kept.drew ?_ | refine Kept.drewN ?_ _))))).mono ?_
        rintro r w1 ⟨rfl, x5, rfl⟩
        rw [Y.out.1, Y.out.2, HE.out, HT.out]
        go_wp2_with fail
        go_meet
        exact (show Kept _ _ by (repeat (first | exact Kept.refl _ | assumption | refine Kept.alloc ?_ _ | refine Kept.ext ?_ _ | refine Kept.drew ?_ | refine Kept.drewN ?_ _)))
      · have g1 : (et == 0) = false := by simpa using h0
        have g2 : decide (et = 0) = false := by simpa using h0
        clear h0
        go_wp2_with fail
        go_meet
        exact (show Kept _ _ by (repeat (first | exact Kept.refl _ | assumption | refine Kept.alloc ?_ _ | refine Kept.ext ?_ _ | refine Kept.drew ?_ | refine Kept.drewN ?_ _)))
    case rest =>
    obtain ⟨x4, rfl⟩ := hcut
    have hW := HW.out
    clear HW H3 H4
    subst hW
    go_wp2_with fail
    refine (smirror_any _ _ _ _ _ _ P F _ hn (HP.out.of (by (repeat (first | exact Kept.refl _ | assumption | refine Kept.alloc ?_ _ | refine Kept.ext ?_ _ | refine Kept.drew ?_ | refine Kept.drewN ?_ _)))) (HF.out.of (by (repeat (first | exact Kept.refl _ | assumption | refine Kept.alloc ?_ _ | refine Kept.ext ?_ _ | refine Kept.drew ?_ | refine Kept.drewN ?_ _))))).mono ?_
    rw [HER.out]
    rintro r w1 ⟨A3, c3, B3, d3, rfl, ⟨x3, rfl⟩, ho1, ho2⟩
    have H3 := Lib.hid ho1
    have H4 := Lib.hid ho2
    clear ho1 ho2
    go_upto_if 103 with fail
    refine wp_gen (fun W hW => ?_)
    have HW := Lib.hid hW
    clear hW
    go_cut [103] (fun _ wx => ∃ x, wx = ext W x)
    case first =>
      have hW := HW.out
      clear HW
      subst hW
      by_cases h0 : er = 0
      · have y := XR.out h0
        subst h0
        obtain ⟨yp, yw⟩ := y
        have K3 := Lib.hid (rowsW H3.out rfl yp)
        have K4 := Lib.hid (rowsW H4.out rfl (mirF_I HFI.out))
        clear yp
        simp only [okN_0w]
        have Y := Lib.hid yw
        clear yw
        go_wp2_with fail
        refine (sWinding_any _ _ _ _ _ _ (mirP P) (mirF F) _ _ _ _ (by omega) (K3.out.of (by (repeat (first | exact Kept.refl _ | assumption | refine Kept.alloc ?_ _ | refine Kept.ext ?_ _ | refine Kept.drew ?_ | refine Kept.drewN ?_ _)))) (K4.out.of (by (repeat (first | exact Kept.refl _ | assumption | refine Kept.alloc ?_ _ | refine Kept.ext ?_ _ | refine Kept.drew ?_ | refine Kept.drewN ?_ _))))).mono ?_
        rintro r w1 ⟨rfl, x5, rfl⟩
        rw [Y.out.1, Y.out.2, HE.out, HT.out]
        go_wp2_with fail
        go_meet
        exact (show Kept _ _ by (repeat (first | exact Kept.refl _ | assumption | refine Kept.alloc ?_ _ | refine Kept.ext ?_ _ | refine Kept.drew ?_ | refine Kept.drewN ?_ _)))
      · have g1 : (er == 0) = false := by simpa using h0
        have g2 : decide (er = 0) = false := by simpa using h0
        clear h0
        go_wp2_with fail
        go_meet
        exact (show Kept _ _ by (repeat (first | exact Kept.refl _ | assumption | refine Kept.alloc ?_ _ | refine Kept.ext ?_ _ | refine Kept.drew ?_ | refine Kept.drewN ?_ _)))
    case rest =>
    obtain ⟨x4, rfl⟩ := hcut
    have hW := HW.out
    clear HW H3 H4
    subst hW
    go_wp2_with fail
    refine (sFiner_any _ _ _ _ _ _ P F al _ hn (HP.out.of (by (repeat (first | exact Kept.refl _ | assumption | refine Kept.alloc ?_ _ | refine Kept.ext ?_ _ | refine Kept.drew ?_ | refine Kept.drewN ?_ _)))) (HF.out.of (by (repeat (first | exact Kept.refl _ | assumption | refine Kept.alloc ?_ _ | refine Kept.ext ?_ _ | refine Kept.drew ?_ | refine Kept.drewN ?_ _)))) HAL.out).mono ?_
    rw [HEF.out]
    rintro r w1 ⟨A3, c3, B3, d3, rfl, ⟨x3, rfl⟩, ho1, ho2⟩
    have H3 := Lib.hid ho1
    have H4 := Lib.hid ho2
    clear ho1 ho2
    go_upto_if 131 with fail
    refine wp_gen (fun W hW => ?_)
    have HW := Lib.hid hW
    clear hW
    go_cut [131] (fun _ wx => ∃ x, wx = ext W x)
    case first =>
      have hW := HW.out
      clear HW
      subst hW
      by_cases h0 : ef = 0
      · have y := XF.out h0
        subst h0
        obtain ⟨yp, yw⟩ := y
        have K3 := Lib.hid (rowsW H3.out rfl yp)
        have K4 := Lib.hid (rowsW H4.out rfl HIF.out)
        clear yp
        simp only [okN_0w]
        go_wp2_with fail
        ((first | (with_reducible refine wp_region_kept2 (by kernel_rfl) (by kernel_rfl) ?_) | refine wp_region_kept (by kernel_rfl) (by kernel_rfl) ?_); (repeat (go_big_quiet_step (first | (go_at_call 12; exact Calls.kept_of (r2times_any q0 q1 q2 2 _ (by omega))) | (go_at_call 20; exact Calls.kept_of (sWinding_any _ _ _ _ _ _ (finP n m P F al) (finF n F al) _ _ _ _ (by omega) (K3.out.of (by (repeat (first | exact Kept.refl _ | assumption | refine Kept.alloc ?_ _ | refine Kept.ext ?_ _ | refine Kept.drew ?_ | refine Kept.drewN ?_ _)))) (K4.out.of (by (repeat (first | exact Kept.refl _ | assumption | refine Kept.alloc ?_ _ | refine Kept.ext ?_ _ | refine Kept.drew ?_ | refine Kept.drewN ?_ _))))))))); refine wpQuiet_nil ?_; intro x6)
        rcases yw with y1 | ⟨y1, y2⟩
        · rw [y1]
          clear y1
          go_wp2_with fail
          go_meet
          exact (show Kept _ _ by (repeat (first | exact Kept.refl _ | assumption | refine Kept.alloc ?_ _ | refine Kept.ext ?_ _ | refine Kept.drew ?_ | refine Kept.drewN ?_ _)))
        · rw [y1, y2, HE.out, HT.out]
          clear y1 y2
          go_wp2_with fail
          go_meet
          exact (show Kept _ _ by (repeat (first | exact Kept.refl _ | assumption | refine Kept.alloc ?_ _ | refine Kept.ext ?_ _ | refine Kept.drew ?_ | refine Kept.drewN ?_ _)))
      · have g1 : (ef == 0) = false := by simpa using h0
        have g2 : decide (ef = 0) = false := by simpa using h0
        clear h0
        go_wp2_with fail
        go_meet
        exact (show Kept _ _ by (repeat (first | exact Kept.refl _ | assumption | refine Kept.alloc ?_ _ | refine Kept.ext ?_ _ | refine Kept.drew ?_ | refine Kept.drewN ?_ _)))
    case rest =>
    obtain ⟨x4, rfl⟩ := hcut
    have hW := HW.out
    clear HW H3 H4
    subst hW
    go_wp2_with (first | (go_at_call 21; refine (s2known_any _).mono ?_; rintro e w1 ⟨rfl, x, rfl⟩))
    go_ret
    exact ⟨rfl, by (repeat (first | exact Kept.refl _ | assumption | refine Kept.alloc ?_ _ | refine Kept.ext ?_ _ | refine Kept.drew ?_ | refine Kept.drewN ?_ _))⟩
theorem ownShapeWindsAlike : ownKnob Try.prog.godebug = none := by kernel_rfl
theorem laidOutShapeWindsAlike : laidOutB Try.prog = true := by kernel_rfl
set_option linter.unusedVariables false in
set_option maxRecDepth 100000 in
theorem liftedShapeWindsAlike (os : Os) (started : os.Started) (H : Type) (enc : TypeId × Value → H) :
    ReturnsInHanded {} Try.checked os 4 .any (Rows.shapeWindsAlikeSpec.pre6 enc Try.prog Try.f4 Rows.shapeWindsAlikeRow.domain false) (Rows.shapeWindsAlikeSpec.post enc Try.prog Try.f4 false true false false) := by
  refine returnsInHanded_of_change (C := Try.checked) ownShapeWindsAlike started (by kernel_rfl) Try.func4
    (ChangeSpec.witness6 (enc := enc) (C := Try.checked) false ⟨#[], #[.agg #[.slice none 0 0, .slice none 0 0], .agg #[.int .i64 0, .int .i64 0, .int .i64 0], .agg #[.int .i64 0, .int .i64 0, .int .i64 0]], []⟩ 8 (by kernel_rfl) (by kernel_rfl) (by kernel_rfl) (by kernel_rfl)) ?_
  intro W base args ds gs before hval0 hW hcnd _
  have hval : ∀ (j : Nat) t v, Try.f4.params[j]? = some t → args[j]? = some v → Value.okWide Try.prog W .any base t v := hval0
  have hW' := hW
  obtain ⟨p, q, hA0, hV, rfl, hfz, hnd⟩ := hW
  have hA : DataW.TrodAll enc Try.prog W 0 (fun _ => true) true Try.f4.params.toList args.toList ds p := hA0
  rw [Try.params4] at hA hval
  obtain ⟨v0, vs0, d0, ds0, p0, q0, hargs, rfl, rfl, h0, r0⟩ := trodAll_cons hA
  obtain ⟨v1, vs1, d1, ds1, p1, q1, rfl, rfl, rfl, h1, r1⟩ := trodAll_cons r0
  obtain ⟨v2, vs2, d2, ds2, p2, q2, rfl, rfl, rfl, h2, r2⟩ := trodAll_cons r1
  obtain ⟨rfl, rfl, rfl⟩ := trodAll_nil r2
  obtain rfl : args = #[v0, v1, v2] := by cases args; simp_all
  obtain ⟨rfl, rfl⟩ := trodVars_none hV
  have lt0 : ∀ x ∈ p0, x.block < W.heap.size := by obtain ⟨m, hm⟩ := h0; exact DataW.trod_lt m _ _ _ hm
  obtain ⟨A0, n0, cap0, f0, B0, m0, capb0, g0, rfl, hpa0, hpb0⟩ := open_mesh _ _ 25 27 55 3 3 Try.underlying25 ⟨rfl, rfl, by kernel_rfl, by kernel_rfl, by kernel_rfl⟩ Try.underlying22 (by kernel_rfl) (by decide) (by kernel_rfl) Try.underlying23 (by kernel_rfl) (by decide) (by kernel_rfl) (hval 0 25 v0 rfl rfl) h0 lt0
  have lt1 : ∀ x ∈ p1, x.block < W.heap.size := by obtain ⟨m, hm⟩ := h1; exact DataW.trod_lt m _ _ _ hm
  obtain ⟨l1, rfl, e1, b1⟩ := open_agg_ints 3 (by kernel_rfl) (by kernel_rfl) (ts := [3, 3, 3]) (by kernel_rfl) (by intro u hu; simp at hu; subst hu; exact Try.underlying3) (hval 1 27 v1 rfl rfl)
  obtain ⟨z1_0, z1_1, z1_2, rfl⟩ := len3 e1
  simp only [List.map_cons, List.map_nil] at *
  simp only [List.mem_cons, List.not_mem_nil, or_false, forall_eq_or_imp, forall_eq] at b1
  have lt2 : ∀ x ∈ p2, x.block < W.heap.size := by obtain ⟨m, hm⟩ := h2; exact DataW.trod_lt m _ _ _ hm
  obtain ⟨l2, rfl, e2, b2⟩ := open_agg_ints 3 (by kernel_rfl) (by kernel_rfl) (ts := [3, 3, 3]) (by kernel_rfl) (by intro u hu; simp at hu; subst hu; exact Try.underlying3) (hval 2 27 v2 rfl rfl)
  obtain ⟨z2_0, z2_1, z2_2, rfl⟩ := len3 e2
  simp only [List.map_cons, List.map_nil] at *
  simp only [List.mem_cons, List.not_mem_nil, or_false, forall_eq_or_imp, forall_eq] at b2
  clear hA0 hval0
  refine (alike_law A0 n0 cap0 f0 B0 m0 capb0 g0 z1_0 z1_1 z1_2 z2_0 z2_1 z2_2 W ⟨hpa0, hpb0⟩).mono fun e W' ⟨he, hk⟩ => ?_
  subst he
  have bel := hk.below
  exact ⟨_, rfl, _, _, _, [], _, [], hW', trodAll_mk1 (shut_bool Try.underlying4 _), (trodAll_cons_mk (Below.trod laidOutShapeWindsAlike (by kernel_rfl) (of_decide_eq_true (by kernel_rfl)) h0 bel lt0) (trodAll_cons_mk (Below.trod laidOutShapeWindsAlike (by kernel_rfl) (of_decide_eq_true (by kernel_rfl)) h1 bel lt1) (trodAll_cons_mk (Below.trod laidOutShapeWindsAlike (by kernel_rfl) (of_decide_eq_true (by kernel_rfl)) h2 bel lt2) trodAll_mk0))), rfl, bel.frame _, fun h => by cases h⟩
/-- For every input the statement ShapeWindsAlike returns true, and each argument reads afterwards as it read before. -/
theorem shapeWindsAlike_holds : Rows.ShapeWindsAlikeSaid :=
  OpenClaim.holds_of_wide 4 Try.f4 rfl rfl rfl rfl rfl rfl rfl ⟨rfl, rfl, rfl, rfl, rfl⟩ rfl rfl rfl rfl rfl (by kernel_rfl) Try.func4 (by kernel_rfl)
    (of_decide_eq_true (by kernel_rfl)) (by unfold Func.isWrapper; first | (rw [if_pos (by decide +kernel)]; kernel_rfl) | (rw [if_neg (by decide +kernel)]; exact ⟨rfl, rfl⟩))
    (fun os started H enc _ => liftedShapeWindsAlike os started H enc)
#print axioms shapeWindsAlike_holds

end Go.Proofs.Ytbhcjdgfcinpcaa
