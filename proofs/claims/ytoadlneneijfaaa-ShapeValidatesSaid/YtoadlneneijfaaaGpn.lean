/- Contracts: the panels of a mesh, of the program and of the reference, and that equal lists are told so. Conditions: the lists' lengths are ints. -/
import Derived.Test.YtoadlneneijfaaaGce
import Derived.Test.YtoadlneneijfaaaGeq
namespace Go.Proofs.Ytoadlneneijfaaa
set_option linter.unusedVariables false
set_option linter.unusedSimpArgs false
open Go.RowKit
/-- What Panels returns. -/
def PanR (w w' : World) (r : Ending) (e : Int) (m : Nat) (P F : Nat → Nat → Int) : Prop :=
  ∃ A cap, r = .returned (.tuple #[.slice A (okN e m) cap, .int .i64 e]) ∧ Kept w w' ∧ RowsAt w' A (okN e m) 9 (pnF P F)
set_option maxRecDepth 100000 in
theorem spanelsE_any (A B : Option Addr) (n cap m cap2 : Nat) (P F : Nat → Nat → Int) (w : World) (hn : n ≤ 9223372036854775807 ∧ m ≤ 9223372036854775807) (hP : RowsAt w A n 3 P) (hF : RowsAt w B m 3 F) :
    Calls Try.prog 26 #[.agg #[.slice A n cap, .slice B m cap2]] w fun r w' => PanR w w' r (validE n P m F) m P F := by
  have HP := Lib.hid hP
  have HF := Lib.hid hF
  clear hP hF
  unfold PanR
  by_cases hv : validE n P m F = 0
  · have HV := Lib.hid hv
    obtain ⟨n64, m96, hb, hf, -⟩ := validE_ok hv
    have HC := Lib.hid (corn_of hf)
    clear hv hb hf
    go_enter Try.func26, Try.ntmps26
    go_wp2_with (first | (go_at_call 30; refine (svalidate_any _ _ _ _ _ _ P F _ hn (HP.out.of (by (repeat (first | exact Kept.refl _ | assumption | refine Kept.alloc ?_ _ | refine Kept.ext ?_ _ | refine Kept.drew ?_ | refine Kept.drewN ?_ _)))) (HF.out.of (by (repeat (first | exact Kept.refl _ | assumption | refine Kept.alloc ?_ _ | refine Kept.ext ?_ _ | refine Kept.drew ?_ | refine Kept.drewN ?_ _))))).mono ?_; rintro e w1 ⟨rfl, x0, rfl⟩; rw [HV.out]) | fail)
    refine (spanels_any _ _ _ _ _ _ P F _ (by omega) (by omega) HC.out (HP.out.of (by (repeat (first | exact Kept.refl _ | assumption | refine Kept.alloc ?_ _ | refine Kept.ext ?_ _ | refine Kept.drew ?_ | refine Kept.drewN ?_ _)))) (HF.out.of (by (repeat (first | exact Kept.refl _ | assumption | refine Kept.alloc ?_ _ | refine Kept.ext ?_ _ | refine Kept.drew ?_ | refine Kept.drewN ?_ _))))).mono ?_
    rintro r w1 ⟨v, rfl, ⟨x1, rfl⟩, hown⟩
    obtain ⟨A2, cp, rfl, hcp⟩ := own_sl hown
    have HR := Lib.hid (rows_of_owns hown (pnF_I (rows_I HP.out) HC.out))
    clear hown
    go_wp2_with fail
    refine bodyPost_ret (by simp only [results, Try.results26]; go_simp; rfl) rfl ?_
    rw [HV.out]
    exact ⟨A2, cp, rfl, by (repeat (first | exact Kept.refl _ | assumption | refine Kept.alloc ?_ _ | refine Kept.ext ?_ _ | refine Kept.drew ?_ | refine Kept.drewN ?_ _)), HR.out.of (by (repeat (first | exact Kept.refl _ | assumption | refine Kept.alloc ?_ _ | refine Kept.ext ?_ _ | refine Kept.drew ?_ | refine Kept.drewN ?_ _)))⟩
  · obtain ⟨e, he⟩ : ∃ e, validE n P m F = e := ⟨_, rfl⟩
    rw [he] at hv
    have HV := Lib.hid he
    clear he
    have hv2 : (e == 0) = false := by simpa using hv
    have hv3 : decide (e = 0) = false := by simpa using hv
    go_enter Try.func26, Try.ntmps26
    go_wp2_with (go_at_call 30; refine (svalidate_any _ _ _ _ _ _ P F _ hn (HP.out.of (by (repeat (first | exact Kept.refl _ | assumption | refine Kept.alloc ?_ _ | refine Kept.ext ?_ _ | refine Kept.drew ?_ | refine Kept.drewN ?_ _)))) (HF.out.of (by (repeat (first | exact Kept.refl _ | assumption | refine Kept.alloc ?_ _ | refine Kept.ext ?_ _ | refine Kept.drew ?_ | refine Kept.drewN ?_ _))))).mono ?_; rintro e w1 ⟨rfl, x, rfl⟩; rw [HV.out])
    refine bodyPost_ret (by simp only [results, Try.results26]; go_simp; rfl) rfl ?_
    rw [HV.out]
    have ek : ∀ n, okN e n = 0 := fun n => if_neg hv
    rw [ek]
    exact ⟨none, 0, rfl, by (repeat (first | exact Kept.refl _ | assumption | refine Kept.alloc ?_ _ | refine Kept.ext ?_ _ | refine Kept.drew ?_ | refine Kept.drewN ?_ _)), RowsAt.nil0⟩
set_option maxRecDepth 100000 in
set_option maxHeartbeats 16000000 in
theorem r2panels_any (A B : Option Addr) (n cap m cap2 : Nat) (P F : Nat → Nat → Int) (w : World) (hn : n ≤ 9223372036854775807 ∧ m ≤ 9223372036854775807) (hP : RowsAt w A n 3 P) (hF : RowsAt w B m 3 F) :
    Calls Try.prog 27 #[.agg #[.slice A n cap, .slice B m cap2]] w fun r w' => PanR w w' r (validE n P m F) m P F := by
  have HP := Lib.hid hP
  have HF := Lib.hid hF
  clear hP hF
  unfold PanR
  by_cases hv : validE n P m F = 0
  · have HV := Lib.hid hv
    obtain ⟨n64, m96, hb, hf, -⟩ := validE_ok hv
    have HC := Lib.hid (corn_of hf)
    clear hv hb hf
    obtain ⟨i0, hi, hz0, hz1, hz2⟩ := info_parts infoPanel
    have HI := Lib.hid (And.intro hi (And.intro hz0 (And.intro hz1 hz2)))
    clear hi hz0 hz1 hz2
    go_enter Try.func27, Try.ntmps27
    go_wp2_with (first | (go_at_call 31; refine (r2validate_any _ _ _ _ _ _ P F _ hn (HP.out.of (by (repeat (first | exact Kept.refl _ | assumption | refine Kept.alloc ?_ _ | refine Kept.ext ?_ _ | refine Kept.drew ?_ | refine Kept.drewN ?_ _)))) (HF.out.of (by (repeat (first | exact Kept.refl _ | assumption | refine Kept.alloc ?_ _ | refine Kept.ext ?_ _ | refine Kept.drew ?_ | refine Kept.drewN ?_ _))))).mono ?_; rintro e w1 ⟨rfl, x0, rfl⟩; rw [HV.out]) | fail)
    go_loopw [5, 6] (fun v i wr => ∃ k : Nat, k ≤ m ∧ i = .int .i64 k ∧ (∃ y, wr = ext (w.alloc (.cells #[.slice A n cap, .slice B m cap2] 25)) y) ∧ wr.ownsRow (w.heap.size + 1) 36 9 v k (rowC 9 (pnF P F) k)) (fun _ i _ => m - (intOf i).toNat)
    case atStart => exact ⟨0, by omega, rfl, show Kept _ _ by (repeat (first | exact Kept.refl _ | assumption | refine Kept.alloc ?_ _ | refine Kept.ext ?_ _ | refine Kept.drew ?_ | refine Kept.drewN ?_ _)), ⟨rfl, .inl ⟨rfl, rfl⟩⟩⟩
    case round =>
      obtain ⟨k, hk, rfl, ⟨y, rfl⟩, hown⟩ := hrel
      obtain ⟨A2, cp2, rfl, hcp⟩ := own_sl hown
      have HO := Lib.hid hown
      clear hown
      by_cases hlt : k < m
      · have hcB := HC.out k hlt
        go_wp2_with (first | (go_at_call 72; refine (r2corners_any _ _ _ _ _ _ P F k _ hcB (by omega) (HP.out.of (by (repeat (first | exact Kept.refl _ | assumption | refine Kept.alloc ?_ _ | refine Kept.ext ?_ _ | refine Kept.drew ?_ | refine Kept.drewN ?_ _)))) (HF.out.of (by (repeat (first | exact Kept.refl _ | assumption | refine Kept.alloc ?_ _ | refine Kept.ext ?_ _ | refine Kept.drew ?_ | refine Kept.drewN ?_ _))))).mono ?_; rintro e w1 ⟨rfl, x, rfl⟩; unfold faceV) | (at_builtin; refine wpList_append_lies _ rfl _ _ _ rfl (w.heap.size + 1) 36 i0 _ 9 72 Try.underlying43 HI.out.1 HI.out.2.1 HI.out.2.2.1 HI.out.2.2.2 rfl (by omega) _ k (rowC 9 (pnF P F) k) rfl (owns_kept HO.out (by (repeat (first | exact Kept.refl _ | assumption | refine Kept.alloc ?_ _ | refine Kept.ext ?_ _ | refine Kept.drew ?_ | refine Kept.drewN ?_ _)))) _ 1 1 [.int .i64 (co P F k 0 0), .int .i64 (co P F k 0 1), .int .i64 (co P F k 0 2), .int .i64 (co P F k 1 0), .int .i64 (co P F k 1 1), .int .i64 (co P F k 1 2), .int .i64 (co P F k 2 0), .int .i64 (co P F k 2 1), .int .i64 (co P F k 2 2)] rfl rfl (World.news_of_block (alloc_now _ _ _)) (by simp [Value.oneCell']) (by omega) (by unfold maxLen; omega) (by omega) (by simp [adv]; omega) _ rfl ?_; intro g cp w2 hown2 hg2 hat hlt2))
        have hk2 : Kept (w.alloc (.cells #[.slice A n cap, .slice B m cap2] 25)) w2 := by
          refine kept_grown (base := w.heap.size + 1) ?_ (owns_kept HO.out ?_) (by simp) hg2
          · (repeat (first | exact Kept.refl _ | assumption | refine Kept.alloc ?_ _ | refine Kept.ext ?_ _ | refine Kept.drew ?_ | refine Kept.drewN ?_ _))
          · (repeat (first | exact Kept.refl _ | assumption | refine Kept.alloc ?_ _ | refine Kept.ext ?_ _ | refine Kept.drew ?_ | refine Kept.drewN ?_ _))
        have e9 : rowC 9 (pnF P F) (k + 1) = rowC 9 (pnF P F) k ++ [.int .i64 (co P F k 0 0), .int .i64 (co P F k 0 1), .int .i64 (co P F k 0 2), .int .i64 (co P F k 1 0), .int .i64 (co P F k 1 1), .int .i64 (co P F k 1 2), .int .i64 (co P F k 2 0), .int .i64 (co P F k 2 1), .int .i64 (co P F k 2 2)] := by rw [rowC_next, pnF_row]
        go_roundw
        case rel => exact ⟨k + 1, by omega, by go_num, hk2, by rw [e9]; exact hown2⟩
        case measure => simp [intOf]; omega
      · obtain rfl : k = m := by omega
        have HR := Lib.hid (rows_of_owns HO.out (pnF_I (rows_I HP.out) HC.out))
        go_wp2_with fail
        refine bodyPost_ret (by simp only [results, Try.results27]; go_simp; rfl) rfl ?_
        rw [HV.out]
        exact ⟨A2, cp2, rfl, by (repeat (first | exact Kept.refl _ | assumption | refine Kept.alloc ?_ _ | refine Kept.ext ?_ _ | refine Kept.drew ?_ | refine Kept.drewN ?_ _)), HR.out.of (by (repeat (first | exact Kept.refl _ | assumption | refine Kept.alloc ?_ _ | refine Kept.ext ?_ _ | refine Kept.drew ?_ | refine Kept.drewN ?_ _)))⟩
  · obtain ⟨e, he⟩ : ∃ e, validE n P m F = e := ⟨_, rfl⟩
    rw [he] at hv
    have HV := Lib.hid he
    clear he
    have hv2 : (e == 0) = false := by simpa using hv
    have hv3 : decide (e = 0) = false := by simpa using hv
    go_enter Try.func27, Try.ntmps27
    go_wp2_with (go_at_call 31; refine (r2validate_any _ _ _ _ _ _ P F _ hn (HP.out.of (by (repeat (first | exact Kept.refl _ | assumption | refine Kept.alloc ?_ _ | refine Kept.ext ?_ _ | refine Kept.drew ?_ | refine Kept.drewN ?_ _)))) (HF.out.of (by (repeat (first | exact Kept.refl _ | assumption | refine Kept.alloc ?_ _ | refine Kept.ext ?_ _ | refine Kept.drew ?_ | refine Kept.drewN ?_ _))))).mono ?_; rintro e w1 ⟨rfl, x, rfl⟩; rw [HV.out])
    refine bodyPost_ret (by simp only [results, Try.results27]; go_simp; rfl) rfl ?_
    rw [HV.out]
    have ek : ∀ n, okN e n = 0 := fun n => if_neg hv
    rw [ek]
    exact ⟨none, 0, rfl, by (repeat (first | exact Kept.refl _ | assumption | refine Kept.alloc ?_ _ | refine Kept.ext ?_ _ | refine Kept.drew ?_ | refine Kept.drewN ?_ _)), RowsAt.nil0⟩
set_option maxRecDepth 100000 in
set_option maxHeartbeats 16000000 in
theorem samep_any (A B : Option Addr) (m cap cap2 : Nat) (P F : Nat → Nat → Int) (w : World) (hm : m ≤ 9223372036854775807) (hA : RowsAt w A m 9 (pnF P F)) (hB : RowsAt w B m 9 (pnF P F)) :
    Calls Try.prog 32 #[.slice A m cap, .slice B m cap2] w fun r w' => r = .returned (.bool true) ∧ Kept w w' := by
  have HA := Lib.hid hA
  have HB := Lib.hid hB
  clear hA hB
  go_enter Try.func32, Try.ntmps32
  go_wp2_with fail
  go_loopw [5] (fun i wr => ∃ k : Nat, k ≤ m ∧ i = .int .i64 k ∧ (∃ y, wr = ext w y)) (fun i _ => m - (intOf i).toNat)
  case atStart => exact ⟨0, by omega, rfl, show Kept _ _ by (repeat (first | exact Kept.refl _ | assumption | refine Kept.alloc ?_ _ | refine Kept.ext ?_ _ | refine Kept.drew ?_ | refine Kept.drewN ?_ _))⟩
  case round =>
    obtain ⟨k, hk, rfl, y, rfl⟩ := hrel
    by_cases hlt : k < m
    · obtain ⟨b, off, rfl, hb, f0, f1, f2, f3, f4, f5, f6, f7, f8⟩ := panel_at HA.out hlt
      obtain ⟨b', off', rfl, hb', g0, g1, g2, g3, g4, g5, g6, g7, g8⟩ := panel_at HB.out hlt
      have LB : Lower b w.heap.size := ⟨hb⟩
      have LB' : Lower b' w.heap.size := ⟨hb'⟩
      go_wp2_with fail
      ((first | (with_reducible refine wp_region_kept2 (by kernel_rfl) (by kernel_rfl) ?_) | refine wp_region_kept (by kernel_rfl) (by kernel_rfl) ?_); (repeat (go_big_quiet_step (first | fail))); refine wpQuiet_nil ?_; intro x)
      go_wp2_with fail
      go_roundw
      case rel => exact ⟨k + 1, by omega, by go_num, show Kept _ _ by (repeat (first | exact Kept.refl _ | assumption | refine Kept.alloc ?_ _ | refine Kept.ext ?_ _ | refine Kept.drew ?_ | refine Kept.drewN ?_ _))⟩
      case measure => simp [intOf]; omega
    · obtain rfl : k = m := by omega
      go_wp2_with fail
      go_ret
      exact ⟨rfl, by (repeat (first | exact Kept.refl _ | assumption | refine Kept.alloc ?_ _ | refine Kept.ext ?_ _ | refine Kept.drew ?_ | refine Kept.drewN ?_ _))⟩
end Go.Proofs.Ytoadlneneijfaaa
