/- Contracts: which matrices are valid, of the program and of the reference. Conditions: the number of rows is an int. -/
import Derived.Test.YtoejdfpmmgldpaaMat
namespace Go.Proofs.Ytoejdfpmmgldpaa
set_option linter.unusedVariables false
set_option linter.unusedSimpArgs false
open Go.RowKit
theorem bad_len {m : Nat → Nat} {f : Nat → Nat → Int} {k : Nat} (h : ¬ (1 ≤ m k ∧ m k ≤ 6)) : badRow m f k = true := by
  unfold badRow; rw [decide_eq_false h]; rfl
theorem bad_eq {m : Nat → Nat} {f : Nat → Nat → Int} {k : Nat} (h : m k ≠ m 0) : badRow m f k = true := by
  unfold badRow; rw [show (m k == m 0) = false by simpa using h]; simp
theorem bad_el {m : Nat → Nat} {f : Nat → Nat → Int} {k j : Nat} (hj : j < m k) (h : badE f k j = true) : badRow m f k = true := by
  unfold badRow; rw [any_range.2 ⟨j, hj, h⟩]; simp
theorem bad_none {m : Nat → Nat} {f : Nat → Nat → Int} {k : Nat} (h1 : 1 ≤ m k ∧ m k ≤ 6) (h2 : m k = m 0) (h3 : ∀ j, j < m k → badE f k j = false) : badRow m f k = false := by
  unfold badRow; rw [any_range_false.2 h3, decide_eq_true h1, show (m k == m 0) = true by simpa using h2]; rfl
theorem val_bad {n k : Nat} {m : Nat → Nat} {f : Nat → Nat → Int} {E : Int} (hk : k < n) (hb : badRow m f k = true) (hE : (if (List.range n).any (badRow m f) = true then (1 : Int) else 0) = E) : E = 1 := by
  rw [if_pos (any_range.2 ⟨k, hk, hb⟩)] at hE; exact hE.symm
theorem val_ok {n : Nat} {m : Nat → Nat} {f : Nat → Nat → Int} {E : Int} (hb : ∀ k, k < n → badRow m f k = false) (hE : (if (List.range n).any (badRow m f) = true then (1 : Int) else 0) = E) : E = 0 := by
  rw [any_range_false.2 hb] at hE; simpa using hE.symm
set_option maxRecDepth 100000 in
set_option maxHeartbeats 4000000 in
theorem cval_any (A : Option Addr) (n cap : Nat) (B : Nat → Option Addr) (m cp : Nat → Nat) (f : Nat → Nat → Int) (w : World) (hn : n ≤ 9223372036854775807) (h : MatAt w A n B m cp f) :
    Calls Try.prog 22 #[.slice A n cap] w fun e w' => e = .returned (.int .i64 (valE n m f)) ∧ w = w' := by
  have hI : ∀ k, k < n → m k ≤ 9223372036854775807 := fun k hk => by
    have := h.cap k hk
    unfold maxLen at this
    omega
  have HI := Lib.hid hI
  have HM := Lib.hid h
  clear h hI
  obtain ⟨E, hE⟩ : ∃ e, valE n m f = e := ⟨_, rfl⟩
  rw [hE]
  unfold valE at hE
  by_cases h1 : 1 ≤ n ∧ n ≤ 6
  · rw [if_pos h1] at hE
    have f1 : decide ((1 : Int) ≤ n ∧ (n : Int) ≤ 6) = true := decide_eq_true (by omega)
    have HE := Lib.hid hE
    clear hE
    obtain ⟨b, off, rfl, hb, c00⟩ := HM.out.at (k := 0) (by omega)
    have LB : Lower b w.heap.size := ⟨hb⟩
    rw [Nat.add_zero] at c00
    go_enter Try.func22, Try.ntmps22
    go_wp2_with (first | (go_at_call 54; refine (from_any _ _ _ _).mono ?_; rintro e w1 ⟨rfl, rfl⟩))
    go_loopw [13] (fun i wr => ∃ k : Nat, k ≤ n ∧ i = .int .i64 k ∧ (∀ j, j < k → badRow m f j = false) ∧ w = wr) (fun i _ => n - (intOf i).toNat)
    case atStart => exact ⟨0, by omega, rfl, fun j hj => absurd hj (by omega), by first | rfl | trivial⟩
    case round =>
      obtain ⟨k, hk, rfl, hno, rfl⟩ := hrel
      have HNO := Lib.hid hno
      clear hno
      by_cases hlt : k < n
      · obtain ⟨b', off', e, -, c0⟩ := HM.out.at (k := k) hlt
        cases e
        have hmk := HI.out k hlt
        have hm0 := HI.out 0 (by omega)
        have h2d : (m k : Int) ≤ 9223372036854775807 := by omega
        by_cases h2 : decide ((1 : Int) ≤ m k ∧ (m k : Int) ≤ 6) = true
        · by_cases h3 : m k = m 0
          · have h2o := of_decide_eq_true h2
            have h2n : 1 ≤ m k ∧ m k ≤ 6 := by omega
            have hlt0 : 0 < m k := by omega
            obtain ⟨rb, ro, hB, hrb, -⟩ := rows1 (HM.out.el k hlt) hlt0
            have LR : Lower rb w.heap.size := ⟨hrb⟩
            rw [hB] at c0
            rw [← h3] at c00
            have H3 := Lib.hid h3
            clear h3
            go_wp2_with (first | (go_at_call 54; refine (from_any _ _ _ _).mono ?_; rintro e w1 ⟨rfl, rfl⟩))
            go_loopw [32] (fun i wr => ∃ q : Nat, q ≤ m k ∧ i = .int .i64 q ∧ (∀ j, j < q → badE f k j = false) ∧ w = wr) (fun i _ => m k - (intOf i).toNat)
            case atStart => exact ⟨0, by omega, rfl, fun j hj => absurd hj (by omega), by first | rfl | trivial⟩
            case round =>
              obtain ⟨q, hq, rfl, hno2, rfl⟩ := hrel
              have HNO2 := Lib.hid hno2
              clear hno2
              by_cases hlq : q < m k
              · obtain ⟨rb', ro', e, -, c1, -⟩ := rows1 (HM.out.el k hlt) hlq
                rw [hB] at e
                cases e
                by_cases hbe : decide (-100 ≤ f k q ∧ f k q ≤ 100) = true
                · go_wp2_with (first | (go_at_call 54; refine (from_any _ _ _ _).mono ?_; rintro e w1 ⟨rfl, rfl⟩))
                  go_roundw
                  case rel =>
                    refine ⟨q + 1, by omega, by go_num, fun j hj => ?_, by first | rfl | trivial⟩
                    by_cases hjq : j = q
                    · subst hjq; unfold badE; rw [hbe]; rfl
                    · exact HNO2.out j (by omega)
                  case measure => simp [intOf]; omega
                · have hbe' : decide (-100 ≤ f k q ∧ f k q ≤ 100) = false := by simpa using hbe
                  go_wp2_with (first | (go_at_call 54; refine (from_any _ _ _ _).mono ?_; rintro e w1 ⟨rfl, rfl⟩))
                  go_ret
                  exact ⟨ret_int (val_bad hlt (bad_el hlq (by unfold badE; rw [hbe']; rfl)) HE.out).symm, rfl⟩
              · obtain rfl : q = m k := by omega
                go_wp2_with (first | (go_at_call 54; refine (from_any _ _ _ _).mono ?_; rintro e w1 ⟨rfl, rfl⟩))
                go_roundw
                case rel =>
                  refine ⟨k + 1, by omega, by go_num, fun j hj => ?_, by first | rfl | trivial⟩
                  by_cases hjk : j = k
                  · subst hjk; exact bad_none h2n H3.out HNO2.out
                  · exact HNO.out j (by omega)
                case measure => simp [intOf]; omega
          · have g3 : ((m k : Int) == (m 0 : Int)) = false := beq_eq_false_iff_ne.2 (by omega)
            have g7 : ((m k : Int) != (m 0 : Int)) = true := by simp only [bne, g3, Bool.not_false]
            have g3' : ¬ (m k : Int) = m 0 := by omega
            go_wp2_with (first | (go_at_call 54; refine (from_any _ _ _ _).mono ?_; rintro e w1 ⟨rfl, rfl⟩))
            go_ret
            exact ⟨ret_int (val_bad hlt (bad_eq h3) HE.out).symm, rfl⟩
        · have h2' : decide ((1 : Int) ≤ m k ∧ (m k : Int) ≤ 6) = false := by simpa using h2
          go_wp2_with (first | (go_at_call 54; refine (from_any _ _ _ _).mono ?_; rintro e w1 ⟨rfl, rfl⟩))
          go_ret
          exact ⟨ret_int (val_bad hlt (bad_len (fun h => h2 (decide_eq_true (by omega)))) HE.out).symm, rfl⟩
      · obtain rfl : k = n := by omega
        go_wp2_with (first | (go_at_call 54; refine (from_any _ _ _ _).mono ?_; rintro e w1 ⟨rfl, rfl⟩))
        go_ret
        exact ⟨ret_int (val_ok HNO.out HE.out).symm, rfl⟩
  · rw [if_neg h1] at hE
    subst hE
    have f1 : decide ((1 : Int) ≤ n ∧ (n : Int) ≤ 6) = false := decide_eq_false (by omega)
    go_enter Try.func22, Try.ntmps22
    go_wp2_with (first | (go_at_call 54; refine (from_any _ _ _ _).mono ?_; rintro e w1 ⟨rfl, rfl⟩))
    go_ret
    exact ⟨rfl, rfl⟩
set_option maxRecDepth 100000 in
set_option maxHeartbeats 4000000 in
theorem r6val_any (A : Option Addr) (n cap : Nat) (B : Nat → Option Addr) (m cp : Nat → Nat) (f : Nat → Nat → Int) (w : World) (hn : n ≤ 9223372036854775807) (h : MatAt w A n B m cp f) :
    Calls Try.prog 23 #[.slice A n cap] w fun e w' => e = .returned (.int .i64 (valE n m f)) ∧ Kept w w' := by
  have hI : ∀ k, k < n → m k ≤ 9223372036854775807 := fun k hk => by
    have := h.cap k hk
    unfold maxLen at this
    omega
  have HI := Lib.hid hI
  have HM := Lib.hid h
  clear h hI
  obtain ⟨E, hE⟩ : ∃ e, valE n m f = e := ⟨_, rfl⟩
  rw [hE]
  unfold valE at hE
  by_cases h1 : 1 ≤ n ∧ n ≤ 6
  · rw [if_pos h1] at hE
    have f1 : decide ((1 : Int) ≤ n ∧ (n : Int) ≤ 6) = true := decide_eq_true (by omega)
    have HE := Lib.hid hE
    clear hE
    obtain ⟨b, off, rfl, hb, c00⟩ := HM.out.at (k := 0) (by omega)
    have LB : Lower b w.heap.size := ⟨hb⟩
    rw [Nat.add_zero] at c00
    go_enter Try.func23, Try.ntmps23
    go_wp2_with (first | (go_at_call 58; refine (r6within_any _ _ _ _).mono ?_; rintro e w1 ⟨rfl, rfl⟩))
    go_loopw [3] (fun i wr => ∃ k : Nat, k ≤ n ∧ i = .int .i64 k ∧ (∀ j, j < k → badRow m f j = false) ∧ (∃ y, wr = ext w y)) (fun i _ => n - (intOf i).toNat)
    case atStart => exact ⟨0, by omega, rfl, fun j hj => absurd hj (by omega), show Kept _ _ by (repeat (first | exact Kept.refl _ | assumption | refine Kept.alloc ?_ _ | refine Kept.ext ?_ _ | refine Kept.drew ?_ | refine Kept.drewN ?_ _))⟩
    case round =>
      obtain ⟨k, hk, rfl, hno, ⟨y, rfl⟩⟩ := hrel
      have HNO := Lib.hid hno
      clear hno
      by_cases hlt : k < n
      · obtain ⟨b', off', e, -, c0⟩ := HM.out.at (k := k) hlt
        cases e
        have hmk := HI.out k hlt
        have hm0 := HI.out 0 (by omega)
        have h2d : (m k : Int) ≤ 9223372036854775807 := by omega
        by_cases h2 : decide ((1 : Int) ≤ m k ∧ (m k : Int) ≤ 6) = true
        · by_cases h3 : m k = m 0
          · have h2o := of_decide_eq_true h2
            have h2n : 1 ≤ m k ∧ m k ≤ 6 := by omega
            have hlt0 : 0 < m k := by omega
            obtain ⟨rb, ro, hB, hrb, -⟩ := rows1 (HM.out.el k hlt) hlt0
            have LR : Lower rb w.heap.size := ⟨hrb⟩
            rw [hB] at c0
            rw [← h3] at c00
            have H3 := Lib.hid h3
            clear h3
            go_wp2_with (first | (go_at_call 58; refine (r6within_any _ _ _ _).mono ?_; rintro e w1 ⟨rfl, rfl⟩))
            ((first | (with_reducible refine wp_region_kept2 (by kernel_rfl) (by kernel_rfl) ?_) | refine wp_region_kept (by kernel_rfl) (by kernel_rfl) ?_); (repeat (go_big_quiet_step (first | (go_at_call 58; exact Calls.kept_same (r6within_any _ _ _ _))))); refine wpQuiet_nil ?_; intro x)
            try simp only [h2]
            go_wp2_with (first | (go_at_call 58; refine (r6within_any _ _ _ _).mono ?_; rintro e w1 ⟨rfl, rfl⟩))
            go_loopw [4] (fun i wr => ∃ q : Nat, q ≤ m k ∧ i = .int .i64 q ∧ (∀ j, j < q → badE f k j = false) ∧ (∃ y, wr = ext w y)) (fun i _ => m k - (intOf i).toNat)
            case atStart => exact ⟨0, by omega, rfl, fun j hj => absurd hj (by omega), show Kept _ _ by (repeat (first | exact Kept.refl _ | assumption | refine Kept.alloc ?_ _ | refine Kept.ext ?_ _ | refine Kept.drew ?_ | refine Kept.drewN ?_ _))⟩
            case round =>
              obtain ⟨q, hq, rfl, hno2, ⟨y2, rfl⟩⟩ := hrel
              have HNO2 := Lib.hid hno2
              clear hno2
              by_cases hlq : q < m k
              · obtain ⟨rb', ro', e, -, c1, -⟩ := rows1 (HM.out.el k hlt) hlq
                rw [hB] at e
                cases e
                by_cases hbe : decide (-100 ≤ f k q ∧ f k q ≤ 100) = true
                · go_wp2_with (first | (go_at_call 58; refine (r6within_any _ _ _ _).mono ?_; rintro e w1 ⟨rfl, rfl⟩))
                  go_roundw
                  case rel =>
                    refine ⟨q + 1, by omega, by go_num, fun j hj => ?_, show Kept _ _ by (repeat (first | exact Kept.refl _ | assumption | refine Kept.alloc ?_ _ | refine Kept.ext ?_ _ | refine Kept.drew ?_ | refine Kept.drewN ?_ _))⟩
                    by_cases hjq : j = q
                    · subst hjq; unfold badE; rw [hbe]; rfl
                    · exact HNO2.out j (by omega)
                  case measure => simp [intOf]; omega
                · have hbe' : decide (-100 ≤ f k q ∧ f k q ≤ 100) = false := by simpa using hbe
                  go_wp2_with (first | (go_at_call 58; refine (r6within_any _ _ _ _).mono ?_; rintro e w1 ⟨rfl, rfl⟩))
                  go_ret
                  exact ⟨ret_int (val_bad hlt (bad_el hlq (by unfold badE; rw [hbe']; rfl)) HE.out).symm, by (repeat (first | exact Kept.refl _ | assumption | refine Kept.alloc ?_ _ | refine Kept.ext ?_ _ | refine Kept.drew ?_ | refine Kept.drewN ?_ _))⟩
              · obtain rfl : q = m k := by omega
                go_wp2_with (first | (go_at_call 58; refine (r6within_any _ _ _ _).mono ?_; rintro e w1 ⟨rfl, rfl⟩))
                go_roundw
                case rel =>
                  refine ⟨k + 1, by omega, by go_num, fun j hj => ?_, show Kept _ _ by (repeat (first | exact Kept.refl _ | assumption | refine Kept.alloc ?_ _ | refine Kept.ext ?_ _ | refine Kept.drew ?_ | refine Kept.drewN ?_ _))⟩
                  by_cases hjk : j = k
                  · subst hjk; exact bad_none h2n H3.out HNO2.out
                  · exact HNO.out j (by omega)
                case measure => simp [intOf]; omega
          · have g3 : ((m k : Int) == (m 0 : Int)) = false := beq_eq_false_iff_ne.2 (by omega)
            have g7 : ((m k : Int) != (m 0 : Int)) = true := by simp only [bne, g3, Bool.not_false]
            have g3' : ¬ (m k : Int) = m 0 := by omega
            go_wp2_with (first | (go_at_call 58; refine (r6within_any _ _ _ _).mono ?_; rintro e w1 ⟨rfl, rfl⟩))
            ((first | (with_reducible refine wp_region_kept2 (by kernel_rfl) (by kernel_rfl) ?_) | refine wp_region_kept (by kernel_rfl) (by kernel_rfl) ?_); (repeat (go_big_quiet_step (first | (go_at_call 58; exact Calls.kept_same (r6within_any _ _ _ _))))); refine wpQuiet_nil ?_; intro x)
            try simp only [h2]
            go_wp2_with (first | (go_at_call 58; refine (r6within_any _ _ _ _).mono ?_; rintro e w1 ⟨rfl, rfl⟩))
            go_ret
            exact ⟨ret_int (val_bad hlt (bad_eq h3) HE.out).symm, by (repeat (first | exact Kept.refl _ | assumption | refine Kept.alloc ?_ _ | refine Kept.ext ?_ _ | refine Kept.drew ?_ | refine Kept.drewN ?_ _))⟩
        · have h2' : decide ((1 : Int) ≤ m k ∧ (m k : Int) ≤ 6) = false := by simpa using h2
          by_cases h3 : m k = m 0
          · have g3 : ((m k : Int) == (m 0 : Int)) = true := by rw [h3]; exact beq_self_eq_true _
            have g3' : (m 0 : Int) = m k := by rw [h3]
            go_wp2_with (first | (go_at_call 58; refine (r6within_any _ _ _ _).mono ?_; rintro e w1 ⟨rfl, rfl⟩))
            ((first | (with_reducible refine wp_region_kept2 (by kernel_rfl) (by kernel_rfl) ?_) | refine wp_region_kept (by kernel_rfl) (by kernel_rfl) ?_); (repeat (go_big_quiet_step (first | (go_at_call 58; exact Calls.kept_same (r6within_any _ _ _ _))))); refine wpQuiet_nil ?_; intro x)
            try simp only [h2]
            go_wp2_with (first | (go_at_call 58; refine (r6within_any _ _ _ _).mono ?_; rintro e w1 ⟨rfl, rfl⟩))
            go_ret
            exact ⟨ret_int (val_bad hlt (bad_len (fun h => h2 (decide_eq_true (by omega)))) HE.out).symm, by (repeat (first | exact Kept.refl _ | assumption | refine Kept.alloc ?_ _ | refine Kept.ext ?_ _ | refine Kept.drew ?_ | refine Kept.drewN ?_ _))⟩
          · have g3 : ((m k : Int) == (m 0 : Int)) = false := beq_eq_false_iff_ne.2 (by omega)
            have g7 : ((m k : Int) != (m 0 : Int)) = true := by simp only [bne, g3, Bool.not_false]
            have g3' : ¬ (m k : Int) = m 0 := by omega
            go_wp2_with (first | (go_at_call 58; refine (r6within_any _ _ _ _).mono ?_; rintro e w1 ⟨rfl, rfl⟩))
            ((first | (with_reducible refine wp_region_kept2 (by kernel_rfl) (by kernel_rfl) ?_) | refine wp_region_kept (by kernel_rfl) (by kernel_rfl) ?_); (repeat (go_big_quiet_step (first | (go_at_call 58; exact Calls.kept_same (r6within_any _ _ _ _))))); refine wpQuiet_nil ?_; intro x)
            try simp only [h2]
            go_wp2_with (first | (go_at_call 58; refine (r6within_any _ _ _ _).mono ?_; rintro e w1 ⟨rfl, rfl⟩))
            go_ret
            exact ⟨ret_int (val_bad hlt (bad_eq h3) HE.out).symm, by (repeat (first | exact Kept.refl _ | assumption | refine Kept.alloc ?_ _ | refine Kept.ext ?_ _ | refine Kept.drew ?_ | refine Kept.drewN ?_ _))⟩
      · obtain rfl : k = n := by omega
        go_wp2_with (first | (go_at_call 58; refine (r6within_any _ _ _ _).mono ?_; rintro e w1 ⟨rfl, rfl⟩))
        go_ret
        exact ⟨ret_int (val_ok HNO.out HE.out).symm, by (repeat (first | exact Kept.refl _ | assumption | refine Kept.alloc ?_ _ | refine Kept.ext ?_ _ | refine Kept.drew ?_ | refine Kept.drewN ?_ _))⟩
  · rw [if_neg h1] at hE
    subst hE
    have f1 : decide ((1 : Int) ≤ n ∧ (n : Int) ≤ 6) = false := decide_eq_false (by omega)
    go_enter Try.func23, Try.ntmps23
    go_wp2_with (first | (go_at_call 58; refine (r6within_any _ _ _ _).mono ?_; rintro e w1 ⟨rfl, rfl⟩))
    go_ret
    exact ⟨rfl, by (repeat (first | exact Kept.refl _ | assumption | refine Kept.alloc ?_ _ | refine Kept.ext ?_ _ | refine Kept.drew ?_ | refine Kept.drewN ?_ _))⟩
end Go.Proofs.Ytoejdfpmmgldpaa
