/- Contracts: which matrices are valid, of the program and of the reference. Conditions: the number of rows is an int. Contracts: which lists are sets of numbers below a bound, of the program and of the reference. Conditions: the list's length is an int, the bound is small. Contracts: the error of a matrix and a choice, of the program and of the reference. Conditions: the lists' lengths are ints. -/
import Derived.Test.YtjadpehpempjoaaMat
namespace Go.Proofs.Ytjadpehpempjoaa
set_option linter.unusedVariables false
set_option linter.unusedSimpArgs false
open Go.RowKit
theorem bad_len {m : Nat → Nat} {f : Nat → Nat → Int} {k : Nat} (h : ¬ (1 ≤ m k ∧ m k ≤ 6)) : badRow m f k = true := by
  unfold badRow; rw [decide_eq_false h]; rfl
theorem bad_eq {m : Nat → Nat} {f : Nat → Nat → Int} {k : Nat} (h : m k ≠ m 0) : badRow m f k = true := by
  unfold badRow; rw [show (m k == m 0) = false by simpa using h]; simp
theorem bad_el {m : Nat → Nat} {f : Nat → Nat → Int} {k j : Nat} (hj : j < m k) (h : badE f k j = true) : badRow m f k = true := by
  unfold badRow; rw [any_range.2 ⟨j, hj, h⟩]; simp
theorem bad_none {m : Nat → Nat} {f : Nat → Nat → Int} {k : Nat} (h1 : 1 ≤ m k ∧ m k ≤ 6) (h2 : m k = m 0) (h3 : ∀ j, j < m k → badE f k j = false) : badRow m f k = false := by
  unfold badRow; rw [any_range_false.2 h3, decide_eq_true h1, show (m k == m 0) = true by simpa using h2]; rfl
theorem val_bad {n k : Nat} {m : Nat → Nat} {f : Nat → Nat → Int} {E : Int} (hk : k < n) (hb : badRow m f k = true) (hE : (if (List.range n).any (badRow m f) = true then (1 : Int) else 0) = E) : E = 1 := by
  rw [if_pos (any_range.2 ⟨k, hk, hb⟩)] at hE; exact hE.symm
theorem val_ok {n : Nat} {m : Nat → Nat} {f : Nat → Nat → Int} {E : Int} (hb : ∀ k, k < n → badRow m f k = false) (hE : (if (List.range n).any (badRow m f) = true then (1 : Int) else 0) = E) : E = 0 := by
  rw [any_range_false.2 hb] at hE; simpa using hE.symm
set_option maxRecDepth 100000 in
set_option maxHeartbeats 4000000 in
theorem cval_any (A : Option Addr) (n cap : Nat) (B : Nat → Option Addr) (m cp : Nat → Nat) (f : Nat → Nat → Int) (w : World) (hn : n ≤ 9223372036854775807) (h : MatAt w A n B m cp f) :
    Calls Try.prog 15 #[.slice A n cap] w fun e w' => e = .returned (.int .i64 (valE n m f)) ∧ w = w' := by
  have hI : ∀ k, k < n → m k ≤ 9223372036854775807 := fun k hk => by
    have := h.cap k hk
    unfold maxLen at this
    omega
  have HI := Lib.hid hI
  have HM := Lib.hid h
  clear h hI
  obtain ⟨E, hE⟩ : ∃ e, valE n m f = e := ⟨_, rfl⟩
  rw [hE]
  unfold valE at hE
  by_cases h1 : 1 ≤ n ∧ n ≤ 6
  · rw [if_pos h1] at hE
    have f1 : decide ((1 : Int) ≤ n ∧ (n : Int) ≤ 6) = true := decide_eq_true (by omega)
    have HE := Lib.hid hE
    clear hE
    obtain ⟨b, off, rfl, hb, c00⟩ := HM.out.at (k := 0) (by omega)
    have LB : Lower b w.heap.size := ⟨hb⟩
    rw [Nat.add_zero] at c00
    go_enter Try.func15, Try.ntmps15
    go_wp2_with (first | (go_at_call 27; refine (from_any _ _ _ _).mono ?_; rintro e w1 ⟨rfl, rfl⟩))
    go_loopw [13] (fun i wr => ∃ k : Nat, k ≤ n ∧ i = .int .i64 k ∧ (∀ j, j < k → badRow m f j = false) ∧ w = wr) (fun i _ => n - (intOf i).toNat)
    case atStart => exact ⟨0, by omega, rfl, fun j hj => absurd hj (by omega), by first | rfl | trivial⟩
    case round =>
      obtain ⟨k, hk, rfl, hno, rfl⟩ := hrel
      have HNO := Lib.hid hno
      clear hno
      by_cases hlt : k < n
      · obtain ⟨b', off', e, -, c0⟩ := HM.out.at (k := k) hlt
        cases e
        have hmk := HI.out k hlt
        have hm0 := HI.out 0 (by omega)
        have h2d : (m k : Int) ≤ 9223372036854775807 := by omega
        by_cases h2 : decide ((1 : Int) ≤ m k ∧ (m k : Int) ≤ 6) = true
        · by_cases h3 : m k = m 0
          · have h2o := of_decide_eq_true h2
            have h2n : 1 ≤ m k ∧ m k ≤ 6 := by omega
            have hlt0 : 0 < m k := by omega
            obtain ⟨rb, ro, hB, hrb, -⟩ := rows1 (HM.out.el k hlt) hlt0
            have LR : Lower rb w.heap.size := ⟨hrb⟩
            rw [hB] at c0
            rw [← h3] at c00
            have H3 := Lib.hid h3
            clear h3
            go_wp2_with (first | (go_at_call 27; refine (from_any _ _ _ _).mono ?_; rintro e w1 ⟨rfl, rfl⟩))
            go_loopw [32] (fun i wr => ∃ q : Nat, q ≤ m k ∧ i = .int .i64 q ∧ (∀ j, j < q → badE f k j = false) ∧ w = wr) (fun i _ => m k - (intOf i).toNat)
            case atStart => exact ⟨0, by omega, rfl, fun j hj => absurd hj (by omega), by first | rfl | trivial⟩
            case round =>
              obtain ⟨q, hq, rfl, hno2, rfl⟩ := hrel
              have HNO2 := Lib.hid hno2
              clear hno2
              by_cases hlq : q < m k
              · obtain ⟨rb', ro', e, -, c1, -⟩ := rows1 (HM.out.el k hlt) hlq
                rw [hB] at e
                cases e
                by_cases hbe : decide (-100 ≤ f k q ∧ f k q ≤ 100) = true
                · go_wp2_with (first | (go_at_call 27; refine (from_any _ _ _ _).mono ?_; rintro e w1 ⟨rfl, rfl⟩))
                  go_roundw
                  case rel =>
                    refine ⟨q + 1, by omega, by go_num, fun j hj => ?_, by first | rfl | trivial⟩
                    by_cases hjq : j = q
                    · subst hjq; unfold badE; rw [hbe]; rfl
                    · exact HNO2.out j (by omega)
                  case measure => simp [intOf]; omega
                · have hbe' : decide (-100 ≤ f k q ∧ f k q ≤ 100) = false := by simpa using hbe
                  go_wp2_with (first | (go_at_call 27; refine (from_any _ _ _ _).mono ?_; rintro e w1 ⟨rfl, rfl⟩))
                  go_ret
                  exact ⟨ret_int (val_bad hlt (bad_el hlq (by unfold badE; rw [hbe']; rfl)) HE.out).symm, rfl⟩
              · obtain rfl : q = m k := by omega
                go_wp2_with (first | (go_at_call 27; refine (from_any _ _ _ _).mono ?_; rintro e w1 ⟨rfl, rfl⟩))
                go_roundw
                case rel =>
                  refine ⟨k + 1, by omega, by go_num, fun j hj => ?_, by first | rfl | trivial⟩
                  by_cases hjk : j = k
                  · subst hjk; exact bad_none h2n H3.out HNO2.out
                  · exact HNO.out j (by omega)
                case measure => simp [intOf]; omega
          · have g3 : ((m k : Int) == (m 0 : Int)) = false := beq_eq_false_iff_ne.2 (by omega)
            have g7 : ((m k : Int) != (m 0 : Int)) = true := by simp only [bne, g3, Bool.not_false]
            have g3' : ¬ (m k : Int) = m 0 := by omega
            go_wp2_with (first | (go_at_call 27; refine (from_any _ _ _ _).mono ?_; rintro e w1 ⟨rfl, rfl⟩))
            go_ret
            exact ⟨ret_int (val_bad hlt (bad_eq h3) HE.out).symm, rfl⟩
        · have h2' : decide ((1 : Int) ≤ m k ∧ (m k : Int) ≤ 6) = false := by simpa using h2
          go_wp2_with (first | (go_at_call 27; refine (from_any _ _ _ _).mono ?_; rintro e w1 ⟨rfl, rfl⟩))
          go_ret
          exact ⟨ret_int (val_bad hlt (bad_len (fun h => h2 (decide_eq_true (by omega)))) HE.out).symm, rfl⟩
      · obtain rfl : k = n := by omega
        go_wp2_with (first | (go_at_call 27; refine (from_any _ _ _ _).mono ?_; rintro e w1 ⟨rfl, rfl⟩))
        go_ret
        exact ⟨ret_int (val_ok HNO.out HE.out).symm, rfl⟩
  · rw [if_neg h1] at hE
    subst hE
    have f1 : decide ((1 : Int) ≤ n ∧ (n : Int) ≤ 6) = false := decide_eq_false (by omega)
    go_enter Try.func15, Try.ntmps15
    go_wp2_with (first | (go_at_call 27; refine (from_any _ _ _ _).mono ?_; rintro e w1 ⟨rfl, rfl⟩))
    go_ret
    exact ⟨rfl, rfl⟩
end Go.Proofs.Ytjadpehpempjoaa
namespace Go.Proofs.Ytjadpehpempjoaa
set_option linter.unusedVariables false
set_option linter.unusedSimpArgs false
open Go.RowKit
/-- A place at which a list is no set of numbers below N. -/
def badS (N : Nat) (x : Nat → Nat → Int) (i : Nat) : Bool := !(decide (0 ≤ x i 0 ∧ x i 0 ≤ (N : Int) - 1)) || (decide (0 < i) && decide (x i 0 ≤ x (i - 1) 0))
def setB (N l : Nat) (x : Nat → Nat → Int) : Bool := !(List.range l).any (badS N x)
theorem set_bad {N l k : Nat} {x : Nat → Nat → Int} {r : Bool} (hk : k < l) (h : badS N x k = true) (hr : setB N l x = r) : r = false := by
  unfold setB at hr; rw [any_range.2 ⟨k, hk, h⟩] at hr; exact hr.symm
theorem set_ok {N l : Nat} {x : Nat → Nat → Int} {r : Bool} (h : ∀ k, k < l → badS N x k = false) (hr : setB N l x = r) : r = true := by
  unfold setB at hr; rw [any_range_false.2 h] at hr; exact hr.symm
theorem badS_1 {N k : Nat} {x : Nat → Nat → Int} (h : decide (0 ≤ x k 0 ∧ x k 0 ≤ (N : Int) - 1) = false) : badS N x k = true := by
  unfold badS; rw [h]; rfl
theorem badS_2 {N j : Nat} {x : Nat → Nat → Int} (h : x (j + 1) 0 ≤ x j 0) : badS N x (j + 1) = true := by
  unfold badS; rw [show j + 1 - 1 = j by omega, decide_eq_true h, decide_eq_true (show 0 < j + 1 by omega)]; simp
theorem badS_0 {N : Nat} {x : Nat → Nat → Int} (h : decide (0 ≤ x 0 0 ∧ x 0 0 ≤ (N : Int) - 1) = true) : badS N x 0 = false := by
  unfold badS; rw [h]; rfl
theorem badS_3 {N j : Nat} {x : Nat → Nat → Int} (h : decide (0 ≤ x (j + 1) 0 ∧ x (j + 1) 0 ≤ (N : Int) - 1) = true) (h2 : ¬ x (j + 1) 0 ≤ x j 0) : badS N x (j + 1) = false := by
  unfold badS; rw [h, show j + 1 - 1 = j by omega, decide_eq_false h2]; simp
theorem setB_at {N l k : Nat} {x : Nat → Nat → Int} (h : setB N l x = true) (hk : k < l) : 0 ≤ x k 0 ∧ x k 0 < N ∧ ∀ j, j + 1 = k → x j 0 < x k 0 := by
  unfold setB at h
  have := any_range_false.1 (by simpa using h) k hk
  unfold badS at this
  simp only [Bool.or_eq_false_iff, Bool.not_eq_false', decide_eq_true_eq, Bool.and_eq_false_iff, decide_eq_false_iff_not] at this
  refine ⟨this.1.1, by omega, fun j hj => ?_⟩
  subst hj
  rw [show j + 1 - 1 = j by omega] at this
  omega
set_option maxRecDepth 100000 in
set_option maxHeartbeats 4000000 in
theorem cset_any (A : Option Addr) (l cap : Nat) (x : Nat → Nat → Int) (N : Nat) (w : World) (hl : l ≤ 9223372036854775807) (hN : N ≤ 1000) (h : RowsAt w A l 1 x) :
    Calls Try.prog 29 #[.slice A l cap, .int .i64 N] w fun e w' => e = .returned (.bool (setB N l x)) ∧ w = w' := by
  have HX := Lib.hid h
  clear h
  obtain ⟨r, hr⟩ : ∃ r, setB N l x = r := ⟨_, rfl⟩
  rw [hr]
  have HR := Lib.hid hr
  clear hr
  go_enter Try.func29, Try.ntmps29
  go_wp2
  go_loopw [9] (fun i wr => ∃ k : Nat, k ≤ l ∧ i = .int .i64 k ∧ (∀ j, j < k → badS N x j = false) ∧ w = wr) (fun i _ => l - (intOf i).toNat)
  case atStart => exact ⟨0, by omega, rfl, fun j hj => absurd hj (by omega), by first | rfl | trivial⟩
  case round =>
    obtain ⟨k, hk, rfl, hno, rfl⟩ := hrel
    have HNO := Lib.hid hno
    clear hno
    by_cases hlt : k < l
    · obtain ⟨b, off, rfl, hb, c0, i0⟩ := rows1 HX.out hlt
      have LB : Lower b w.heap.size := ⟨hb⟩
      unfold I64 at i0
      by_cases hf : decide (0 ≤ x k 0 ∧ x k 0 ≤ (N : Int) - 1) = true
      · rcases (show k = 0 ∨ ∃ j, k = j + 1 from by cases k with | zero => exact .inl rfl | succ j => exact .inr ⟨j, rfl⟩) with hk0 | ⟨j, hj⟩
        · subst hk0
          rw [Nat.add_zero] at c0
          have z1 : decide (0 < l) = true := decide_eq_true hlt
          go_wp2_with (first | (go_at_call 27; refine (from_any _ _ _ _).mono ?_; rintro e w1 ⟨rfl, rfl⟩))
          go_roundw
          case rel =>
            refine ⟨0 + 1, by omega, by go_num, fun j hj => ?_, by first | rfl | trivial⟩
            obtain rfl : j = 0 := by omega
            exact badS_0 hf
          case measure => simp [intOf]; omega
        · subst hj
          obtain ⟨b', off', e, -, c1, i1⟩ := rows1 (k := j) HX.out (by omega)
          cases e
          unfold I64 at i1
          have z1 : decide (0 < j + 1) = true := decide_eq_true (by omega)
          by_cases hle : x (j + 1) 0 ≤ x j 0
          · have z2 : decide (x (j + 1) 0 ≤ x j 0) = true := decide_eq_true hle
            go_wp2_with (first | (go_at_call 27; refine (from_any _ _ _ _).mono ?_; rintro e w1 ⟨rfl, rfl⟩))
            go_ret
            exact ⟨ret_bool (set_bad hlt (badS_2 hle) HR.out).symm, rfl⟩
          · have z2 : decide (x (j + 1) 0 ≤ x j 0) = false := decide_eq_false hle
            go_wp2_with (first | (go_at_call 27; refine (from_any _ _ _ _).mono ?_; rintro e w1 ⟨rfl, rfl⟩))
            go_roundw
            case rel =>
              refine ⟨j + 1 + 1, by omega, by go_num, fun q hq => ?_, by first | rfl | trivial⟩
              by_cases hjq : q = j + 1
              · subst hjq; exact badS_3 hf (by omega)
              · exact HNO.out q (by omega)
            case measure => simp [intOf]; omega
      · have hf : decide (0 ≤ x k 0 ∧ x k 0 ≤ (N : Int) - 1) = false := by simpa using hf
        go_wp2_with (first | (go_at_call 27; refine (from_any _ _ _ _).mono ?_; rintro e w1 ⟨rfl, rfl⟩))
        go_ret
        exact ⟨ret_bool (set_bad hlt (badS_1 hf) HR.out).symm, rfl⟩
    · obtain rfl : k = l := by omega
      go_wp2
      go_ret
      exact ⟨ret_bool (set_ok HNO.out HR.out).symm, rfl⟩
end Go.Proofs.Ytjadpehpempjoaa
namespace Go.Proofs.Ytjadpehpempjoaa
set_option linter.unusedVariables false
set_option linter.unusedSimpArgs false
open Go.RowKit
def choE (n : Nat) (m : Nat → Nat) (f : Nat → Nat → Int) (rl : Nat) (R : Nat → Nat → Int) (cl : Nat) (C : Nat → Nat → Int) : Int :=
  if valE n m f = 0 then (if (setB n rl R && (setB (m 0) cl C && rl == cl)) = true then 0 else 1) else valE n m f
theorem choE_0 {n : Nat} {m : Nat → Nat} {f : Nat → Nat → Int} {rl : Nat} {R : Nat → Nat → Int} {cl : Nat} {C : Nat → Nat → Int} (h : choE n m f rl R cl C = 0) :
    valE n m f = 0 ∧ setB n rl R = true ∧ setB (m 0) cl C = true ∧ rl = cl := by
  unfold choE at h
  split at h
  · rename_i hv
    split at h
    · rename_i hb
      simp only [Bool.and_eq_true, beq_iff_eq] at hb
      exact ⟨hv, hb.1, hb.2.1, hb.2.2⟩
    · cases h
  · rename_i hv; exact absurd h hv
set_option maxRecDepth 100000 in
set_option maxHeartbeats 4000000 in
theorem cchoice_any (A : Option Addr) (n cap : Nat) (B : Nat → Option Addr) (m cp : Nat → Nat) (f : Nat → Nat → Int) (RA : Option Addr) (rl rc : Nat) (R : Nat → Nat → Int) (CA : Option Addr) (cl cc : Nat) (C : Nat → Nat → Int) (w : World)
    (hn : n ≤ 9223372036854775807) (hrl : rl ≤ 9223372036854775807) (hcl : cl ≤ 9223372036854775807) (h : MatAt w A n B m cp f) (hR : RowsAt w RA rl 1 R) (hC : RowsAt w CA cl 1 C) :
    Calls Try.prog 13 #[.slice A n cap, .slice RA rl rc, .slice CA cl cc] w fun e w' => e = .returned (.int .i64 (choE n m f rl R cl C)) ∧ Kept w w' := by
  have HM := Lib.hid h
  have HR := Lib.hid hR
  have HC := Lib.hid hC
  clear h hR hC
  by_cases hv : valE n m f = 0
  · obtain ⟨⟨n1, n6⟩, ⟨m1, m6⟩, -, -⟩ := valE_0 hv
    rw [show choE n m f rl R cl C = (if (setB n rl R && (setB (m 0) cl C && rl == cl)) = true then 0 else 1) from if_pos hv]
    have HV := Lib.hid hv
    clear hv
    obtain ⟨b, off, rfl, hb, c00⟩ := HM.out.at (k := 0) (by omega)
    have LB : Lower b w.heap.size := ⟨hb⟩
    rw [Nat.add_zero] at c00
    have k1 : ∀ w', Kept w w' → Calls Try.prog 29 #[.slice RA rl rc, .int .i64 (n : Int)] w' fun e w'' => e = .returned (.bool (setB n rl R)) ∧ Kept w' w'' := fun w' hk =>
      (cset_any _ _ _ _ _ _ hrl (by omega) (HR.out.of hk)).mono (by first | (rintro e w1 ⟨rfl, rfl⟩; exact ⟨rfl, by (repeat (first | exact Kept.refl _ | assumption | refine Kept.alloc ?_ _ | refine Kept.ext ?_ _ | refine Kept.drew ?_ | refine Kept.drewN ?_ _))⟩) | (rintro e w1 ⟨rfl, x0, rfl⟩; exact ⟨rfl, by (repeat (first | exact Kept.refl _ | assumption | refine Kept.alloc ?_ _ | refine Kept.ext ?_ _ | refine Kept.drew ?_ | refine Kept.drewN ?_ _))⟩))
    have k2 : ∀ w', Kept w w' → Calls Try.prog 29 #[.slice CA cl cc, .int .i64 (m 0 : Int)] w' fun e w'' => e = .returned (.bool (setB (m 0) cl C)) ∧ Kept w' w'' := fun w' hk =>
      (cset_any _ _ _ _ _ _ hcl (by omega) (HC.out.of hk)).mono (by first | (rintro e w1 ⟨rfl, rfl⟩; exact ⟨rfl, by (repeat (first | exact Kept.refl _ | assumption | refine Kept.alloc ?_ _ | refine Kept.ext ?_ _ | refine Kept.drew ?_ | refine Kept.drewN ?_ _))⟩) | (rintro e w1 ⟨rfl, x0, rfl⟩; exact ⟨rfl, by (repeat (first | exact Kept.refl _ | assumption | refine Kept.alloc ?_ _ | refine Kept.ext ?_ _ | refine Kept.drew ?_ | refine Kept.drewN ?_ _))⟩))
    cases s1 : setB n rl R
    · rw [s1] at k1
      have K1 := Lib.hid k1
      have K2 := Lib.hid k2
      clear k1 k2 s1
      go_enter Try.func13, Try.ntmps13
      go_wp2_with (first | (go_at_call 15; refine (cval_any _ _ _ _ _ _ _ _ hn (HM.out.of (by (repeat (first | exact Kept.refl _ | assumption | refine Kept.alloc ?_ _ | refine Kept.ext ?_ _ | refine Kept.drew ?_ | refine Kept.drewN ?_ _))))).mono ?_; (first | rintro e w1 ⟨rfl, rfl⟩ | rintro e w1 ⟨rfl, x0, rfl⟩); rw [HV.out]) | (go_at_call 29; (with_reducible refine (K1.out _ (by (repeat (first | exact Kept.refl _ | assumption | refine Kept.alloc ?_ _ | refine Kept.ext ?_ _ | refine Kept.drew ?_ | refine Kept.drewN ?_ _)))).mono ?_); rintro e w1 ⟨rfl, x1, rfl⟩) | (go_at_call 29; (with_reducible refine (K2.out _ (by (repeat (first | exact Kept.refl _ | assumption | refine Kept.alloc ?_ _ | refine Kept.ext ?_ _ | refine Kept.drew ?_ | refine Kept.drewN ?_ _)))).mono ?_); rintro e w1 ⟨rfl, x2, rfl⟩))
      refine bodyPost_ret (by simp only [results, Try.results13]; go_simp; rfl) rfl ?_
      exact ⟨rfl, by (repeat (first | exact Kept.refl _ | assumption | refine Kept.alloc ?_ _ | refine Kept.ext ?_ _ | refine Kept.drew ?_ | refine Kept.drewN ?_ _))⟩
    · rw [s1] at k1
      cases s2 : setB (m 0) cl C
      · rw [s2] at k2
        have K1 := Lib.hid k1
        have K2 := Lib.hid k2
        clear k1 k2 s1 s2
        go_enter Try.func13, Try.ntmps13
        go_wp2_with (first | (go_at_call 15; refine (cval_any _ _ _ _ _ _ _ _ hn (HM.out.of (by (repeat (first | exact Kept.refl _ | assumption | refine Kept.alloc ?_ _ | refine Kept.ext ?_ _ | refine Kept.drew ?_ | refine Kept.drewN ?_ _))))).mono ?_; (first | rintro e w1 ⟨rfl, rfl⟩ | rintro e w1 ⟨rfl, x0, rfl⟩); rw [HV.out]) | (go_at_call 29; (with_reducible refine (K1.out _ (by (repeat (first | exact Kept.refl _ | assumption | refine Kept.alloc ?_ _ | refine Kept.ext ?_ _ | refine Kept.drew ?_ | refine Kept.drewN ?_ _)))).mono ?_); rintro e w1 ⟨rfl, x1, rfl⟩) | (go_at_call 29; (with_reducible refine (K2.out _ (by (repeat (first | exact Kept.refl _ | assumption | refine Kept.alloc ?_ _ | refine Kept.ext ?_ _ | refine Kept.drew ?_ | refine Kept.drewN ?_ _)))).mono ?_); rintro e w1 ⟨rfl, x2, rfl⟩))
        refine bodyPost_ret (by simp only [results, Try.results13]; go_simp; rfl) rfl ?_
        exact ⟨rfl, by (repeat (first | exact Kept.refl _ | assumption | refine Kept.alloc ?_ _ | refine Kept.ext ?_ _ | refine Kept.drew ?_ | refine Kept.drewN ?_ _))⟩
      · rw [s2] at k2
        have K1 := Lib.hid k1
        have K2 := Lib.hid k2
        clear k1 k2 s1 s2
        by_cases he : rl = cl
        · have g2 : (rl == cl) = true := by simpa using he
          rw [g2]
          clear g2
          subst he
          go_enter Try.func13, Try.ntmps13
          go_wp2_with (first | (go_at_call 15; refine (cval_any _ _ _ _ _ _ _ _ hn (HM.out.of (by (repeat (first | exact Kept.refl _ | assumption | refine Kept.alloc ?_ _ | refine Kept.ext ?_ _ | refine Kept.drew ?_ | refine Kept.drewN ?_ _))))).mono ?_; (first | rintro e w1 ⟨rfl, rfl⟩ | rintro e w1 ⟨rfl, x0, rfl⟩); rw [HV.out]) | (go_at_call 29; (with_reducible refine (K1.out _ (by (repeat (first | exact Kept.refl _ | assumption | refine Kept.alloc ?_ _ | refine Kept.ext ?_ _ | refine Kept.drew ?_ | refine Kept.drewN ?_ _)))).mono ?_); rintro e w1 ⟨rfl, x1, rfl⟩) | (go_at_call 29; (with_reducible refine (K2.out _ (by (repeat (first | exact Kept.refl _ | assumption | refine Kept.alloc ?_ _ | refine Kept.ext ?_ _ | refine Kept.drew ?_ | refine Kept.drewN ?_ _)))).mono ?_); rintro e w1 ⟨rfl, x2, rfl⟩))
          refine bodyPost_ret (by simp only [results, Try.results13]; go_simp; rfl) rfl ?_
          exact ⟨rfl, by (repeat (first | exact Kept.refl _ | assumption | refine Kept.alloc ?_ _ | refine Kept.ext ?_ _ | refine Kept.drew ?_ | refine Kept.drewN ?_ _))⟩
        · have g1 : ((rl : Int) == (cl : Int)) = false := beq_eq_false_iff_ne.2 (by omega)
          have g2 : (rl == cl) = false := beq_eq_false_iff_ne.2 he
          have g7 : ((rl : Int) != (cl : Int)) = true := by simp only [bne, g1, Bool.not_false]
          rw [g2]
          go_enter Try.func13, Try.ntmps13
          go_wp2_with (first | (go_at_call 15; refine (cval_any _ _ _ _ _ _ _ _ hn (HM.out.of (by (repeat (first | exact Kept.refl _ | assumption | refine Kept.alloc ?_ _ | refine Kept.ext ?_ _ | refine Kept.drew ?_ | refine Kept.drewN ?_ _))))).mono ?_; (first | rintro e w1 ⟨rfl, rfl⟩ | rintro e w1 ⟨rfl, x0, rfl⟩); rw [HV.out]) | (go_at_call 29; (with_reducible refine (K1.out _ (by (repeat (first | exact Kept.refl _ | assumption | refine Kept.alloc ?_ _ | refine Kept.ext ?_ _ | refine Kept.drew ?_ | refine Kept.drewN ?_ _)))).mono ?_); rintro e w1 ⟨rfl, x1, rfl⟩) | (go_at_call 29; (with_reducible refine (K2.out _ (by (repeat (first | exact Kept.refl _ | assumption | refine Kept.alloc ?_ _ | refine Kept.ext ?_ _ | refine Kept.drew ?_ | refine Kept.drewN ?_ _)))).mono ?_); rintro e w1 ⟨rfl, x2, rfl⟩))
          refine bodyPost_ret (by simp only [results, Try.results13]; go_simp; rfl) rfl ?_
          exact ⟨rfl, by (repeat (first | exact Kept.refl _ | assumption | refine Kept.alloc ?_ _ | refine Kept.ext ?_ _ | refine Kept.drew ?_ | refine Kept.drewN ?_ _))⟩
  · obtain ⟨e, he⟩ : ∃ e, valE n m f = e := ⟨_, rfl⟩
    rw [show choE n m f rl R cl C = e by unfold choE; rw [if_neg hv, he]]
    rw [he] at hv
    have HV := Lib.hid he
    clear he
    have hv2 : (e == 0) = false := by simpa using hv
    have hv3 : decide (e = 0) = false := by simpa using hv
    go_enter Try.func13, Try.ntmps13
    go_wp2_with (first | (go_at_call 15; refine (cval_any _ _ _ _ _ _ _ _ hn (HM.out.of (by (repeat (first | exact Kept.refl _ | assumption | refine Kept.alloc ?_ _ | refine Kept.ext ?_ _ | refine Kept.drew ?_ | refine Kept.drewN ?_ _))))).mono ?_; (first | rintro e w1 ⟨rfl, rfl⟩ | rintro e w1 ⟨rfl, x0, rfl⟩); rw [HV.out]) | (go_at_call 29; (with_reducible refine (K1.out _ (by (repeat (first | exact Kept.refl _ | assumption | refine Kept.alloc ?_ _ | refine Kept.ext ?_ _ | refine Kept.drew ?_ | refine Kept.drewN ?_ _)))).mono ?_); rintro e w1 ⟨rfl, x1, rfl⟩) | (go_at_call 29; (with_reducible refine (K2.out _ (by (repeat (first | exact Kept.refl _ | assumption | refine Kept.alloc ?_ _ | refine Kept.ext ?_ _ | refine Kept.drew ?_ | refine Kept.drewN ?_ _)))).mono ?_); rintro e w1 ⟨rfl, x2, rfl⟩))
    refine bodyPost_ret (by simp only [results, Try.results13]; go_simp; rfl) rfl ?_
    exact ⟨rfl, by (repeat (first | exact Kept.refl _ | assumption | refine Kept.alloc ?_ _ | refine Kept.ext ?_ _ | refine Kept.drew ?_ | refine Kept.drewN ?_ _))⟩
end Go.Proofs.Ytjadpehpempjoaa
