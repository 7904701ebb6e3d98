/- Contracts: the rank of a matrix, of the program and of the reference. Conditions: the list's length is an int. -/
import Derived.Test.YtoejdfpmmgldpaaVs
namespace Go.Proofs.Ytoejdfpmmgldpaa
set_option linter.unusedVariables false
set_option linter.unusedSimpArgs false
open Go.RowKit Go.Deep
/-- The greatest number up to q with a minor that isn't 0. -/
def rkP (f : Nat → Nat → Int) (n M : Nat) : Nat → Nat
  | 0 => 0
  | q + 1 => if 0 < volS f n M ((q + 1 : Nat) : Int) then q + 1 else rkP f n M q
theorem rkP_le {f : Nat → Nat → Int} {n M : Nat} : ∀ q, rkP f n M q ≤ q
  | 0 => Nat.le_refl _
  | q + 1 => by
    have := rkP_le (f := f) (n := n) (M := M) q
    unfold rkP
    split <;> omega
def rankV (n : Nat) (m : Nat → Nat) (f : Nat → Nat → Int) : Nat := if valE n m f = 0 then rkP f n (m 0) (min n (m 0)) else 0
set_option maxRecDepth 100000 in
set_option maxHeartbeats 4000000 in
theorem cRank_any (A : Option Addr) (n cap : Nat) (B : Nat → Option Addr) (m cp : Nat → Nat) (f : Nat → Nat → Int) (w : World) (hn : n ≤ 9223372036854775807) (hM : MatAt w A n B m cp f) :
    Calls Try.prog 33 #[.slice A n cap] w fun e w' => e = .returned (.tuple #[.int .i64 (rankV n m f), .int .i64 (valE n m f)]) ∧ Kept w w' := by
  have HM := Lib.hid hM
  clear hM
  by_cases hv : valE n m f = 0
  · obtain ⟨⟨n1, n6⟩, ⟨m1, m6⟩, -, -⟩ := valE_0 hv
    rw [show rankV n m f = rkP f n (m 0) (min n (m 0)) from if_pos hv]
    have HV := Lib.hid hv
    have hmo : ∀ w', Kept w w' → Calls Try.prog 75 #[.slice A n cap] w' fun e w'' => e = .returned (.int .i64 (min n (m 0) : Nat)) ∧ w' = w'' := fun w' hk => cmost_any A n cap B m cp f w' hv (HM.out.of hk)
    have hlg : ∀ (q : Nat) w', q + 1 ≤ min n (m 0) → Kept w w' → Calls Try.prog 72 #[.slice A n cap, .int .i64 ((q + 1 : Nat) : Int)] w' fun e w'' => ∃ vr vc, e = .returned (.tuple #[vr, vc, .int .i64 (volS f n (m 0) ((q + 1 : Nat) : Int))]) ∧ Kept w' w'' := fun q w' hq hkw => by
      rw [← volS_eq (by omega)]
      exact (clargest_any A n cap B m cp f _ w' hv (HM.out.of hkw)).mono fun e w'' ⟨vr, vc, h1, h2, _⟩ => ⟨vr, vc, h1, h2⟩
    rw [HV.out]
    clear hv
    obtain ⟨mn, hmn⟩ : ∃ q : Nat, min n (m 0) = q := ⟨_, rfl⟩
    have h6 : mn ≤ 6 := by omega
    rw [hmn] at hmo hlg ⊢
    have HMO := Lib.hid hmo
    have HLG := Lib.hid hlg
    clear hmn hmo hlg
    go_enter Try.func33, Try.ntmps33
    go_wp2_with (go_at_call 22; refine (cval_any _ _ _ _ _ _ _ _ hn (HM.out.of (by (repeat (first | exact Kept.refl _ | assumption | refine Kept.alloc ?_ _ | refine Kept.ext ?_ _ | refine Kept.drew ?_ | refine Kept.drewN ?_ _))))).mono ?_; rintro e w1 ⟨rfl, rfl⟩; rw [HV.out])
    go_loopw [5, 6] (fun rk i wr => ∃ q : Nat, q ≤ mn ∧ i = .int .i64 ((q : Int) + 1) ∧ rk = .int .i64 (rkP f n (m 0) q : Nat) ∧ Kept w wr) (fun _ i _ => mn + 1 - (intOf i).toNat)
    case atStart => exact ⟨0, by omega, rfl, rfl, Kept.refl _⟩
    case round =>
      obtain ⟨q, hq, rfl, rfl, y, rfl⟩ := hrel
      by_cases hlt : q < mn
      · have hl := fun w' hk => HLG.out q w' hlt hk
        obtain ⟨V, hV⟩ : ∃ v, volS f n (m 0) ((q + 1 : Nat) : Int) = v := ⟨_, rfl⟩
        have hrk : rkP f n (m 0) (q + 1) = if 0 < V then q + 1 else rkP f n (m 0) q := by rw [← hV]; rfl
        rw [hV, show ((q + 1 : Nat) : Int) = (q : Int) + 1 by omega] at hl
        have HL := Lib.hid hl
        have hr6 := rkP_le (f := f) (n := n) (M := m 0) q
        obtain ⟨rk, hrke⟩ : ∃ x, rkP f n (m 0) q = x := ⟨_, rfl⟩
        rw [hrke] at hrk hr6 ⊢
        have HRK := Lib.hid hrk
        clear hV hl hrk hrke
        by_cases hp : 0 < V
        · have g1 : decide (0 < V) = true := decide_eq_true hp
          go_wp2_with (first | (go_at_call 75; refine (HMO.out _ (by (repeat (first | exact Kept.refl _ | assumption | refine Kept.alloc ?_ _ | refine Kept.ext ?_ _ | refine Kept.drew ?_ | refine Kept.drewN ?_ _)))).mono ?_; rintro e w1 ⟨rfl, rfl⟩) | (go_at_call 72; refine (HL.out _ (by (repeat (first | exact Kept.refl _ | assumption | refine Kept.alloc ?_ _ | refine Kept.ext ?_ _ | refine Kept.drew ?_ | refine Kept.drewN ?_ _)))).mono ?_; rintro e w1 ⟨vr, vc, rfl, x, rfl⟩))
          go_roundw
          case rel => exact ⟨q + 1, by omega, by go_num, by rw [HRK.out, if_pos hp]; exact val_eq (by omega), by (repeat (first | exact Kept.refl _ | assumption | refine Kept.alloc ?_ _ | refine Kept.ext ?_ _ | refine Kept.drew ?_ | refine Kept.drewN ?_ _))⟩
          case measure => simp [intOf]; omega
        · have g1 : decide (0 < V) = false := decide_eq_false hp
          go_wp2_with (first | (go_at_call 75; refine (HMO.out _ (by (repeat (first | exact Kept.refl _ | assumption | refine Kept.alloc ?_ _ | refine Kept.ext ?_ _ | refine Kept.drew ?_ | refine Kept.drewN ?_ _)))).mono ?_; rintro e w1 ⟨rfl, rfl⟩) | (go_at_call 72; refine (HL.out _ (by (repeat (first | exact Kept.refl _ | assumption | refine Kept.alloc ?_ _ | refine Kept.ext ?_ _ | refine Kept.drew ?_ | refine Kept.drewN ?_ _)))).mono ?_; rintro e w1 ⟨vr, vc, rfl, x, rfl⟩))
          go_roundw
          case rel => exact ⟨q + 1, by omega, by go_num, by rw [HRK.out, if_neg (by omega)], by (repeat (first | exact Kept.refl _ | assumption | refine Kept.alloc ?_ _ | refine Kept.ext ?_ _ | refine Kept.drew ?_ | refine Kept.drewN ?_ _))⟩
          case measure => simp [intOf]; omega
      · obtain rfl : q = mn := by omega
        go_wp2_with (go_at_call 75; refine (HMO.out _ (by (repeat (first | exact Kept.refl _ | assumption | refine Kept.alloc ?_ _ | refine Kept.ext ?_ _ | refine Kept.drew ?_ | refine Kept.drewN ?_ _)))).mono ?_; rintro e w1 ⟨rfl, rfl⟩)
        refine bodyPost_ret (by simp only [results, Try.results33]; go_simp; rfl) rfl ?_
        exact ⟨rfl, by (repeat (first | exact Kept.refl _ | assumption | refine Kept.alloc ?_ _ | refine Kept.ext ?_ _ | refine Kept.drew ?_ | refine Kept.drewN ?_ _))⟩
  · rw [show rankV n m f = 0 from if_neg hv]
    obtain ⟨v, hve⟩ : ∃ v, valE n m f = v := ⟨_, rfl⟩
    rw [hve] at hv ⊢
    have HV := Lib.hid hve
    have hv2 : (v == 0) = false := by simpa using hv
    have hv3 : decide (v = 0) = false := by simpa using hv
    clear hve
    go_enter Try.func33, Try.ntmps33
    go_wp2_with (go_at_call 22; refine (cval_any _ _ _ _ _ _ _ _ hn (HM.out.of (by (repeat (first | exact Kept.refl _ | assumption | refine Kept.alloc ?_ _ | refine Kept.ext ?_ _ | refine Kept.drew ?_ | refine Kept.drewN ?_ _))))).mono ?_; rintro e w1 ⟨rfl, rfl⟩; rw [HV.out])
    refine bodyPost_ret (by simp only [results, Try.results33]; go_simp; rfl) rfl ?_
    exact ⟨rfl, by (repeat (first | exact Kept.refl _ | assumption | refine Kept.alloc ?_ _ | refine Kept.ext ?_ _ | refine Kept.drew ?_ | refine Kept.drewN ?_ _))⟩
set_option maxRecDepth 100000 in
set_option maxHeartbeats 4000000 in
theorem r6Rank_any (A : Option Addr) (n cap : Nat) (B : Nat → Option Addr) (m cp : Nat → Nat) (f : Nat → Nat → Int) (w : World) (hn : n ≤ 9223372036854775807) (hM : MatAt w A n B m cp f) :
    Calls Try.prog 34 #[.slice A n cap] w fun e w' => e = .returned (.tuple #[.int .i64 (rankV n m f), .int .i64 (valE n m f)]) ∧ Kept w w' := by
  have HM := Lib.hid hM
  clear hM
  by_cases hv : valE n m f = 0
  · obtain ⟨⟨n1, n6⟩, ⟨m1, m6⟩, -, -⟩ := valE_0 hv
    rw [show rankV n m f = rkP f n (m 0) (min n (m 0)) from if_pos hv]
    have HV := Lib.hid hv
    have hmo : ∀ w', Kept w w' → Calls Try.prog 73 #[.slice A n cap] w' fun e w'' => e = .returned (.int .i64 (min n (m 0) : Nat)) ∧ w' = w'' := fun w' hk => r6sides_any A n cap B m cp f w' hv (HM.out.of hk)
    have hvl : ∀ (q : Nat) w', Kept w w' → Calls Try.prog 74 #[.slice A n cap, .int .i64 (q : Int)] w' fun e w'' => e = .returned (.int .i64 (volS f n (m 0) (q : Int))) ∧ Kept w' w'' := fun q w' hkw => r6vol_any A n cap B m cp f _ w' hv (HM.out.of hkw)
    rw [HV.out]
    clear hv
    obtain ⟨mn, hmn⟩ : ∃ q : Nat, min n (m 0) = q := ⟨_, rfl⟩
    have h6 : mn ≤ 6 := by omega
    rw [hmn] at hmo ⊢
    have HMO := Lib.hid hmo
    have HVL := Lib.hid hvl
    clear hmn hmo hvl
    go_enter Try.func34, Try.ntmps34
    go_wp2_with (first | (go_at_call 23; refine (r6val_any _ _ _ _ _ _ _ _ hn (HM.out.of (by (repeat (first | exact Kept.refl _ | assumption | refine Kept.alloc ?_ _ | refine Kept.ext ?_ _ | refine Kept.drew ?_ | refine Kept.drewN ?_ _))))).mono ?_; rintro e w1 ⟨rfl, x0, rfl⟩; rw [HV.out]) | (go_at_call 73; refine (HMO.out _ (by (repeat (first | exact Kept.refl _ | assumption | refine Kept.alloc ?_ _ | refine Kept.ext ?_ _ | refine Kept.drew ?_ | refine Kept.drewN ?_ _)))).mono ?_; rintro e w1 ⟨rfl, rfl⟩))
    go_loopw [5] (fun i wr => ∃ q : Nat, q ≤ mn ∧ i = .int .i64 (q : Int) ∧ rkP f n (m 0) q = rkP f n (m 0) mn ∧ Kept w wr) (fun i _ => (intOf i).toNat)
    case atStart => exact ⟨mn, by omega, rfl, rfl, by (repeat (first | exact Kept.refl _ | assumption | refine Kept.alloc ?_ _ | refine Kept.ext ?_ _ | refine Kept.drew ?_ | refine Kept.drewN ?_ _))⟩
    case round =>
      obtain ⟨q, hq, rfl, hrk, y, rfl⟩ := hrel
      have hl := fun w' hk => HVL.out q w' hk
      obtain ⟨V, hV⟩ : ∃ v, volS f n (m 0) (q : Int) = v := ⟨_, rfl⟩
      have hpos : 0 ≤ V := by rw [← hV]; exact volS_pos
      by_cases hz : V = 0
      · obtain ⟨p, rfl⟩ : ∃ p, q = p + 1 := ⟨q - 1, by
          rcases Nat.eq_zero_or_pos q with h | h
          · subst h
            have := volS_0 (f := f) (n := n) (M := m 0)
            rw [show ((0 : Nat) : Int) = 0 from rfl] at hV
            omega
          · omega⟩
        have hrk2 : rkP f n (m 0) (p + 1) = rkP f n (m 0) p := if_neg (by rw [hV]; omega)
        rw [hV, hz] at hl
        have HRK := Lib.hid (hrk2.symm.trans hrk)
        rw [show ((p + 1 : Nat) : Int) = (p : Int) + 1 by omega] at hl ⊢
        have HL := Lib.hid hl
        clear hV hz hl hrk hrk2 hpos
        go_wp2_with (go_at_call 74; refine (HL.out _ (by (repeat (first | exact Kept.refl _ | assumption | refine Kept.alloc ?_ _ | refine Kept.ext ?_ _ | refine Kept.drew ?_ | refine Kept.drewN ?_ _)))).mono ?_; rintro e w1 ⟨rfl, x, rfl⟩)
        go_roundw
        case rel => exact ⟨p, by omega, by go_num, HRK.out, by (repeat (first | exact Kept.refl _ | assumption | refine Kept.alloc ?_ _ | refine Kept.ext ?_ _ | refine Kept.drew ?_ | refine Kept.drewN ?_ _))⟩
        case measure => simp [intOf]
      · have hrk2 : rkP f n (m 0) q = q := by
          cases q with
          | zero => rfl
          | succ p => exact if_pos (by rw [hV]; omega)
        rw [hV] at hl
        have HRK := Lib.hid (hrk2.symm.trans hrk)
        have HL := Lib.hid hl
        have g1 : (V == 0) = false := by simpa using hz
        have g2 : decide (V = 0) = false := by simpa using hz
        clear hV hz hl hrk hrk2 hpos
        rw [← HRK.out]
        go_wp2_with (go_at_call 74; refine (HL.out _ (by (repeat (first | exact Kept.refl _ | assumption | refine Kept.alloc ?_ _ | refine Kept.ext ?_ _ | refine Kept.drew ?_ | refine Kept.drewN ?_ _)))).mono ?_; rintro e w1 ⟨rfl, x, rfl⟩)
        refine bodyPost_ret (by simp only [results, Try.results34]; go_simp; rfl) rfl ?_
        rw [← HRK.out]
        exact ⟨rfl, by (repeat (first | exact Kept.refl _ | assumption | refine Kept.alloc ?_ _ | refine Kept.ext ?_ _ | refine Kept.drew ?_ | refine Kept.drewN ?_ _))⟩
  · rw [show rankV n m f = 0 from if_neg hv]
    obtain ⟨v, hve⟩ : ∃ v, valE n m f = v := ⟨_, rfl⟩
    rw [hve] at hv ⊢
    have HV := Lib.hid hve
    have hv2 : (v == 0) = false := by simpa using hv
    have hv3 : decide (v = 0) = false := by simpa using hv
    clear hve
    go_enter Try.func34, Try.ntmps34
    go_wp2_with (go_at_call 23; refine (r6val_any _ _ _ _ _ _ _ _ hn (HM.out.of (by (repeat (first | exact Kept.refl _ | assumption | refine Kept.alloc ?_ _ | refine Kept.ext ?_ _ | refine Kept.drew ?_ | refine Kept.drewN ?_ _))))).mono ?_; rintro e w1 ⟨rfl, x0, rfl⟩; rw [HV.out])
    refine bodyPost_ret (by simp only [results, Try.results34]; go_simp; rfl) rfl ?_
    exact ⟨rfl, by (repeat (first | exact Kept.refl _ | assumption | refine Kept.alloc ?_ _ | refine Kept.ext ?_ _ | refine Kept.drew ?_ | refine Kept.drewN ?_ _))⟩
end Go.Proofs.Ytoejdfpmmgldpaa
