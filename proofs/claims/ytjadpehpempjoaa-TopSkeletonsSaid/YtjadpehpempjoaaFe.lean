/- Contracts: how few rows keep a bound, with the errors, of the program and of the reference. Conditions: the list's length is an int. -/
import Derived.Test.YtjadpehpempjoaaCm
namespace Go.Proofs.Ytjadpehpempjoaa
set_option linter.unusedVariables false
set_option linter.unusedSimpArgs false
open Go.RowKit Go.Deep
def fewE (n : Nat) (m : Nat → Nat) (f : Nat → Nat → Int) (p q : Int) : Int := if valE n m f = 0 then (if bndB p q = true then 0 else 1) else valE n m f
theorem fewE_0 {n : Nat} {m : Nat → Nat} {f : Nat → Nat → Int} {p q : Int} (h : fewE n m f p q = 0) : valE n m f = 0 ∧ bndB p q = true := by
  unfold fewE at h
  split at h
  · rename_i hv
    split at h
    · rename_i hb; exact ⟨hv, hb⟩
    · cases h
  · rename_i hv; exact absurd h hv
set_option maxRecDepth 100000 in
set_option maxHeartbeats 8000000 in
theorem cCompno_any (A : Option Addr) (n cap : Nat) (B : Nat → Option Addr) (m cp : Nat → Nat) (f : Nat → Nat → Int) (p q : Int) (w : World) (hn : n ≤ 9223372036854775807) (hM : MatAt w A n B m cp f) (hE : fewE n m f p q ≠ 0) :
    Calls Try.prog 6 #[.slice A n cap, .agg #[.int .i64 p, .int .i64 q]] w fun e w' => e = .returned (.tuple #[.slice none 0 0, .slice none 0 0, .int .i64 (fewE n m f p q)]) ∧ Kept w w' := by
  have HM := Lib.hid hM
  clear hM
  by_cases hv : valE n m f = 0
  · have hbb : bndB p q = false := by
      cases h : bndB p q with
      | false => rfl
      | true => exact absurd (show fewE n m f p q = 0 by unfold fewE; rw [if_pos hv, if_pos h]) hE
    have e : fewE n m f p q = 1 := by
      unfold fewE
      rw [if_pos hv, hbb]
      rfl
    rw [e]
    have HV := Lib.hid hv
    have HBB := Lib.hid hbb
    clear hv hbb e hE
    go_enter Try.func6, Try.ntmps6
    go_wp2_with (first | (go_at_call 15; refine (cval_any _ _ _ _ _ _ _ _ hn (HM.out.of (by (repeat (first | exact Kept.refl _ | assumption | refine Kept.alloc ?_ _ | refine Kept.ext ?_ _ | refine Kept.drew ?_ | refine Kept.drewN ?_ _))))).mono ?_; rintro e w1 ⟨rfl, rfl⟩; rw [HV.out]) | (go_at_call 16; refine (cbound_any _ _ _).mono ?_; rintro e w1 ⟨rfl, x5, rfl⟩; rw [HBB.out]))
    refine bodyPost_ret (by simp only [results, Try.results6]; go_simp; rfl) rfl ?_
    exact ⟨rfl, by (repeat (first | exact Kept.refl _ | assumption | refine Kept.alloc ?_ _ | refine Kept.ext ?_ _ | refine Kept.drew ?_ | refine Kept.drewN ?_ _))⟩
  · have e : fewE n m f p q = valE n m f := if_neg hv
    rw [e]
    obtain ⟨v, hve⟩ : ∃ v, valE n m f = v := ⟨_, rfl⟩
    rw [hve] at hv ⊢
    have HV := Lib.hid hve
    have hv2 : (v == 0) = false := by simpa using hv
    have hv3 : decide (v = 0) = false := by simpa using hv
    clear e hve hE
    go_enter Try.func6, Try.ntmps6
    go_wp2_with (go_at_call 15; refine (cval_any _ _ _ _ _ _ _ _ hn (HM.out.of (by (repeat (first | exact Kept.refl _ | assumption | refine Kept.alloc ?_ _ | refine Kept.ext ?_ _ | refine Kept.drew ?_ | refine Kept.drewN ?_ _))))).mono ?_; rintro e w1 ⟨rfl, rfl⟩; rw [HV.out])
    refine bodyPost_ret (by simp only [results, Try.results6]; go_simp; rfl) rfl ?_
    exact ⟨rfl, by (repeat (first | exact Kept.refl _ | assumption | refine Kept.alloc ?_ _ | refine Kept.ext ?_ _ | refine Kept.drew ?_ | refine Kept.drewN ?_ _))⟩
/-- The number that both return. -/
def fewN (n : Nat) (m : Nat → Nat) (f : Nat → Nat → Int) (p q : Int) (K : Nat) : Nat := if fewE n m f p q = 0 then K else 0
end Go.Proofs.Ytjadpehpempjoaa
