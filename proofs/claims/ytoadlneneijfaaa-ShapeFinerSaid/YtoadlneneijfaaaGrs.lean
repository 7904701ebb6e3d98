/- Contracts: a mesh or its error, of the program and of the reference; whether lists are long. Conditions: the lists' lengths are ints. -/
import Derived.Test.YtoadlneneijfaaaGrv
namespace Go.Proofs.Ytoadlneneijfaaa
set_option linter.unusedVariables false
set_option linter.unusedSimpArgs false
open Go.RowKit
/-- The length of a list of a mesh that is returned with error e. -/
def okN (e : Int) (n : Nat) : Nat := if e = 0 then n else 0
theorem okN_le (e : Int) (n : Nat) : okN e n ≤ n := by unfold okN; split <;> omega
theorem RowsAt.nil0 {w : World} {A : Option Addr} {c : Nat} {f : Nat → Nat → Int} : RowsAt w A 0 c f := fun h => absurd h (by omega)
theorem RowsAt.congr {w : World} {A : Option Addr} {n c : Nat} {f g : Nat → Nat → Int} (h : RowsAt w A n c f) (e : ∀ i, i < n → ∀ j, j < c → f i j = g i j) : RowsAt w A n c g := by
  intro h0
  obtain ⟨b, off, rfl, hb, hc⟩ := h h0
  exact ⟨b, off, rfl, hb, fun k hk j hj => by rw [← e k hk j hj]; exact hc k hk j hj⟩
/-- What a function that makes a mesh returns. -/
def MeshR (w w' : World) (r : Ending) (e : Int) (n : Nat) (P : Nat → Nat → Int) (m : Nat) (F : Nat → Nat → Int) : Prop :=
  ∃ A cap B cap2, r = .returned (.tuple #[.agg #[.slice A (okN e n) cap, .slice B (okN e m) cap2], .int .i64 e]) ∧ Kept w w' ∧ RowsAt w' A (okN e n) 3 P ∧ RowsAt w' B (okN e m) 3 F
set_option maxRecDepth 100000 in
theorem sresult_any (A B : Option Addr) (n cap m cap2 : Nat) (P F : Nat → Nat → Int) (w : World) (hn : n ≤ 9223372036854775807 ∧ m ≤ 9223372036854775807) (hP : RowsAt w A n 3 P) (hF : RowsAt w B m 3 F) :
    Calls Try.prog 64 #[.agg #[.slice A n cap, .slice B m cap2]] w fun r w' => MeshR w w' r (validE n P m F) n P m F := by
  have HP := Lib.hid hP
  have HF := Lib.hid hF
  clear hP hF
  unfold MeshR
  by_cases hv : validE n P m F = 0
  · have HV := Lib.hid hv
    clear hv
    go_enter Try.func64, Try.ntmps64
    go_wp2_with (go_at_call 30; refine (svalidate_any _ _ _ _ _ _ P F _ hn (HP.out.of (by (repeat (first | exact Kept.refl _ | assumption | refine Kept.alloc ?_ _ | refine Kept.ext ?_ _ | refine Kept.drew ?_ | refine Kept.drewN ?_ _)))) (HF.out.of (by (repeat (first | exact Kept.refl _ | assumption | refine Kept.alloc ?_ _ | refine Kept.ext ?_ _ | refine Kept.drew ?_ | refine Kept.drewN ?_ _))))).mono ?_; rintro e w1 ⟨rfl, x, rfl⟩; rw [HV.out])
    refine bodyPost_ret (by simp only [results, Try.results64]; go_simp; rfl) rfl ?_
    rw [HV.out]
    exact ⟨A, cap, B, cap2, rfl, by (repeat (first | exact Kept.refl _ | assumption | refine Kept.alloc ?_ _ | refine Kept.ext ?_ _ | refine Kept.drew ?_ | refine Kept.drewN ?_ _)), HP.out.of (by (repeat (first | exact Kept.refl _ | assumption | refine Kept.alloc ?_ _ | refine Kept.ext ?_ _ | refine Kept.drew ?_ | refine Kept.drewN ?_ _))), HF.out.of (by (repeat (first | exact Kept.refl _ | assumption | refine Kept.alloc ?_ _ | refine Kept.ext ?_ _ | refine Kept.drew ?_ | refine Kept.drewN ?_ _)))⟩
  · obtain ⟨e, he⟩ : ∃ e, validE n P m F = e := ⟨_, rfl⟩
    rw [he] at hv
    have HV := Lib.hid he
    clear he
    have hv2 : (e == 0) = false := by simpa using hv
    have hv3 : decide (e = 0) = false := by simpa using hv
    go_enter Try.func64, Try.ntmps64
    go_wp2_with (go_at_call 30; refine (svalidate_any _ _ _ _ _ _ P F _ hn (HP.out.of (by (repeat (first | exact Kept.refl _ | assumption | refine Kept.alloc ?_ _ | refine Kept.ext ?_ _ | refine Kept.drew ?_ | refine Kept.drewN ?_ _)))) (HF.out.of (by (repeat (first | exact Kept.refl _ | assumption | refine Kept.alloc ?_ _ | refine Kept.ext ?_ _ | refine Kept.drew ?_ | refine Kept.drewN ?_ _))))).mono ?_; rintro e w1 ⟨rfl, x, rfl⟩; rw [HV.out])
    refine bodyPost_ret (by simp only [results, Try.results64]; go_simp; rfl) rfl ?_
    rw [HV.out]
    have ek : ∀ n, okN e n = 0 := fun n => if_neg hv
    rw [ek, ek]
    exact ⟨none, 0, none, 0, rfl, by (repeat (first | exact Kept.refl _ | assumption | refine Kept.alloc ?_ _ | refine Kept.ext ?_ _ | refine Kept.drew ?_ | refine Kept.drewN ?_ _)), RowsAt.nil0, RowsAt.nil0⟩
set_option maxRecDepth 100000 in
theorem r2told_any (A B : Option Addr) (n cap m cap2 : Nat) (P F : Nat → Nat → Int) (w : World) (hn : n ≤ 9223372036854775807 ∧ m ≤ 9223372036854775807) (hP : RowsAt w A n 3 P) (hF : RowsAt w B m 3 F) :
    Calls Try.prog 66 #[.agg #[.slice A n cap, .slice B m cap2]] w fun r w' => MeshR w w' r (validE n P m F) n P m F := by
  have HP := Lib.hid hP
  have HF := Lib.hid hF
  clear hP hF
  unfold MeshR
  by_cases hv : validE n P m F = 0
  · have HV := Lib.hid hv
    clear hv
    go_enter Try.func66, Try.ntmps66
    go_wp2_with (go_at_call 31; refine (r2validate_any _ _ _ _ _ _ P F _ hn (HP.out.of (by (repeat (first | exact Kept.refl _ | assumption | refine Kept.alloc ?_ _ | refine Kept.ext ?_ _ | refine Kept.drew ?_ | refine Kept.drewN ?_ _)))) (HF.out.of (by (repeat (first | exact Kept.refl _ | assumption | refine Kept.alloc ?_ _ | refine Kept.ext ?_ _ | refine Kept.drew ?_ | refine Kept.drewN ?_ _))))).mono ?_; rintro e w1 ⟨rfl, x, rfl⟩; rw [HV.out])
    refine bodyPost_ret (by simp only [results, Try.results66]; go_simp; rfl) rfl ?_
    rw [HV.out]
    exact ⟨A, cap, B, cap2, rfl, by (repeat (first | exact Kept.refl _ | assumption | refine Kept.alloc ?_ _ | refine Kept.ext ?_ _ | refine Kept.drew ?_ | refine Kept.drewN ?_ _)), HP.out.of (by (repeat (first | exact Kept.refl _ | assumption | refine Kept.alloc ?_ _ | refine Kept.ext ?_ _ | refine Kept.drew ?_ | refine Kept.drewN ?_ _))), HF.out.of (by (repeat (first | exact Kept.refl _ | assumption | refine Kept.alloc ?_ _ | refine Kept.ext ?_ _ | refine Kept.drew ?_ | refine Kept.drewN ?_ _)))⟩
  · obtain ⟨e, he⟩ : ∃ e, validE n P m F = e := ⟨_, rfl⟩
    rw [he] at hv
    have HV := Lib.hid he
    clear he
    have hv2 : (e == 0) = false := by simpa using hv
    have hv3 : decide (e = 0) = false := by simpa using hv
    go_enter Try.func66, Try.ntmps66
    go_wp2_with (go_at_call 31; refine (r2validate_any _ _ _ _ _ _ P F _ hn (HP.out.of (by (repeat (first | exact Kept.refl _ | assumption | refine Kept.alloc ?_ _ | refine Kept.ext ?_ _ | refine Kept.drew ?_ | refine Kept.drewN ?_ _)))) (HF.out.of (by (repeat (first | exact Kept.refl _ | assumption | refine Kept.alloc ?_ _ | refine Kept.ext ?_ _ | refine Kept.drew ?_ | refine Kept.drewN ?_ _))))).mono ?_; rintro e w1 ⟨rfl, x, rfl⟩; rw [HV.out])
    refine bodyPost_ret (by simp only [results, Try.results66]; go_simp; rfl) rfl ?_
    rw [HV.out]
    have ek : ∀ n, okN e n = 0 := fun n => if_neg hv
    rw [ek, ek]
    exact ⟨none, 0, none, 0, rfl, by (repeat (first | exact Kept.refl _ | assumption | refine Kept.alloc ?_ _ | refine Kept.ext ?_ _ | refine Kept.drew ?_ | refine Kept.drewN ?_ _)), RowsAt.nil0, RowsAt.nil0⟩
theorem long_any (A B : Option Addr) (n cap m cap2 : Nat) (w : World) :
    Calls Try.prog 25 #[.agg #[.slice A n cap, .slice B m cap2]] w fun r w' => r = .returned (.bool (decide (200 < n) || decide (300 < m))) ∧ Kept w w' := by
  by_cases h1 : 200 < n
  · rw [show (decide (200 < n) || decide (300 < m)) = true by simp [h1]]
    go_enter Try.func25, Try.ntmps25
    go_wp2
    go_ret
    exact ⟨rfl, by (repeat (first | exact Kept.refl _ | assumption | refine Kept.alloc ?_ _ | refine Kept.ext ?_ _ | refine Kept.drew ?_ | refine Kept.drewN ?_ _))⟩
  by_cases h2 : 300 < m
  · rw [show (decide (200 < n) || decide (300 < m)) = true by simp [h2]]
    go_enter Try.func25, Try.ntmps25
    go_wp2
    go_ret
    exact ⟨ret_bool (by simp; omega), by (repeat (first | exact Kept.refl _ | assumption | refine Kept.alloc ?_ _ | refine Kept.ext ?_ _ | refine Kept.drew ?_ | refine Kept.drewN ?_ _))⟩
  · rw [show (decide (200 < n) || decide (300 < m)) = false by simp; omega]
    go_enter Try.func25, Try.ntmps25
    go_wp2
    go_ret
    exact ⟨ret_bool (by simp; omega), by (repeat (first | exact Kept.refl _ | assumption | refine Kept.alloc ?_ _ | refine Kept.ext ?_ _ | refine Kept.drew ?_ | refine Kept.drewN ?_ _))⟩
end Go.Proofs.Ytoadlneneijfaaa
