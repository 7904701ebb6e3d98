/- Contracts: a mesh or its error, of the program and of the reference; whether lists are long. Conditions: the lists' lengths are ints. Contract: 24 times the integral of the position, of the program. Conditions: the lists' lengths are ints. -/
import Derived.Test.YtnbjealpcjfllaaGreatDoorGrv
namespace Go.Proofs.YtnbjealpcjfllaaGreatDoor
set_option linter.unusedVariables false
set_option linter.unusedSimpArgs false
open Go.RowKit
/-- The length of a list of a mesh that is returned with error e. -/
def okN (e : Int) (n : Nat) : Nat := if e = 0 then n else 0
theorem okN_le (e : Int) (n : Nat) : okN e n ≤ n := by unfold okN; split <;> omega
theorem RowsAt.nil0 {w : World} {A : Option Addr} {c : Nat} {f : Nat → Nat → Int} : RowsAt w A 0 c f := fun h => absurd h (by omega)
theorem RowsAt.congr {w : World} {A : Option Addr} {n c : Nat} {f g : Nat → Nat → Int} (h : RowsAt w A n c f) (e : ∀ i, i < n → ∀ j, j < c → f i j = g i j) : RowsAt w A n c g := by
  intro h0
  obtain ⟨b, off, rfl, hb, hc⟩ := h h0
  exact ⟨b, off, rfl, hb, fun k hk j hj => by rw [← e k hk j hj]; exact hc k hk j hj⟩
/-- What a function that makes a mesh returns. -/
def MeshR (w w' : World) (r : Ending) (e : Int) (n : Nat) (P : Nat → Nat → Int) (m : Nat) (F : Nat → Nat → Int) : Prop :=
  ∃ A cap B cap2, r = .returned (.tuple #[.agg #[.slice A (okN e n) cap, .slice B (okN e m) cap2], .int .i64 e]) ∧ Kept w w' ∧ RowsAt w' A (okN e n) 3 P ∧ RowsAt w' B (okN e m) 3 F
set_option maxRecDepth 100000 in
theorem sresult_any (A B : Option Addr) (n cap m cap2 : Nat) (P F : Nat → Nat → Int) (w : World) (hn : n ≤ 9223372036854775807 ∧ m ≤ 9223372036854775807) (hP : RowsAt w A n 3 P) (hF : RowsAt w B m 3 F) :
    Calls Tryz.prog 205 #[.agg #[.slice A n cap, .slice B m cap2]] w fun r w' => MeshR w w' r (validE n P m F) n P m F := by
  have HP := Lib.hid hP
  have HF := Lib.hid hF
  clear hP hF
  unfold MeshR
  by_cases hv : validE n P m F = 0
  · have HV := Lib.hid hv
    clear hv
    go_enter Tryz.func205, Tryz.ntmps205
    go_wp2_with (go_at_call 71; refine (svalidate_any _ _ _ _ _ _ P F _ hn (HP.out.of (by (repeat (first | exact Kept.refl _ | assumption | refine Kept.alloc ?_ _ | refine Kept.ext ?_ _ | refine Kept.drew ?_ | refine Kept.drewN ?_ _)))) (HF.out.of (by (repeat (first | exact Kept.refl _ | assumption | refine Kept.alloc ?_ _ | refine Kept.ext ?_ _ | refine Kept.drew ?_ | refine Kept.drewN ?_ _))))).mono ?_; rintro e w1 ⟨rfl, x, rfl⟩; rw [HV.out])
    refine bodyPost_ret (by simp only [results, Tryz.results205]; go_simp; rfl) rfl ?_
    rw [HV.out]
    exact ⟨A, cap, B, cap2, rfl, by (repeat (first | exact Kept.refl _ | assumption | refine Kept.alloc ?_ _ | refine Kept.ext ?_ _ | refine Kept.drew ?_ | refine Kept.drewN ?_ _)), HP.out.of (by (repeat (first | exact Kept.refl _ | assumption | refine Kept.alloc ?_ _ | refine Kept.ext ?_ _ | refine Kept.drew ?_ | refine Kept.drewN ?_ _))), HF.out.of (by (repeat (first | exact Kept.refl _ | assumption | refine Kept.alloc ?_ _ | refine Kept.ext ?_ _ | refine Kept.drew ?_ | refine Kept.drewN ?_ _)))⟩
  · obtain ⟨e, he⟩ : ∃ e, validE n P m F = e := ⟨_, rfl⟩
    rw [he] at hv
    have HV := Lib.hid he
    clear he
    have hv2 : (e == 0) = false := by simpa using hv
    have hv3 : decide (e = 0) = false := by simpa using hv
    go_enter Tryz.func205, Tryz.ntmps205
    go_wp2_with (go_at_call 71; refine (svalidate_any _ _ _ _ _ _ P F _ hn (HP.out.of (by (repeat (first | exact Kept.refl _ | assumption | refine Kept.alloc ?_ _ | refine Kept.ext ?_ _ | refine Kept.drew ?_ | refine Kept.drewN ?_ _)))) (HF.out.of (by (repeat (first | exact Kept.refl _ | assumption | refine Kept.alloc ?_ _ | refine Kept.ext ?_ _ | refine Kept.drew ?_ | refine Kept.drewN ?_ _))))).mono ?_; rintro e w1 ⟨rfl, x, rfl⟩; rw [HV.out])
    refine bodyPost_ret (by simp only [results, Tryz.results205]; go_simp; rfl) rfl ?_
    rw [HV.out]
    have ek : ∀ n, okN e n = 0 := fun n => if_neg hv
    rw [ek, ek]
    exact ⟨none, 0, none, 0, rfl, by (repeat (first | exact Kept.refl _ | assumption | refine Kept.alloc ?_ _ | refine Kept.ext ?_ _ | refine Kept.drew ?_ | refine Kept.drewN ?_ _)), RowsAt.nil0, RowsAt.nil0⟩
set_option maxRecDepth 100000 in
theorem r2told_any (A B : Option Addr) (n cap m cap2 : Nat) (P F : Nat → Nat → Int) (w : World) (hn : n ≤ 9223372036854775807 ∧ m ≤ 9223372036854775807) (hP : RowsAt w A n 3 P) (hF : RowsAt w B m 3 F) :
    Calls Tryz.prog 190 #[.agg #[.slice A n cap, .slice B m cap2]] w fun r w' => MeshR w w' r (validE n P m F) n P m F := by
  have HP := Lib.hid hP
  have HF := Lib.hid hF
  clear hP hF
  unfold MeshR
  by_cases hv : validE n P m F = 0
  · have HV := Lib.hid hv
    clear hv
    go_enter Tryz.func190, Tryz.ntmps190
    go_wp2_with (go_at_call 89; refine (r2validate_any _ _ _ _ _ _ P F _ hn (HP.out.of (by (repeat (first | exact Kept.refl _ | assumption | refine Kept.alloc ?_ _ | refine Kept.ext ?_ _ | refine Kept.drew ?_ | refine Kept.drewN ?_ _)))) (HF.out.of (by (repeat (first | exact Kept.refl _ | assumption | refine Kept.alloc ?_ _ | refine Kept.ext ?_ _ | refine Kept.drew ?_ | refine Kept.drewN ?_ _))))).mono ?_; rintro e w1 ⟨rfl, x, rfl⟩; rw [HV.out])
    refine bodyPost_ret (by simp only [results, Tryz.results190]; go_simp; rfl) rfl ?_
    rw [HV.out]
    exact ⟨A, cap, B, cap2, rfl, by (repeat (first | exact Kept.refl _ | assumption | refine Kept.alloc ?_ _ | refine Kept.ext ?_ _ | refine Kept.drew ?_ | refine Kept.drewN ?_ _)), HP.out.of (by (repeat (first | exact Kept.refl _ | assumption | refine Kept.alloc ?_ _ | refine Kept.ext ?_ _ | refine Kept.drew ?_ | refine Kept.drewN ?_ _))), HF.out.of (by (repeat (first | exact Kept.refl _ | assumption | refine Kept.alloc ?_ _ | refine Kept.ext ?_ _ | refine Kept.drew ?_ | refine Kept.drewN ?_ _)))⟩
  · obtain ⟨e, he⟩ : ∃ e, validE n P m F = e := ⟨_, rfl⟩
    rw [he] at hv
    have HV := Lib.hid he
    clear he
    have hv2 : (e == 0) = false := by simpa using hv
    have hv3 : decide (e = 0) = false := by simpa using hv
    go_enter Tryz.func190, Tryz.ntmps190
    go_wp2_with (go_at_call 89; refine (r2validate_any _ _ _ _ _ _ P F _ hn (HP.out.of (by (repeat (first | exact Kept.refl _ | assumption | refine Kept.alloc ?_ _ | refine Kept.ext ?_ _ | refine Kept.drew ?_ | refine Kept.drewN ?_ _)))) (HF.out.of (by (repeat (first | exact Kept.refl _ | assumption | refine Kept.alloc ?_ _ | refine Kept.ext ?_ _ | refine Kept.drew ?_ | refine Kept.drewN ?_ _))))).mono ?_; rintro e w1 ⟨rfl, x, rfl⟩; rw [HV.out])
    refine bodyPost_ret (by simp only [results, Tryz.results190]; go_simp; rfl) rfl ?_
    rw [HV.out]
    have ek : ∀ n, okN e n = 0 := fun n => if_neg hv
    rw [ek, ek]
    exact ⟨none, 0, none, 0, rfl, by (repeat (first | exact Kept.refl _ | assumption | refine Kept.alloc ?_ _ | refine Kept.ext ?_ _ | refine Kept.drew ?_ | refine Kept.drewN ?_ _)), RowsAt.nil0, RowsAt.nil0⟩
end Go.Proofs.YtnbjealpcjfllaaGreatDoor
namespace Go.Proofs.YtnbjealpcjfllaaGreatDoor
set_option linter.unusedVariables false
set_option linter.unusedSimpArgs false
open Go.RowKit
/-- What the first faces give to coordinate c of the center. -/
def cen (P F : Nat → Nat → Int) (c : Nat) : Nat → Int
  | 0 => 0
  | m + 1 => cen P F c m + prF P F m * (co P F m 0 c + co P F m 1 c + co P F m 2 c)
theorem tri_bd {P F : Nat → Nat → Int} {n i c : Nat} (hb : ptsBad P n = false) (hF : cornB n F i = true) (hc : c < 3) : -192 ≤ co P F i 0 c + co P F i 1 c + co P F i 2 c ∧ co P F i 0 c + co P F i 1 c + co P F i 2 c ≤ 192 := by
  obtain ⟨c0, c1, c2⟩ := cornB_true hF
  have b0 := co_bd hb c0
  have b1 := co_bd hb c1
  have b2 := co_bd hb c2
  rcases (show c = 0 ∨ c = 1 ∨ c = 2 by omega) with rfl | rfl | rfl <;> omega
theorem cen_step {P F : Nat → Nat → Int} {n i c : Nat} (hb : ptsBad P n = false) (hF : cornB n F i = true) (hc : c < 3) : -301989888 ≤ prF P F i * (co P F i 0 c + co P F i 1 c + co P F i 2 c) ∧ prF P F i * (co P F i 0 c + co P F i 1 c + co P F i 2 c) ≤ 301989888 :=
  mul_bd 301989888 (prF_bd hb hF) (tri_bd hb hF hc) rfl
theorem cen_bd {P F : Nat → Nat → Int} {n m c : Nat} (hb : ptsBad P n = false) (hF : ∀ i, i < m → cornB n F i = true) (hc : c < 3) : ∀ k, k ≤ m → -301989888 * (k : Int) ≤ cen P F c k ∧ cen P F c k ≤ 301989888 * (k : Int)
  | 0, _ => by simp [cen]
  | k + 1, hk => by
    have h1 := cen_bd hb hF hc k (by omega)
    have h2 := cen_step hb (hF k (by omega)) hc
    unfold cen
    omega
/-- The center, or 0 with an error. -/
def cenV (n : Nat) (P : Nat → Nat → Int) (m : Nat) (F : Nat → Nat → Int) (c : Nat) : Int := if validE n P m F = 0 then cen P F c m else 0
theorem validE_ok {n m : Nat} {P F : Nat → Nat → Int} (h : validE n P m F = 0) : n ≤ 64 ∧ (1 ≤ m ∧ m ≤ 96) ∧ ptsBad P n = false ∧ facesE n P F m = 0 ∧ openB F m = false ∧ looseB F m n = false ∧ 0 < vol P F m := by
  unfold validE at h
  by_cases h1 : largeB n m = true
  · rw [if_pos h1] at h; cases h
  rw [if_neg h1] at h
  have h1' : n ≤ 64 ∧ (1 ≤ m ∧ m ≤ 96) := by
    unfold largeB at h1
    simp only [Bool.or_eq_true, decide_eq_true_eq, Bool.not_eq_true', decide_eq_false_iff_not, not_or, Decidable.not_not] at h1
    omega
  by_cases h2 : ptsBad P n = true
  · rw [if_pos h2] at h; cases h
  rw [if_neg h2] at h
  by_cases h3 : facesE n P F m = 0
  · rw [if_neg (by simpa using h3)] at h
    by_cases h4 : openB F m = true
    · rw [if_pos h4] at h; cases h
    rw [if_neg h4] at h
    by_cases h5 : looseB F m n = true
    · rw [if_pos h5] at h; cases h
    rw [if_neg h5] at h
    by_cases h6 : vol P F m ≤ 0
    · rw [if_pos h6] at h; cases h
    exact ⟨h1'.1, h1'.2, by simpa using h2, h3, by simpa using h4, by simpa using h5, by omega⟩
  · rw [if_pos h3] at h; exact absurd h h3
theorem corn_of {n m : Nat} {P F : Nat → Nat → Int} (h : facesE n P F m = 0) : ∀ i, i < m → cornB n F i = true := fun i hi => (faceE_0 (facesE_at h i hi)).1
theorem cells3 {V : World} {g : Nat} {T : TypeId} {a b c : Value} (h : V.heap[g]? = some (.cells #[a, b, c] T (0, 0))) : V.cell? ⟨g, 0, none⟩ = some a ∧ V.cell? ⟨g, 1, none⟩ = some b ∧ V.cell? ⟨g, 2, none⟩ = some c := by
  refine ⟨?_, ?_, ?_⟩ <;> (unfold World.cell?; simp only [h]; rfl)
theorem RowsAt.grown {w w' : World} {A : Option Addr} {n c g : Nat} {f : Nat → Nat → Int} (h : RowsAt w A n c f) (hg : w.grownBy w' (some g)) (hne : ∀ b off, A = some ⟨b, off, none⟩ → b ≠ g) : RowsAt w' A n c f := by
  intro h0
  obtain ⟨b, off, rfl, hb, hc⟩ := h h0
  refine ⟨b, off, rfl, Nat.lt_of_lt_of_le hb hg.size, fun k hk j hj => ⟨?_, (hc k hk j hj).2⟩⟩
  rw [World.cell?_of_block (hg.block b hb (fun e => hne b off rfl (Option.some.inj e)))]
  exact (hc k hk j hj).1
theorem grown_setRow (w : World) (g : Nat) (cs : Array Value) : w.grownBy (w.setRow g cs) (some g) :=
  ⟨rfl, rfl, rfl, by simp, fun k _ hk => setRow_other w g k _ (fun e => hk (by simp [e]))⟩
/-- The state of the loop: the sums in block sb, nothing yet in the result's block rb, and the panels. -/
def CenI (w : World) (sb rb : Nat) (A2 : Option Addr) (m : Nat) (P F : Nat → Nat → Int) (k : Nat) (wr : World) : Prop :=
  Kept w wr ∧ wr.heap[sb]? = some (.cells #[.int .i64 (cen P F 0 k), .int .i64 (cen P F 1 k), .int .i64 (cen P F 2 k)] 136 (0, 0)) ∧ wr.heap[rb]? = some (.cells #[.int .i64 0, .int .i64 0, .int .i64 0] 136 (0, 0)) ∧ RowsAt wr A2 m 9 (pnF P F)
end Go.Proofs.YtnbjealpcjfllaaGreatDoor
