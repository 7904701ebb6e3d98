/- Contract: the document's box has the document's volume and center. No conditions. For every input the statement ShapeNormals returns true and leaves its argument as it was. No conditions. Contracts: volumes and centers of meshes, of the program and of the reference. Conditions: the lists' lengths are ints. What a point and a mesh are worth to each other: whether it lies on the surface, and its winding number, as plain functions. No conditions but those of each theorem. -/
import Derived.Test.YtbhcjdgfcinpcaaGbl
import Derived.Test.YtbhcjdgfcinpcaaGrq
import Derived.Test.YtbhcjdgfcinpcaaGbx
namespace Go.Proofs.Ytbhcjdgfcinpcaa
set_option linter.unusedVariables false
set_option linter.unusedSimpArgs false
open Go.RowKit
theorem block222 : blockE 2 2 2 = 0 := by kernel_rfl
theorem valid222 : validE 8 (blockP 2 2 2) 12 blockF = 0 := by kernel_rfl
theorem cen222 : cenV 8 (blockP 2 2 2) 12 blockF 0 = 192 ∧ cenV 8 (blockP 2 2 2) 12 blockF 1 = 192 ∧ cenV 8 (blockP 2 2 2) 12 blockF 2 = 192 := ⟨by kernel_rfl, by kernel_rfl, by kernel_rfl⟩
set_option maxRecDepth 100000 in
theorem s2known_any (w : World) : Calls Try.prog 21 #[] w fun r w' => r = .returned (.bool true) ∧ Kept w w' := by
  obtain ⟨c0, c1, c2⟩ := cen222
  have k0 : okN 0 8 = 8 := rfl
  have k1 : okN 0 12 = 12 := rfl
  go_enter Try.func21, Try.ntmps21
  go_wp2_with fail
  refine (sblock_any 2 2 2 _).mono ?_
  rintro r w1 ⟨A, cap, B, cap2, rfl, ⟨x, rfl⟩, hP, hF⟩
  rw [block222, k0] at hP
  rw [block222, k1] at hF
  rw [block222, k0, k1]
  have HP := Lib.hid hP
  have HF := Lib.hid hF
  clear hP hF
  go_wp2_with fail
  refine (scenter_any _ _ _ _ _ _ (blockP 2 2 2) blockF _ (by omega) (HP.out.of (by (repeat (first | exact Kept.refl _ | assumption | refine Kept.alloc ?_ _ | refine Kept.ext ?_ _ | refine Kept.drew ?_ | refine Kept.drewN ?_ _)))) (HF.out.of (by (repeat (first | exact Kept.refl _ | assumption | refine Kept.alloc ?_ _ | refine Kept.ext ?_ _ | refine Kept.drew ?_ | refine Kept.drewN ?_ _))))).mono ?_
  rintro r w1 ⟨rfl, y, rfl⟩
  rw [valid222, c0, c1, c2]
  go_wp2_with fail
  go_ret
  exact ⟨rfl, by (repeat (first | exact Kept.refl _ | assumption | refine Kept.alloc ?_ _ | refine Kept.ext ?_ _ | refine Kept.drew ?_ | refine Kept.drewN ?_ _))⟩
end Go.Proofs.Ytbhcjdgfcinpcaa
namespace Go.Proofs.Ytbhcjdgfcinpcaa
set_option linter.unusedVariables false
set_option linter.unusedSimpArgs false
open Go.ChangeShapes Go.WideShapes Go.ChangeAt Go.RowKit
def norX (p0 p1 p2 p3 p4 p5 p6 p7 p8 : Int) : Int := if vpanS p0 p1 p2 p3 p4 p5 p6 p7 p8 = 0 then nX p0 p1 p2 p3 p4 p5 p6 p7 p8 else 0
def norY (p0 p1 p2 p3 p4 p5 p6 p7 p8 : Int) : Int := if vpanS p0 p1 p2 p3 p4 p5 p6 p7 p8 = 0 then nY p0 p1 p2 p3 p4 p5 p6 p7 p8 else 0
def norZ (p0 p1 p2 p3 p4 p5 p6 p7 p8 : Int) : Int := if vpanS p0 p1 p2 p3 p4 p5 p6 p7 p8 = 0 then nZ p0 p1 p2 p3 p4 p5 p6 p7 p8 else 0
theorem vpan_0 {p0 p1 p2 p3 p4 p5 p6 p7 p8 : Int} (h : vpanS p0 p1 p2 p3 p4 p5 p6 p7 p8 = 0) : (-64 ≤ p0 ∧ p0 ≤ 64) ∧ (-64 ≤ p1 ∧ p1 ≤ 64) ∧ (-64 ≤ p2 ∧ p2 ≤ 64) ∧ (-64 ≤ p3 ∧ p3 ≤ 64) ∧ (-64 ≤ p4 ∧ p4 ≤ 64) ∧ (-64 ≤ p5 ∧ p5 ≤ 64) ∧ (-64 ≤ p6 ∧ p6 ≤ 64) ∧ (-64 ≤ p7 ∧ p7 ≤ 64) ∧ (-64 ≤ p8 ∧ p8 ≤ 64) := by
  unfold vpanS at h
  split at h
  · rename_i hc
    simp only [Bool.and_eq_true] at hc
    have b1 := inB_true hc.1.1
    have b2 := inB_true hc.1.2
    have b3 := inB_true hc.2
    omega
  · cases h
theorem r2times_any (a0 a1 a2 k : Int) (w : World) (h : (-1099511627776 ≤ k * a0 ∧ k * a0 ≤ 1099511627776) ∧ (-1099511627776 ≤ k * a1 ∧ k * a1 ≤ 1099511627776) ∧ (-1099511627776 ≤ k * a2 ∧ k * a2 ≤ 1099511627776)) :
    Calls Try.prog 12 #[.agg #[.int .i64 a0, .int .i64 a1, .int .i64 a2], .int .i64 k] w fun e w' => e = .returned (.agg #[.int .i64 (k * a0), .int .i64 (k * a1), .int .i64 (k * a2)]) ∧ Kept w w' := by
  obtain ⟨⟨h0, h1⟩, ⟨h2, h3⟩, h4, h5⟩ := h
  go_enter Try.func12, Try.ntmps12
  go_wp2
  refine bodyPost_ret (by simp only [results, Try.results12]; go_simp; rfl) rfl ?_
  exact ⟨rfl, by (repeat (first | exact Kept.refl _ | assumption | refine Kept.alloc ?_ _ | refine Kept.ext ?_ _ | refine Kept.drew ?_ | refine Kept.drewN ?_ _))⟩
/-- Exchanged corners: the opposite normal. -/
theorem nX_swap (p0 p1 p2 p3 p4 p5 p6 p7 p8 : Int) : nX p0 p1 p2 p6 p7 p8 p3 p4 p5 = -1 * nX p0 p1 p2 p3 p4 p5 p6 p7 p8 := by unfold nX; grind
theorem nY_swap (p0 p1 p2 p3 p4 p5 p6 p7 p8 : Int) : nY p0 p1 p2 p6 p7 p8 p3 p4 p5 = -1 * nY p0 p1 p2 p3 p4 p5 p6 p7 p8 := by unfold nY; grind
theorem nZ_swap (p0 p1 p2 p3 p4 p5 p6 p7 p8 : Int) : nZ p0 p1 p2 p6 p7 p8 p3 p4 p5 = -1 * nZ p0 p1 p2 p3 p4 p5 p6 p7 p8 := by unfold nZ; grind
theorem vpan_swap (p0 p1 p2 p3 p4 p5 p6 p7 p8 : Int) : vpanS p0 p1 p2 p6 p7 p8 p3 p4 p5 = vpanS p0 p1 p2 p3 p4 p5 p6 p7 p8 := by
  unfold vpanS
  rw [nX_swap, nY_swap, nZ_swap]
  have e : (inB p0 p1 p2 64 && inB p6 p7 p8 64 && inB p3 p4 p5 64) = (inB p0 p1 p2 64 && inB p3 p4 p5 64 && inB p6 p7 p8 64) := by
    cases inB p0 p1 p2 64 <;> cases inB p3 p4 p5 64 <;> cases inB p6 p7 p8 64 <;> rfl
  rw [e]
  have e2 : (-1 * nX p0 p1 p2 p3 p4 p5 p6 p7 p8 = 0 ∧ -1 * nY p0 p1 p2 p3 p4 p5 p6 p7 p8 = 0 ∧ -1 * nZ p0 p1 p2 p3 p4 p5 p6 p7 p8 = 0) ↔ (nX p0 p1 p2 p3 p4 p5 p6 p7 p8 = 0 ∧ nY p0 p1 p2 p3 p4 p5 p6 p7 p8 = 0 ∧ nZ p0 p1 p2 p3 p4 p5 p6 p7 p8 = 0) := by omega
  simp only [e2]
theorem norX_swap (p0 p1 p2 p3 p4 p5 p6 p7 p8 : Int) : norX p0 p1 p2 p6 p7 p8 p3 p4 p5 = -1 * norX p0 p1 p2 p3 p4 p5 p6 p7 p8 := by unfold norX; rw [vpan_swap, nX_swap]; split <;> omega
theorem norY_swap (p0 p1 p2 p3 p4 p5 p6 p7 p8 : Int) : norY p0 p1 p2 p6 p7 p8 p3 p4 p5 = -1 * norY p0 p1 p2 p3 p4 p5 p6 p7 p8 := by unfold norY; rw [vpan_swap, nY_swap]; split <;> omega
theorem norZ_swap (p0 p1 p2 p3 p4 p5 p6 p7 p8 : Int) : norZ p0 p1 p2 p6 p7 p8 p3 p4 p5 = -1 * norZ p0 p1 p2 p3 p4 p5 p6 p7 p8 := by unfold norZ; rw [vpan_swap, nZ_swap]; split <;> omega
theorem diff_bd {a b c d e f g h : Int} (h1 : (-64 ≤ a ∧ a ≤ 64) ∧ (-64 ≤ b ∧ b ≤ 64) ∧ (-64 ≤ c ∧ c ≤ 64) ∧ (-64 ≤ d ∧ d ≤ 64) ∧ (-64 ≤ e ∧ e ≤ 64) ∧ (-64 ≤ f ∧ f ≤ 64) ∧ (-64 ≤ g ∧ g ≤ 64) ∧ (-64 ≤ h ∧ h ≤ 64)) :
    -32768 ≤ (a - b) * (c - d) - (e - f) * (g - h) ∧ (a - b) * (c - d) - (e - f) * (g - h) ≤ 32768 := by
  have k1 := mul_sq 128 16384 (show -128 ≤ a - b ∧ a - b ≤ 128 by omega) (show -128 ≤ c - d ∧ c - d ≤ 128 by omega) rfl
  have k2 := mul_sq 128 16384 (show -128 ≤ e - f ∧ e - f ≤ 128 by omega) (show -128 ≤ g - h ∧ g - h ≤ 128 by omega) rfl
  omega
theorem nor_bd (p0 p1 p2 p3 p4 p5 p6 p7 p8 : Int) : (-32768 ≤ norX p0 p1 p2 p3 p4 p5 p6 p7 p8 ∧ norX p0 p1 p2 p3 p4 p5 p6 p7 p8 ≤ 32768) ∧ (-32768 ≤ norY p0 p1 p2 p3 p4 p5 p6 p7 p8 ∧ norY p0 p1 p2 p3 p4 p5 p6 p7 p8 ≤ 32768) ∧ (-32768 ≤ norZ p0 p1 p2 p3 p4 p5 p6 p7 p8 ∧ norZ p0 p1 p2 p3 p4 p5 p6 p7 p8 ≤ 32768) := by
  unfold norX norY norZ
  by_cases h : vpanS p0 p1 p2 p3 p4 p5 p6 p7 p8 = 0
  · have b := vpan_0 h
    rw [if_pos h, if_pos h, if_pos h]
    unfold nX nY nZ
    exact ⟨diff_bd (by omega), diff_bd (by omega), diff_bd (by omega)⟩
  · rw [if_neg h, if_neg h, if_neg h]
    omega
end Go.Proofs.Ytbhcjdgfcinpcaa
namespace Go.Proofs.Ytbhcjdgfcinpcaa
set_option linter.unusedVariables false
set_option linter.unusedSimpArgs false
open Go.RowKit
/-- The volume, or 0 with an error. -/
def volV (n : Nat) (P : Nat → Nat → Int) (m : Nat) (F : Nat → Nat → Int) : Int := if validE n P m F = 0 then vol P F m else 0
set_option maxRecDepth 100000 in
theorem svol6_any (A B : Option Addr) (n cap m cap2 : Nat) (P F : Nat → Nat → Int) (w : World) (hn : n ≤ 9223372036854775807 ∧ m ≤ 9223372036854775807) (hP : RowsAt w A n 3 P) (hF : RowsAt w B m 3 F) :
    Calls Try.prog 7 #[.agg #[.slice A n cap, .slice B m cap2]] w fun r w' => r = .returned (.tuple #[.int .i64 (volV n P m F), .int .i64 (validE n P m F)]) ∧ Kept w w' := by
  have HP := Lib.hid hP
  have HF := Lib.hid hF
  clear hP hF
  by_cases hv : validE n P m F = 0
  · rw [show volV n P m F = vol P F m from if_pos hv]
    have HV := Lib.hid hv
    obtain ⟨n64, m96, hb, hf, -⟩ := validE_ok hv
    have HB := Lib.hid hb
    have HC := Lib.hid (corn_of hf)
    clear hv hb hf
    go_enter Try.func7, Try.ntmps7
    go_wp2_with (first | (go_at_call 24; refine (svalidate_any _ _ _ _ _ _ P F _ hn (HP.out.of (by (repeat (first | exact Kept.refl _ | assumption | refine Kept.alloc ?_ _ | refine Kept.ext ?_ _ | refine Kept.drew ?_ | refine Kept.drewN ?_ _)))) (HF.out.of (by (repeat (first | exact Kept.refl _ | assumption | refine Kept.alloc ?_ _ | refine Kept.ext ?_ _ | refine Kept.drew ?_ | refine Kept.drewN ?_ _))))).mono ?_; rintro e w1 ⟨rfl, x0, rfl⟩; rw [HV.out]) | (go_at_call 25; refine (svolume_any _ _ _ _ _ _ P F _ (by omega) (by omega) HB.out HC.out (HP.out.of (by (repeat (first | exact Kept.refl _ | assumption | refine Kept.alloc ?_ _ | refine Kept.ext ?_ _ | refine Kept.drew ?_ | refine Kept.drewN ?_ _)))) (HF.out.of (by (repeat (first | exact Kept.refl _ | assumption | refine Kept.alloc ?_ _ | refine Kept.ext ?_ _ | refine Kept.drew ?_ | refine Kept.drewN ?_ _))))).mono ?_; rintro e w1 ⟨rfl, x1, rfl⟩))
    refine bodyPost_ret (by simp only [results, Try.results7]; go_simp; rfl) rfl ?_
    rw [HV.out]
    exact ⟨rfl, by (repeat (first | exact Kept.refl _ | assumption | refine Kept.alloc ?_ _ | refine Kept.ext ?_ _ | refine Kept.drew ?_ | refine Kept.drewN ?_ _))⟩
  · rw [show volV n P m F = 0 from if_neg hv]
    obtain ⟨e, he⟩ : ∃ e, validE n P m F = e := ⟨_, rfl⟩
    rw [he] at hv
    have HV := Lib.hid he
    clear he
    have hv2 : (e == 0) = false := by simpa using hv
    have hv3 : decide (e = 0) = false := by simpa using hv
    go_enter Try.func7, Try.ntmps7
    go_wp2_with (go_at_call 24; refine (svalidate_any _ _ _ _ _ _ P F _ hn (HP.out.of (by (repeat (first | exact Kept.refl _ | assumption | refine Kept.alloc ?_ _ | refine Kept.ext ?_ _ | refine Kept.drew ?_ | refine Kept.drewN ?_ _)))) (HF.out.of (by (repeat (first | exact Kept.refl _ | assumption | refine Kept.alloc ?_ _ | refine Kept.ext ?_ _ | refine Kept.drew ?_ | refine Kept.drewN ?_ _))))).mono ?_; rintro e w1 ⟨rfl, x, rfl⟩; rw [HV.out])
    refine bodyPost_ret (by simp only [results, Try.results7]; go_simp; rfl) rfl ?_
    rw [HV.out]
    exact ⟨rfl, by (repeat (first | exact Kept.refl _ | assumption | refine Kept.alloc ?_ _ | refine Kept.ext ?_ _ | refine Kept.drew ?_ | refine Kept.drewN ?_ _))⟩
theorem r2plus_any (a0 a1 a2 b0 b1 b2 : Int) (w : World) (h : (-1099511627776 ≤ a0 ∧ a0 ≤ 1099511627776) ∧ (-1099511627776 ≤ a1 ∧ a1 ≤ 1099511627776) ∧ (-1099511627776 ≤ a2 ∧ a2 ≤ 1099511627776) ∧ (-1099511627776 ≤ b0 ∧ b0 ≤ 1099511627776) ∧ (-1099511627776 ≤ b1 ∧ b1 ≤ 1099511627776) ∧ (-1099511627776 ≤ b2 ∧ b2 ≤ 1099511627776)) :
    Calls Try.prog 11 #[.agg #[.int .i64 a0, .int .i64 a1, .int .i64 a2], .agg #[.int .i64 b0, .int .i64 b1, .int .i64 b2]] w fun e w' => e = .returned (.agg #[.int .i64 (a0 + b0), .int .i64 (a1 + b1), .int .i64 (a2 + b2)]) ∧ Kept w w' := by
  go_enter Try.func11, Try.ntmps11
  go_wp2
  refine bodyPost_ret (by simp only [results, Try.results11]; go_simp; rfl) rfl ?_
  exact ⟨rfl, by (repeat (first | exact Kept.refl _ | assumption | refine Kept.alloc ?_ _ | refine Kept.ext ?_ _ | refine Kept.drew ?_ | refine Kept.drewN ?_ _))⟩
/-- The state of the loop: the sums in block sb, nothing yet in the result's block rb. -/
def CenJ (W : World) (sb rb : Nat) (P F : Nat → Nat → Int) (k : Nat) (wr : World) : Prop :=
  Kept W wr ∧ wr.heap[sb]? = some (.cells #[.int .i64 (cen P F 0 k), .int .i64 (cen P F 1 k), .int .i64 (cen P F 2 k)] 27 (0, 0)) ∧ wr.heap[rb]? = some (.cells #[.int .i64 0, .int .i64 0, .int .i64 0] 27 (0, 0))
theorem add_swap (a b c : Int) : a + (b + c) = a + b + c := by omega
end Go.Proofs.Ytbhcjdgfcinpcaa
namespace Go.Proofs.Ytbhcjdgfcinpcaa
set_option linter.unusedVariables false
set_option linter.unusedSimpArgs false
open Go.RowKit
def d3 (a0 a1 a2 b0 b1 b2 : Int) : Int := a0 * b0 + a1 * b1 + a2 * b2
/-- The product of n with the vector product of a and b. -/
def dc (n0 n1 n2 a0 a1 a2 b0 b1 b2 : Int) : Int := d3 n0 n1 n2 (a1 * b2 - a2 * b1) (a2 * b0 - a0 * b2) (a0 * b1 - a1 * b0)
/-- A triangle, as seen from a point, has the point. -/
def tchS (v0 v1 v2 v3 v4 v5 v6 v7 v8 : Int) : Bool := decide (pr9 v0 v1 v2 v3 v4 v5 v6 v7 v8 = 0) && (decide (0 ≤ dc (nX v0 v1 v2 v3 v4 v5 v6 v7 v8) (nY v0 v1 v2 v3 v4 v5 v6 v7 v8) (nZ v0 v1 v2 v3 v4 v5 v6 v7 v8) v0 v1 v2 v3 v4 v5) && (decide (0 ≤ dc (nX v0 v1 v2 v3 v4 v5 v6 v7 v8) (nY v0 v1 v2 v3 v4 v5 v6 v7 v8) (nZ v0 v1 v2 v3 v4 v5 v6 v7 v8) v3 v4 v5 v6 v7 v8) && decide (0 ≤ dc (nX v0 v1 v2 v3 v4 v5 v6 v7 v8) (nY v0 v1 v2 v3 v4 v5 v6 v7 v8) (nZ v0 v1 v2 v3 v4 v5 v6 v7 v8) v6 v7 v8 v0 v1 v2)))
def sgn (n : Int) : Int := min 1 (max (-1) n)
def alS (x y z : Int) : Int := if z ≠ 0 then sgn z else if y ≠ 0 then sgn y else sgn x
/-- What a triangle, as seen from a point, gives to the winding number. -/
def wndS (v0 v1 v2 v3 v4 v5 v6 v7 v8 : Int) : Int :=
  if sgn (pr9 v0 v1 v2 v3 v4 v5 v6 v7 v8) ≠ 0 ∧ alS (v1 * v5 - v2 * v4) (v2 * v3 - v0 * v5) (v0 * v4 - v1 * v3) = sgn (pr9 v0 v1 v2 v3 v4 v5 v6 v7 v8) ∧ alS (v4 * v8 - v5 * v7) (v5 * v6 - v3 * v8) (v3 * v7 - v4 * v6) = sgn (pr9 v0 v1 v2 v3 v4 v5 v6 v7 v8) ∧ alS (v7 * v2 - v8 * v1) (v8 * v0 - v6 * v2) (v6 * v1 - v7 * v0) = sgn (pr9 v0 v1 v2 v3 v4 v5 v6 v7 v8)
  then sgn (pr9 v0 v1 v2 v3 v4 v5 v6 v7 v8) else 0
def tchF (P F : Nat → Nat → Int) (q0 q1 q2 : Int) (k : Nat) : Bool := tchS (co P F k 0 0 - q0) (co P F k 0 1 - q1) (co P F k 0 2 - q2) (co P F k 1 0 - q0) (co P F k 1 1 - q1) (co P F k 1 2 - q2) (co P F k 2 0 - q0) (co P F k 2 1 - q1) (co P F k 2 2 - q2)
def wndF (P F : Nat → Nat → Int) (q0 q1 q2 : Int) (k : Nat) : Int := wndS (co P F k 0 0 - q0) (co P F k 0 1 - q1) (co P F k 0 2 - q2) (co P F k 1 0 - q0) (co P F k 1 1 - q1) (co P F k 1 2 - q2) (co P F k 2 0 - q0) (co P F k 2 1 - q1) (co P F k 2 2 - q2)
def onS (P F : Nat → Nat → Int) (q0 q1 q2 : Int) (m : Nat) : Bool := (List.range m).any fun k => tchF P F q0 q1 q2 k
def wsum (P F : Nat → Nat → Int) (q0 q1 q2 : Int) : Nat → Int
  | 0 => 0
  | k + 1 => wsum P F q0 q1 q2 k + wndF P F q0 q1 q2 k
/-- The error of a mesh and a point. -/
def askE (n : Nat) (P : Nat → Nat → Int) (m : Nat) (F : Nat → Nat → Int) (q0 q1 q2 : Int) : Int := if validE n P m F = 0 then (if inB q0 q1 q2 256 = true then 0 else 1) else validE n P m F
def onV (n : Nat) (P : Nat → Nat → Int) (m : Nat) (F : Nat → Nat → Int) (q0 q1 q2 : Int) : Bool := if askE n P m F q0 q1 q2 = 0 then onS P F q0 q1 q2 m else false
def winE (n : Nat) (P : Nat → Nat → Int) (m : Nat) (F : Nat → Nat → Int) (q0 q1 q2 : Int) : Int := if askE n P m F q0 q1 q2 = 0 then (if onS P F q0 q1 q2 m = true then 9 else 0) else askE n P m F q0 q1 q2
def winV (n : Nat) (P : Nat → Nat → Int) (m : Nat) (F : Nat → Nat → Int) (q0 q1 q2 : Int) : Int := if winE n P m F q0 q1 q2 = 0 then wsum P F q0 q1 q2 m else 0
theorem sgn_bd (n : Int) : -1 ≤ sgn n ∧ sgn n ≤ 1 := by unfold sgn; omega
theorem al_bd (x y z : Int) : -1 ≤ alS x y z ∧ alS x y z ≤ 1 := by unfold alS sgn; split; omega; split <;> omega
theorem wnd_bd (v0 v1 v2 v3 v4 v5 v6 v7 v8 : Int) : -1 ≤ wndS v0 v1 v2 v3 v4 v5 v6 v7 v8 ∧ wndS v0 v1 v2 v3 v4 v5 v6 v7 v8 ≤ 1 := by
  unfold wndS
  split
  · exact sgn_bd _
  · omega
theorem wsum_bd (P F : Nat → Nat → Int) (q0 q1 q2 : Int) : ∀ k : Nat, -(k : Int) ≤ wsum P F q0 q1 q2 k ∧ wsum P F q0 q1 q2 k ≤ k
  | 0 => by simp [wsum]
  | k + 1 => by
    have h1 := wsum_bd P F q0 q1 q2 k
    have h2 : -1 ≤ wndF P F q0 q1 q2 k ∧ wndF P F q0 q1 q2 k ≤ 1 := wnd_bd _ _ _ _ _ _ _ _ _
    unfold wsum
    omega
theorem ray_al {x y z : Int} (h : (-524287 ≤ x ∧ x ≤ 524287) ∧ (-524287 ≤ y ∧ y ≤ 524287) ∧ (-524287 ≤ z ∧ z ≤ 524287)) : sgn (d3 1 1048576 1099511627776 x y z) = alS x y z := by
  unfold d3 alS sgn
  split
  · omega
  · split <;> omega
theorem al_sum {x1 y1 z1 x2 y2 z2 x3 y3 z3 t : Int} (h1 : alS x1 y1 z1 = t) (h2 : alS x2 y2 z2 = t) (h3 : alS x3 y3 z3 = t) (ht : t ≠ 0) : alS (x1 + x2 + x3) (y1 + y2 + y3) (z1 + z2 + z3) = t := by
  unfold alS sgn at *
  split at h1 <;> (try split at h1) <;> split at h2 <;> (try split at h2) <;> split at h3 <;> (try split at h3) <;> split <;> (try split) <;> omega
theorem al_zero {x y z : Int} (h : alS x y z = 0) : x = 0 ∧ y = 0 ∧ z = 0 := by
  unfold alS sgn at h
  split at h
  · omega
  · split at h <;> omega
theorem nX_sum (v0 v1 v2 v3 v4 v5 v6 v7 v8 : Int) : nX v0 v1 v2 v3 v4 v5 v6 v7 v8 = (v1 * v5 - v2 * v4) + (v4 * v8 - v5 * v7) + (v7 * v2 - v8 * v1) := by unfold nX; grind
theorem nY_sum (v0 v1 v2 v3 v4 v5 v6 v7 v8 : Int) : nY v0 v1 v2 v3 v4 v5 v6 v7 v8 = (v2 * v3 - v0 * v5) + (v5 * v6 - v3 * v8) + (v8 * v0 - v6 * v2) := by unfold nY; grind
theorem nZ_sum (v0 v1 v2 v3 v4 v5 v6 v7 v8 : Int) : nZ v0 v1 v2 v3 v4 v5 v6 v7 v8 = (v0 * v4 - v1 * v3) + (v3 * v7 - v4 * v6) + (v6 * v1 - v7 * v0) := by unfold nZ; grind
/-- The reference's way to the same number. -/
theorem wnd_ref (v0 v1 v2 v3 v4 v5 v6 v7 v8 : Int) (hn : ¬ (nX v0 v1 v2 v3 v4 v5 v6 v7 v8 = 0 ∧ nY v0 v1 v2 v3 v4 v5 v6 v7 v8 = 0 ∧ nZ v0 v1 v2 v3 v4 v5 v6 v7 v8 = 0)) :
    wndS v0 v1 v2 v3 v4 v5 v6 v7 v8 = if sgn (pr9 v0 v1 v2 v3 v4 v5 v6 v7 v8) = alS (nX v0 v1 v2 v3 v4 v5 v6 v7 v8) (nY v0 v1 v2 v3 v4 v5 v6 v7 v8) (nZ v0 v1 v2 v3 v4 v5 v6 v7 v8) ∧ alS (v1 * v5 - v2 * v4) (v2 * v3 - v0 * v5) (v0 * v4 - v1 * v3) = alS (nX v0 v1 v2 v3 v4 v5 v6 v7 v8) (nY v0 v1 v2 v3 v4 v5 v6 v7 v8) (nZ v0 v1 v2 v3 v4 v5 v6 v7 v8) ∧ alS (v4 * v8 - v5 * v7) (v5 * v6 - v3 * v8) (v3 * v7 - v4 * v6) = alS (nX v0 v1 v2 v3 v4 v5 v6 v7 v8) (nY v0 v1 v2 v3 v4 v5 v6 v7 v8) (nZ v0 v1 v2 v3 v4 v5 v6 v7 v8) ∧ alS (v7 * v2 - v8 * v1) (v8 * v0 - v6 * v2) (v6 * v1 - v7 * v0) = alS (nX v0 v1 v2 v3 v4 v5 v6 v7 v8) (nY v0 v1 v2 v3 v4 v5 v6 v7 v8) (nZ v0 v1 v2 v3 v4 v5 v6 v7 v8)
      then alS (nX v0 v1 v2 v3 v4 v5 v6 v7 v8) (nY v0 v1 v2 v3 v4 v5 v6 v7 v8) (nZ v0 v1 v2 v3 v4 v5 v6 v7 v8) else 0 := by
  have ht : alS (nX v0 v1 v2 v3 v4 v5 v6 v7 v8) (nY v0 v1 v2 v3 v4 v5 v6 v7 v8) (nZ v0 v1 v2 v3 v4 v5 v6 v7 v8) ≠ 0 := fun e => hn (al_zero e)
  have hs := fun t h1 h2 h3 h0 => @al_sum (v1 * v5 - v2 * v4) (v2 * v3 - v0 * v5) (v0 * v4 - v1 * v3) (v4 * v8 - v5 * v7) (v5 * v6 - v3 * v8) (v3 * v7 - v4 * v6) (v7 * v2 - v8 * v1) (v8 * v0 - v6 * v2) (v6 * v1 - v7 * v0) t h1 h2 h3 h0
  rw [← nX_sum, ← nY_sum, ← nZ_sum] at hs
  unfold wndS
  by_cases c : sgn (pr9 v0 v1 v2 v3 v4 v5 v6 v7 v8) ≠ 0 ∧ alS (v1 * v5 - v2 * v4) (v2 * v3 - v0 * v5) (v0 * v4 - v1 * v3) = sgn (pr9 v0 v1 v2 v3 v4 v5 v6 v7 v8) ∧ alS (v4 * v8 - v5 * v7) (v5 * v6 - v3 * v8) (v3 * v7 - v4 * v6) = sgn (pr9 v0 v1 v2 v3 v4 v5 v6 v7 v8) ∧ alS (v7 * v2 - v8 * v1) (v8 * v0 - v6 * v2) (v6 * v1 - v7 * v0) = sgn (pr9 v0 v1 v2 v3 v4 v5 v6 v7 v8)
  · rw [if_pos c]
    obtain ⟨c0, c1, c2, c3⟩ := c
    have e := hs _ c1 c2 c3 c0
    rw [e, if_pos ⟨rfl, c1, c2, c3⟩]
  · rw [if_neg c]
    refine (if_neg fun h => c ?_).symm
    obtain ⟨d0, d1, d2, d3⟩ := h
    exact ⟨by rw [d0]; exact ht, by rw [d1, d0], by rw [d2, d0], by rw [d3, d0]⟩
theorem nX_move (p0 p1 p2 p3 p4 p5 p6 p7 p8 q0 q1 q2 : Int) : nX (p0 - q0) (p1 - q1) (p2 - q2) (p3 - q0) (p4 - q1) (p5 - q2) (p6 - q0) (p7 - q1) (p8 - q2) = nX p0 p1 p2 p3 p4 p5 p6 p7 p8 := by unfold nX; grind
theorem nY_move (p0 p1 p2 p3 p4 p5 p6 p7 p8 q0 q1 q2 : Int) : nY (p0 - q0) (p1 - q1) (p2 - q2) (p3 - q0) (p4 - q1) (p5 - q2) (p6 - q0) (p7 - q1) (p8 - q2) = nY p0 p1 p2 p3 p4 p5 p6 p7 p8 := by unfold nY; grind
theorem nZ_move (p0 p1 p2 p3 p4 p5 p6 p7 p8 q0 q1 q2 : Int) : nZ (p0 - q0) (p1 - q1) (p2 - q2) (p3 - q0) (p4 - q1) (p5 - q2) (p6 - q0) (p7 - q1) (p8 - q2) = nZ p0 p1 p2 p3 p4 p5 p6 p7 p8 := by unfold nZ; grind
/-- The product with the normal is that of the corners. -/
theorem pr9_n (v0 v1 v2 v3 v4 v5 v6 v7 v8 : Int) : pr9 v0 v1 v2 v3 v4 v5 v6 v7 v8 = d3 (nX v0 v1 v2 v3 v4 v5 v6 v7 v8) (nY v0 v1 v2 v3 v4 v5 v6 v7 v8) (nZ v0 v1 v2 v3 v4 v5 v6 v7 v8) v0 v1 v2 := by unfold pr9 d3 nX nY nZ; grind
theorem pr9_ref (p0 p1 p2 p3 p4 p5 p6 p7 p8 q0 q1 q2 : Int) : d3 (nX p0 p1 p2 p3 p4 p5 p6 p7 p8) (nY p0 p1 p2 p3 p4 p5 p6 p7 p8) (nZ p0 p1 p2 p3 p4 p5 p6 p7 p8) (q0 - p0) (q1 - p1) (q2 - p2) = -pr9 (p0 - q0) (p1 - q1) (p2 - q2) (p3 - q0) (p4 - q1) (p5 - q2) (p6 - q0) (p7 - q1) (p8 - q2) := by
  rw [pr9_n, nX_move, nY_move, nZ_move]
  unfold d3
  grind
theorem dc_ref (n0 n1 n2 a0 a1 a2 b0 b1 b2 q0 q1 q2 : Int) : dc n0 n1 n2 (b0 - a0) (b1 - a1) (b2 - a2) (q0 - a0) (q1 - a1) (q2 - a2) = dc n0 n1 n2 (a0 - q0) (a1 - q1) (a2 - q2) (b0 - q0) (b1 - q1) (b2 - q2) := by unfold dc d3; grind
end Go.Proofs.Ytbhcjdgfcinpcaa
