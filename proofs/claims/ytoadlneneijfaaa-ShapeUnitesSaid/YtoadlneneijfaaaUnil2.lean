/- For every input the statement ShapeUnites returns true and leaves its arguments as they were. No conditions. -/
import Derived.Test.YtoadlneneijfaaaUnr
import Derived.Test.YtoadlneneijfaaaGvl
import Derived.Test.YtoadlneneijfaaaGsm
import Derived.Test.YtoadlneneijfaaaGkn
import Derived.Test.YtoadlneneijfaaaOpm
namespace Go.Proofs.Ytoadlneneijfaaa
set_option linter.unusedVariables false
set_option linter.unusedSimpArgs false
open Go.ChangeShapes Go.WideShapes Go.ChangeAt Go.RowKit
theorem rowsU {w : World} {base n cap : Nat} {t : TypeId} {A : Option Addr} {f : Nat → Nat → Int} {e : Int} (h : w.ownsRow base t 3 (.slice A (okN e n) cap) (okN e n) (rowC 3 f (okN e n))) (hI : e = 0 → ∀ k, k < n → ∀ j, j < 3 → I64 (f k j)) : RowsAt w A (okN e n) 3 f := by
  refine rows_of_owns h fun k hk j hj => ?_
  by_cases he : e = 0
  · rw [show okN e n = n from if_pos he] at hk
    exact hI he k hk j hj
  · rw [show okN e n = 0 from if_neg he] at hk
    omega
theorem uniP_I {n n2 : Nat} {P Q : Nat → Nat → Int} (h1 : ∀ k, k < n → ∀ j, j < 3 → I64 (P k j)) (h2 : ∀ k, k < n2 → ∀ j, j < 3 → I64 (Q k j)) : ∀ k, k < n + n2 → ∀ j, j < 3 → I64 (uniP n P Q k j) := fun k hk j hj => by
  unfold uniP
  split
  · exact h1 k (by omega) j hj
  · exact h2 (k - n) (by omega) j hj
theorem uniF_I {n m m2 n2 : Nat} {F G : Nat → Nat → Int} (hn : n ≤ 64 ∧ n2 ≤ 64) (h1 : ∀ k, k < m → ∀ j, j < 3 → I64 (F k j)) (h2 : ∀ i, i < m2 → ∀ k, k < 3 → 0 ≤ G i k ∧ G i k < n2) : ∀ k, k < m + m2 → ∀ j, j < 3 → I64 (uniF n m F G k j) := fun k hk j hj => by
  unfold uniF
  split
  · exact h1 k (by omega) j hj
  · have := h2 (k - m) (by omega) j hj
    unfold I64
    omega
theorem numV_0 {n m : Nat} {P F : Nat → Nat → Int} (h : validE n P m F = 0) (p : Nat) : numV n P m F p = p := if_pos h
theorem volV_0 {n m : Nat} {P F : Nat → Nat → Int} (h : validE n P m F = 0) : volV n P m F = vol P F m := if_pos h
theorem corn_0 {n m : Nat} {P F : Nat → Nat → Int} (h : validE n P m F = 0) : ∀ i, i < m → cornB n F i = true := fun i hi => by
  have c := clo_of h
  have h0 := c.inn i hi 0 (by omega)
  have h1 := c.inn i hi 1 (by omega)
  have h2 := c.inn i hi 2 (by omega)
  unfold cornB
  simp [h0, h1, h2]
theorem uniE_0 {n m n2 m2 : Nat} {P F Q G : Nat → Nat → Int} (h : uniE n P m F n2 Q m2 G = 0) : validE n P m F = 0 ∧ validE n2 Q m2 G = 0 ∧ validE (n + n2) (uniP n P Q) (m + m2) (uniF n m F G) = 0 := by
  unfold uniE at h
  split at h
  · omega
  · split at h
    · omega
    · exact ⟨by omega, by omega, h⟩
theorem top_bd {n m p d : Nat} {P F : Nat → Nat → Int} (h : validE n P m F = 0) (t : Top n P m F p d) : p ≤ 96 ∧ d ≤ 200 := by
  obtain ⟨al, c, -, -, -, h1, h2, h3⟩ := t h
  have := valid_sz h
  omega
set_option maxRecDepth 100000 in
set_option maxHeartbeats 16000000 in
theorem unites_law (A : Option Addr) (n cap : Nat) (P : Nat → Nat → Int) (B : Option Addr) (m cap2 : Nat) (F : Nat → Nat → Int) (A2 : Option Addr) (n2 cap3 : Nat) (Q : Nat → Nat → Int) (B2 : Option Addr) (m2 cap4 : Nat) (G : Nat → Nat → Int) (w : World) (h : (n ≤ cap ∧ cap ≤ maxLen ∧ RowsAt w A n 3 P) ∧ (m ≤ cap2 ∧ cap2 ≤ maxLen ∧ RowsAt w B m 3 F)) (h' : (n2 ≤ cap3 ∧ cap3 ≤ maxLen ∧ RowsAt w A2 n2 3 Q) ∧ (m2 ≤ cap4 ∧ cap4 ≤ maxLen ∧ RowsAt w B2 m2 3 G)) :
    Calls Try.prog 11 #[.agg #[.slice A n cap, .slice B m cap2], .agg #[.slice A2 n2 cap3, .slice B2 m2 cap4]] w fun r w' => r = .returned (.bool true) ∧ Kept w w' := by
  obtain ⟨⟨a1, a2, hP⟩, b1, b2, hF⟩ := h
  obtain ⟨⟨a3, a4, hQ⟩, b3, b4, hG⟩ := h'
  unfold maxLen at a2 b2 a4 b4
  have HP := Lib.hid hP
  have HF := Lib.hid hF
  have HQ := Lib.hid hQ
  have HG := Lib.hid hG
  have IFF := Lib.hid (rows_I hF)
  have IPP := Lib.hid (rows_I hP)
  have IQQ := Lib.hid (rows_I hQ)
  clear hP hF hQ hG
  have hn : n ≤ 9223372036854775807 ∧ m ≤ 9223372036854775807 := by omega
  have hn2 : n2 ≤ 9223372036854775807 ∧ m2 ≤ 9223372036854775807 := by omega
  by_cases hl : 200 < n ∨ 300 < m
  · have hl2 : (decide (200 < n) || decide (300 < m)) = true := by simpa using hl
    have HL := Lib.hid hl2
    clear hl hl2
    go_enter Try.func11, Try.ntmps11
    go_wp2_with fail
    refine (long_any _ _ _ _ _ _ _).mono ?_
    rintro r w1 ⟨rfl, x0, rfl⟩
    rw [HL.out]
    go_wp2_with (first | (go_at_call 19; refine (s2known_any _).mono ?_; rintro e w1 ⟨rfl, x, rfl⟩))
    go_ret
    exact ⟨rfl, by (repeat (first | exact Kept.refl _ | assumption | refine Kept.alloc ?_ _ | refine Kept.ext ?_ _ | refine Kept.drew ?_ | refine Kept.drewN ?_ _))⟩
  have hl2 : (decide (200 < n) || decide (300 < m)) = false := by simpa using hl
  have HL := Lib.hid hl2
  clear hl2
  by_cases hlb : 200 < n2 ∨ 300 < m2
  · have hl2 : (decide (200 < n2) || decide (300 < m2)) = true := by simpa using hlb
    have HLB := Lib.hid hl2
    clear hl hlb hl2
    go_enter Try.func11, Try.ntmps11
    go_wp2_with fail
    refine (long_any _ _ _ _ _ _ _).mono ?_
    rintro r w1 ⟨rfl, x0, rfl⟩
    rw [HL.out]
    go_wp2_with fail
    refine (long_any _ _ _ _ _ _ _).mono ?_
    rintro r w1 ⟨rfl, x1, rfl⟩
    rw [HLB.out]
    go_wp2_with (first | (go_at_call 19; refine (s2known_any _).mono ?_; rintro e w1 ⟨rfl, x, rfl⟩))
    go_ret
    exact ⟨rfl, by (repeat (first | exact Kept.refl _ | assumption | refine Kept.alloc ?_ _ | refine Kept.ext ?_ _ | refine Kept.drew ?_ | refine Kept.drewN ?_ _))⟩
  have hl2 : (decide (200 < n2) || decide (300 < m2)) = false := by simpa using hlb
  have HLB := Lib.hid hl2
  clear hl2
  obtain ⟨e, he⟩ : ∃ e, uniE n P m F n2 Q m2 G = e := ⟨_, rfl⟩
  have hIP : e = 0 → ∀ k, k < n + n2 → ∀ j, j < 3 → I64 (uniP n P Q k j) := fun _ => uniP_I IPP.out IQQ.out
  have hIF : e = 0 → ∀ k, k < m + m2 → ∀ j, j < 3 → I64 (uniF n m F G k j) := fun h0 => by
    obtain ⟨v1, v2, v3⟩ := uniE_0 (he.trans h0)
    have s1 := valid_sz v1
    have s2 := valid_sz v2
    exact uniF_I (by omega) IFF.out (clo_of v2).inn
  have HIP := Lib.hid hIP
  have HIF := Lib.hid hIF
  have HE := Lib.hid he
  have le1 := okN_le e (n + n2)
  have le2 := okN_le e (m + m2)
  clear hIP hIF
  by_cases h0 : e = 0
  case neg =>
    have hv2 : (e == 0) = false := by simpa using h0
    have hv3 : decide (e = 0) = false := by simpa using h0
    clear he
    go_enter Try.func11, Try.ntmps11
    go_wp2_with fail
    refine (long_any _ _ _ _ _ _ _).mono ?_
    rintro r w1 ⟨rfl, x0, rfl⟩
    rw [HL.out]
    go_wp2_with fail
    refine (long_any _ _ _ _ _ _ _).mono ?_
    rintro r w1 ⟨rfl, x1, rfl⟩
    rw [HLB.out]
    go_wp2_with fail
    refine (sUnite_any _ _ _ _ _ _ _ _ _ _ _ _ P F Q G _ hn hn2 (HP.out.of (by (repeat (first | exact Kept.refl _ | assumption | refine Kept.alloc ?_ _ | refine Kept.ext ?_ _ | refine Kept.drew ?_ | refine Kept.drewN ?_ _)))) (HF.out.of (by (repeat (first | exact Kept.refl _ | assumption | refine Kept.alloc ?_ _ | refine Kept.ext ?_ _ | refine Kept.drew ?_ | refine Kept.drewN ?_ _)))) (HQ.out.of (by (repeat (first | exact Kept.refl _ | assumption | refine Kept.alloc ?_ _ | refine Kept.ext ?_ _ | refine Kept.drew ?_ | refine Kept.drewN ?_ _)))) (HG.out.of (by (repeat (first | exact Kept.refl _ | assumption | refine Kept.alloc ?_ _ | refine Kept.ext ?_ _ | refine Kept.drew ?_ | refine Kept.drewN ?_ _))))).mono ?_
    rw [HE.out]
    rintro r w1 ⟨A3, c3, B3, d3, rfl, ⟨x3, rfl⟩, ho1, ho2⟩
    have H3 := Lib.hid (rowsU ho1 (fun h => HIP.out (by simpa using h)))
    have H4 := Lib.hid (rowsU ho2 (fun h => HIF.out (by simpa using h)))
    clear ho1 ho2
    go_wp2_with fail
    refine (r2Unite_any _ _ _ _ _ _ _ _ _ _ _ _ P F Q G _ hn hn2 (HP.out.of (by (repeat (first | exact Kept.refl _ | assumption | refine Kept.alloc ?_ _ | refine Kept.ext ?_ _ | refine Kept.drew ?_ | refine Kept.drewN ?_ _)))) (HF.out.of (by (repeat (first | exact Kept.refl _ | assumption | refine Kept.alloc ?_ _ | refine Kept.ext ?_ _ | refine Kept.drew ?_ | refine Kept.drewN ?_ _)))) (HQ.out.of (by (repeat (first | exact Kept.refl _ | assumption | refine Kept.alloc ?_ _ | refine Kept.ext ?_ _ | refine Kept.drew ?_ | refine Kept.drewN ?_ _)))) (HG.out.of (by (repeat (first | exact Kept.refl _ | assumption | refine Kept.alloc ?_ _ | refine Kept.ext ?_ _ | refine Kept.drew ?_ | refine Kept.drewN ?_ _))))).mono ?_
    rw [HE.out]
    rintro r w1 ⟨A4, c4, B4, d4, rfl, ⟨x4, rfl⟩, ho1, ho2⟩
    have H5 := Lib.hid (rowsU ho1 (fun h => HIP.out (by simpa using h)))
    have H6 := Lib.hid (rowsU ho2 (fun h => HIF.out (by simpa using h)))
    clear ho1 ho2
    go_wp2_with fail
    refine (same_any _ _ _ _ _ _ _ _ _ _ (uniP n P Q) (uniF n m F G) _ (by omega) (H3.out.of (by (repeat (first | exact Kept.refl _ | assumption | refine Kept.alloc ?_ _ | refine Kept.ext ?_ _ | refine Kept.drew ?_ | refine Kept.drewN ?_ _)))) (H4.out.of (by (repeat (first | exact Kept.refl _ | assumption | refine Kept.alloc ?_ _ | refine Kept.ext ?_ _ | refine Kept.drew ?_ | refine Kept.drewN ?_ _)))) (H5.out.of (by (repeat (first | exact Kept.refl _ | assumption | refine Kept.alloc ?_ _ | refine Kept.ext ?_ _ | refine Kept.drew ?_ | refine Kept.drewN ?_ _)))) (H6.out.of (by (repeat (first | exact Kept.refl _ | assumption | refine Kept.alloc ?_ _ | refine Kept.ext ?_ _ | refine Kept.drew ?_ | refine Kept.drewN ?_ _))))).mono ?_
    rintro r w1 ⟨rfl, x5, rfl⟩
    go_wp2_with (first | (go_at_call 19; refine (s2known_any _).mono ?_; rintro e w1 ⟨rfl, x, rfl⟩))
    go_ret
    exact ⟨rfl, by (repeat (first | exact Kept.refl _ | assumption | refine Kept.alloc ?_ _ | refine Kept.ext ?_ _ | refine Kept.drew ?_ | refine Kept.drewN ?_ _))⟩
  subst h0
  obtain ⟨v1, v2, v3⟩ := uniE_0 he
  obtain ⟨p1, d1, t1⟩ := Top.ex n P m F
  obtain ⟨p2, d2, t2⟩ := Top.ex n2 Q m2 G
  obtain ⟨p3, d3', t3⟩ := Top.ex (n + n2) (uniP n P Q) (m + m2) (uniF n m F G)
  obtain ⟨ep, ed⟩ := uni_top v1 v2 v3 t1 t2 t3
  have q1 := top_bd v1 t1
  have q2 := top_bd v2 t2
  have q3 := top_bd v3 t3
  have ev := uni_vol (P := P) (Q := Q) (corn_0 v1) (corn_0 v2)
  obtain ⟨-, -, y1, -⟩ := validE_ok v1
  obtain ⟨-, -, y2, -⟩ := validE_ok v2
  have bv1 := vol_bd y1 (corn_0 v1) m (Nat.le_refl _)
  have bv2 := vol_bd y2 (corn_0 v2) m2 (Nat.le_refl _)
  have s1 := valid_sz v1
  have s2 := valid_sz v2
  obtain ⟨z1, hz1⟩ : ∃ z, vol P F m = z := ⟨_, rfl⟩
  obtain ⟨z2, hz2⟩ : ∃ z, vol Q G m2 = z := ⟨_, rfl⟩
  obtain ⟨z3, hz3⟩ : ∃ z, vol (uniP n P Q) (uniF n m F G) (m + m2) = z := ⟨_, rfl⟩
  rw [hz1] at ev bv1
  rw [hz2] at ev bv2
  rw [hz3] at ev
  have k0 : okN 0 (n + n2) = n + n2 := rfl
  have k1 : okN 0 (m + m2) = m + m2 := rfl
  have X1 := Lib.hid (And.intro v1 (And.intro (numV_0 v1 p1) (And.intro (numV_0 v1 d1) (show volV n P m F = z1 by rw [volV_0 v1, hz1]))))
  have X2 := Lib.hid (And.intro v2 (And.intro (numV_0 v2 p2) (And.intro (numV_0 v2 d2) (show volV n2 Q m2 G = z2 by rw [volV_0 v2, hz2]))))
  have X3 := Lib.hid (And.intro v3 (And.intro (numV_0 v3 p3) (And.intro (numV_0 v3 d3') (show volV (n + n2) (uniP n P Q) (m + m2) (uniF n m F G) = z3 by rw [volV_0 v3, hz3]))))
  have T1 := Lib.hid t1
  have T2 := Lib.hid t2
  have T3 := Lib.hid t3
  clear he v1 v2 v3 t1 t2 t3 y1 y2 hz1 hz2 hz3
  go_enter Try.func11, Try.ntmps11
  go_wp2_with fail
  refine (long_any _ _ _ _ _ _ _).mono ?_
  rintro r w1 ⟨rfl, x0, rfl⟩
  rw [HL.out]
  go_wp2_with fail
  refine (long_any _ _ _ _ _ _ _).mono ?_
  rintro r w1 ⟨rfl, x1, rfl⟩
  rw [HLB.out]
  go_wp2_with fail
  refine (sUnite_any _ _ _ _ _ _ _ _ _ _ _ _ P F Q G _ hn hn2 (HP.out.of (by (repeat (first | exact Kept.refl _ | assumption | refine Kept.alloc ?_ _ | refine Kept.ext ?_ _ | refine Kept.drew ?_ | refine Kept.drewN ?_ _)))) (HF.out.of (by (repeat (first | exact Kept.refl _ | assumption | refine Kept.alloc ?_ _ | refine Kept.ext ?_ _ | refine Kept.drew ?_ | refine Kept.drewN ?_ _)))) (HQ.out.of (by (repeat (first | exact Kept.refl _ | assumption | refine Kept.alloc ?_ _ | refine Kept.ext ?_ _ | refine Kept.drew ?_ | refine Kept.drewN ?_ _)))) (HG.out.of (by (repeat (first | exact Kept.refl _ | assumption | refine Kept.alloc ?_ _ | refine Kept.ext ?_ _ | refine Kept.drew ?_ | refine Kept.drewN ?_ _))))).mono ?_
  rw [HE.out]
  rintro r w1 ⟨A3, c3, B3, d3, rfl, ⟨x3, rfl⟩, ho1, ho2⟩
  have H3 := Lib.hid (rowsU ho1 (fun h => HIP.out (by simp)))
  have H4 := Lib.hid (rowsU ho2 (fun h => HIF.out (by simp)))
  clear ho1 ho2
  go_wp2_with fail
  refine (r2Unite_any _ _ _ _ _ _ _ _ _ _ _ _ P F Q G _ hn hn2 (HP.out.of (by (repeat (first | exact Kept.refl _ | assumption | refine Kept.alloc ?_ _ | refine Kept.ext ?_ _ | refine Kept.drew ?_ | refine Kept.drewN ?_ _)))) (HF.out.of (by (repeat (first | exact Kept.refl _ | assumption | refine Kept.alloc ?_ _ | refine Kept.ext ?_ _ | refine Kept.drew ?_ | refine Kept.drewN ?_ _)))) (HQ.out.of (by (repeat (first | exact Kept.refl _ | assumption | refine Kept.alloc ?_ _ | refine Kept.ext ?_ _ | refine Kept.drew ?_ | refine Kept.drewN ?_ _)))) (HG.out.of (by (repeat (first | exact Kept.refl _ | assumption | refine Kept.alloc ?_ _ | refine Kept.ext ?_ _ | refine Kept.drew ?_ | refine Kept.drewN ?_ _))))).mono ?_
  rw [HE.out]
  rintro r w1 ⟨A4, c4, B4, d4, rfl, ⟨x4, rfl⟩, ho1, ho2⟩
  have H5 := Lib.hid (rowsU ho1 (fun h => HIP.out (by simp)))
  have H6 := Lib.hid (rowsU ho2 (fun h => HIF.out (by simp)))
  clear ho1 ho2
  go_wp2_with fail
  refine (same_any _ _ _ _ _ _ _ _ _ _ (uniP n P Q) (uniF n m F G) _ (by omega) (H3.out.of (by (repeat (first | exact Kept.refl _ | assumption | refine Kept.alloc ?_ _ | refine Kept.ext ?_ _ | refine Kept.drew ?_ | refine Kept.drewN ?_ _)))) (H4.out.of (by (repeat (first | exact Kept.refl _ | assumption | refine Kept.alloc ?_ _ | refine Kept.ext ?_ _ | refine Kept.drew ?_ | refine Kept.drewN ?_ _)))) (H5.out.of (by (repeat (first | exact Kept.refl _ | assumption | refine Kept.alloc ?_ _ | refine Kept.ext ?_ _ | refine Kept.drew ?_ | refine Kept.drewN ?_ _)))) (H6.out.of (by (repeat (first | exact Kept.refl _ | assumption | refine Kept.alloc ?_ _ | refine Kept.ext ?_ _ | refine Kept.drew ?_ | refine Kept.drewN ?_ _))))).mono ?_
  rintro r w1 ⟨rfl, x5, rfl⟩
  rw [k0] at H3
  rw [k1] at H4
  go_wp2_with fail
  refine (svol6_any _ _ _ _ _ _ P F _ (by omega) (HP.out.of (by (repeat (first | exact Kept.refl _ | assumption | refine Kept.alloc ?_ _ | refine Kept.ext ?_ _ | refine Kept.drew ?_ | refine Kept.drewN ?_ _)))) (HF.out.of (by (repeat (first | exact Kept.refl _ | assumption | refine Kept.alloc ?_ _ | refine Kept.ext ?_ _ | refine Kept.drew ?_ | refine Kept.drewN ?_ _))))).mono ?_
  rintro r w1 ⟨rfl, x6, rfl⟩
  rw [X1.out.1, X1.out.2.2.2]
  go_wp2_with fail
  refine (svol6_any _ _ _ _ _ _ Q G _ (by omega) (HQ.out.of (by (repeat (first | exact Kept.refl _ | assumption | refine Kept.alloc ?_ _ | refine Kept.ext ?_ _ | refine Kept.drew ?_ | refine Kept.drewN ?_ _)))) (HG.out.of (by (repeat (first | exact Kept.refl _ | assumption | refine Kept.alloc ?_ _ | refine Kept.ext ?_ _ | refine Kept.drew ?_ | refine Kept.drewN ?_ _))))).mono ?_
  rintro r w1 ⟨rfl, x7, rfl⟩
  rw [X2.out.1, X2.out.2.2.2]
  go_wp2_with fail
  refine (svol6_any _ _ _ _ _ _ (uniP n P Q) (uniF n m F G) _ (by omega) (H3.out.of (by (repeat (first | exact Kept.refl _ | assumption | refine Kept.alloc ?_ _ | refine Kept.ext ?_ _ | refine Kept.drew ?_ | refine Kept.drewN ?_ _)))) (H4.out.of (by (repeat (first | exact Kept.refl _ | assumption | refine Kept.alloc ?_ _ | refine Kept.ext ?_ _ | refine Kept.drew ?_ | refine Kept.drewN ?_ _))))).mono ?_
  rintro r w1 ⟨rfl, x8, rfl⟩
  rw [X3.out.1, X3.out.2.2.2]
  go_wp2_with fail
  refine (sParts_any _ _ _ _ _ _ P F p1 d1 _ (by omega) (HP.out.of (by (repeat (first | exact Kept.refl _ | assumption | refine Kept.alloc ?_ _ | refine Kept.ext ?_ _ | refine Kept.drew ?_ | refine Kept.drewN ?_ _)))) (HF.out.of (by (repeat (first | exact Kept.refl _ | assumption | refine Kept.alloc ?_ _ | refine Kept.ext ?_ _ | refine Kept.drew ?_ | refine Kept.drewN ?_ _)))) T1.out).mono ?_
  rintro r w1 ⟨rfl, x9, rfl⟩
  rw [X1.out.1, X1.out.2.1]
  go_wp2_with fail
  refine (sParts_any _ _ _ _ _ _ Q G p2 d2 _ (by omega) (HQ.out.of (by (repeat (first | exact Kept.refl _ | assumption | refine Kept.alloc ?_ _ | refine Kept.ext ?_ _ | refine Kept.drew ?_ | refine Kept.drewN ?_ _)))) (HG.out.of (by (repeat (first | exact Kept.refl _ | assumption | refine Kept.alloc ?_ _ | refine Kept.ext ?_ _ | refine Kept.drew ?_ | refine Kept.drewN ?_ _)))) T2.out).mono ?_
  rintro r w1 ⟨rfl, x10, rfl⟩
  rw [X2.out.1, X2.out.2.1]
  go_wp2_with fail
  refine (sParts_any _ _ _ _ _ _ (uniP n P Q) (uniF n m F G) p3 d3' _ (by omega) (H3.out.of (by (repeat (first | exact Kept.refl _ | assumption | refine Kept.alloc ?_ _ | refine Kept.ext ?_ _ | refine Kept.drew ?_ | refine Kept.drewN ?_ _)))) (H4.out.of (by (repeat (first | exact Kept.refl _ | assumption | refine Kept.alloc ?_ _ | refine Kept.ext ?_ _ | refine Kept.drew ?_ | refine Kept.drewN ?_ _)))) T3.out).mono ?_
  rintro r w1 ⟨rfl, x11, rfl⟩
  rw [X3.out.1, X3.out.2.1]
  go_wp2_with fail
  refine (sHandles_any _ _ _ _ _ _ P F p1 d1 _ (by omega) (HP.out.of (by (repeat (first | exact Kept.refl _ | assumption | refine Kept.alloc ?_ _ | refine Kept.ext ?_ _ | refine Kept.drew ?_ | refine Kept.drewN ?_ _)))) (HF.out.of (by (repeat (first | exact Kept.refl _ | assumption | refine Kept.alloc ?_ _ | refine Kept.ext ?_ _ | refine Kept.drew ?_ | refine Kept.drewN ?_ _)))) T1.out).mono ?_
  rintro r w1 ⟨rfl, x12, rfl⟩
  rw [X1.out.1, X1.out.2.2.1]
  go_wp2_with fail
  refine (sHandles_any _ _ _ _ _ _ Q G p2 d2 _ (by omega) (HQ.out.of (by (repeat (first | exact Kept.refl _ | assumption | refine Kept.alloc ?_ _ | refine Kept.ext ?_ _ | refine Kept.drew ?_ | refine Kept.drewN ?_ _)))) (HG.out.of (by (repeat (first | exact Kept.refl _ | assumption | refine Kept.alloc ?_ _ | refine Kept.ext ?_ _ | refine Kept.drew ?_ | refine Kept.drewN ?_ _)))) T2.out).mono ?_
  rintro r w1 ⟨rfl, x13, rfl⟩
  rw [X2.out.1, X2.out.2.2.1]
  go_wp2_with fail
  refine (sHandles_any _ _ _ _ _ _ (uniP n P Q) (uniF n m F G) p3 d3' _ (by omega) (H3.out.of (by (repeat (first | exact Kept.refl _ | assumption | refine Kept.alloc ?_ _ | refine Kept.ext ?_ _ | refine Kept.drew ?_ | refine Kept.drewN ?_ _)))) (H4.out.of (by (repeat (first | exact Kept.refl _ | assumption | refine Kept.alloc ?_ _ | refine Kept.ext ?_ _ | refine Kept.drew ?_ | refine Kept.drewN ?_ _)))) T3.out).mono ?_
  rintro r w1 ⟨rfl, x14, rfl⟩
  rw [X3.out.1, X3.out.2.2.1]
  subst ep ed ev
  go_wp2_with (first | (go_at_call 19; refine (s2known_any _).mono ?_; rintro e w1 ⟨rfl, x, rfl⟩))
  go_ret
  exact ⟨rfl, by (repeat (first | exact Kept.refl _ | assumption | refine Kept.alloc ?_ _ | refine Kept.ext ?_ _ | refine Kept.drew ?_ | refine Kept.drewN ?_ _))⟩
theorem ownShapeUnites : ownKnob Try.prog.godebug = none := by kernel_rfl
theorem laidOutShapeUnites : laidOutB Try.prog = true := by kernel_rfl
set_option linter.unusedVariables false in
set_option maxRecDepth 100000 in
theorem liftedShapeUnites (os : Os) (started : os.Started) (H : Type) (enc : TypeId × Value → H) :
    ReturnsInHanded {} Try.checked os 11 .any (Rows.shapeUnitesSpec.pre6 enc Try.prog Try.f11 Rows.shapeUnitesRow.domain false) (Rows.shapeUnitesSpec.post enc Try.prog Try.f11 false true false false) := by
  refine returnsInHanded_of_change (C := Try.checked) ownShapeUnites started (by kernel_rfl) Try.func11
    (ChangeSpec.witness6 (enc := enc) (C := Try.checked) false ⟨#[], #[.agg #[.slice none 0 0, .slice none 0 0], .agg #[.slice none 0 0, .slice none 0 0]], []⟩ 8 (by kernel_rfl) (by kernel_rfl) (by kernel_rfl) (by kernel_rfl)) ?_
  intro W base args ds gs before hval0 hW hcnd _
  have hval : ∀ (j : Nat) t v, Try.f11.params[j]? = some t → args[j]? = some v → Value.okWide Try.prog W .any base t v := hval0
  have hW' := hW
  obtain ⟨p, q, hA0, hV, rfl, hfz, hnd⟩ := hW
  have hA : DataW.TrodAll enc Try.prog W 0 (fun _ => true) true Try.f11.params.toList args.toList ds p := hA0
  rw [Try.params11] at hA hval
  obtain ⟨v0, vs0, d0, ds0, p0, q0, hargs, rfl, rfl, h0, r0⟩ := trodAll_cons hA
  obtain ⟨v1, vs1, d1, ds1, p1, q1, rfl, rfl, rfl, h1, r1⟩ := trodAll_cons r0
  obtain ⟨rfl, rfl, rfl⟩ := trodAll_nil r1
  obtain rfl : args = #[v0, v1] := by cases args; simp_all
  obtain ⟨rfl, rfl⟩ := trodVars_none hV
  have lt0 : ∀ x ∈ p0, x.block < W.heap.size := by obtain ⟨m, hm⟩ := h0; exact DataW.trod_lt m _ _ _ hm
  obtain ⟨A0, n0, cap0, f0, B0, m0, capb0, g0, rfl, hpa0, hpb0⟩ := open_mesh _ _ 25 34 54 3 3 Try.underlying25 ⟨rfl, rfl, by kernel_rfl, by kernel_rfl, by kernel_rfl⟩ Try.underlying22 (by kernel_rfl) (by decide) (by kernel_rfl) Try.underlying23 (by kernel_rfl) (by decide) (by kernel_rfl) (hval 0 25 v0 rfl rfl) h0 lt0
  have lt1 : ∀ x ∈ p1, x.block < W.heap.size := by obtain ⟨m, hm⟩ := h1; exact DataW.trod_lt m _ _ _ hm
  obtain ⟨A1, n1, cap1, f1, B1, m1, capb1, g1, rfl, hpa1, hpb1⟩ := open_mesh _ _ 25 34 54 3 3 Try.underlying25 ⟨rfl, rfl, by kernel_rfl, by kernel_rfl, by kernel_rfl⟩ Try.underlying22 (by kernel_rfl) (by decide) (by kernel_rfl) Try.underlying23 (by kernel_rfl) (by decide) (by kernel_rfl) (hval 1 25 v1 rfl rfl) h1 lt1
  clear hA0 hval0
  refine (unites_law A0 n0 cap0 f0 B0 m0 capb0 g0 A1 n1 cap1 f1 B1 m1 capb1 g1 W ⟨hpa0, hpb0⟩ ⟨hpa1, hpb1⟩).mono fun e W' ⟨he, hk⟩ => ?_
  subst he
  have bel := hk.below
  exact ⟨_, rfl, _, _, _, [], _, [], hW', trodAll_mk1 (shut_bool Try.underlying4 _), (trodAll_cons_mk (Below.trod laidOutShapeUnites (by kernel_rfl) (of_decide_eq_true (by kernel_rfl)) h0 bel lt0) (trodAll_cons_mk (Below.trod laidOutShapeUnites (by kernel_rfl) (of_decide_eq_true (by kernel_rfl)) h1 bel lt1) trodAll_mk0)), rfl, bel.frame _, fun h => by cases h⟩
/-- For every input the statement ShapeUnites returns true, and each argument reads afterwards as it read before. -/
theorem shapeUnites_holds : Rows.ShapeUnitesSaid :=
  OpenClaim.holds_of_wide 11 Try.f11 rfl rfl rfl rfl rfl rfl rfl ⟨rfl, rfl, rfl, rfl, rfl⟩ rfl rfl rfl rfl rfl (by kernel_rfl) Try.func11 (by kernel_rfl)
    (of_decide_eq_true (by kernel_rfl)) (by unfold Func.isWrapper; first | (rw [if_pos (by decide +kernel)]; kernel_rfl) | (rw [if_neg (by decide +kernel)]; exact ⟨rfl, rfl⟩))
    (fun os started H enc _ => liftedShapeUnites os started H enc)
#print axioms shapeUnites_holds

end Go.Proofs.Ytoadlneneijfaaa
