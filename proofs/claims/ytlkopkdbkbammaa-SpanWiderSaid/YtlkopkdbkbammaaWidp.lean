/- Plain lemmas: results of wider spans enclose those of narrower ones. No conditions. -/
import Derived.Test.YtlkopkdbkbammaaPlain
import Derived.Test.YtlkopkdbkbammaaRoot
namespace Go.Proofs.Ytlkopkdbkbammaa
set_option linter.unusedVariables false
set_option linter.unusedSimpArgs false
theorem lin_le {x a y b k : Int} (h1 : x ≤ a) (h2 : a ≤ y) (k1 : k ≤ x * b) (k2 : k ≤ y * b) : k ≤ a * b := by
  by_cases hb : 0 ≤ b
  · have := Int.mul_le_mul_of_nonneg_right h1 hb; omega
  · have := Int.mul_le_mul_of_nonpos_right h2 (show b ≤ 0 by omega); omega
theorem le_lin {x a y b k : Int} (h1 : x ≤ a) (h2 : a ≤ y) (k1 : x * b ≤ k) (k2 : y * b ≤ k) : a * b ≤ k := by
  by_cases hb : 0 ≤ b
  · have := Int.mul_le_mul_of_nonneg_right h2 hb; omega
  · have := Int.mul_le_mul_of_nonpos_right h1 (show b ≤ 0 by omega); omega
theorem bil_le {xl xh yl yh a b k : Int} (a1 : xl ≤ a) (a2 : a ≤ xh) (b1 : yl ≤ b) (b2 : b ≤ yh) (h1 : k ≤ xl * yl) (h2 : k ≤ xl * yh) (h3 : k ≤ xh * yl) (h4 : k ≤ xh * yh) : k ≤ a * b := by
  refine lin_le a1 a2 ?_ ?_
  · rw [Int.mul_comm]; rw [Int.mul_comm] at h1 h2; exact lin_le b1 b2 h1 h2
  · rw [Int.mul_comm]; rw [Int.mul_comm] at h3 h4; exact lin_le b1 b2 h3 h4
theorem le_bil {xl xh yl yh a b k : Int} (a1 : xl ≤ a) (a2 : a ≤ xh) (b1 : yl ≤ b) (b2 : b ≤ yh) (h1 : xl * yl ≤ k) (h2 : xl * yh ≤ k) (h3 : xh * yl ≤ k) (h4 : xh * yh ≤ k) : a * b ≤ k := by
  refine le_lin a1 a2 ?_ ?_
  · rw [Int.mul_comm]; rw [Int.mul_comm] at h1 h2; exact le_lin b1 b2 h1 h2
  · rw [Int.mul_comm]; rw [Int.mul_comm] at h3 h4; exact le_lin b1 b2 h3 h4
/-- x encloses a. -/
structure Wide (xl xh al ah : Int) : Prop where
  lo : xl ≤ al
  hi : ah ≤ xh
  va : validB al ah = true
  vx : validB xl xh = true
theorem add_wide {xl xh al ah yl yh bl bh : Int} (hx : Wide xl xh al ah) (hy : Wide yl yh bl bh) (h : (addS al ah bl bh).e = 0) :
    enclosesB (addS xl xh yl yh).lo (addS xl xh yl yh).hi (addS xl xh yl yh).e (addS al ah bl bh).lo (addS al ah bl bh).hi = true := by
  obtain ⟨e, -⟩ := add_ok h
  rw [e]
  unfold addS
  rw [if_pos (by simp [hx.vx, hy.vx])]
  have := hx.lo; have := hx.hi; have := hy.lo; have := hy.hi
  exact encl_result (by show _ ≤ al + bl; omega) (by show ah + bh ≤ _; omega)
theorem sub_wide {xl xh al ah yl yh bl bh : Int} (hx : Wide xl xh al ah) (hy : Wide yl yh bl bh) (h : (subS al ah bl bh).e = 0) :
    enclosesB (subS xl xh yl yh).lo (subS xl xh yl yh).hi (subS xl xh yl yh).e (subS al ah bl bh).lo (subS al ah bl bh).hi = true := by
  obtain ⟨e, -⟩ := sub_ok h
  rw [e]
  unfold subS
  rw [if_pos (by simp [hx.vx, hy.vx])]
  have := hx.lo; have := hx.hi; have := hy.lo; have := hy.hi
  exact encl_result (by show _ ≤ al - bh; omega) (by show ah - bl ≤ _; omega)
theorem mul_wide {xl xh al ah yl yh bl bh : Int} (hx : Wide xl xh al ah) (hy : Wide yl yh bl bh) (h : (mulS al ah bl bh).e = 0) :
    enclosesB (mulS xl xh yl yh).lo (mulS xl xh yl yh).hi (mulS xl xh yl yh).e (mulS al ah bl bh).lo (mulS al ah bl bh).hi = true := by
  obtain ⟨e, -⟩ := mul_ok h
  rw [e]
  unfold mulS
  rw [if_pos (by simp [hx.vx, hy.vx])]
  have := hx.lo; have := hx.hi; have := hy.lo; have := hy.hi
  have := valid_bd hx.va; have := valid_bd hy.va
  obtain ⟨m1, m2, m3, m4⟩ := min4_le fDown xl xh yl yh
  obtain ⟨M1, M2, M3, M4⟩ := le_max4 fUp xl xh yl yh
  rw [le_fDown] at m1 m2 m3 m4
  rw [fUp_le] at M1 M2 M3 M4
  refine encl_result (le_min4 ?_ ?_ ?_ ?_) (max4_le ?_ ?_ ?_ ?_)
  all_goals first
  | (rw [le_fDown]; exact bil_le (by omega) (by omega) (by omega) (by omega) m1 m2 m3 m4)
  | (rw [fUp_le]; exact le_bil (by omega) (by omega) (by omega) (by omega) M1 M2 M3 M4)
theorem le_qDown_pos {k x y : Int} (hy : 0 < y) : k ≤ qDown x y ↔ k * y ≤ x * 1048576 := by
  unfold qDown
  rw [fdiv_pos _ _ hy, Int.le_ediv_iff_mul_le hy]
theorem le_qDown_neg {k x y : Int} (hy : y < 0) : k ≤ qDown x y ↔ x * 1048576 ≤ k * y := by
  unfold qDown
  rw [← fdiv_flip, fdiv_pos _ _ (show 0 < -y by omega), Int.le_ediv_iff_mul_le (by omega), Int.mul_neg]
  omega
theorem qUp_le_pos {k x y : Int} (hy : 0 < y) : qUp x y ≤ k ↔ x * 1048576 ≤ k * y := by
  have := @le_qDown_pos (-k) (-x) y hy
  unfold qDown at this
  unfold qUp
  rw [Int.neg_mul, Int.neg_mul] at this
  omega
theorem qUp_le_neg {k x y : Int} (hy : y < 0) : qUp x y ≤ k ↔ k * y ≤ x * 1048576 := by
  have := @le_qDown_neg (-k) (-x) y hy
  unfold qDown at this
  unfold qUp
  rw [Int.neg_mul, Int.neg_mul] at this
  omega
theorem div_wide {xl xh al ah yl yh bl bh : Int} (hx : Wide xl xh al ah) (hy : Wide yl yh bl bh) (h : (divS al ah bl bh).e = 0) :
    enclosesB (divS xl xh yl yh).lo (divS xl xh yl yh).hi (divS xl xh yl yh).e (divS al ah bl bh).lo (divS al ah bl bh).hi = true := by
  obtain ⟨e, -⟩ := div_ok h
  rw [e]
  unfold divS
  rw [if_pos (by simp [hx.vx, hy.vx])]
  split
  · simp [enclosesB]
  · rename_i z
    have := hx.lo; have := hx.hi; have := hy.lo; have := hy.hi
    have := valid_bd hx.va; have := valid_bd hy.va
    obtain ⟨m1, m2, m3, m4⟩ := min4_le qDown xl xh yl yh
    obtain ⟨M1, M2, M3, M4⟩ := le_max4 qUp xl xh yl yh
    generalize min4 qDown xl xh yl yh = p at *
    generalize max4 qUp xl xh yl yh = q at *
    by_cases p0 : 0 < yl
    · rw [le_qDown_pos (by omega)] at m1 m2 m3 m4
      rw [qUp_le_pos (by omega)] at M1 M2 M3 M4
      have key : ∀ a b, xl ≤ a → a ≤ xh → yl ≤ b → b ≤ yh → p ≤ qDown a b ∧ qUp a b ≤ q := by
        intro a b a1 a2 b1 b2
        rw [le_qDown_pos (by omega), qUp_le_pos (by omega)]
        rw [Int.mul_comm p] at m1 m2 m3 m4
        rw [Int.mul_comm q] at M1 M2 M3 M4
        have t1 := le_lin b1 b2 m1 m2
        have t2 := lin_le b1 b2 M3 M4
        rw [Int.mul_comm b p] at t1; rw [Int.mul_comm b q] at t2
        omega
      refine encl_result (le_min4 ?_ ?_ ?_ ?_) (max4_le ?_ ?_ ?_ ?_)
      all_goals first
      | exact (key _ _ (by omega) (by omega) (by omega) (by omega)).1
      | exact (key _ _ (by omega) (by omega) (by omega) (by omega)).2
    · rw [le_qDown_neg (by omega)] at m1 m2 m3 m4
      rw [qUp_le_neg (by omega)] at M1 M2 M3 M4
      have key : ∀ a b, xl ≤ a → a ≤ xh → yl ≤ b → b ≤ yh → p ≤ qDown a b ∧ qUp a b ≤ q := by
        intro a b a1 a2 b1 b2
        rw [le_qDown_neg (by omega), qUp_le_neg (by omega)]
        rw [Int.mul_comm p] at m1 m2 m3 m4
        rw [Int.mul_comm q] at M1 M2 M3 M4
        have t1 := lin_le b1 b2 m3 m4
        have t2 := le_lin b1 b2 M1 M2
        rw [Int.mul_comm b p] at t1; rw [Int.mul_comm b q] at t2
        omega
      refine encl_result (le_min4 ?_ ?_ ?_ ?_) (max4_le ?_ ?_ ?_ ?_)
      all_goals first
      | exact (key _ _ (by omega) (by omega) (by omega) (by omega)).1
      | exact (key _ _ (by omega) (by omega) (by omega) (by omega)).2
theorem sq_wide {xl xh al ah : Int} (hx : Wide xl xh al ah) (h : (sqS al ah).e = 0) :
    enclosesB (sqS xl xh).lo (sqS xl xh).hi (sqS xl xh).e (sqS al ah).lo (sqS al ah).hi = true := by
  obtain ⟨e, -⟩ := sq_ok h
  rw [e]
  have := hx.lo; have := hx.hi
  have := valid_bd hx.va
  unfold sqS
  rw [if_pos hx.vx]
  refine encl_result ?_ ?_
  · have n1 : 0 ≤ nearS xl xh ∧ nearS xl xh ≤ nearS al ah := by unfold nearS; omega
    exact Int.ediv_le_ediv (by decide) (sq_mono n1)
  · have n1 : 0 ≤ farS al ah ∧ farS al ah ≤ farS xl xh := by unfold farS; omega
    have := sq_mono n1
    show fUp _ _ ≤ fUp _ _
    unfold fUp
    omega
theorem rootUp_up2 {n : Int} (h : 0 ≤ n) : 0 ≤ rootUpS n ∧ n ≤ rootUpS n * rootUpS n ∧ sqrtS n ≤ rootUpS n ∧ ∀ k, 0 ≤ k → n ≤ k * k → rootUpS n ≤ k := by
  obtain ⟨s0, s1, s2⟩ := sqrtS_spec h
  unfold rootUpS
  split
  · rename_i hk
    refine ⟨by omega, by omega, by omega, fun k k0 hk2 => ?_⟩
    have := of_sq_lt k0 (show sqrtS n * sqrtS n < k * k by omega)
    omega
  · refine ⟨s0, by omega, by omega, fun k k0 hk2 => ?_⟩
    exact of_sq_le k0 (by omega)
theorem sqrt_mono2 {a b : Int} (h0 : 0 ≤ a) (h : a ≤ b) : sqrtS a ≤ sqrtS b ∧ rootUpS a ≤ rootUpS b := by
  obtain ⟨s0, s1, s2⟩ := sqrtS_spec h0
  obtain ⟨t0, t1, t2⟩ := sqrtS_spec (show 0 ≤ b by omega)
  obtain ⟨u0, u1, u2, u3⟩ := rootUp_up2 (show 0 ≤ b by omega)
  obtain ⟨v0, v1, v2, v3⟩ := rootUp_up2 h0
  refine ⟨?_, v3 _ u0 (by omega)⟩
  have := of_sq_lt (show 0 ≤ sqrtS b + 1 by omega) (show sqrtS a * sqrtS a < (sqrtS b + 1) * (sqrtS b + 1) by omega)
  omega
theorem root_wide {xl xh al ah : Int} (hx : Wide xl xh al ah) (h : (rootS al ah).e = 0) :
    enclosesB (rootS xl xh).lo (rootS xl xh).hi (rootS xl xh).e (rootS al ah).lo (rootS al ah).hi = true := by
  have := hx.lo; have := hx.hi
  have := valid_bd hx.va
  have h' := h
  unfold rootS at h
  split at h
  · rename_i k
    simp only [Bool.and_eq_true, decide_eq_true_eq] at k
    have er : rootS al ah = resultS (sqrtS (al * 1048576)) (rootUpS (ah * 1048576)) := by
      unfold rootS; rw [if_pos (by simp [k])]
    rw [er] at h' ⊢
    rw [(result_ok h').1]
    by_cases z : 0 ≤ xl
    · unfold rootS
      rw [if_pos (by simp [hx.vx, z])]
      exact encl_result (sqrt_mono2 (by omega) (by omega)).1 (sqrt_mono2 (by omega) (by omega)).2
    · unfold rootS
      rw [if_neg (by simp [z])]
      rfl
  · cases h
theorem hull_wide {al ah bl bh : Int} (h : (validB al ah && validB bl bh) = true) : hullS al ah bl bh = ⟨min al bl, max ah bh, 0⟩ ∧ Wide (min al bl) (max ah bh) al ah := by
  have h' := h
  simp only [Bool.and_eq_true] at h
  have v1 := valid_bd h.1
  have v2 := valid_bd h.2
  refine ⟨by unfold hullS; rw [if_pos h'], by omega, by omega, h.1, ?_⟩
  unfold validB
  exact decide_eq_true (by omega)
end Go.Proofs.Ytlkopkdbkbammaa
