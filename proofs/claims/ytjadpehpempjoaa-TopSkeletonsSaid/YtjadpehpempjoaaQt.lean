/- Contract: the quotient of a difference of products that leaves nothing. Conditions: those of each theorem. -/
import Derived.Test.YtjadpehpempjoaaWi
namespace Go.Proofs.Ytjadpehpempjoaa
set_option linter.unusedVariables false
set_option linter.unusedSimpArgs false
open Go.RowKit
theorem wv_cells (X : Nat) (s : Bool) : wv X s = .agg #[.int .u64 ((X / 18446744073709551616 : Nat) : Int), .int .u64 ((X % 18446744073709551616 : Nat) : Int), .bool s] := rfl
/-- The number that a wide one stands for. -/
def wn (X : Nat) (s : Bool) : Int := if s then -(X : Int) else X
/-- Size and sign of a product. -/
def pX (a b : Int) : Nat := a.natAbs * b.natAbs
def pS (a b : Int) : Bool := !(decide (a < 0) == decide (b < 0))
/-- Size and sign of a difference. -/
def mZ (X : Nat) (s : Bool) (Y : Nat) (t : Bool) : Nat := if (s != t) = true then X + Y else if X < Y then Y - X else X - Y
def mU (X : Nat) (s : Bool) (Y : Nat) (t : Bool) : Bool := if (s != t) = true then s else if X < Y then !s else s
theorem p_val (a b : Int) : wn (pX a b) (pS a b) = a * b := by
  unfold wn pX pS
  have e1 : a = a.natAbs ∨ a = -(a.natAbs : Int) := by omega
  by_cases ha : a < 0 <;> by_cases hb : b < 0
  · have h1 : -a = (a.natAbs : Int) := by omega
    have h2 : -b = (b.natAbs : Int) := by omega
    simp only [ha, hb, decide_true, beq_self_eq_true, Bool.not_true, if_false, Bool.false_eq_true, Int.natCast_mul, ← h1, ← h2]
    exact Int.neg_mul_neg _ _
  · have h1 : -a = (a.natAbs : Int) := by omega
    have h2 : b = (b.natAbs : Int) := by omega
    have : (!(decide (a < 0) == decide (b < 0))) = true := by simp [ha, hb]
    rw [if_pos this, Int.natCast_mul, ← h1, ← h2, Int.neg_mul, Int.neg_neg]
  · have h1 : a = (a.natAbs : Int) := by omega
    have h2 : -b = (b.natAbs : Int) := by omega
    have : (!(decide (a < 0) == decide (b < 0))) = true := by simp [ha, hb]
    rw [if_pos this, Int.natCast_mul, ← h1, ← h2, Int.mul_neg, Int.neg_neg]
  · have h1 : a = (a.natAbs : Int) := by omega
    have h2 : b = (b.natAbs : Int) := by omega
    have : ¬ (!(decide (a < 0) == decide (b < 0))) = true := by simp [ha, hb]
    rw [if_neg this, Int.natCast_mul, ← h1, ← h2]
theorem m_val (X Y : Nat) (s t : Bool) : wn (mZ X s Y t) (mU X s Y t) = wn X s - wn Y t := by
  unfold wn mZ mU
  cases s <;> cases t <;> by_cases h : X < Y <;> simp [h] <;> omega
theorem p_lt {a b : Int} (ha : -4611686018427387904 ≤ a ∧ a ≤ 4611686018427387904) (hb : -4611686018427387904 ≤ b ∧ b ≤ 4611686018427387904) : pX a b < 85070591730234615865843651857942052864 := by
  have h1 : a.natAbs ≤ 4611686018427387904 := by omega
  have h2 : b.natAbs ≤ 4611686018427387904 := by omega
  have := Nat.mul_le_mul h1 h2
  unfold pX
  omega
theorem wprod_any (a b : Int) (w : World) (ha : -4611686018427387904 ≤ a ∧ a ≤ 4611686018427387904) (hb : -4611686018427387904 ≤ b ∧ b ≤ 4611686018427387904) :
    Calls Try.prog 34 #[.int .i64 a, .int .i64 b] w fun e w' => e = .returned (wv (pX a b) (pS a b)) ∧ Kept w w' := wproduct_any a b w ha hb
theorem wmin_any (X Y : Nat) (s t : Bool) (w : World) (h : X < 85070591730234615865843651857942052864 ∧ Y < 85070591730234615865843651857942052864) :
    Calls Try.prog 35 #[wv X s, wv Y t] w fun e w' => e = .returned (wv (mZ X s Y t) (mU X s Y t)) ∧ Kept w w' := by
  refine (wminus_any X Y s t w h).mono ?_
  rintro e w' ⟨rfl, hk⟩
  refine ⟨?_, hk⟩
  unfold mZ mU
  split
  · rfl
  · split <;> rfl
theorem wv_at {Z : Nat} {u : Bool} {zh zl : Nat} (h1 : Z / 18446744073709551616 = zh) (h2 : Z % 18446744073709551616 = zl) : wv Z u = .agg #[.int .u64 (zh : Int), .int .u64 (zl : Int), .bool u] := by
  unfold wv
  rw [h1, h2]
theorem q_sign {Z : Nat} {u : Bool} {q e : Int} (he : e ≠ 0) (h : wn Z u = q * e) : q = if (!(u == decide (e < 0))) = true then -(q.natAbs : Int) else q.natAbs := by
  have hz : 0 ≤ (Z : Int) := by omega
  unfold wn at h
  generalize (Z : Int) = z at *
  rcases Int.lt_trichotomy q 0 with hq | hq | hq
  · rcases Int.lt_or_gt_of_ne he with hE | hE
    · have := Int.mul_pos_of_neg_of_neg hq hE
      cases u
      · simp [hE]; omega
      · simp at h; omega
    · have := Int.mul_neg_of_neg_of_pos hq hE
      cases u
      · simp at h; omega
      · simp [show ¬ e < 0 by omega]; omega
  · subst hq; split <;> rfl
  · rcases Int.lt_or_gt_of_ne he with hE | hE
    · have := Int.mul_neg_of_pos_of_neg hq hE
      cases u
      · simp at h; omega
      · simp [hE]; omega
    · have := Int.mul_pos hq hE
      cases u
      · simp [show ¬ e < 0 by omega]; omega
      · simp at h; omega
set_option maxRecDepth 100000 in
set_option maxHeartbeats 4000000 in
theorem wquo_any (a b c d e q : Int) (w : World) (ha : -4611686018427387904 ≤ a ∧ a ≤ 4611686018427387904) (hb : -4611686018427387904 ≤ b ∧ b ≤ 4611686018427387904) (hc : -4611686018427387904 ≤ c ∧ c ≤ 4611686018427387904) (hd : -4611686018427387904 ≤ d ∧ d ≤ 4611686018427387904)
    (he : -4611686018427387904 ≤ e ∧ e ≤ 4611686018427387904) (hq : -4611686018427387904 ≤ q ∧ q ≤ 4611686018427387904) (he0 : e ≠ 0) (h : a * b - c * d = q * e) :
    Calls Try.prog 38 #[.int .i64 a, .int .i64 b, .int .i64 c, .int .i64 d, .int .i64 e] w fun r w' => r = .returned (.int .i64 q) ∧ Kept w w' := by
  have z2 := m_val (pX a b) (pX c d) (pS a b) (pS c d)
  rw [p_val, p_val, h] at z2
  have hE : 0 < e.natAbs ∧ e.natAbs < 9223372036854775808 := by omega
  have hql : q.natAbs ≤ 4611686018427387904 := by omega
  obtain ⟨Z, hZ0⟩ : ∃ Z, mZ (pX a b) (pS a b) (pX c d) (pS c d) = Z := ⟨_, rfl⟩
  obtain ⟨u, hu0⟩ : ∃ Z, mU (pX a b) (pS a b) (pX c d) (pS c d) = Z := ⟨_, rfl⟩
  rw [hZ0, hu0] at z2
  have hZ : Z = q.natAbs * e.natAbs := by
    have := congrArg Int.natAbs z2
    rw [Int.natAbs_mul] at this
    unfold wn at this
    cases u <;> simp at this <;> omega
  have hs := q_sign he0 z2
  have me : max e (-e) = (e.natAbs : Int) := by omega
  have hZd : Z / e.natAbs = q.natAbs := by rw [hZ]; exact Nat.mul_div_cancel _ hE.1
  have hZh : Z / 18446744073709551616 < e.natAbs := by
    rw [Nat.div_lt_iff_lt_mul (by decide), hZ, Nat.mul_comm e.natAbs]
    exact (Nat.mul_lt_mul_right hE.1).2 (by omega)
  have hZe : Z / 18446744073709551616 * 18446744073709551616 + Z % 18446744073709551616 = Z := by omega
  obtain ⟨zh, hzh⟩ : ∃ n, Z / 18446744073709551616 = n := ⟨_, rfl⟩
  obtain ⟨zl, hzl⟩ : ∃ n, Z % 18446744073709551616 = n := ⟨_, rfl⟩
  have hzll : zl < 18446744073709551616 := by omega
  have hW : wv (mZ (pX a b) (pS a b) (pX c d) (pS c d)) (mU (pX a b) (pS a b) (pX c d) (pS c d)) = .agg #[.int .u64 (zh : Int), .int .u64 (zl : Int), .bool u] := by
    rw [hZ0, hu0]
    exact wv_at hzh hzl
  have hdv := fun w => div64_any zh zl e.natAbs w (by omega) (by omega) hzll
  rw [← hzh, ← hzl, hZe, hZd, hzh, hzl] at hdv
  obtain ⟨E, hE2⟩ : ∃ n, e.natAbs = n := ⟨_, rfl⟩
  obtain ⟨Q, hQ⟩ : ∃ n, q.natAbs = n := ⟨_, rfl⟩
  rw [hE2] at me hdv hE
  rw [hQ] at hql hdv hs
  have DV := Lib.hid hdv
  have HW := Lib.hid hW
  have HS := Lib.hid hs
  clear hdv hW hs h z2 hZ hZd hZh hZe hzh hzl hE2 hZ0 hu0 hQ
  have e1 : IntKind.i64.wrap (Q : Int) = Q := by rw [IntKind.wrap_i64]; omega
  by_cases hu : (!(u == decide (e < 0))) = true
  · go_enter Try.func38, Try.ntmps38
    go_wp2_with (first | (go_at_call 34; refine (wprod_any _ _ _ (by assumption) (by assumption)).mono ?_; rintro e w1 ⟨rfl, x, rfl⟩) | (go_at_call 35; refine (wmin_any _ _ _ _ _ ⟨p_lt (by assumption) (by assumption), p_lt (by assumption) (by assumption)⟩).mono ?_; rintro e w1 ⟨rfl, x, rfl⟩; rw [HW.out]) | (go_at_call 42; refine (DV.out _).mono ?_; rintro e w1 ⟨rfl, x, rfl⟩))
    go_ret
    have hs := HS.out
    rw [if_pos hu] at hs
    exact ⟨by rw [hs]; rfl, by (repeat (first | exact Kept.refl _ | assumption | refine Kept.alloc ?_ _ | refine Kept.ext ?_ _ | refine Kept.drew ?_ | refine Kept.drewN ?_ _))⟩
  · have hu2 : (!(u == decide (e < 0))) = false := by simpa using hu
    go_enter Try.func38, Try.ntmps38
    go_wp2_with (first | (go_at_call 34; refine (wprod_any _ _ _ (by assumption) (by assumption)).mono ?_; rintro e w1 ⟨rfl, x, rfl⟩) | (go_at_call 35; refine (wmin_any _ _ _ _ _ ⟨p_lt (by assumption) (by assumption), p_lt (by assumption) (by assumption)⟩).mono ?_; rintro e w1 ⟨rfl, x, rfl⟩; rw [HW.out]) | (go_at_call 42; refine (DV.out _).mono ?_; rintro e w1 ⟨rfl, x, rfl⟩))
    go_ret
    have hs := HS.out
    rw [if_neg hu] at hs
    exact ⟨by rw [hs]; rfl, by (repeat (first | exact Kept.refl _ | assumption | refine Kept.alloc ?_ _ | refine Kept.ext ?_ _ | refine Kept.drew ?_ | refine Kept.drewN ?_ _))⟩
end Go.Proofs.Ytjadpehpempjoaa
