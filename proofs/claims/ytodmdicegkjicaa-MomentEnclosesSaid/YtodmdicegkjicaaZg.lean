/- Contracts: quotients in fixed point, of the program and of the reference. Conditions: those of each theorem. Contracts: moments about another center, of the program and of the reference. No conditions. Contracts: terms of far fields, of the program. Conditions: those of each theorem. Contracts: terms of far fields, of the program. Conditions: those of each theorem. Lists that a function owns: another list appended, elements stored into. No conditions but those of each theorem. -/
import Derived.Test.YtodmdicegkjicaaZc
import Derived.Test.YtodmdicegkjicaaZf
import Derived.Deep.DeepCutAuto
import Derived.Deep.RegionHeld3
import Derived.Deep.DrawnRows
import Derived.Test.YtodmdicegkjicaaZb
import Derived.Maps.AppendAt
import Derived.Deep.MidRow
import Derived.Laws.OwnMore
namespace Go.Proofs.Ytodmdicegkjicaa
set_option linter.unusedVariables false
set_option linter.unusedSimpArgs false
open Go.ChangeShapes Go.WideShapes Go.ChangeAt Go.RowKit
set_option maxRecDepth 100000 in
set_option maxHeartbeats 4000000 in
theorem mquo_any (num : Int) (d : Nat) (w : World) (hn : -4611686018427387904 ≤ num ∧ num ≤ 4611686018427387904) (hd : 1 ≤ d ∧ d ≤ 4611686018427387904) :
    Calls Try.prog 72 #[.int .i64 num, .int .i64 d] w fun e w' => ∃ x y b, e = .returned (.tuple #[.agg #[.int .i64 x, .int .i64 y], .bool b]) ∧ Kept w w' ∧ ((b = true ∧ qmS num d = ⟨x, y, 0⟩) ∨ (b = false ∧ qmS num d = ⟨0, 0, 4⟩)) := by
  obtain ⟨a, ha⟩ : ∃ a, num.natAbs = a := ⟨_, rfl⟩
  have hc := qm_cases ha (show 0 < d by omega)
  have e1 : max num (-num) = (a : Int) := by omega
  have na : a < 9223372036854775808 := by omega
  have hbig := hi_big (P := a * 1048576) (show 0 < d by omega)
  have hsml := hi_small (P := a * 1048576) (d := d)
  have hupd : upN (a * 1048576) d = a * 1048576 / d + (if a * 1048576 % d = 0 then 0 else 1) := rfl
  have hm : ∀ w, Calls Try.prog 78 #[.int .u64 a, .int .u64 1048576] w fun e w' => e = .returned (.tuple #[.int .u64 (a * 1048576 / 18446744073709551616 : Nat), .int .u64 (a * 1048576 % 18446744073709551616 : Nat)]) ∧ w = w' :=
    fun w => mul64_any a 1048576 w (by omega) (by omega)
  obtain ⟨P, hP⟩ : ∃ P, a * 1048576 = P := ⟨_, rfl⟩
  rw [hP] at hc hbig hsml hm hupd
  obtain ⟨hh, hhh⟩ : ∃ x, P / 18446744073709551616 = x := ⟨_, rfl⟩
  obtain ⟨ll, hll⟩ : ∃ x, P % 18446744073709551616 = x := ⟨_, rfl⟩
  have hlb : ll < 18446744073709551616 := by omega
  have hhb : hh < 18446744073709551616 := by omega
  rw [hhh, hll] at hm
  rw [hhh] at hbig hsml
  have hdv : hh < d → ∀ w, Calls Try.prog 79 #[.int .u64 hh, .int .u64 ll, .int .u64 d] w fun e w' => e = .returned (.tuple #[.int .u64 (P / d : Nat), .int .u64 (P % d : Nat)]) ∧ Kept w w' := fun h w => by
    have e : P = hh * 18446744073709551616 + ll := by omega
    rw [e]
    exact div64_any hh ll d w h (by omega) hlb
  have hrd := Nat.mod_lt P (show 0 < d by omega)
  obtain ⟨q, hq⟩ : ∃ x, P / d = x := ⟨_, rfl⟩
  obtain ⟨r, hr⟩ : ∃ x, P % d = x := ⟨_, rfl⟩
  rw [hq, hr] at hdv
  rw [hq] at hsml hc
  rw [hq, hr] at hupd
  rw [hr] at hrd
  have HM := Lib.hid hm
  have HC := Lib.hid hc
  clear hm hP hhh hll hq hr ha hc
  obtain ⟨d0, d1⟩ := hd
  by_cases c1 : d ≤ hh
  · have g1 : decide ((d : Int) ≤ hh) = true := decide_eq_true (by omega)
    have hb := hbig c1
    clear hbig hsml hdv hupd
    go_enter Try.func72, Try.ntmps72
    go_wp2_with (go_at_call 78; refine (HM.out _).mono ?_; rintro e w1 ⟨rfl, rfl⟩)
    refine bodyPost_ret (by simp only [results, Try.results72]; go_simp; rfl) rfl ?_
    refine ⟨_, _, _, rfl, by (repeat (first | exact Kept.refl _ | assumption | refine Kept.alloc ?_ _ | refine Kept.ext ?_ _ | refine Kept.drew ?_ | refine Kept.drewN ?_ _)), .inr ⟨rfl, ?_⟩⟩
    rcases HC.out with ⟨h1, -⟩ | ⟨-, h2⟩
    · omega
    · exact h2
  have g1 : decide ((d : Int) ≤ hh) = false := decide_eq_false (by omega)
  have hql := hsml (by omega)
  have HD := Lib.hid (hdv (by omega))
  have HU := Lib.hid hupd
  clear hbig hsml hdv hupd
  by_cases c2 : 1099511627776 < q
  · have g2 : decide ((1099511627776 : Int) < q) = true := decide_eq_true (by omega)
    go_enter Try.func72, Try.ntmps72
    go_wp2_with (first | (go_at_call 78; refine (HM.out _).mono ?_; rintro e w1 ⟨rfl, rfl⟩) | (go_at_call 79; refine (HD.out _).mono ?_; rintro e w1 ⟨rfl, x2, rfl⟩))
    refine bodyPost_ret (by simp only [results, Try.results72]; go_simp; rfl) rfl ?_
    refine ⟨_, _, _, rfl, by (repeat (first | exact Kept.refl _ | assumption | refine Kept.alloc ?_ _ | refine Kept.ext ?_ _ | refine Kept.drew ?_ | refine Kept.drewN ?_ _)), .inr ⟨rfl, ?_⟩⟩
    have hu := HU.out
    rcases HC.out with ⟨h1, -⟩ | ⟨-, h2⟩
    · split at hu <;> omega
    · exact h2
  have g2 : decide ((1099511627776 : Int) < q) = false := decide_eq_false (by omega)
  by_cases c3 : r = 0
  · subst c3
    by_cases c4 : num < 0
    · have g4 : decide (num < 0) = true := decide_eq_true c4
      have hv : validB (-(q : Int)) (-(q : Int)) = true := decide_eq_true (by omega)
      go_enter Try.func72, Try.ntmps72
      go_wp2_with (first | (go_at_call 78; refine (HM.out _).mono ?_; rintro e w1 ⟨rfl, rfl⟩) | (go_at_call 79; refine (HD.out _).mono ?_; rintro e w1 ⟨rfl, x2, rfl⟩))
      ((first | (with_reducible refine wp_region_tail2 3 (by kernel_rfl) (by kernel_rfl) ?_) | refine wp_region_tail 3 (by kernel_rfl) (by kernel_rfl) ?_); simp only [List.take_succ_cons, List.take_zero, List.drop_succ_cons, List.drop_zero]; (repeat (go_big_quiet_step (first | (go_at_call 26; exact Calls.kept_of (valid_any _ _ _))))); refine wpQuiet_nil ?_; intro x)
      go_wp2_with fail
      refine bodyPost_ret (by simp only [results, Try.results72]; go_simp; rfl) rfl ?_
      refine ⟨_, _, _, rfl, by (repeat (first | exact Kept.refl _ | assumption | refine Kept.alloc ?_ _ | refine Kept.ext ?_ _ | refine Kept.drew ?_ | refine Kept.drewN ?_ _)), .inl ⟨rfl, ?_⟩⟩
      have hu := HU.out
      simp only [if_true, Nat.add_zero] at hu
      rcases HC.out with ⟨-, h2⟩ | ⟨h1, -⟩
      · rw [h2, if_neg (by omega), hu]
      · omega
    · have g4 : decide (num < 0) = false := decide_eq_false c4
      have hv : validB (q : Int) (q : Int) = true := decide_eq_true (by omega)
      go_enter Try.func72, Try.ntmps72
      go_wp2_with (first | (go_at_call 78; refine (HM.out _).mono ?_; rintro e w1 ⟨rfl, rfl⟩) | (go_at_call 79; refine (HD.out _).mono ?_; rintro e w1 ⟨rfl, x2, rfl⟩))
      ((first | (with_reducible refine wp_region_tail2 3 (by kernel_rfl) (by kernel_rfl) ?_) | refine wp_region_tail 3 (by kernel_rfl) (by kernel_rfl) ?_); simp only [List.take_succ_cons, List.take_zero, List.drop_succ_cons, List.drop_zero]; (repeat (go_big_quiet_step (first | (go_at_call 26; exact Calls.kept_of (valid_any _ _ _))))); refine wpQuiet_nil ?_; intro x)
      go_wp2_with fail
      refine bodyPost_ret (by simp only [results, Try.results72]; go_simp; rfl) rfl ?_
      refine ⟨_, _, _, rfl, by (repeat (first | exact Kept.refl _ | assumption | refine Kept.alloc ?_ _ | refine Kept.ext ?_ _ | refine Kept.drew ?_ | refine Kept.drewN ?_ _)), .inl ⟨rfl, ?_⟩⟩
      have hu := HU.out
      simp only [if_true, Nat.add_zero] at hu
      rcases HC.out with ⟨-, h2⟩ | ⟨h1, -⟩
      · rw [h2, if_pos (by omega), hu]
      · omega
  · have g3 : decide ((0 : Int) < r) = true := decide_eq_true (by omega)
    obtain ⟨Q, hQ⟩ : ∃ Q : Int, (q : Int) = Q := ⟨_, rfl⟩
    obtain ⟨U, hU⟩ : ∃ U : Int, Q + 1 = U := ⟨_, rfl⟩
    have hd2 := HD.out
    rw [hQ] at hd2 g2
    have HD2 := Lib.hid hd2
    have HQ := Lib.hid hQ
    have HUU := Lib.hid hU
    have q0 : 0 ≤ Q := by omega
    have q1 : Q ≤ 1099511627776 := by omega
    obtain ⟨b, hb⟩ : ∃ b, validB Q U = b := ⟨_, rfl⟩
    have hb2 : validB (-U) (-Q) = b := by
      rw [← hb]
      unfold validB
      by_cases h : q + 1 ≤ 1099511627776
      · rw [decide_eq_true (by omega), decide_eq_true (by omega)]
      · rw [decide_eq_false (by omega), decide_eq_false (by omega)]
    have hv3 : (b = true ∧ q + 1 ≤ 1099511627776) ∨ (b = false ∧ 1099511627776 < q + 1) := by
      rw [← hb]
      unfold validB
      by_cases h : q + 1 ≤ 1099511627776
      · left; exact ⟨decide_eq_true (by omega), h⟩
      · right; exact ⟨decide_eq_false (by omega), by omega⟩
    have HV3 := Lib.hid hv3
    clear hv3 hd2 hQ HD
    by_cases c4 : num < 0
    · have g4 : decide (num < 0) = true := decide_eq_true c4
      have HB2 := Lib.hid hb2
      clear hb hb2
      go_enter Try.func72, Try.ntmps72
      go_wp2_with (first | (go_at_call 78; refine (HM.out _).mono ?_; rintro e w1 ⟨rfl, rfl⟩) | (go_at_call 79; refine (HD2.out _).mono ?_; rintro e w1 ⟨rfl, x2, rfl⟩))
      ((first | (with_reducible refine wp_region_tail2 3 (by kernel_rfl) (by kernel_rfl) ?_) | refine wp_region_tail 3 (by kernel_rfl) (by kernel_rfl) ?_); simp only [List.take_succ_cons, List.take_zero, List.drop_succ_cons, List.drop_zero]; (repeat (go_big_quiet_step (first | (go_at_call 26; exact Calls.kept_of (valid_any _ _ _))))); refine wpQuiet_nil ?_; intro x)
      go_wp2_with fail
      refine bodyPost_ret (by simp only [results, Try.results72]; go_simp; rfl) rfl ?_
      refine ⟨_, _, b, by rw [HB2.out], by (repeat (first | exact Kept.refl _ | assumption | refine Kept.alloc ?_ _ | refine Kept.ext ?_ _ | refine Kept.drew ?_ | refine Kept.drewN ?_ _)), ?_⟩
      have hu := HU.out
      have hq9 := HQ.out
      have hu9 := HUU.out
      rw [if_neg c3] at hu
      rcases HC.out with ⟨h1, h2⟩ | ⟨h1, h2⟩
      · rcases HV3.out with ⟨h3, h4⟩ | ⟨h3, h4⟩
        · exact .inl ⟨h3, by rw [h2, if_neg (by omega), hu, show ((q + 1 : Nat) : Int) = U by omega, hq9]⟩
        · omega
      · rcases HV3.out with ⟨h3, h4⟩ | ⟨h3, h4⟩
        · omega
        · exact .inr ⟨h3, h2⟩
    · have g4 : decide (num < 0) = false := decide_eq_false c4
      have HB := Lib.hid hb
      clear hb hb2
      go_enter Try.func72, Try.ntmps72
      go_wp2_with (first | (go_at_call 78; refine (HM.out _).mono ?_; rintro e w1 ⟨rfl, rfl⟩) | (go_at_call 79; refine (HD2.out _).mono ?_; rintro e w1 ⟨rfl, x2, rfl⟩))
      ((first | (with_reducible refine wp_region_tail2 3 (by kernel_rfl) (by kernel_rfl) ?_) | refine wp_region_tail 3 (by kernel_rfl) (by kernel_rfl) ?_); simp only [List.take_succ_cons, List.take_zero, List.drop_succ_cons, List.drop_zero]; (repeat (go_big_quiet_step (first | (go_at_call 26; exact Calls.kept_of (valid_any _ _ _))))); refine wpQuiet_nil ?_; intro x)
      go_wp2_with fail
      refine bodyPost_ret (by simp only [results, Try.results72]; go_simp; rfl) rfl ?_
      refine ⟨_, _, b, by rw [HB.out], by (repeat (first | exact Kept.refl _ | assumption | refine Kept.alloc ?_ _ | refine Kept.ext ?_ _ | refine Kept.drew ?_ | refine Kept.drewN ?_ _)), ?_⟩
      have hu := HU.out
      have hq9 := HQ.out
      have hu9 := HUU.out
      rw [if_neg c3] at hu
      rcases HC.out with ⟨h1, h2⟩ | ⟨h1, h2⟩
      · rcases HV3.out with ⟨h3, h4⟩ | ⟨h3, h4⟩
        · exact .inl ⟨h3, by rw [h2, if_pos (by omega), hu, show ((q + 1 : Nat) : Int) = U by omega, hq9]⟩
        · omega
      · rcases HV3.out with ⟨h3, h4⟩ | ⟨h3, h4⟩
        · omega
        · exact .inr ⟨h3, h2⟩
end Go.Proofs.Ytodmdicegkjicaa

namespace Go.Proofs.Ytodmdicegkjicaa
set_option linter.unusedVariables false
set_option linter.unusedSimpArgs false
open Go.RowKit
attribute [local go_sem ↓] Go.wp_at_zero Go.wp_at_succ
theorem coord_any (x y z : Int) (w : World) :
    Calls Try.prog 30 #[.agg #[.int .i64 x, .int .i64 y, .int .i64 z]] w fun r w' => r = .returned (.agg #[.int .i64 x, .int .i64 y, .int .i64 z]) ∧ Kept w w' := by
  go_enter Try.func30, Try.ntmps30
  go_wp2
  refine bodyPost_ret (by simp only [results, Try.results30]; go_simp; rfl) rfl ?_
  exact ⟨rfl, by (repeat (first | exact Kept.refl _ | assumption | refine Kept.alloc ?_ _ | refine Kept.ext ?_ _ | refine Kept.drew ?_ | refine Kept.drewN ?_ _))⟩
theorem pairs_any (w : World) :
    Calls Try.prog 31 #[] w fun r w' => r = .returned (.agg #[.int .i64 0, .int .i64 0, .int .i64 0, .int .i64 1, .int .i64 0, .int .i64 2, .int .i64 1, .int .i64 1, .int .i64 1, .int .i64 2, .int .i64 2, .int .i64 2]) ∧ Kept w w' := by
  go_enter Try.func31, Try.ntmps31
  go_wp2
  refine bodyPost_ret (by simp only [results, Try.results31]; go_simp; rfl) rfl ?_
  exact ⟨rfl, by (repeat (first | exact Kept.refl _ | assumption | refine Kept.alloc ?_ _ | refine Kept.ext ?_ _ | refine Kept.drew ?_ | refine Kept.drewN ?_ _))⟩
theorem cut2 {W w' : World} {n b1 b2 : Nat} {x0 x1 x2 y0 y1 y2 : Value} [hs : SizeIs W n] (h : Kept W w') (h1 : n ≤ b1 ∧ b1 < w'.heap.size) (h2 : n ≤ b2 ∧ b2 < w'.heap.size)
    (c0 : w'.cell? ⟨b1, 0, none⟩ = some x0) (c1 : w'.cell? ⟨b1, 1, none⟩ = some x1) (c2 : w'.cell? ⟨b1, 2, none⟩ = some x2) (d0 : w'.cell? ⟨b2, 0, none⟩ = some y0) (d1 : w'.cell? ⟨b2, 1, none⟩ = some y1) (d2 : w'.cell? ⟨b2, 2, none⟩ = some y2) :
    ∃ y i j, w' = ext W y ∧ Value.pointer (some ⟨b1, 0, none⟩) = .pointer (some ⟨adv n i, 0, none⟩) ∧ Value.pointer (some ⟨b2, 0, none⟩) = .pointer (some ⟨adv n j, 0, none⟩) ∧ i < y.obs.size ∧ j < y.obs.size ∧
      y.cell i 0 = some x0 ∧ y.cell i 1 = some x1 ∧ y.cell i 2 = some x2 ∧ y.cell j 0 = some y0 ∧ y.cell j 1 = some y1 ∧ y.cell j 2 = some y2 := by
  obtain ⟨y, i, j, e0, e1, e2, l1, l2, k1, k2⟩ := kept_at2 h h1 h2
  exact ⟨y, i, j, e0, by rw [e1], by rw [e2], l1, l2, by rw [k1, c0], by rw [k1, c1], by rw [k1, c2], by rw [k2, d0], by rw [k2, d1], by rw [k2, d2]⟩
def movM (m : Mo) (u v w : Int) : Mo := ⟨m.q, m.t, m.x - 3 * m.q * u, m.y - 3 * m.q * v, m.z - 3 * m.q * w, m.a + (12 * m.q * u * u - 4 * (m.x * u + u * m.x)), m.b + (12 * m.q * u * v - 4 * (m.x * v + u * m.y)), m.c + (12 * m.q * u * w - 4 * (m.x * w + u * m.z)), m.d + (12 * m.q * v * v - 4 * (m.y * v + v * m.y)), m.e + (12 * m.q * v * w - 4 * (m.y * w + v * m.z)), m.f + (12 * m.q * w * w - 4 * (m.z * w + w * m.z))⟩
def shiftM (m : Mo) (u v w : Int) : MR := if okM m && inB u v w 128 then toldM (movM m u v w) else ⟨moZ, 1⟩
set_option maxRecDepth 100000 in
set_option maxHeartbeats 16000000 in
theorem mshift_any (m0 m1 m2 m3 m4 m5 m6 m7 m8 m9 m10 u0 u1 u2 : Int) (w : World) :
    Calls Try.prog 13 #[.agg #[.int .i64 m0, .int .i64 m1, .int .i64 m2, .int .i64 m3, .int .i64 m4, .int .i64 m5, .int .i64 m6, .int .i64 m7, .int .i64 m8, .int .i64 m9, .int .i64 m10], .agg #[.int .i64 u0, .int .i64 u1, .int .i64 u2]] w fun r w' => r = .returned (.tuple #[.agg #[.int .i64 ((shiftM ⟨m0, m1, m2, m3, m4, m5, m6, m7, m8, m9, m10⟩ u0 u1 u2).m).q, .int .i64 ((shiftM ⟨m0, m1, m2, m3, m4, m5, m6, m7, m8, m9, m10⟩ u0 u1 u2).m).t, .int .i64 ((shiftM ⟨m0, m1, m2, m3, m4, m5, m6, m7, m8, m9, m10⟩ u0 u1 u2).m).x, .int .i64 ((shiftM ⟨m0, m1, m2, m3, m4, m5, m6, m7, m8, m9, m10⟩ u0 u1 u2).m).y, .int .i64 ((shiftM ⟨m0, m1, m2, m3, m4, m5, m6, m7, m8, m9, m10⟩ u0 u1 u2).m).z, .int .i64 ((shiftM ⟨m0, m1, m2, m3, m4, m5, m6, m7, m8, m9, m10⟩ u0 u1 u2).m).a, .int .i64 ((shiftM ⟨m0, m1, m2, m3, m4, m5, m6, m7, m8, m9, m10⟩ u0 u1 u2).m).b, .int .i64 ((shiftM ⟨m0, m1, m2, m3, m4, m5, m6, m7, m8, m9, m10⟩ u0 u1 u2).m).c, .int .i64 ((shiftM ⟨m0, m1, m2, m3, m4, m5, m6, m7, m8, m9, m10⟩ u0 u1 u2).m).d, .int .i64 ((shiftM ⟨m0, m1, m2, m3, m4, m5, m6, m7, m8, m9, m10⟩ u0 u1 u2).m).e, .int .i64 ((shiftM ⟨m0, m1, m2, m3, m4, m5, m6, m7, m8, m9, m10⟩ u0 u1 u2).m).f], .int .i64 (shiftM ⟨m0, m1, m2, m3, m4, m5, m6, m7, m8, m9, m10⟩ u0 u1 u2).e]) ∧ Kept w w' := by
  cases h : okM ⟨m0, m1, m2, m3, m4, m5, m6, m7, m8, m9, m10⟩
  · have e1 := bad_of h
    have e2 : shiftM ⟨m0, m1, m2, m3, m4, m5, m6, m7, m8, m9, m10⟩ u0 u1 u2 = ⟨moZ, 1⟩ := by simp [shiftM, h]
    rw [e2]
    clear e2
    go_enter Try.func13, Try.ntmps13
    go_wp2_with (first | (go_at_call 28; refine (mval_any _ _ _ _ _ _ _ _ _ _ _ _).mono ?_; rintro e w1 ⟨rfl, x, rfl⟩))
    refine bodyPost_ret (by simp only [results, Try.results13]; go_simp; rfl) rfl ?_
    exact ⟨rfl, by (repeat (first | exact Kept.refl _ | assumption | refine Kept.alloc ?_ _ | refine Kept.ext ?_ _ | refine Kept.drew ?_ | refine Kept.drewN ?_ _))⟩
  cases k : inB u0 u1 u2 128
  · have e1 := ok_of h
    have e2 : shiftM ⟨m0, m1, m2, m3, m4, m5, m6, m7, m8, m9, m10⟩ u0 u1 u2 = ⟨moZ, 1⟩ := by simp [shiftM, k]
    rw [e2]
    clear e2
    go_enter Try.func13, Try.ntmps13
    go_wp2_with (first | (go_at_call 28; refine (mval_any _ _ _ _ _ _ _ _ _ _ _ _).mono ?_; rintro e w1 ⟨rfl, x, rfl⟩) | (go_at_call 29; refine (mnear_any _ _ _ _ _ (by omega)).mono ?_; rintro e w1 ⟨rfl, x, rfl⟩))
    refine bodyPost_ret (by simp only [results, Try.results13]; go_simp; rfl) rfl ?_
    exact ⟨rfl, by (repeat (first | exact Kept.refl _ | assumption | refine Kept.alloc ?_ _ | refine Kept.ext ?_ _ | refine Kept.drew ?_ | refine Kept.drewN ?_ _))⟩
  have e1 := ok_of h
  have e2 : shiftM ⟨m0, m1, m2, m3, m4, m5, m6, m7, m8, m9, m10⟩ u0 u1 u2 = toldM (movM ⟨m0, m1, m2, m3, m4, m5, m6, m7, m8, m9, m10⟩ u0 u1 u2) := by simp [shiftM, h, k]
  rw [e2]
  clear e2
  obtain ⟨q1, q2, q3, q4, q5, q6, q7, q8, q9, q10, q11⟩ := okM_bd h
  simp only at q1 q2 q3 q4 q5 q6 q7 q8 q9 q10 q11
  obtain ⟨c1, c2, c3, c4, c5, c6⟩ := inB_true k
  have p0 := mul_bd 402653184 (show -3145728 ≤ 3 * m0 ∧ 3 * m0 ≤ 3145728 by omega) (show -128 ≤ u0 ∧ u0 ≤ 128 by omega) rfl
  have r0 := mul_bd 1610612736 (show -12582912 ≤ 12 * m0 ∧ 12 * m0 ≤ 12582912 by omega) (show -128 ≤ u0 ∧ u0 ≤ 128 by omega) rfl
  have p1 := mul_bd 402653184 (show -3145728 ≤ 3 * m0 ∧ 3 * m0 ≤ 3145728 by omega) (show -128 ≤ u1 ∧ u1 ≤ 128 by omega) rfl
  have r1 := mul_bd 1610612736 (show -12582912 ≤ 12 * m0 ∧ 12 * m0 ≤ 12582912 by omega) (show -128 ≤ u1 ∧ u1 ≤ 128 by omega) rfl
  have p2 := mul_bd 402653184 (show -3145728 ≤ 3 * m0 ∧ 3 * m0 ≤ 3145728 by omega) (show -128 ≤ u2 ∧ u2 ≤ 128 by omega) rfl
  have r2 := mul_bd 1610612736 (show -12582912 ≤ 12 * m0 ∧ 12 * m0 ≤ 12582912 by omega) (show -128 ≤ u2 ∧ u2 ≤ 128 by omega) rfl
  have s00 := mul_bd 206158430208 r0 (show -128 ≤ u0 ∧ u0 ≤ 128 by omega) rfl
  have s01 := mul_bd 206158430208 r0 (show -128 ≤ u1 ∧ u1 ≤ 128 by omega) rfl
  have s02 := mul_bd 206158430208 r0 (show -128 ≤ u2 ∧ u2 ≤ 128 by omega) rfl
  have s11 := mul_bd 206158430208 r1 (show -128 ≤ u1 ∧ u1 ≤ 128 by omega) rfl
  have s12 := mul_bd 206158430208 r1 (show -128 ≤ u2 ∧ u2 ≤ 128 by omega) rfl
  have s22 := mul_bd 206158430208 r2 (show -128 ≤ u2 ∧ u2 ≤ 128 by omega) rfl
  have d00 := mul_bd 137438953472 (show -1073741824 ≤ m2 ∧ m2 ≤ 1073741824 by omega) (show -128 ≤ u0 ∧ u0 ≤ 128 by omega) rfl
  have e00 := mul_bd 137438953472 (show -128 ≤ u0 ∧ u0 ≤ 128 by omega) (show -1073741824 ≤ m2 ∧ m2 ≤ 1073741824 by omega) rfl
  have d01 := mul_bd 137438953472 (show -1073741824 ≤ m2 ∧ m2 ≤ 1073741824 by omega) (show -128 ≤ u1 ∧ u1 ≤ 128 by omega) rfl
  have e10 := mul_bd 137438953472 (show -128 ≤ u1 ∧ u1 ≤ 128 by omega) (show -1073741824 ≤ m2 ∧ m2 ≤ 1073741824 by omega) rfl
  have d02 := mul_bd 137438953472 (show -1073741824 ≤ m2 ∧ m2 ≤ 1073741824 by omega) (show -128 ≤ u2 ∧ u2 ≤ 128 by omega) rfl
  have e20 := mul_bd 137438953472 (show -128 ≤ u2 ∧ u2 ≤ 128 by omega) (show -1073741824 ≤ m2 ∧ m2 ≤ 1073741824 by omega) rfl
  have d10 := mul_bd 137438953472 (show -1073741824 ≤ m3 ∧ m3 ≤ 1073741824 by omega) (show -128 ≤ u0 ∧ u0 ≤ 128 by omega) rfl
  have e01 := mul_bd 137438953472 (show -128 ≤ u0 ∧ u0 ≤ 128 by omega) (show -1073741824 ≤ m3 ∧ m3 ≤ 1073741824 by omega) rfl
  have d11 := mul_bd 137438953472 (show -1073741824 ≤ m3 ∧ m3 ≤ 1073741824 by omega) (show -128 ≤ u1 ∧ u1 ≤ 128 by omega) rfl
  have e11 := mul_bd 137438953472 (show -128 ≤ u1 ∧ u1 ≤ 128 by omega) (show -1073741824 ≤ m3 ∧ m3 ≤ 1073741824 by omega) rfl
  have d12 := mul_bd 137438953472 (show -1073741824 ≤ m3 ∧ m3 ≤ 1073741824 by omega) (show -128 ≤ u2 ∧ u2 ≤ 128 by omega) rfl
  have e21 := mul_bd 137438953472 (show -128 ≤ u2 ∧ u2 ≤ 128 by omega) (show -1073741824 ≤ m3 ∧ m3 ≤ 1073741824 by omega) rfl
  have d20 := mul_bd 137438953472 (show -1073741824 ≤ m4 ∧ m4 ≤ 1073741824 by omega) (show -128 ≤ u0 ∧ u0 ≤ 128 by omega) rfl
  have e02 := mul_bd 137438953472 (show -128 ≤ u0 ∧ u0 ≤ 128 by omega) (show -1073741824 ≤ m4 ∧ m4 ≤ 1073741824 by omega) rfl
  have d21 := mul_bd 137438953472 (show -1073741824 ≤ m4 ∧ m4 ≤ 1073741824 by omega) (show -128 ≤ u1 ∧ u1 ≤ 128 by omega) rfl
  have e12 := mul_bd 137438953472 (show -128 ≤ u1 ∧ u1 ≤ 128 by omega) (show -1073741824 ≤ m4 ∧ m4 ≤ 1073741824 by omega) rfl
  have d22 := mul_bd 137438953472 (show -1073741824 ≤ m4 ∧ m4 ≤ 1073741824 by omega) (show -128 ≤ u2 ∧ u2 ≤ 128 by omega) rfl
  have e22 := mul_bd 137438953472 (show -128 ≤ u2 ∧ u2 ≤ 128 by omega) (show -1073741824 ≤ m4 ∧ m4 ≤ 1073741824 by omega) rfl
  go_enter Try.func13, Try.ntmps13
  go_upto_region 6 with (first | (go_at_call 28; refine (mval_any _ _ _ _ _ _ _ _ _ _ _ _).mono ?_; rintro e w1 ⟨rfl, x, rfl⟩) | (go_at_call 29; refine (mnear_any _ _ _ _ _ (by omega)).mono ?_; rintro e w1 ⟨rfl, x, rfl⟩))
  go_cut [7, 8, 9] (fun s7 s8 s9 wx => s9 = .int .i64 m0 ∧ ∃ y i j, wx = ext (((w.alloc (.cells #[.int .i64 m0, .int .i64 m1, .int .i64 m2, .int .i64 m3, .int .i64 m4, .int .i64 m5, .int .i64 m6, .int .i64 m7, .int .i64 m8, .int .i64 m9, .int .i64 m10] 31)).alloc (.cells #[.int .i64 u0, .int .i64 u1, .int .i64 u2] 24)).alloc (.cells #[.int .i64 0, .int .i64 0, .int .i64 0, .int .i64 0, .int .i64 0, .int .i64 0, .int .i64 0, .int .i64 0, .int .i64 0, .int .i64 0, .int .i64 0] 31)) y ∧ s7 = .pointer (some ⟨adv (w.heap.size + 1 + 1 + 1) i, 0, none⟩) ∧ s8 = .pointer (some ⟨adv (w.heap.size + 1 + 1 + 1) j, 0, none⟩) ∧ i < y.obs.size ∧ j < y.obs.size ∧
      y.cell i 0 = some (.int .i64 m2) ∧ y.cell i 1 = some (.int .i64 m3) ∧ y.cell i 2 = some (.int .i64 m4) ∧ y.cell j 0 = some (.int .i64 u0) ∧ y.cell j 1 = some (.int .i64 u1) ∧ y.cell j 2 = some (.int .i64 u2))
  case first =>
    clear p0 p1 p2 r0 r1 r2 s00 s01 s02 s11 s12 s22 d00 d01 d02 d10 d11 d12 d20 d21 d22 e00 e10 e20 e01 e11 e21 e02 e12 e22
    go_region_held3 (fun w' => w'.cell? ⟨w.heap.size, 0, none⟩ = some (.int .i64 m0) ∧ w'.cell? ⟨w.heap.size, 2, none⟩ = some (.int .i64 m2) ∧ w'.cell? ⟨w.heap.size, 3, none⟩ = some (.int .i64 m3) ∧ w'.cell? ⟨w.heap.size, 4, none⟩ = some (.int .i64 m4) ∧ w'.cell? ⟨w.heap.size + 1, 0, none⟩ = some (.int .i64 u0) ∧ w'.cell? ⟨w.heap.size + 1, 1, none⟩ = some (.int .i64 u1) ∧ w'.cell? ⟨w.heap.size + 1, 2, none⟩ = some (.int .i64 u2)) ((refine ⟨?_, ?_, ?_, ?_, ?_, ?_, ?_⟩ <;> go_simp)) ((first | (go_at_call 30; refine (coord_any _ _ _ _).mono ?_; rintro e w1 ⟨rfl, x, rfl⟩)))
    all_goals (go_wp2_with fail; go_meet)
    all_goals
      refine ⟨rfl, cut2 (show Kept _ _ by (repeat (first | exact Kept.refl _ | assumption | refine Kept.alloc ?_ _ | refine Kept.ext ?_ _ | refine Kept.drew ?_ | refine Kept.drewN ?_ _))) ⟨?_, ?_⟩ ⟨?_, ?_⟩ ?_ ?_ ?_ ?_ ?_ ?_⟩
      all_goals first | (go_simp; done) | (simp [adv]; done) | (simp [adv]; omega)
  case rest =>
  obtain ⟨rfl, y, i, j, rfl, rfl, rfl, li, lj, f0, f1, f2, g0, g1, g2⟩ := hcut
  have Li : Lower i y.obs.size := ⟨li⟩
  have Lj : Lower j y.obs.size := ⟨lj⟩
  clear li lj
  go_wp2_with (first | (go_at_call 31; refine (pairs_any _).mono ?_; rintro e w1 ⟨rfl, x, rfl⟩))
  refine wp_loop_rounds 7 ?_
  rw [rounds_succ]
  go_wp2_with fail
  ((first | (with_reducible refine wp_region_kept2 (by kernel_rfl) (by kernel_rfl) ?_) | refine wp_region_kept (by kernel_rfl) (by kernel_rfl) ?_); (repeat (go_big_quiet_step (first | fail))); refine wpQuiet_nil ?_; intro x)
  go_wp2_with fail
  ((first | (with_reducible refine wp_region_tail2 34 (by kernel_rfl) (by kernel_rfl) ?_) | refine wp_region_tail 34 (by kernel_rfl) (by kernel_rfl) ?_); simp only [List.take_succ_cons, List.take_zero, List.drop_succ_cons, List.drop_zero]; (repeat (go_big_quiet_step (first | fail))); refine wpQuiet_nil ?_; intro x)
  go_wp2_with fail
  rw [rounds_succ]
  go_wp2_with fail
  ((first | (with_reducible refine wp_region_kept2 (by kernel_rfl) (by kernel_rfl) ?_) | refine wp_region_kept (by kernel_rfl) (by kernel_rfl) ?_); (repeat (go_big_quiet_step (first | fail))); refine wpQuiet_nil ?_; intro x)
  go_wp2_with fail
  ((first | (with_reducible refine wp_region_tail2 34 (by kernel_rfl) (by kernel_rfl) ?_) | refine wp_region_tail 34 (by kernel_rfl) (by kernel_rfl) ?_); simp only [List.take_succ_cons, List.take_zero, List.drop_succ_cons, List.drop_zero]; (repeat (go_big_quiet_step (first | fail))); refine wpQuiet_nil ?_; intro x)
  go_wp2_with fail
  rw [rounds_succ]
  go_wp2_with fail
  ((first | (with_reducible refine wp_region_kept2 (by kernel_rfl) (by kernel_rfl) ?_) | refine wp_region_kept (by kernel_rfl) (by kernel_rfl) ?_); (repeat (go_big_quiet_step (first | fail))); refine wpQuiet_nil ?_; intro x)
  go_wp2_with fail
  ((first | (with_reducible refine wp_region_tail2 34 (by kernel_rfl) (by kernel_rfl) ?_) | refine wp_region_tail 34 (by kernel_rfl) (by kernel_rfl) ?_); simp only [List.take_succ_cons, List.take_zero, List.drop_succ_cons, List.drop_zero]; (repeat (go_big_quiet_step (first | fail))); refine wpQuiet_nil ?_; intro x)
  go_wp2_with fail
  rw [rounds_succ]
  go_wp2_with fail
  ((first | (with_reducible refine wp_region_kept2 (by kernel_rfl) (by kernel_rfl) ?_) | refine wp_region_kept (by kernel_rfl) (by kernel_rfl) ?_); (repeat (go_big_quiet_step (first | fail))); refine wpQuiet_nil ?_; intro x)
  go_wp2_with fail
  ((first | (with_reducible refine wp_region_tail2 34 (by kernel_rfl) (by kernel_rfl) ?_) | refine wp_region_tail 34 (by kernel_rfl) (by kernel_rfl) ?_); simp only [List.take_succ_cons, List.take_zero, List.drop_succ_cons, List.drop_zero]; (repeat (go_big_quiet_step (first | fail))); refine wpQuiet_nil ?_; intro x)
  go_wp2_with fail
  rw [rounds_succ]
  go_wp2_with fail
  ((first | (with_reducible refine wp_region_kept2 (by kernel_rfl) (by kernel_rfl) ?_) | refine wp_region_kept (by kernel_rfl) (by kernel_rfl) ?_); (repeat (go_big_quiet_step (first | fail))); refine wpQuiet_nil ?_; intro x)
  go_wp2_with fail
  ((first | (with_reducible refine wp_region_tail2 34 (by kernel_rfl) (by kernel_rfl) ?_) | refine wp_region_tail 34 (by kernel_rfl) (by kernel_rfl) ?_); simp only [List.take_succ_cons, List.take_zero, List.drop_succ_cons, List.drop_zero]; (repeat (go_big_quiet_step (first | fail))); refine wpQuiet_nil ?_; intro x)
  go_wp2_with fail
  rw [rounds_succ]
  go_wp2_with fail
  ((first | (with_reducible refine wp_region_kept2 (by kernel_rfl) (by kernel_rfl) ?_) | refine wp_region_kept (by kernel_rfl) (by kernel_rfl) ?_); (repeat (go_big_quiet_step (first | fail))); refine wpQuiet_nil ?_; intro x)
  go_wp2_with fail
  ((first | (with_reducible refine wp_region_tail2 34 (by kernel_rfl) (by kernel_rfl) ?_) | refine wp_region_tail 34 (by kernel_rfl) (by kernel_rfl) ?_); simp only [List.take_succ_cons, List.take_zero, List.drop_succ_cons, List.drop_zero]; (repeat (go_big_quiet_step (first | fail))); refine wpQuiet_nil ?_; intro x)
  go_wp2_with fail
  rw [rounds_succ]
  go_wp2_with (first | (go_at_call 32; refine (mres_any _ _ _ _ _ _ _ _ _ _ _ _).mono ?_; rintro e w1 ⟨rfl, x, rfl⟩))
  refine bodyPost_ret (by simp only [results, Try.results13]; go_simp; rfl) rfl ?_
  exact ⟨rfl, by (repeat (first | exact Kept.refl _ | assumption | refine Kept.alloc ?_ _ | refine Kept.ext ?_ _ | refine Kept.drew ?_ | refine Kept.drewN ?_ _))⟩
end Go.Proofs.Ytodmdicegkjicaa

namespace Go.Proofs.Ytodmdicegkjicaa
set_option linter.unusedVariables false
set_option linter.unusedSimpArgs false
open Go.ChangeShapes Go.WideShapes Go.ChangeAt Go.RowKit
theorem mquoOk_any (num den : Int) (w : World) (hn : -4611686018427387904 ≤ num ∧ num ≤ 4611686018427387904) (hd : 1 ≤ den ∧ den ≤ 4611686018427387904) (h : (qmS num den).e = 0) :
    Calls Try.prog 72 #[.int .i64 num, .int .i64 den] w fun e w' => e = .returned (.tuple #[.agg #[.int .i64 (qmS num den).lo, .int .i64 (qmS num den).hi], .bool true]) ∧ Kept w w' := by
  obtain ⟨d, rfl⟩ := Int.eq_ofNat_of_zero_le (show 0 ≤ den by omega)
  refine (mquo_any num d w hn (by omega)).mono ?_
  rintro e w' ⟨x, y, b, rfl, h1, h2⟩
  rcases h2 with ⟨rfl, h2⟩ | ⟨rfl, h2⟩
  · rw [h2]; exact ⟨rfl, h1⟩
  · rw [h2] at h; cases h
theorem mquoNo_any (num den : Int) (w : World) (hn : -4611686018427387904 ≤ num ∧ num ≤ 4611686018427387904) (hd : 1 ≤ den ∧ den ≤ 4611686018427387904) (h : ¬ (qmS num den).e = 0) :
    Calls Try.prog 72 #[.int .i64 num, .int .i64 den] w fun e w' => ∃ x y, e = .returned (.tuple #[.agg #[.int .i64 x, .int .i64 y], .bool false]) ∧ Kept w w' := by
  obtain ⟨d, rfl⟩ := Int.eq_ofNat_of_zero_le (show 0 ≤ den by omega)
  refine (mquo_any num d w hn (by omega)).mono ?_
  rintro e w' ⟨x, y, b, rfl, h1, h2⟩
  rcases h2 with ⟨rfl, h2⟩ | ⟨rfl, h2⟩
  · exact absurd (by rw [h2]) h
  · exact ⟨x, y, rfl, h1⟩
set_option maxRecDepth 100000 in
set_option maxHeartbeats 4000000 in
theorem mover_any (num den n : Int) (w : World) (hn : -4611686018427387904 ≤ num ∧ num ≤ 4611686018427387904) (hd : 1 ≤ den ∧ den ≤ 4611686018427387904) (hN : 1 ≤ n ∧ n ≤ 1048576) :
    Calls Try.prog 57 #[.int .i64 num, .int .i64 den, .int .i64 n] w fun e w' => e = .returned (.tuple #[.agg #[.int .i64 (overS num den n).lo, .int .i64 (overS num den n).hi], .int .i64 (overS num den n).e]) ∧ Kept w w' := by
  have hi : ∀ w, Calls Try.prog 36 #[.int .i64 n, .int .i64 1] w fun e w' => e = .returned (.tuple #[.agg #[.int .i64 (inverseS n 1).lo, .int .i64 (inverseS n 1).hi], .int .i64 0]) ∧ Kept w w' := fun w => by
    have := spanInv_any n 1 w
    rwa [inv1_ok hN] at this
  by_cases hq : (qmS num den).e = 0
  · rw [show overS num den n = mulS (qmS num den).lo (qmS num den).hi (inverseS n 1).lo (inverseS n 1).hi from if_pos hq]
    have hqc : ∀ w, _ := fun w => mquoOk_any num den w hn hd hq
    obtain ⟨x, hx⟩ : ∃ x, (qmS num den).lo = x := ⟨_, rfl⟩
    obtain ⟨y, hy⟩ : ∃ x, (qmS num den).hi = x := ⟨_, rfl⟩
    obtain ⟨z, hz⟩ : ∃ x, (inverseS n 1).lo = x := ⟨_, rfl⟩
    obtain ⟨u, hu⟩ : ∃ x, (inverseS n 1).hi = x := ⟨_, rfl⟩
    rw [hx, hy] at hqc ⊢
    rw [hz, hu] at hi ⊢
    have HQ := Lib.hid hqc
    have HI := Lib.hid hi
    clear hq hqc hi hx hy hz hu hn hd hN
    go_enter Try.func57, Try.ntmps57
    go_wp2_with (first | (go_at_call 72; refine (HQ.out _).mono ?_; rintro e w1 ⟨rfl, x1, rfl⟩) | (go_at_call 36; refine (HI.out _).mono ?_; rintro e w1 ⟨rfl, x2, rfl⟩) | (go_at_call 73; refine (mul_any _ _ _ _ _).mono ?_; rintro e w1 ⟨rfl, x3, rfl⟩))
    refine bodyPost_ret (by simp only [results, Try.results57]; go_simp; rfl) rfl ?_
    exact ⟨rfl, by (repeat (first | exact Kept.refl _ | assumption | refine Kept.alloc ?_ _ | refine Kept.ext ?_ _ | refine Kept.drew ?_ | refine Kept.drewN ?_ _))⟩
  · rw [show overS num den n = ⟨0, 0, 4⟩ from if_neg hq]
    have hqc : ∀ w, _ := fun w => mquoNo_any num den w hn hd hq
    have HQ := Lib.hid hqc
    clear hq hqc hi hn hd hN
    go_enter Try.func57, Try.ntmps57
    go_wp2_with (go_at_call 72; refine (HQ.out _).mono ?_; rintro e w1 ⟨x, y, rfl, x1, rfl⟩)
    refine bodyPost_ret (by simp only [results, Try.results57]; go_simp; rfl) rfl ?_
    exact ⟨rfl, by (repeat (first | exact Kept.refl _ | assumption | refine Kept.alloc ?_ _ | refine Kept.ext ?_ _ | refine Kept.drew ?_ | refine Kept.drewN ?_ _))⟩
theorem mdotw_any (a0 a1 a2 b0 b1 b2 : Int) (w : World) (h : (-1073741824 ≤ a0 ∧ a0 ≤ 1073741824) ∧ (-1073741824 ≤ a1 ∧ a1 ≤ 1073741824) ∧ (-1073741824 ≤ a2 ∧ a2 ≤ 1073741824) ∧ (-1048576 ≤ b0 ∧ b0 ≤ 1048576) ∧ (-1048576 ≤ b1 ∧ b1 ≤ 1048576) ∧ (-1048576 ≤ b2 ∧ b2 ≤ 1048576)) :
    Calls Try.prog 17 #[.agg #[.int .i64 a0, .int .i64 a1, .int .i64 a2], .agg #[.int .i64 b0, .int .i64 b1, .int .i64 b2]] w fun e w' => e = .returned (.int .i64 (a0 * b0 + a1 * b1 + a2 * b2)) ∧ Kept w w' := by
  obtain ⟨x0, x1, x2, y0, y1, y2⟩ := h
  have m0 := mul_bd 1125899906842624 x0 y0 rfl
  have m1 := mul_bd 1125899906842624 x1 y1 rfl
  have m2 := mul_bd 1125899906842624 x2 y2 rfl
  go_enter Try.func17, Try.ntmps17
  go_wp2_with fail
  go_ret
  exact ⟨rfl, by (repeat (first | exact Kept.refl _ | assumption | refine Kept.alloc ?_ _ | refine Kept.ext ?_ _ | refine Kept.drew ?_ | refine Kept.drewN ?_ _))⟩
set_option maxRecDepth 100000 in
set_option maxHeartbeats 8000000 in
theorem mtwice_any (m0 m1 m2 m3 m4 m5 m6 m7 m8 m9 m10 u0 u1 u2 : Int) (w : World) (h : okM ⟨m0, m1, m2, m3, m4, m5, m6, m7, m8, m9, m10⟩ = true) (k : inB u0 u1 u2 384 = true) :
    Calls Try.prog 58 #[.agg #[.int .i64 m0, .int .i64 m1, .int .i64 m2, .int .i64 m3, .int .i64 m4, .int .i64 m5, .int .i64 m6, .int .i64 m7, .int .i64 m8, .int .i64 m9, .int .i64 m10], .agg #[.int .i64 u0, .int .i64 u1, .int .i64 u2]] w fun e w' => e = .returned (.int .i64 (twS m5 m6 m7 m8 m9 m10 u0 u1 u2)) ∧ Kept w w' := by
  obtain ⟨q1, q2, q3, q4, q5, q6, q7, q8, q9, q10, q11⟩ := okM_bd h
  simp only at q1 q2 q3 q4 q5 q6 q7 q8 q9 q10 q11
  obtain ⟨c1, c2, c3, c4, c5, c6⟩ := inB_true k
  have a0 := mul_bd 6597069766656 (show -384 ≤ u0 ∧ u0 ≤ 384 by omega) (show -17179869184 ≤ m5 ∧ m5 ≤ 17179869184 by omega) rfl
  have a1 := mul_bd 6597069766656 (show -384 ≤ u0 ∧ u0 ≤ 384 by omega) (show -17179869184 ≤ m6 ∧ m6 ≤ 17179869184 by omega) rfl
  have a2 := mul_bd 6597069766656 (show -384 ≤ u0 ∧ u0 ≤ 384 by omega) (show -17179869184 ≤ m7 ∧ m7 ≤ 17179869184 by omega) rfl
  have a3 := mul_bd 6597069766656 (show -384 ≤ u1 ∧ u1 ≤ 384 by omega) (show -17179869184 ≤ m8 ∧ m8 ≤ 17179869184 by omega) rfl
  have a4 := mul_bd 6597069766656 (show -384 ≤ u1 ∧ u1 ≤ 384 by omega) (show -17179869184 ≤ m9 ∧ m9 ≤ 17179869184 by omega) rfl
  have a5 := mul_bd 6597069766656 (show -384 ≤ u2 ∧ u2 ≤ 384 by omega) (show -17179869184 ≤ m10 ∧ m10 ≤ 17179869184 by omega) rfl
  have b0 := mul_bd 2533274790395904 a0 (show -384 ≤ u0 ∧ u0 ≤ 384 by omega) rfl
  have b1 := mul_bd 2533274790395904 a1 (show -384 ≤ u1 ∧ u1 ≤ 384 by omega) rfl
  have b2 := mul_bd 2533274790395904 a2 (show -384 ≤ u2 ∧ u2 ≤ 384 by omega) rfl
  have b3 := mul_bd 2533274790395904 a3 (show -384 ≤ u1 ∧ u1 ≤ 384 by omega) rfl
  have b4 := mul_bd 2533274790395904 a4 (show -384 ≤ u2 ∧ u2 ≤ 384 by omega) rfl
  have b5 := mul_bd 2533274790395904 a5 (show -384 ≤ u2 ∧ u2 ≤ 384 by omega) rfl
  clear h k
  go_enter Try.func58, Try.ntmps58
  go_wp2_with (first | (go_at_call 30; refine (coord_any _ _ _ _).mono ?_; rintro e w1 ⟨rfl, x, rfl⟩) | (go_at_call 31; refine (pairs_any _).mono ?_; rintro e w1 ⟨rfl, x, rfl⟩))
  refine wp_loop_rounds 7 ?_
  rw [rounds_succ]
  go_wp2_with fail
  ((first | (with_reducible refine wp_region_kept2 (by kernel_rfl) (by kernel_rfl) ?_) | refine wp_region_kept (by kernel_rfl) (by kernel_rfl) ?_); (repeat (go_big_quiet_step (first | fail))); refine wpQuiet_nil ?_; intro x)
  go_wp2_with fail
  rw [rounds_succ]
  go_wp2_with fail
  ((first | (with_reducible refine wp_region_kept2 (by kernel_rfl) (by kernel_rfl) ?_) | refine wp_region_kept (by kernel_rfl) (by kernel_rfl) ?_); (repeat (go_big_quiet_step (first | fail))); refine wpQuiet_nil ?_; intro x)
  go_wp2_with fail
  rw [rounds_succ]
  go_wp2_with fail
  ((first | (with_reducible refine wp_region_kept2 (by kernel_rfl) (by kernel_rfl) ?_) | refine wp_region_kept (by kernel_rfl) (by kernel_rfl) ?_); (repeat (go_big_quiet_step (first | fail))); refine wpQuiet_nil ?_; intro x)
  go_wp2_with fail
  rw [rounds_succ]
  go_wp2_with fail
  ((first | (with_reducible refine wp_region_kept2 (by kernel_rfl) (by kernel_rfl) ?_) | refine wp_region_kept (by kernel_rfl) (by kernel_rfl) ?_); (repeat (go_big_quiet_step (first | fail))); refine wpQuiet_nil ?_; intro x)
  go_wp2_with fail
  rw [rounds_succ]
  go_wp2_with fail
  ((first | (with_reducible refine wp_region_kept2 (by kernel_rfl) (by kernel_rfl) ?_) | refine wp_region_kept (by kernel_rfl) (by kernel_rfl) ?_); (repeat (go_big_quiet_step (first | fail))); refine wpQuiet_nil ?_; intro x)
  go_wp2_with fail
  rw [rounds_succ]
  go_wp2_with fail
  ((first | (with_reducible refine wp_region_kept2 (by kernel_rfl) (by kernel_rfl) ?_) | refine wp_region_kept (by kernel_rfl) (by kernel_rfl) ?_); (repeat (go_big_quiet_step (first | fail))); refine wpQuiet_nil ?_; intro x)
  go_wp2_with fail
  rw [rounds_succ]
  go_wp2_with fail
  go_ret
  exact ⟨ret_int (by unfold twS; omega), by (repeat (first | exact Kept.refl _ | assumption | refine Kept.alloc ?_ _ | refine Kept.ext ?_ _ | refine Kept.drew ?_ | refine Kept.drewN ?_ _))⟩
end Go.Proofs.Ytodmdicegkjicaa
namespace Go.Proofs.Ytodmdicegkjicaa
set_option linter.unusedVariables false
set_option linter.unusedSimpArgs false
open Go.ChangeShapes Go.WideShapes Go.ChangeAt Go.RowKit
/-- The bounds of what a term is made of. -/
theorem term_bd {m0 m1 m2 m3 m4 m5 m6 m7 m8 m9 m10 u0 u1 u2 : Int} (h : okM ⟨m0, m1, m2, m3, m4, m5, m6, m7, m8, m9, m10⟩ = true) (k : inB u0 u1 u2 384 = true) (h0 : ¬ (u0 = 0 ∧ u1 = 0 ∧ u2 = 0)) :
    ∃ n d t r : Int, nS u0 u1 u2 = n ∧ m2 * u0 + m3 * u1 + m4 * u2 = d ∧ twS m5 m6 m7 m8 m9 m10 u0 u1 u2 = t ∧ m5 + m8 + m10 = r ∧ (1 ≤ n ∧ n ≤ 442368) ∧ (-1236950581248 ≤ d ∧ d ≤ 1236950581248) ∧ (-22799473113563136 ≤ t ∧ t ≤ 22799473113563136) ∧ (-51539607552 ≤ r ∧ r ≤ 51539607552) ∧ (-22799473113563136 ≤ n * r ∧ n * r ≤ 22799473113563136) ∧ (1 ≤ 24 * n * n ∧ 24 * n * n ≤ 4696546738176) := by
  obtain ⟨q1, q2, q3, q4, q5, q6, q7, q8, q9, q10, q11⟩ := okM_bd h
  simp only at q1 q2 q3 q4 q5 q6 q7 q8 q9 q10 q11
  obtain ⟨c1, c2, c3, c4, c5, c6⟩ := inB_true k
  have hn := nS_bd k h0
  have z0 := mul_bd 412316860416 q3 (show -384 ≤ u0 ∧ u0 ≤ 384 by omega) rfl
  have z1 := mul_bd 412316860416 q4 (show -384 ≤ u1 ∧ u1 ≤ 384 by omega) rfl
  have z2 := mul_bd 412316860416 q5 (show -384 ≤ u2 ∧ u2 ≤ 384 by omega) rfl
  have a0 := mul_bd 6597069766656 (show -384 ≤ u0 ∧ u0 ≤ 384 by omega) q6 rfl
  have a1 := mul_bd 6597069766656 (show -384 ≤ u0 ∧ u0 ≤ 384 by omega) q7 rfl
  have a2 := mul_bd 6597069766656 (show -384 ≤ u0 ∧ u0 ≤ 384 by omega) q8 rfl
  have a3 := mul_bd 6597069766656 (show -384 ≤ u1 ∧ u1 ≤ 384 by omega) q9 rfl
  have a4 := mul_bd 6597069766656 (show -384 ≤ u1 ∧ u1 ≤ 384 by omega) q10 rfl
  have a5 := mul_bd 6597069766656 (show -384 ≤ u2 ∧ u2 ≤ 384 by omega) q11 rfl
  have b0 := mul_bd 2533274790395904 a0 (show -384 ≤ u0 ∧ u0 ≤ 384 by omega) rfl
  have b1 := mul_bd 2533274790395904 a1 (show -384 ≤ u1 ∧ u1 ≤ 384 by omega) rfl
  have b2 := mul_bd 2533274790395904 a2 (show -384 ≤ u2 ∧ u2 ≤ 384 by omega) rfl
  have b3 := mul_bd 2533274790395904 a3 (show -384 ≤ u1 ∧ u1 ≤ 384 by omega) rfl
  have b4 := mul_bd 2533274790395904 a4 (show -384 ≤ u2 ∧ u2 ≤ 384 by omega) rfl
  have b5 := mul_bd 2533274790395904 a5 (show -384 ≤ u2 ∧ u2 ≤ 384 by omega) rfl
  have hr : -51539607552 ≤ m5 + m8 + m10 ∧ m5 + m8 + m10 ≤ 51539607552 := by omega
  have e1 := mul_bd 22799473113563136 (show -442368 ≤ nS u0 u1 u2 ∧ nS u0 u1 u2 ≤ 442368 by omega) hr rfl
  have e2 : 24 * 1 ≤ 24 * nS u0 u1 u2 * nS u0 u1 u2 := Int.mul_le_mul (by omega) (by omega) (by decide) (by omega)
  have e3 := mul_bd 4696546738176 (show -10616832 ≤ 24 * nS u0 u1 u2 ∧ 24 * nS u0 u1 u2 ≤ 10616832 by omega) (show -442368 ≤ nS u0 u1 u2 ∧ nS u0 u1 u2 ≤ 442368 by omega) rfl
  refine ⟨_, _, _, _, rfl, rfl, rfl, rfl, hn, by omega, ?_, hr, e1, by omega, e3.2⟩
  unfold twS
  omega
set_option maxRecDepth 100000 in
set_option maxHeartbeats 8000000 in
theorem mterm_any (m0 m1 m2 m3 m4 m5 m6 m7 m8 m9 m10 u0 u1 u2 k : Int) (w : World) (h : okM ⟨m0, m1, m2, m3, m4, m5, m6, m7, m8, m9, m10⟩ = true) (hb : inB u0 u1 u2 384 = true) (h0 : ¬ (u0 = 0 ∧ u1 = 0 ∧ u2 = 0)) (hk : frB k 0 2 = true) :
    Calls Try.prog 43 #[.agg #[.int .i64 m0, .int .i64 m1, .int .i64 m2, .int .i64 m3, .int .i64 m4, .int .i64 m5, .int .i64 m6, .int .i64 m7, .int .i64 m8, .int .i64 m9, .int .i64 m10], .agg #[.int .i64 u0, .int .i64 u1, .int .i64 u2], .int .i64 k] w fun e w' => e = .returned (.tuple #[.agg #[.int .i64 (termS ⟨m0, m1, m2, m3, m4, m5, m6, m7, m8, m9, m10⟩ u0 u1 u2 k).lo, .int .i64 (termS ⟨m0, m1, m2, m3, m4, m5, m6, m7, m8, m9, m10⟩ u0 u1 u2 k).hi], .int .i64 (termS ⟨m0, m1, m2, m3, m4, m5, m6, m7, m8, m9, m10⟩ u0 u1 u2 k).e]) ∧ Kept w w' := by
  obtain ⟨n, d, t, r, en, ed, et, er, bn, bd, bt, br, bnr, bnn⟩ := term_bd h hb h0
  obtain ⟨q1, q2, q3, q4, q5, q6, q7, q8, q9, q10, q11⟩ := okM_bd h
  simp only at q1 q2 q3 q4 q5 q6 q7 q8 q9 q10 q11
  obtain ⟨c1, c2, c3, c4, c5, c6⟩ := inB_true hb
  obtain ⟨k1, k2⟩ := frB_true hk
  have hdu : ∀ w, Calls Try.prog 17 #[.agg #[.int .i64 u0, .int .i64 u1, .int .i64 u2], .agg #[.int .i64 u0, .int .i64 u1, .int .i64 u2]] w fun e w' => e = .returned (.int .i64 n) ∧ Kept w w' := fun w => by
    rw [← en]
    exact mdot_any u0 u1 u2 u0 u1 u2 w (by omega)
  have hdd : ∀ w, Calls Try.prog 17 #[.agg #[.int .i64 m2, .int .i64 m3, .int .i64 m4], .agg #[.int .i64 u0, .int .i64 u1, .int .i64 u2]] w fun e w' => e = .returned (.int .i64 d) ∧ Kept w w' := fun w => by
    rw [← ed]
    exact mdotw_any m2 m3 m4 u0 u1 u2 w (by omega)
  have htw : ∀ w, Calls Try.prog 58 #[.agg #[.int .i64 m0, .int .i64 m1, .int .i64 m2, .int .i64 m3, .int .i64 m4, .int .i64 m5, .int .i64 m6, .int .i64 m7, .int .i64 m8, .int .i64 m9, .int .i64 m10], .agg #[.int .i64 u0, .int .i64 u1, .int .i64 u2]] w fun e w' => e = .returned (.int .i64 t) ∧ Kept w w' := fun w => by
    rw [← et]
    exact mtwice_any m0 m1 m2 m3 m4 m5 m6 m7 m8 m9 m10 u0 u1 u2 w h hb
  have htr : ∀ w, Calls Try.prog 59 #[.agg #[.int .i64 m0, .int .i64 m1, .int .i64 m2, .int .i64 m3, .int .i64 m4, .int .i64 m5, .int .i64 m6, .int .i64 m7, .int .i64 m8, .int .i64 m9, .int .i64 m10]] w fun e w' => e = .returned (.int .i64 r) ∧ Kept w w' := fun w => by
    rw [← er]
    exact mtr0_any m0 m1 m2 m3 m4 m5 m6 m7 m8 m9 m10 w (by omega)
  have hinv : ∀ w, Calls Try.prog 36 #[.int .i64 n, .int .i64 1] w fun e w' => e = .returned (.tuple #[.agg #[.int .i64 (inverseS n 1).lo, .int .i64 (inverseS n 1).hi], .int .i64 0]) ∧ Kept w w' := fun w => by
    have := spanInv_any n 1 w
    rwa [inv1_ok (by omega)] at this
  have HDU := Lib.hid hdu
  have HDD := Lib.hid hdd
  have HTW := Lib.hid htw
  have HTR := Lib.hid htr
  have hk3 : k = 0 ∨ k = 1 ∨ k = 2 := by omega
  clear hdu hdd htw htr h hb h0 hk k1 k2 q1 q2 q3 q4 q5 q6 q7 q8 q9 q10 q11 c1 c2 c3 c4 c5 c6
  rcases hk3 with rfl | rfl | rfl
  · have e : termS ⟨m0, m1, m2, m3, m4, m5, m6, m7, m8, m9, m10⟩ u0 u1 u2 0 = scaleS (inverseS n 1).lo (inverseS n 1).hi m0 := by
      unfold termS
      rw [if_pos rfl, en]
    rw [e]
    obtain ⟨x, hx⟩ : ∃ x, (inverseS n 1).lo = x := ⟨_, rfl⟩
    obtain ⟨y, hy⟩ : ∃ x, (inverseS n 1).hi = x := ⟨_, rfl⟩
    rw [hx, hy] at hinv ⊢
    have HI := Lib.hid hinv
    clear hinv e hx hy en ed et er
    go_enter Try.func43, Try.ntmps43
    go_wp2_with (first | (go_at_call 17; refine (HDU.out _).mono ?_; rintro e w1 ⟨rfl, x1, rfl⟩) | (go_at_call 36; refine (HI.out _).mono ?_; rintro e w1 ⟨rfl, x2, rfl⟩) | (go_at_call 22; refine (scale_any _ _ _ _).mono ?_; rintro e w1 ⟨rfl, x3, rfl⟩))
    refine bodyPost_ret (by simp only [results, Try.results43]; go_simp; rfl) rfl ?_
    exact ⟨rfl, by (repeat (first | exact Kept.refl _ | assumption | refine Kept.alloc ?_ _ | refine Kept.ext ?_ _ | refine Kept.drew ?_ | refine Kept.drewN ?_ _))⟩
  · have e : termS ⟨m0, m1, m2, m3, m4, m5, m6, m7, m8, m9, m10⟩ u0 u1 u2 1 = overS d (3 * n) n := by
      unfold termS
      rw [if_neg (by decide), if_pos rfl, en, ← ed]
    rw [e]
    have hov : ∀ w, _ := fun w => mover_any d (3 * n) n w (by omega) (by omega) (by omega)
    obtain ⟨x, hx⟩ : ∃ x, overS d (3 * n) n = x := ⟨_, rfl⟩
    rw [hx] at hov ⊢
    have HV := Lib.hid hov
    clear hinv e hx hov en ed et er
    go_enter Try.func43, Try.ntmps43
    go_wp2_with (first | (go_at_call 17; (with_reducible refine (HDU.out _).mono ?_); rintro e w1 ⟨rfl, x1, rfl⟩) | (go_at_call 17; (with_reducible refine (HDD.out _).mono ?_); rintro e w1 ⟨rfl, x2, rfl⟩) | (go_at_call 57; refine (HV.out _).mono ?_; rintro e w1 ⟨rfl, x3, rfl⟩))
    refine bodyPost_ret (by simp only [results, Try.results43]; go_simp; rfl) rfl ?_
    exact ⟨rfl, by (repeat (first | exact Kept.refl _ | assumption | refine Kept.alloc ?_ _ | refine Kept.ext ?_ _ | refine Kept.drew ?_ | refine Kept.drewN ?_ _))⟩
  · have e : termS ⟨m0, m1, m2, m3, m4, m5, m6, m7, m8, m9, m10⟩ u0 u1 u2 2 = overS (3 * t - n * r) (24 * n * n) n := by
      unfold termS
      rw [if_neg (by decide), if_neg (by decide), en, ← et, ← er]
    rw [e]
    have hov : ∀ w, _ := fun w => mover_any (3 * t - n * r) (24 * n * n) n w (by omega) (by omega) (by omega)
    obtain ⟨x, hx⟩ : ∃ x, overS (3 * t - n * r) (24 * n * n) n = x := ⟨_, rfl⟩
    rw [hx] at hov ⊢
    have HV := Lib.hid hov
    clear hinv e hx hov en ed et er
    go_enter Try.func43, Try.ntmps43
    go_wp2_with (go_at_call 17; refine (HDU.out _).mono ?_; rintro e w1 ⟨rfl, x1, rfl⟩)
    ((first | (with_reducible refine wp_region_tail2 17 (by kernel_rfl) (by kernel_rfl) ?_) | refine wp_region_tail 17 (by kernel_rfl) (by kernel_rfl) ?_); simp only [List.take_succ_cons, List.take_zero, List.drop_succ_cons, List.drop_zero]; (repeat (go_big_quiet_step (first | (go_at_call 58; exact Calls.kept_of (HTW.out _)) | (go_at_call 59; exact Calls.kept_of (HTR.out _)) | (go_at_call 57; exact Calls.kept_of (HV.out _))))); refine wpQuiet_nil ?_; intro x9)
    go_wp2_with fail
    refine bodyPost_ret (by simp only [results, Try.results43]; go_simp; rfl) rfl ?_
    exact ⟨rfl, by (repeat (first | exact Kept.refl _ | assumption | refine Kept.alloc ?_ _ | refine Kept.ext ?_ _ | refine Kept.drew ?_ | refine Kept.drewN ?_ _))⟩
set_option maxRecDepth 100000 in
set_option maxHeartbeats 4000000 in
theorem mvec_any (u0 u1 u2 k : Int) (w : World) :
    Calls Try.prog 56 #[.agg #[.int .i64 u0, .int .i64 u1, .int .i64 u2], .int .i64 k] w fun e w' => e = .returned (.int .i64 (vecS u0 u1 u2 k)) ∧ Kept w w' := by
  cases hb : inB u0 u1 u2 384
  · have e : vecS u0 u1 u2 k = 1 := by unfold vecS; rw [hb]; rfl
    rw [e]
    have HB := Lib.hid hb
    clear hb e
    go_enter Try.func56, Try.ntmps56
    go_wp2_with (first | (go_at_call 29; refine (mnear_any _ _ _ _ _ (by omega)).mono ?_; rintro e w1 ⟨rfl, x1, rfl⟩; rw [HB.out]) | (first | (go_at_call 44; refine (mfrom_any _ _ _ _).mono ?_; rintro e w1 ⟨rfl, rfl⟩)))
    go_ret
    exact ⟨rfl, by (repeat (first | exact Kept.refl _ | assumption | refine Kept.alloc ?_ _ | refine Kept.ext ?_ _ | refine Kept.drew ?_ | refine Kept.drewN ?_ _))⟩
  cases hk : frB k 0 2
  · have e : vecS u0 u1 u2 k = 1 := by unfold vecS; rw [hb, hk]; rfl
    rw [e]
    have HB := Lib.hid hb
    have HK := Lib.hid hk
    clear hb hk e
    go_enter Try.func56, Try.ntmps56
    go_wp2_with (first | (go_at_call 29; refine (mnear_any _ _ _ _ _ (by omega)).mono ?_; rintro e w1 ⟨rfl, x1, rfl⟩; rw [HB.out]) | (go_at_call 44; refine (mfrom_any _ _ _ _).mono ?_; rintro e w1 ⟨rfl, rfl⟩; rw [HK.out]))
    go_ret
    exact ⟨rfl, by (repeat (first | exact Kept.refl _ | assumption | refine Kept.alloc ?_ _ | refine Kept.ext ?_ _ | refine Kept.drew ?_ | refine Kept.drewN ?_ _))⟩
  have e : vecS u0 u1 u2 k = if u0 = 0 ∧ u1 = 0 ∧ u2 = 0 then 11 else 0 := by unfold vecS; rw [hb, hk]; rfl
  rw [e]
  have HB := Lib.hid hb
  have HK := Lib.hid hk
  clear hb hk e
  go_enter Try.func56, Try.ntmps56
  go_wp2_with (first | (go_at_call 29; refine (mnear_any _ _ _ _ _ (by omega)).mono ?_; rintro e w1 ⟨rfl, x1, rfl⟩; rw [HB.out]) | (go_at_call 44; refine (mfrom_any _ _ _ _).mono ?_; rintro e w1 ⟨rfl, rfl⟩; rw [HK.out]))
  all_goals
    go_ret
    refine ⟨ret_int ?_, by (repeat (first | exact Kept.refl _ | assumption | refine Kept.alloc ?_ _ | refine Kept.ext ?_ _ | refine Kept.drew ?_ | refine Kept.drewN ?_ _))⟩
    simp_all
set_option maxRecDepth 100000 in
set_option maxHeartbeats 4000000 in
theorem mrdy_any (m0 m1 m2 m3 m4 m5 m6 m7 m8 m9 m10 u0 u1 u2 k : Int) (w : World) :
    Calls Try.prog 41 #[.agg #[.int .i64 m0, .int .i64 m1, .int .i64 m2, .int .i64 m3, .int .i64 m4, .int .i64 m5, .int .i64 m6, .int .i64 m7, .int .i64 m8, .int .i64 m9, .int .i64 m10], .agg #[.int .i64 u0, .int .i64 u1, .int .i64 u2], .int .i64 k] w fun e w' => e = .returned (.int .i64 (rdyS ⟨m0, m1, m2, m3, m4, m5, m6, m7, m8, m9, m10⟩ u0 u1 u2 k)) ∧ Kept w w' := by
  cases h : okM ⟨m0, m1, m2, m3, m4, m5, m6, m7, m8, m9, m10⟩
  · have e1 : rdyS ⟨m0, m1, m2, m3, m4, m5, m6, m7, m8, m9, m10⟩ u0 u1 u2 k = 1 := by unfold rdyS; rw [h]; rfl
    have e2 : vmS ⟨m0, m1, m2, m3, m4, m5, m6, m7, m8, m9, m10⟩ = 1 := by unfold vmS; rw [h]; rfl
    rw [e1]
    have H := Lib.hid e2
    clear h e1 e2
    go_enter Try.func41, Try.ntmps41
    go_wp2_with (go_at_call 28; refine (mval_any _ _ _ _ _ _ _ _ _ _ _ _).mono ?_; rintro e w1 ⟨rfl, x1, rfl⟩; rw [H.out])
    go_ret
    exact ⟨rfl, by (repeat (first | exact Kept.refl _ | assumption | refine Kept.alloc ?_ _ | refine Kept.ext ?_ _ | refine Kept.drew ?_ | refine Kept.drewN ?_ _))⟩
  · have e1 : rdyS ⟨m0, m1, m2, m3, m4, m5, m6, m7, m8, m9, m10⟩ u0 u1 u2 k = vecS u0 u1 u2 k := by unfold rdyS; rw [h]; rfl
    have e2 : vmS ⟨m0, m1, m2, m3, m4, m5, m6, m7, m8, m9, m10⟩ = 0 := by unfold vmS; rw [h]; rfl
    rw [e1]
    have H := Lib.hid e2
    clear h e1 e2
    go_enter Try.func41, Try.ntmps41
    go_wp2_with (first | (go_at_call 28; refine (mval_any _ _ _ _ _ _ _ _ _ _ _ _).mono ?_; rintro e w1 ⟨rfl, x1, rfl⟩; rw [H.out]) | (go_at_call 56; refine (mvec_any _ _ _ _ _).mono ?_; rintro e w1 ⟨rfl, x2, rfl⟩))
    go_ret
    exact ⟨rfl, by (repeat (first | exact Kept.refl _ | assumption | refine Kept.alloc ?_ _ | refine Kept.ext ?_ _ | refine Kept.drew ?_ | refine Kept.drewN ?_ _))⟩
theorem rdy_0 {m : Mo} {u0 u1 u2 k : Int} (h : rdyS m u0 u1 u2 k = 0) : okM m = true ∧ inB u0 u1 u2 384 = true ∧ frB k 0 2 = true ∧ ¬ (u0 = 0 ∧ u1 = 0 ∧ u2 = 0) := by
  unfold rdyS at h
  split at h
  · rename_i h1
    unfold vecS at h
    split at h
    · rename_i h2
      simp only [Bool.and_eq_true] at h2
      split at h
      · cases h
      · rename_i h3
        exact ⟨h1, h2.1, h2.2, h3⟩
    · cases h
  · cases h
end Go.Proofs.Ytodmdicegkjicaa

namespace Go.Proofs.Ytodmdicegkjicaa
set_option linter.unusedVariables false
set_option linter.unusedSimpArgs false
open Go.ChangeShapes Go.WideShapes Go.ChangeAt Go.RowKit
theorem alloc_at2 (w : World) (o : Obj) (n : Nat) [h : SizeIs w n] : (w.alloc o).heap[n]? = some o := by
  have e := h.eq
  subst e
  exact heap_alloc_new w o
theorem own_slice2 {w : World} {base size n : Nat} {e : TypeId} {v : Value} {xs : List Value} (h : w.ownsRow base e size v n xs) : ∃ A cp, v = .slice A n cp := by
  rcases h.2 with ⟨rfl, rfl⟩ | ⟨g, cap, cur, rfl, -⟩
  · exact ⟨_, _, rfl⟩
  · exact ⟨_, _, rfl⟩
theorem rowC_one {c : Nat} {f : Nat → Nat → Int} {n : Nat} : ∀ u ∈ rowC c f n, u.oneCell' = true := by
  induction n with
  | zero => simp [rowC]
  | succ n ih =>
    intro u hu
    unfold rowC at hu
    rw [List.mem_append] at hu
    rcases hu with hu | hu
    · exact ih u hu
    · simp only [List.mem_map] at hu
      obtain ⟨j, -, rfl⟩ := hu
      rfl
theorem rowC_cut {c : Nat} {f : Nat → Nat → Int} {n j : Nat} {u : Value} (hc : 0 < c) (h : (rowC c f n)[j]? = some u) : j / c < n ∧ j % c < c ∧ u = .int .i64 (f (j / c) (j % c)) := by
  have hl : j < n * c := by
    have := (List.getElem?_eq_some_iff.1 h).1
    rwa [rowC_len] at this
  have h1 : j / c < n := (Nat.div_lt_iff_lt_mul hc).2 hl
  have h2 : j % c < c := Nat.mod_lt _ hc
  have h3 := rowC_get c f h1 h2
  rw [show j / c * c + j % c = j by rw [Nat.mul_comm]; exact Nat.div_add_mod j c] at h3
  rw [h] at h3
  exact ⟨h1, h2, Option.some.inj h3⟩
/-- The same run of an append whose source is a list that can be read. -/
theorem run_append_rows {P : Program} {w : World} (base : Nat) (t ty e : TypeId) (i : TypeInfo) (z : Value) (c bytes : Nat) (ht : P.underlying t = some (.slice e)) (hi : P.info? e = some i) (hz : i.zero = some z)
    (hsize : i.size = c) (hby : i.bytes = bytes) (hzs : z.cells.size = c) (hc : 0 < c) (v : Value) (n : Nat) (xs : List Value) (hown : w.ownsRow base e c v n xs)
    (A : Option Addr) (m cp : Nat) (f : Nat → Nat → Int) (hr : RowsAt w A m c f) (h63 : n + m ≤ maxLen) (hbytes : (n + m) * bytes ≤ 140737488355328) (hbase : base ≤ w.heap.size) :
    ∃ v' w', (Builtin.append_ #[t, t] ty #[v, .slice A m cp]).run P w = .ok v' w' ∧ w'.ownsRow base e c v' (n + m) (xs ++ rowC c f m) ∧ w.grownBy w' v.ownBlock ∧ (v'.ownBlock = v.ownBlock ∨ v'.ownBlock = some w.heap.size) := by
  rcases A with _ | ad
  · have hm : m = 0 := by
      rcases Nat.eq_zero_or_pos m with h0 | h0
      · exact h0
      · obtain ⟨b, off, h, -⟩ := hr h0
        cases h
    subst hm
    refine ⟨v, w, ?_, by simpa [rowC] using hown, World.grownBy.refl w _, .inl rfl⟩
    rcases hown.2 with ⟨rfl, rfl⟩ | ⟨g, cap, cur, rfl, -, -, hnc, -⟩
    · simp [Builtin.append_, run_underlying ht, sizeOf, typeInfo, hi, Builtin.lenOf, Builtin.firstCells]
    · simp [Builtin.append_, run_underlying ht, sizeOf, typeInfo, hi, Builtin.lenOf, Builtin.firstCells, hnc, storeCells]
  · have hcells : ∀ j u, (rowC c f m)[j]? = some u → w.cell? (ad.add j) = some u := by
      intro j u hu
      obtain ⟨h1, h2, rfl⟩ := rowC_cut hc hu
      obtain ⟨b, off, h, -, hcell⟩ := hr (Nat.lt_of_le_of_lt (Nat.zero_le _) h1)
      injection h with h
      subst h
      have := (hcell _ h1 _ h2).1
      rw [show off + j / c * c + j % c = off + j by rw [Nat.add_assoc, Nat.mul_comm, Nat.div_add_mod]] at this
      have e : (Addr.mk b off none).add j = ⟨b, off + j, none⟩ := by
        unfold Addr.add
        by_cases h0 : j = 0
        · subst h0; simp
        · rw [if_neg h0]
      rw [e]
      exact this
    obtain ⟨v', w', h1, h2, h3, -, h4⟩ := run_append_own_at (P := P) w base t ty e i z c bytes ht hi hz hsize hby hzs hc v n xs hown ad m cp (rowC c f m) (rowC_len c f m) hcells rowC_one h63 hbytes hbase
    exact ⟨v', w', h1, h2, h3, h4⟩
theorem rowC_congr {c : Nat} {f g : Nat → Nat → Int} : ∀ {n : Nat}, (∀ k, k < n → ∀ j, j < c → f k j = g k j) → rowC c f n = rowC c g n
  | 0, _ => rfl
  | n + 1, h => by
    unfold rowC
    rw [rowC_congr fun k hk j hj => h k (by omega) j hj]
    congr 1
    exact List.map_congr_left fun j hj => by rw [h n (by omega) j (List.mem_range.1 hj)]
section
variable {w w' : World} {base g n cap c : Nat} {e : TypeId} {f : Nat → Nat → Int}
theorem own_ne {T : TypeId} {cs : Array Value} {fr : Nat × Nat} {size k : Nat} {v : Value} {xs : List Value} (h : w.ownsRow base e size v n xs) (hk : w.heap[k]? = some (.cells cs T fr)) (hT : T ≠ e) : some k ≠ v.ownBlock := by
  rcases h.2 with ⟨rfl, -⟩ | ⟨g', cp, cur, rfl, -, hg, -⟩
  · intro q; cases q
  · intro q
    simp only [Value.ownBlock, Option.some.injEq] at q
    subst q
    rw [hk] at hg
    simp only [Option.some.injEq, Obj.cells.injEq] at hg
    exact hT hg.2.1
theorem own_keepsB {k : Nat} {v : Value} {xs : List Value} {T : TypeId} {cs : Array Value} (h : w.ownsRow base e c v n xs) (hg : w.grownBy w' v.ownBlock) (hk : w.heap[k]? = some (.cells cs T (0, 0))) (hT : T ≠ e) : w'.heap[k]? = some (.cells cs T (0, 0)) := by
  rw [hg.block k (Array.getElem?_eq_some_iff.1 hk).1 (own_ne h hk hT)]
  exact hk
end
end Go.Proofs.Ytodmdicegkjicaa

