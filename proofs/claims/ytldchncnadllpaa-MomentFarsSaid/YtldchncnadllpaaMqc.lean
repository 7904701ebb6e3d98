/- Contracts: quotients in fixed point, of the program and of the reference. Conditions: those of each theorem. -/
import Derived.Test.YtldchncnadllpaaMq
import Derived.Test.YtldchncnadllpaaMem
namespace Go.Proofs.Ytldchncnadllpaa
set_option linter.unusedVariables false
set_option linter.unusedSimpArgs false
open Go.ChangeShapes Go.WideShapes Go.ChangeAt Go.RowKit
set_option maxRecDepth 100000 in
set_option maxHeartbeats 4000000 in
theorem mquo_any (num : Int) (d : Nat) (w : World) (hn : -4611686018427387904 ≤ num ∧ num ≤ 4611686018427387904) (hd : 1 ≤ d ∧ d ≤ 4611686018427387904) :
    Calls Try.prog 65 #[.int .i64 num, .int .i64 d] w fun e w' => ∃ x y b, e = .returned (.tuple #[.agg #[.int .i64 x, .int .i64 y], .bool b]) ∧ Kept w w' ∧ ((b = true ∧ qmS num d = ⟨x, y, 0⟩) ∨ (b = false ∧ qmS num d = ⟨0, 0, 4⟩)) := by
  obtain ⟨a, ha⟩ : ∃ a, num.natAbs = a := ⟨_, rfl⟩
  have hc := qm_cases ha (show 0 < d by omega)
  have e1 : max num (-num) = (a : Int) := by omega
  have na : a < 9223372036854775808 := by omega
  have hbig := hi_big (P := a * 1048576) (show 0 < d by omega)
  have hsml := hi_small (P := a * 1048576) (d := d)
  have hupd : upN (a * 1048576) d = a * 1048576 / d + (if a * 1048576 % d = 0 then 0 else 1) := rfl
  have hm : ∀ w, Calls Try.prog 68 #[.int .u64 a, .int .u64 1048576] w fun e w' => e = .returned (.tuple #[.int .u64 (a * 1048576 / 18446744073709551616 : Nat), .int .u64 (a * 1048576 % 18446744073709551616 : Nat)]) ∧ w = w' :=
    fun w => mul64_any a 1048576 w (by omega) (by omega)
  obtain ⟨P, hP⟩ : ∃ P, a * 1048576 = P := ⟨_, rfl⟩
  rw [hP] at hc hbig hsml hm hupd
  obtain ⟨hh, hhh⟩ : ∃ x, P / 18446744073709551616 = x := ⟨_, rfl⟩
  obtain ⟨ll, hll⟩ : ∃ x, P % 18446744073709551616 = x := ⟨_, rfl⟩
  have hlb : ll < 18446744073709551616 := by omega
  have hhb : hh < 18446744073709551616 := by omega
  rw [hhh, hll] at hm
  rw [hhh] at hbig hsml
  have hdv : hh < d → ∀ w, Calls Try.prog 73 #[.int .u64 hh, .int .u64 ll, .int .u64 d] w fun e w' => e = .returned (.tuple #[.int .u64 (P / d : Nat), .int .u64 (P % d : Nat)]) ∧ Kept w w' := fun h w => by
    have e : P = hh * 18446744073709551616 + ll := by omega
    rw [e]
    exact div64_any hh ll d w h (by omega) hlb
  have hrd := Nat.mod_lt P (show 0 < d by omega)
  obtain ⟨q, hq⟩ : ∃ x, P / d = x := ⟨_, rfl⟩
  obtain ⟨r, hr⟩ : ∃ x, P % d = x := ⟨_, rfl⟩
  rw [hq, hr] at hdv
  rw [hq] at hsml hc
  rw [hq, hr] at hupd
  rw [hr] at hrd
  have HM := Lib.hid hm
  have HC := Lib.hid hc
  clear hm hP hhh hll hq hr ha hc
  obtain ⟨d0, d1⟩ := hd
  by_cases c1 : d ≤ hh
  · have g1 : decide ((d : Int) ≤ hh) = true := decide_eq_true (by omega)
    have hb := hbig c1
    clear hbig hsml hdv hupd
    go_enter Try.func65, Try.ntmps65
    go_wp2_with (go_at_call 68; refine (HM.out _).mono ?_; rintro e w1 ⟨rfl, rfl⟩)
    refine bodyPost_ret (by simp only [results, Try.results65]; go_simp; rfl) rfl ?_
    refine ⟨_, _, _, rfl, by (repeat (first | exact Kept.refl _ | assumption | refine Kept.alloc ?_ _ | refine Kept.ext ?_ _ | refine Kept.drew ?_ | refine Kept.drewN ?_ _)), .inr ⟨rfl, ?_⟩⟩
    rcases HC.out with ⟨h1, -⟩ | ⟨-, h2⟩
    · omega
    · exact h2
  have g1 : decide ((d : Int) ≤ hh) = false := decide_eq_false (by omega)
  have hql := hsml (by omega)
  have HD := Lib.hid (hdv (by omega))
  have HU := Lib.hid hupd
  clear hbig hsml hdv hupd
  by_cases c2 : 1099511627776 < q
  · have g2 : decide ((1099511627776 : Int) < q) = true := decide_eq_true (by omega)
    go_enter Try.func65, Try.ntmps65
    go_wp2_with (first | (go_at_call 68; refine (HM.out _).mono ?_; rintro e w1 ⟨rfl, rfl⟩) | (go_at_call 73; refine (HD.out _).mono ?_; rintro e w1 ⟨rfl, x2, rfl⟩))
    refine bodyPost_ret (by simp only [results, Try.results65]; go_simp; rfl) rfl ?_
    refine ⟨_, _, _, rfl, by (repeat (first | exact Kept.refl _ | assumption | refine Kept.alloc ?_ _ | refine Kept.ext ?_ _ | refine Kept.drew ?_ | refine Kept.drewN ?_ _)), .inr ⟨rfl, ?_⟩⟩
    have hu := HU.out
    rcases HC.out with ⟨h1, -⟩ | ⟨-, h2⟩
    · split at hu <;> omega
    · exact h2
  have g2 : decide ((1099511627776 : Int) < q) = false := decide_eq_false (by omega)
  by_cases c3 : r = 0
  · subst c3
    by_cases c4 : num < 0
    · have g4 : decide (num < 0) = true := decide_eq_true c4
      have hv : validB (-(q : Int)) (-(q : Int)) = true := decide_eq_true (by omega)
      go_enter Try.func65, Try.ntmps65
      go_wp2_with (first | (go_at_call 68; refine (HM.out _).mono ?_; rintro e w1 ⟨rfl, rfl⟩) | (go_at_call 73; refine (HD.out _).mono ?_; rintro e w1 ⟨rfl, x2, rfl⟩))
      ((first | (with_reducible refine wp_region_tail2 3 (by kernel_rfl) (by kernel_rfl) ?_) | refine wp_region_tail 3 (by kernel_rfl) (by kernel_rfl) ?_); simp only [List.take_succ_cons, List.take_zero, List.drop_succ_cons, List.drop_zero]; (repeat (go_big_quiet_step (first | (go_at_call 28; exact Calls.kept_of (valid_any _ _ _))))); refine wpQuiet_nil ?_; intro x)
      go_wp2_with fail
      refine bodyPost_ret (by simp only [results, Try.results65]; go_simp; rfl) rfl ?_
      refine ⟨_, _, _, rfl, by (repeat (first | exact Kept.refl _ | assumption | refine Kept.alloc ?_ _ | refine Kept.ext ?_ _ | refine Kept.drew ?_ | refine Kept.drewN ?_ _)), .inl ⟨rfl, ?_⟩⟩
      have hu := HU.out
      simp only [if_true, Nat.add_zero] at hu
      rcases HC.out with ⟨-, h2⟩ | ⟨h1, -⟩
      · rw [h2, if_neg (by omega), hu]
      · omega
    · have g4 : decide (num < 0) = false := decide_eq_false c4
      have hv : validB (q : Int) (q : Int) = true := decide_eq_true (by omega)
      go_enter Try.func65, Try.ntmps65
      go_wp2_with (first | (go_at_call 68; refine (HM.out _).mono ?_; rintro e w1 ⟨rfl, rfl⟩) | (go_at_call 73; refine (HD.out _).mono ?_; rintro e w1 ⟨rfl, x2, rfl⟩))
      ((first | (with_reducible refine wp_region_tail2 3 (by kernel_rfl) (by kernel_rfl) ?_) | refine wp_region_tail 3 (by kernel_rfl) (by kernel_rfl) ?_); simp only [List.take_succ_cons, List.take_zero, List.drop_succ_cons, List.drop_zero]; (repeat (go_big_quiet_step (first | (go_at_call 28; exact Calls.kept_of (valid_any _ _ _))))); refine wpQuiet_nil ?_; intro x)
      go_wp2_with fail
      refine bodyPost_ret (by simp only [results, Try.results65]; go_simp; rfl) rfl ?_
      refine ⟨_, _, _, rfl, by (repeat (first | exact Kept.refl _ | assumption | refine Kept.alloc ?_ _ | refine Kept.ext ?_ _ | refine Kept.drew ?_ | refine Kept.drewN ?_ _)), .inl ⟨rfl, ?_⟩⟩
      have hu := HU.out
      simp only [if_true, Nat.add_zero] at hu
      rcases HC.out with ⟨-, h2⟩ | ⟨h1, -⟩
      · rw [h2, if_pos (by omega), hu]
      · omega
  · have g3 : decide ((0 : Int) < r) = true := decide_eq_true (by omega)
    obtain ⟨Q, hQ⟩ : ∃ Q : Int, (q : Int) = Q := ⟨_, rfl⟩
    obtain ⟨U, hU⟩ : ∃ U : Int, Q + 1 = U := ⟨_, rfl⟩
    have hd2 := HD.out
    rw [hQ] at hd2 g2
    have HD2 := Lib.hid hd2
    have HQ := Lib.hid hQ
    have HUU := Lib.hid hU
    have q0 : 0 ≤ Q := by omega
    have q1 : Q ≤ 1099511627776 := by omega
    obtain ⟨b, hb⟩ : ∃ b, validB Q U = b := ⟨_, rfl⟩
    have hb2 : validB (-U) (-Q) = b := by
      rw [← hb]
      unfold validB
      by_cases h : q + 1 ≤ 1099511627776
      · rw [decide_eq_true (by omega), decide_eq_true (by omega)]
      · rw [decide_eq_false (by omega), decide_eq_false (by omega)]
    have hv3 : (b = true ∧ q + 1 ≤ 1099511627776) ∨ (b = false ∧ 1099511627776 < q + 1) := by
      rw [← hb]
      unfold validB
      by_cases h : q + 1 ≤ 1099511627776
      · left; exact ⟨decide_eq_true (by omega), h⟩
      · right; exact ⟨decide_eq_false (by omega), by omega⟩
    have HV3 := Lib.hid hv3
    clear hv3 hd2 hQ HD
    by_cases c4 : num < 0
    · have g4 : decide (num < 0) = true := decide_eq_true c4
      have HB2 := Lib.hid hb2
      clear hb hb2
      go_enter Try.func65, Try.ntmps65
      go_wp2_with (first | (go_at_call 68; refine (HM.out _).mono ?_; rintro e w1 ⟨rfl, rfl⟩) | (go_at_call 73; refine (HD2.out _).mono ?_; rintro e w1 ⟨rfl, x2, rfl⟩))
      ((first | (with_reducible refine wp_region_tail2 3 (by kernel_rfl) (by kernel_rfl) ?_) | refine wp_region_tail 3 (by kernel_rfl) (by kernel_rfl) ?_); simp only [List.take_succ_cons, List.take_zero, List.drop_succ_cons, List.drop_zero]; (repeat (go_big_quiet_step (first | (go_at_call 28; exact Calls.kept_of (valid_any _ _ _))))); refine wpQuiet_nil ?_; intro x)
      go_wp2_with fail
      refine bodyPost_ret (by simp only [results, Try.results65]; go_simp; rfl) rfl ?_
      refine ⟨_, _, b, by rw [HB2.out], by (repeat (first | exact Kept.refl _ | assumption | refine Kept.alloc ?_ _ | refine Kept.ext ?_ _ | refine Kept.drew ?_ | refine Kept.drewN ?_ _)), ?_⟩
      have hu := HU.out
      have hq9 := HQ.out
      have hu9 := HUU.out
      rw [if_neg c3] at hu
      rcases HC.out with ⟨h1, h2⟩ | ⟨h1, h2⟩
      · rcases HV3.out with ⟨h3, h4⟩ | ⟨h3, h4⟩
        · exact .inl ⟨h3, by rw [h2, if_neg (by omega), hu, show ((q + 1 : Nat) : Int) = U by omega, hq9]⟩
        · omega
      · rcases HV3.out with ⟨h3, h4⟩ | ⟨h3, h4⟩
        · omega
        · exact .inr ⟨h3, h2⟩
    · have g4 : decide (num < 0) = false := decide_eq_false c4
      have HB := Lib.hid hb
      clear hb hb2
      go_enter Try.func65, Try.ntmps65
      go_wp2_with (first | (go_at_call 68; refine (HM.out _).mono ?_; rintro e w1 ⟨rfl, rfl⟩) | (go_at_call 73; refine (HD2.out _).mono ?_; rintro e w1 ⟨rfl, x2, rfl⟩))
      ((first | (with_reducible refine wp_region_tail2 3 (by kernel_rfl) (by kernel_rfl) ?_) | refine wp_region_tail 3 (by kernel_rfl) (by kernel_rfl) ?_); simp only [List.take_succ_cons, List.take_zero, List.drop_succ_cons, List.drop_zero]; (repeat (go_big_quiet_step (first | (go_at_call 28; exact Calls.kept_of (valid_any _ _ _))))); refine wpQuiet_nil ?_; intro x)
      go_wp2_with fail
      refine bodyPost_ret (by simp only [results, Try.results65]; go_simp; rfl) rfl ?_
      refine ⟨_, _, b, by rw [HB.out], by (repeat (first | exact Kept.refl _ | assumption | refine Kept.alloc ?_ _ | refine Kept.ext ?_ _ | refine Kept.drew ?_ | refine Kept.drewN ?_ _)), ?_⟩
      have hu := HU.out
      have hq9 := HQ.out
      have hu9 := HUU.out
      rw [if_neg c3] at hu
      rcases HC.out with ⟨h1, h2⟩ | ⟨h1, h2⟩
      · rcases HV3.out with ⟨h3, h4⟩ | ⟨h3, h4⟩
        · exact .inl ⟨h3, by rw [h2, if_pos (by omega), hu, show ((q + 1 : Nat) : Int) = U by omega, hq9]⟩
        · omega
      · rcases HV3.out with ⟨h3, h4⟩ | ⟨h3, h4⟩
        · omega
        · exact .inr ⟨h3, h2⟩
end Go.Proofs.Ytldchncnadllpaa
