/- Contracts: greatest common divisors, fractions in lowest terms, of the program and of the reference. Conditions: those of each theorem. -/
import Derived.Test.YtjadpehpempjoaaTail
import Derived.Test.YtjadpehpempjoaaMem
namespace Go.Proofs.Ytjadpehpempjoaa
set_option linter.unusedVariables false
set_option linter.unusedSimpArgs false
open Go.RowKit
/-- A fraction in lowest terms. -/
def frN (n d : Int) : Int := (if d < 0 then -n else n) / (Nat.gcd n.natAbs d.natAbs : Int)
def frD (n d : Int) : Int := (d.natAbs : Int) / (Nat.gcd n.natAbs d.natAbs : Int)
theorem gcd_any (a b : Int) (w : World) (h : 0 ≤ a ∧ 0 ≤ b ∧ a ≤ 9223372036854775807 ∧ b ≤ 9223372036854775807) :
    Calls Try.prog 32 #[.int .i64 a, .int .i64 b] w fun e w' => e = .returned (.int .i64 (Nat.gcd a.natAbs b.natAbs : Int)) ∧ Kept w w' := by
  obtain ⟨a0, rfl⟩ := Int.eq_ofNat_of_zero_le h.1
  obtain ⟨b0, rfl⟩ := Int.eq_ofNat_of_zero_le h.2.1
  obtain ⟨-, -, h1, h2⟩ := h
  simp only [Int.natAbs_natCast]
  go_enter Try.func32, Try.ntmps32
  go_wp2
  go_loopw [0, 1] (fun a b wr => ∃ p q : Nat, a = .int .i64 p ∧ b = .int .i64 q ∧ Nat.gcd p q = Nat.gcd a0 b0 ∧ p ≤ 9223372036854775807 ∧ q ≤ 9223372036854775807 ∧ Kept w wr) (fun _ b _ => (intOf b).toNat)
  case atStart => exact ⟨a0, b0, rfl, rfl, rfl, by omega, by omega, by (repeat (first | exact Kept.refl _ | assumption | refine Kept.alloc ?_ _ | refine Kept.ext ?_ _ | refine Kept.drew ?_ | refine Kept.drewN ?_ _))⟩
  case round =>
    obtain ⟨p, q, rfl, rfl, hg, hp, hq, x1, rfl⟩ := hrel
    by_cases h0 : q = 0
    · have hz : (q : Int) = 0 := by omega
      have HG := Lib.hid hg
      clear hg
      go_wp2
      go_ret
      refine ⟨?_, by (repeat (first | exact Kept.refl _ | assumption | refine Kept.alloc ?_ _ | refine Kept.ext ?_ _ | refine Kept.drew ?_ | refine Kept.drewN ?_ _))⟩
      rw [← HG.out, h0, Nat.gcd_zero_right]; trivial
    · have f1 : ((q : Int) == 0) = false := beq_eq_false_iff_ne.2 (by omega)
      have HG := Lib.hid hg
      clear hg
      go_wp2
      ((first | (with_reducible refine wp_region_kept2 (by kernel_rfl) (by kernel_rfl) ?_) | refine wp_region_kept (by kernel_rfl) (by kernel_rfl) ?_); (repeat (go_big_quiet_step (first | fail))); refine wpQuiet_nil ?_; intro x)
      go_wp2
      refine ⟨⟨q, p % q, rfl, ?_, ?_, by omega, ?_, by (repeat (first | exact Kept.refl _ | assumption | refine Kept.alloc ?_ _ | refine Kept.ext ?_ _ | refine Kept.drew ?_ | refine Kept.drewN ?_ _))⟩, ?_⟩
      · rw [Int.natCast_emod]
      · rw [← HG.out, Nat.gcd_comm q, ← Nat.gcd_rec, Nat.gcd_comm]
      · have := Nat.mod_lt p (show 0 < q by omega)
        omega
      · have := Nat.mod_lt p (show 0 < q by omega)
        rw [← Int.natCast_emod]
        simp only [intOf]
        omega
theorem fr_div {n g : Int} (hg : 0 < g) (h : g ∣ n) : n.tdiv g = n / g ∧ n.tdiv (-g) = (-n) / g := by
  obtain ⟨k, rfl⟩ := h
  have e1 : (g * k).tdiv g = k := Int.mul_tdiv_cancel_left k (by omega)
  have e2 : (g * k) / g = k := Int.mul_ediv_cancel_left k (by omega)
  have e3 : -(g * k) / g = -k := by
    rw [← Int.mul_neg]
    exact Int.mul_ediv_cancel_left (-k) (by omega)
  refine ⟨by rw [e1, e2], ?_⟩
  rw [Int.tdiv_neg, e1, e3]
theorem fr_bd {n g : Int} (hg : 0 < g) (hn : -4611686018427387904 ≤ n ∧ n ≤ 4611686018427387904) : -4611686018427387904 ≤ n / g ∧ n / g ≤ 4611686018427387904 := by
  constructor
  · rw [Int.le_ediv_iff_mul_le hg]
    have : (4611686018427387904 : Int) * 1 ≤ 4611686018427387904 * g := Int.mul_le_mul_of_nonneg_left (by omega) (by decide)
    rw [show (-4611686018427387904 : Int) * g = -(4611686018427387904 * g) by rw [Int.neg_mul]]
    omega
  · have := Int.ediv_le_ediv hg hn.2
    have h2 : (4611686018427387904 : Int) / g ≤ 4611686018427387904 := Int.ediv_le_self _ (by decide)
    omega
theorem g_pos {n d : Int} (hd : d ≠ 0) : 0 < (Nat.gcd n.natAbs d.natAbs : Int) ∧ (Nat.gcd n.natAbs d.natAbs : Int) ∣ n ∧ (Nat.gcd n.natAbs d.natAbs : Int) ∣ d := by
  refine ⟨?_, ?_, ?_⟩
  · have := Nat.gcd_pos_of_pos_right n.natAbs (show 0 < d.natAbs by omega)
    omega
  · exact Int.ofNat_dvd_left.2 (Nat.gcd_dvd_left _ _)
  · exact Int.ofNat_dvd_left.2 (Nat.gcd_dvd_right _ _)
set_option maxRecDepth 100000 in
theorem fraction_any (n d : Int) (w : World) (hn : -4611686018427387904 ≤ n ∧ n ≤ 4611686018427387904) (hd : d ≠ 0 ∧ -4611686018427387904 ≤ d ∧ d ≤ 4611686018427387904) :
    Calls Try.prog 26 #[.int .i64 n, .int .i64 d] w fun e w' => e = .returned (.agg #[.int .i64 (frN n d), .int .i64 (frD n d)]) ∧ Kept w w' := by
  obtain ⟨g0, g1, g2⟩ := g_pos (n := n) hd.1
  have hF1 : frN n d = (if d < 0 then -n else n) / (Nat.gcd n.natAbs d.natAbs : Int) := rfl
  have hF2 : frD n d = (d.natAbs : Int) / (Nat.gcd n.natAbs d.natAbs : Int) := rfl
  by_cases hs : d < 0
  · rw [if_pos hs, ← (fr_div g0 (Int.dvd_neg.2 g1)).1] at hF1
    rw [show (d.natAbs : Int) = -d by omega, ← (fr_div g0 (Int.dvd_neg.2 g2)).1] at hF2
    have q1 := fr_bd g0 (show -4611686018427387904 ≤ -n ∧ -n ≤ 4611686018427387904 by omega)
    have q2 := fr_bd g0 (show -4611686018427387904 ≤ -d ∧ -d ≤ 4611686018427387904 by omega)
    rw [← (fr_div g0 (Int.dvd_neg.2 g1)).1] at q1
    rw [← (fr_div g0 (Int.dvd_neg.2 g2)).1] at q2
    have hm : max (-n) n = (n.natAbs : Int) := by omega
    have hd2 : -d = (d.natAbs : Int) := by omega
    rw [Int.neg_tdiv] at q1 q2 hF1 hF2
    rw [hF1, hF2]
    have f1 : ((Nat.gcd n.natAbs d.natAbs : Int) == 0) = false := beq_eq_false_iff_ne.2 (by omega)
    have hgc : ∀ w, Calls Try.prog 32 #[.int .i64 (n.natAbs : Int), .int .i64 (-d)] w fun e w' => e = .returned (.int .i64 (Nat.gcd n.natAbs d.natAbs : Int)) ∧ Kept w w' := by
      intro w
      have := gcd_any (n.natAbs : Int) (-d) w (by omega)
      rwa [hd2, Int.natAbs_natCast, Int.natAbs_natCast, ← hd2] at this
    have HG := Lib.hid hgc
    generalize hgg : (Nat.gcd n.natAbs d.natAbs : Int) = g at *
    have gb : g ≤ 4611686018427387904 := by
      have := Int.le_of_dvd (show 0 < -d by omega) (Int.dvd_neg.2 g2)
      omega
    clear hF1 hF2 hgc g1 g2 hd2 hgg
    go_enter Try.func26, Try.ntmps26
    go_wp2_with (go_at_call 32; refine (HG.out _).mono ?_; rintro e w1 ⟨rfl, x, rfl⟩)
    ((first | (with_reducible refine wp_region_tail2 7 (by kernel_rfl) (by kernel_rfl) ?_) | refine wp_region_tail 7 (by kernel_rfl) (by kernel_rfl) ?_); simp only [List.take_succ_cons, List.take_zero, List.drop_succ_cons, List.drop_zero]; (repeat (go_big_quiet_step (first | fail))); refine wpQuiet_nil ?_; intro x)
    go_wp2
    refine bodyPost_ret (by simp only [results, Try.results26]; go_simp; rfl) rfl ?_
    exact ⟨rfl, by (repeat (first | exact Kept.refl _ | assumption | refine Kept.alloc ?_ _ | refine Kept.ext ?_ _ | refine Kept.drew ?_ | refine Kept.drewN ?_ _))⟩
  · rw [if_neg hs, ← (fr_div g0 g1).1] at hF1
    rw [show (d.natAbs : Int) = d by omega, ← (fr_div g0 g2).1] at hF2
    have q1 := fr_bd g0 hn
    have q2 := fr_bd g0 hd.2
    rw [← (fr_div g0 g1).1] at q1
    rw [← (fr_div g0 g2).1] at q2
    have hm : max n (-n) = (n.natAbs : Int) := by omega
    have hd2 : d = (d.natAbs : Int) := by omega
    rw [hF1, hF2]
    have f1 : ((Nat.gcd n.natAbs d.natAbs : Int) == 0) = false := beq_eq_false_iff_ne.2 (by omega)
    have hgc : ∀ w, Calls Try.prog 32 #[.int .i64 (n.natAbs : Int), .int .i64 d] w fun e w' => e = .returned (.int .i64 (Nat.gcd n.natAbs d.natAbs : Int)) ∧ Kept w w' := by
      intro w
      have := gcd_any (n.natAbs : Int) d w (by omega)
      rwa [Int.natAbs_natCast] at this
    have HG := Lib.hid hgc
    have f2 : decide (d < 0) = false := decide_eq_false hs
    generalize hgg : (Nat.gcd n.natAbs d.natAbs : Int) = g at *
    have gb : g ≤ 4611686018427387904 := by
      have := Int.le_of_dvd (show 0 < d by omega) g2
      omega
    clear hF1 hF2 hgc g1 g2 hd2 hgg
    go_enter Try.func26, Try.ntmps26
    go_wp2_with (go_at_call 32; refine (HG.out _).mono ?_; rintro e w1 ⟨rfl, x, rfl⟩)
    ((first | (with_reducible refine wp_region_tail2 7 (by kernel_rfl) (by kernel_rfl) ?_) | refine wp_region_tail 7 (by kernel_rfl) (by kernel_rfl) ?_); simp only [List.take_succ_cons, List.take_zero, List.drop_succ_cons, List.drop_zero]; (repeat (go_big_quiet_step (first | fail))); refine wpQuiet_nil ?_; intro x)
    go_wp2
    refine bodyPost_ret (by simp only [results, Try.results26]; go_simp; rfl) rfl ?_
    exact ⟨rfl, by (repeat (first | exact Kept.refl _ | assumption | refine Kept.alloc ?_ _ | refine Kept.ext ?_ _ | refine Kept.drew ?_ | refine Kept.drewN ?_ _))⟩
end Go.Proofs.Ytjadpehpempjoaa
