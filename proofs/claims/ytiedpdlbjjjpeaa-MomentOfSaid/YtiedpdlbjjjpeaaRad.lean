/- Contracts: the greatest squared distance of a corner from a center, of the program and of the reference. No conditions but those of each theorem. -/
import Derived.Test.YtiedpdlbjjjpeaaMof
namespace Go.Proofs.Ytiedpdlbjjjpeaa
set_option linter.unusedVariables false
set_option linter.unusedSimpArgs false
open Go.ChangeShapes Go.WideShapes Go.ChangeAt Go.RowKit
attribute [local go_sem ↓] Go.wp_at_zero Go.wp_at_succ
def sqd (x y z : Int) : Int := x * x + y * y + z * z
def radF (f : Nat → Nat → Int) (c0 c1 c2 : Int) : Nat → Int
  | 0 => 0
  | k + 1 => max (max (max (radF f c0 c1 c2 k) (sqd (f k 0 - c0) (f k 1 - c1) (f k 2 - c2))) (sqd (f k 3 - c0) (f k 4 - c1) (f k 5 - c2))) (sqd (f k 6 - c0) (f k 7 - c1) (f k 8 - c2))
def radV (n : Nat) (f : Nat → Nat → Int) (c0 c1 c2 : Int) : Int := if givE n f c0 c1 c2 = 0 then radF f c0 c1 c2 n else 0
set_option maxRecDepth 100000 in
set_option maxHeartbeats 8000000 in
theorem mrad_any (A : Option Addr) (n cap : Nat) (f : Nat → Nat → Int) (c0 c1 c2 : Int) (w : World) (hn : n ≤ 9223372036854775807) (hs : RowsAt w A n 10 f) :
    Calls Try.prog 22 #[.slice A n cap, .agg #[.int .i64 c0, .int .i64 c1, .int .i64 c2]] w fun r w' => r = .returned (.tuple #[.int .i64 (radV n f c0 c1 c2), .int .i64 (givE n f c0 c1 c2)]) ∧ Kept w w' := by
  have HS := Lib.hid hs
  by_cases v0 : givE n f c0 c1 c2 = 0
  · have e : radV n f c0 c1 c2 = radF f c0 c1 c2 n := if_pos v0
    rw [e, v0]
    clear e
    obtain ⟨n0, n1, n2⟩ := givE_ok v0
    have N1 := Lib.hid n1
    have bc := inB_true n2
    have g1 : (givE n f c0 c1 c2 != 0) = false := by simpa using v0
    clear v0 n1 n2
    rcases Nat.eq_zero_or_pos n with rfl | h0
    · clear hs
      go_enter Try.func22, Try.ntmps22
      go_wp2_with fail
      refine (mcharged_any _ _ _ f _ _ _ _ (by omega) (HS.out.of (by (repeat (first | exact Kept.refl _ | assumption | refine Kept.alloc ?_ _ | refine Kept.ext ?_ _ | refine Kept.drew ?_ | refine Kept.drewN ?_ _))))).mono ?_
      rintro e w1 ⟨rfl, x0, rfl⟩
      go_wp2_with fail
      refine wp_loop_rounds 1 ?_
      rw [rounds_succ]
      go_wp2_with fail
      refine bodyPost_ret (by simp only [results, Try.results22]; go_simp; rfl) rfl ?_
      exact ⟨rfl, by (repeat (first | exact Kept.refl _ | assumption | refine Kept.alloc ?_ _ | refine Kept.ext ?_ _ | refine Kept.drew ?_ | refine Kept.drewN ?_ _))⟩
    · obtain ⟨b, off, rfl, hb, hcell⟩ := hs h0
      have HC := Lib.hid hcell
      clear hs hcell
      have LB : Lower b w.heap.size := ⟨hb⟩
      go_enter Try.func22, Try.ntmps22
      go_wp2_with fail
      refine (mcharged_any _ _ _ f _ _ _ _ (by omega) (HS.out.of (by (repeat (first | exact Kept.refl _ | assumption | refine Kept.alloc ?_ _ | refine Kept.ext ?_ _ | refine Kept.drew ?_ | refine Kept.drewN ?_ _))))).mono ?_
      rintro e w1 ⟨rfl, x0, rfl⟩
      go_wp2_with fail
      go_loopw [7, 21] (fun m i wr => ∃ k : Nat, k ≤ n ∧ i = .int .i64 k ∧ m = .int .i64 (radF f c0 c1 c2 k) ∧ Kept (ext (w.alloc (.cells #[.int .i64 c0, .int .i64 c1, .int .i64 c2] 23)) x0) wr) (fun m i _ => n - (intOf i).toNat)
      case atStart => exact ⟨0, by omega, rfl, rfl, by (repeat (first | exact Kept.refl _ | assumption | refine Kept.alloc ?_ _ | refine Kept.ext ?_ _ | refine Kept.drew ?_ | refine Kept.drewN ?_ _))⟩
      case round =>
        obtain ⟨k, hk, rfl, rfl, y, rfl⟩ := hrel
        by_cases hlt : k < n
        · have hcell := HC.out
          have cx0 := (hcell k hlt 0 (by omega)).1
          have cx1 := (hcell k hlt 1 (by omega)).1
          have cx2 := (hcell k hlt 2 (by omega)).1
          have cx3 := (hcell k hlt 3 (by omega)).1
          have cx4 := (hcell k hlt 4 (by omega)).1
          have cx5 := (hcell k hlt 5 (by omega)).1
          have cx6 := (hcell k hlt 6 (by omega)).1
          have cx7 := (hcell k hlt 7 (by omega)).1
          have cx8 := (hcell k hlt 8 (by omega)).1
          have cx9 := (hcell k hlt 9 (by omega)).1
          simp only [Nat.add_zero] at cx0
          clear hcell
          have bf := chE_bd (chE_at hlt N1.out)
          obtain ⟨v0, v1, v2, v3, v4, v5, v6, v7, v8, v9⟩ := bf
          have hr : radF f c0 c1 c2 (k + 1) = max (max (max (radF f c0 c1 c2 k) (sqd (f k 0 - c0) (f k 1 - c1) (f k 2 - c2))) (sqd (f k 3 - c0) (f k 4 - c1) (f k 5 - c2))) (sqd (f k 6 - c0) (f k 7 - c1) (f k 8 - c2)) := rfl
          unfold sqd at hr
          generalize f k 0 = p0 at cx0 v0 hr
          generalize f k 1 = p1 at cx1 v1 hr
          generalize f k 2 = p2 at cx2 v2 hr
          generalize f k 3 = p3 at cx3 v3 hr
          generalize f k 4 = p4 at cx4 v4 hr
          generalize f k 5 = p5 at cx5 v5 hr
          generalize f k 6 = p6 at cx6 v6 hr
          generalize f k 7 = p7 at cx7 v7 hr
          generalize f k 8 = p8 at cx8 v8 hr
          generalize f k 9 = q at cx9 v9 hr
          generalize radF f c0 c1 c2 k = m at hr ⊢
          have HR := Lib.hid hr
          clear hr
          go_wp2_with fail
          refine wp_loop_rounds 4 ?_
          rw [rounds_succ]
          go_wp2_with (first | (go_at_call 54; refine (mminus_any _ _ _ _ _ _ _ (by omega)).mono ?_; rintro e w1 ⟨rfl, x, rfl⟩) | (go_at_call 55; refine (mdot_any _ _ _ _ _ _ _ (by omega)).mono ?_; rintro e w1 ⟨rfl, x, rfl⟩))
          rw [rounds_succ]
          go_wp2_with (first | (go_at_call 54; refine (mminus_any _ _ _ _ _ _ _ (by omega)).mono ?_; rintro e w1 ⟨rfl, x, rfl⟩) | (go_at_call 55; refine (mdot_any _ _ _ _ _ _ _ (by omega)).mono ?_; rintro e w1 ⟨rfl, x, rfl⟩))
          rw [rounds_succ]
          go_wp2_with (first | (go_at_call 54; refine (mminus_any _ _ _ _ _ _ _ (by omega)).mono ?_; rintro e w1 ⟨rfl, x, rfl⟩) | (go_at_call 55; refine (mdot_any _ _ _ _ _ _ _ (by omega)).mono ?_; rintro e w1 ⟨rfl, x, rfl⟩))
          rw [rounds_succ]
          go_wp2_with (first | (go_at_call 54; refine (mminus_any _ _ _ _ _ _ _ (by omega)).mono ?_; rintro e w1 ⟨rfl, x, rfl⟩) | (go_at_call 55; refine (mdot_any _ _ _ _ _ _ _ (by omega)).mono ?_; rintro e w1 ⟨rfl, x, rfl⟩))
          go_roundw
          case rel => exact ⟨k + 1, by omega, by go_num, by rw [HR.out]; simp only [Int.max_assoc], by (repeat (first | exact Kept.refl _ | assumption | refine Kept.alloc ?_ _ | refine Kept.ext ?_ _ | refine Kept.drew ?_ | refine Kept.drewN ?_ _))⟩
          case measure => simp [intOf]; omega
        · obtain rfl : k = n := by omega
          go_wp2_with fail
          refine bodyPost_ret (by simp only [results, Try.results22]; go_simp; rfl) rfl ?_
          exact ⟨rfl, by (repeat (first | exact Kept.refl _ | assumption | refine Kept.alloc ?_ _ | refine Kept.ext ?_ _ | refine Kept.drew ?_ | refine Kept.drewN ?_ _))⟩
  · have e : radV n f c0 c1 c2 = 0 := if_neg v0
    rw [e]
    clear e hs
    have g1 : (givE n f c0 c1 c2 != 0) = true := by simpa using v0
    clear v0
    go_enter Try.func22, Try.ntmps22
    go_wp2_with fail
    refine (mcharged_any _ _ _ f _ _ _ _ (by omega) (HS.out.of (by (repeat (first | exact Kept.refl _ | assumption | refine Kept.alloc ?_ _ | refine Kept.ext ?_ _ | refine Kept.drew ?_ | refine Kept.drewN ?_ _))))).mono ?_
    rintro e w1 ⟨rfl, x0, rfl⟩
    go_wp2_with fail
    refine bodyPost_ret (by simp only [results, Try.results22]; go_simp; rfl) rfl ?_
    exact ⟨rfl, by (repeat (first | exact Kept.refl _ | assumption | refine Kept.alloc ?_ _ | refine Kept.ext ?_ _ | refine Kept.drew ?_ | refine Kept.drewN ?_ _))⟩
set_option maxRecDepth 100000 in
set_option maxHeartbeats 8000000 in
theorem r4rad_any (A : Option Addr) (n cap : Nat) (f : Nat → Nat → Int) (c0 c1 c2 : Int) (w : World) (hn : n ≤ 9223372036854775807) (hs : RowsAt w A n 10 f) :
    Calls Try.prog 23 #[.slice A n cap, .agg #[.int .i64 c0, .int .i64 c1, .int .i64 c2]] w fun r w' => r = .returned (.tuple #[.int .i64 (radV n f c0 c1 c2), .int .i64 (givE n f c0 c1 c2)]) ∧ Kept w w' := by
  have HS := Lib.hid hs
  by_cases v0 : givE n f c0 c1 c2 = 0
  · have e : radV n f c0 c1 c2 = radF f c0 c1 c2 n := if_pos v0
    rw [e, v0]
    clear e
    obtain ⟨n0, n1, n2⟩ := givE_ok v0
    have N1 := Lib.hid n1
    have bc := inB_true n2
    have g1 : (givE n f c0 c1 c2 != 0) = false := by simpa using v0
    clear v0 n1 n2
    rcases Nat.eq_zero_or_pos n with rfl | h0
    · clear hs
      go_enter Try.func23, Try.ntmps23
      go_wp2_with fail
      refine (r4given_any _ _ _ f _ _ _ _ (by omega) (HS.out.of (by (repeat (first | exact Kept.refl _ | assumption | refine Kept.alloc ?_ _ | refine Kept.ext ?_ _ | refine Kept.drew ?_ | refine Kept.drewN ?_ _))))).mono ?_
      rintro e w1 ⟨rfl, x0, rfl⟩
      go_wp2_with fail
      refine wp_loop_rounds 1 ?_
      rw [rounds_succ]
      go_wp2_with fail
      refine bodyPost_ret (by simp only [results, Try.results23]; go_simp; rfl) rfl ?_
      exact ⟨rfl, by (repeat (first | exact Kept.refl _ | assumption | refine Kept.alloc ?_ _ | refine Kept.ext ?_ _ | refine Kept.drew ?_ | refine Kept.drewN ?_ _))⟩
    · obtain ⟨b, off, rfl, hb, hcell⟩ := hs h0
      have HC := Lib.hid hcell
      clear hs hcell
      have LB : Lower b w.heap.size := ⟨hb⟩
      go_enter Try.func23, Try.ntmps23
      go_wp2_with fail
      refine (r4given_any _ _ _ f _ _ _ _ (by omega) (HS.out.of (by (repeat (first | exact Kept.refl _ | assumption | refine Kept.alloc ?_ _ | refine Kept.ext ?_ _ | refine Kept.drew ?_ | refine Kept.drewN ?_ _))))).mono ?_
      rintro e w1 ⟨rfl, x0, rfl⟩
      go_wp2_with fail
      go_loopw [7, 8] (fun m i wr => ∃ k : Nat, k ≤ n ∧ i = .int .i64 k ∧ m = .int .i64 (radF f c0 c1 c2 k) ∧ Kept (ext (w.alloc (.cells #[.int .i64 c0, .int .i64 c1, .int .i64 c2] 23)) x0) wr) (fun m i _ => n - (intOf i).toNat)
      case atStart => exact ⟨0, by omega, rfl, rfl, by (repeat (first | exact Kept.refl _ | assumption | refine Kept.alloc ?_ _ | refine Kept.ext ?_ _ | refine Kept.drew ?_ | refine Kept.drewN ?_ _))⟩
      case round =>
        obtain ⟨k, hk, rfl, rfl, y, rfl⟩ := hrel
        by_cases hlt : k < n
        · have hcell := HC.out
          have cx0 := (hcell k hlt 0 (by omega)).1
          have cx1 := (hcell k hlt 1 (by omega)).1
          have cx2 := (hcell k hlt 2 (by omega)).1
          have cx3 := (hcell k hlt 3 (by omega)).1
          have cx4 := (hcell k hlt 4 (by omega)).1
          have cx5 := (hcell k hlt 5 (by omega)).1
          have cx6 := (hcell k hlt 6 (by omega)).1
          have cx7 := (hcell k hlt 7 (by omega)).1
          have cx8 := (hcell k hlt 8 (by omega)).1
          have cx9 := (hcell k hlt 9 (by omega)).1
          simp only [Nat.add_zero] at cx0
          clear hcell
          have bf := chE_bd (chE_at hlt N1.out)
          obtain ⟨v0, v1, v2, v3, v4, v5, v6, v7, v8, v9⟩ := bf
          have hr : radF f c0 c1 c2 (k + 1) = max (max (max (radF f c0 c1 c2 k) (sqd (f k 0 - c0) (f k 1 - c1) (f k 2 - c2))) (sqd (f k 3 - c0) (f k 4 - c1) (f k 5 - c2))) (sqd (f k 6 - c0) (f k 7 - c1) (f k 8 - c2)) := rfl
          unfold sqd at hr
          generalize f k 0 = p0 at cx0 v0 hr
          generalize f k 1 = p1 at cx1 v1 hr
          generalize f k 2 = p2 at cx2 v2 hr
          generalize f k 3 = p3 at cx3 v3 hr
          generalize f k 4 = p4 at cx4 v4 hr
          generalize f k 5 = p5 at cx5 v5 hr
          generalize f k 6 = p6 at cx6 v6 hr
          generalize f k 7 = p7 at cx7 v7 hr
          generalize f k 8 = p8 at cx8 v8 hr
          generalize f k 9 = q at cx9 v9 hr
          generalize radF f c0 c1 c2 k = m at hr ⊢
          have HR := Lib.hid hr
          clear hr
          go_wp2_with fail
          ((first | refine wp_region_kept (by kernel_rfl) (by kernel_rfl) ?_); (repeat (go_big_quiet_step (first | (go_at_call 51; exact Calls.kept_of (r4minus_any _ _ _ _ _ _ _ (by omega))) | (go_at_call 56; exact Calls.kept_of (r4square_any _ _ _ _ (by omega)))))); refine wpQuiet_nil ?_; intro x)
          go_wp2_with fail
          go_roundw
          case rel => exact ⟨k + 1, by omega, by go_num, by rw [HR.out]; simp only [Int.max_assoc], by (repeat (first | exact Kept.refl _ | assumption | refine Kept.alloc ?_ _ | refine Kept.ext ?_ _ | refine Kept.drew ?_ | refine Kept.drewN ?_ _))⟩
          case measure => simp [intOf]; omega
        · obtain rfl : k = n := by omega
          go_wp2_with fail
          refine bodyPost_ret (by simp only [results, Try.results23]; go_simp; rfl) rfl ?_
          exact ⟨rfl, by (repeat (first | exact Kept.refl _ | assumption | refine Kept.alloc ?_ _ | refine Kept.ext ?_ _ | refine Kept.drew ?_ | refine Kept.drewN ?_ _))⟩
  · have e : radV n f c0 c1 c2 = 0 := if_neg v0
    rw [e]
    clear e hs
    have g1 : (givE n f c0 c1 c2 != 0) = true := by simpa using v0
    clear v0
    go_enter Try.func23, Try.ntmps23
    go_wp2_with fail
    refine (r4given_any _ _ _ f _ _ _ _ (by omega) (HS.out.of (by (repeat (first | exact Kept.refl _ | assumption | refine Kept.alloc ?_ _ | refine Kept.ext ?_ _ | refine Kept.drew ?_ | refine Kept.drewN ?_ _))))).mono ?_
    rintro e w1 ⟨rfl, x0, rfl⟩
    go_wp2_with fail
    refine bodyPost_ret (by simp only [results, Try.results23]; go_simp; rfl) rfl ?_
    exact ⟨rfl, by (repeat (first | exact Kept.refl _ | assumption | refine Kept.alloc ?_ _ | refine Kept.ext ?_ _ | refine Kept.drew ?_ | refine Kept.drewN ?_ _))⟩
end Go.Proofs.Ytiedpdlbjjjpeaa
