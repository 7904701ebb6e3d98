/- Contract: equal meshes are told so. Conditions: the lists hold the same. -/
import Derived.Test.YtoadlneneijfaaaGrs
import Derived.Test.YtoadlneneijfaaaGeq
namespace Go.Proofs.Ytoadlneneijfaaa
set_option linter.unusedVariables false
set_option linter.unusedSimpArgs false
open Go.RowKit
theorem part3_0 (a b c : Int) (w : World) : (part 3 #[.int .i64 a, .int .i64 b, .int .i64 c] 0).run Try.prog w = .ok (.int .i64 a) w := by kernel_rfl
theorem part3_1 (a b c : Int) (w : World) : (part 3 #[.int .i64 a, .int .i64 b, .int .i64 c] 1).run Try.prog w = .ok (.int .i64 b) w := by kernel_rfl
theorem part3_2 (a b c : Int) (w : World) : (part 3 #[.int .i64 a, .int .i64 b, .int .i64 c] 2).run Try.prog w = .ok (.int .i64 c) w := by kernel_rfl
theorem size3_int (w : World) : (sizeOf 3).run Try.prog w = .ok 1 w := by kernel_rfl
@[go_sem] theorem eq_a3 (d : Nat) (a0 a1 a2 b0 b1 b2 : Int) (w : World) : (Op.equalIn (d + 1 + 1) 54 (.agg #[.int .i64 a0, .int .i64 a1, .int .i64 a2]) (.agg #[.int .i64 b0, .int .i64 b1, .int .i64 b2])).run Try.prog w = .ok (a0 == b0 && (a1 == b1 && a2 == b2)) w := by
  rw [Op.equalIn]
  simp only [Sem.run_bind, run_underlying Try.underlying54, Result.andThen_ok, size3_int, Nat.mul_one]
  rw [Std.Legacy.Range.forIn_eq_forIn_range']
  simp only [Std.Legacy.Range.size, List.range'_succ, List.range'_zero, List.forIn_cons, List.forIn_nil, Sem.run_bind, part3_0, part3_1, part3_2, Result.andThen_ok, run_equalIn_int _ _ _ _ _ _ _ Try.underlying3, Nat.reduceAdd, Nat.reduceSub, Nat.reduceDiv, Nat.zero_add]
  cases h0 : a0 == b0 <;> cases h1 : a1 == b1 <;> cases h2 : a2 == b2 <;> simp [Sem.run_pure, Sem.run_bind, Sem.run_ite, part3_0, part3_1, part3_2, run_equalIn_int _ _ _ _ _ _ _ Try.underlying3, h0, h1, h2]
set_option maxRecDepth 100000 in
set_option maxHeartbeats 16000000 in
theorem same_any (A B A' B' : Option Addr) (n cap m cap2 cap' cap2' : Nat) (P F : Nat → Nat → Int) (w : World) (hn : n ≤ 9223372036854775807 ∧ m ≤ 9223372036854775807) (hP : RowsAt w A n 3 P) (hF : RowsAt w B m 3 F) (hP' : RowsAt w A' n 3 P) (hF' : RowsAt w B' m 3 F) :
    Calls Try.prog 18 #[.agg #[.slice A n cap, .slice B m cap2], .agg #[.slice A' n cap', .slice B' m cap2']] w fun r w' => r = .returned (.bool true) ∧ Kept w w' := by
  have HP := Lib.hid hP
  have HF := Lib.hid hF
  have HP' := Lib.hid hP'
  have HF' := Lib.hid hF'
  clear hP hF hP' hF'
  obtain ⟨hn1, hn2⟩ := hn
  go_enter Try.func18, Try.ntmps18
  go_wp2_with fail
  go_loopw [5] (fun i wr => ∃ k : Nat, k ≤ n ∧ i = .int .i64 k ∧ (∃ y, wr = ext ((w.alloc (.cells #[.slice A n cap, .slice B m cap2] 25)).alloc (.cells #[.slice A' n cap', .slice B' m cap2'] 25)) y)) (fun i _ => n - (intOf i).toNat)
  case atStart => exact ⟨0, by omega, rfl, show Kept _ _ by (repeat (first | exact Kept.refl _ | assumption | refine Kept.alloc ?_ _ | refine Kept.ext ?_ _ | refine Kept.drew ?_ | refine Kept.drewN ?_ _))⟩
  case round =>
    obtain ⟨k, hk, rfl, y, rfl⟩ := hrel
    by_cases hlt : k < n
    · obtain ⟨b, off, rfl, hb, f0, f1, f2⟩ := rows3 HP.out hlt
      obtain ⟨b', off', rfl, hb', g0, g1, g2⟩ := rows3 HP'.out hlt
      have LB : Lower b w.heap.size := ⟨hb⟩
      have LB' : Lower b' w.heap.size := ⟨hb'⟩
      go_wp2_with fail
      ((first | (with_reducible refine wp_region_kept2 (by kernel_rfl) (by kernel_rfl) ?_) | refine wp_region_kept (by kernel_rfl) (by kernel_rfl) ?_); (repeat (go_big_quiet_step (first | fail))); refine wpQuiet_nil ?_; intro x)
      go_wp2_with fail
      go_roundw
      case rel => exact ⟨k + 1, by omega, by go_num, show Kept _ _ by (repeat (first | exact Kept.refl _ | assumption | refine Kept.alloc ?_ _ | refine Kept.ext ?_ _ | refine Kept.drew ?_ | refine Kept.drewN ?_ _))⟩
      case measure => simp [intOf]; omega
    · have e1 : k = n := by omega
      clear hlt
      subst e1
      go_wp2_with fail
      go_loopw [6] (fun i wr => ∃ q : Nat, q ≤ m ∧ i = .int .i64 q ∧ (∃ z, wr = ext ((w.alloc (.cells #[.slice A k cap, .slice B m cap2] 25)).alloc (.cells #[.slice A' k cap', .slice B' m cap2'] 25)) z)) (fun i _ => m - (intOf i).toNat)
      case atStart => exact ⟨0, by omega, rfl, show Kept _ _ by (repeat (first | exact Kept.refl _ | assumption | refine Kept.alloc ?_ _ | refine Kept.ext ?_ _ | refine Kept.drew ?_ | refine Kept.drewN ?_ _))⟩
      case round =>
        obtain ⟨q, hq, rfl, z, rfl⟩ := hrel
        by_cases hlt : q < m
        · obtain ⟨b, off, rfl, hb, f0, f1, f2⟩ := rows3 HF.out hlt
          obtain ⟨b', off', rfl, hb', g0, g1, g2⟩ := rows3 HF'.out hlt
          have LB : Lower b w.heap.size := ⟨hb⟩
          have LB' : Lower b' w.heap.size := ⟨hb'⟩
          go_wp2_with fail
          ((first | (with_reducible refine wp_region_kept2 (by kernel_rfl) (by kernel_rfl) ?_) | refine wp_region_kept (by kernel_rfl) (by kernel_rfl) ?_); (repeat (go_big_quiet_step (first | fail))); refine wpQuiet_nil ?_; intro x)
          go_wp2_with fail
          go_roundw
          case rel => exact ⟨q + 1, by omega, by go_num, show Kept _ _ by (repeat (first | exact Kept.refl _ | assumption | refine Kept.alloc ?_ _ | refine Kept.ext ?_ _ | refine Kept.drew ?_ | refine Kept.drewN ?_ _))⟩
          case measure => simp [intOf]; omega
        · obtain rfl : q = m := by omega
          go_wp2_with fail
          go_ret
          exact ⟨rfl, by (repeat (first | exact Kept.refl _ | assumption | refine Kept.alloc ?_ _ | refine Kept.ext ?_ _ | refine Kept.drew ?_ | refine Kept.drewN ?_ _))⟩
end Go.Proofs.Ytoadlneneijfaaa
