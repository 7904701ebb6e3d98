/- Contracts: which moments are valid, and results, of the reference. No conditions. -/
import Derived.Test.YtbefphfgcbbcpaaDoorMv
namespace Go.Proofs.YtbefphfgcbbcpaaDoor
set_option linter.unusedVariables false
set_option linter.unusedSimpArgs false
open Go.RowKit
def szS (n : Int) : Int := max n (wrap64 (-n))
theorem sz_ok {n m : Int} (h : m ≤ 4611686018427387904) : (szS n ≤ m ∧ -m ≤ n) ↔ (-m ≤ n ∧ n ≤ m) := by
  unfold szS
  constructor
  · intro k
    have := Int.le_max_left n (wrap64 (-n))
    omega
  · intro k
    rw [w64 (by omega)]
    omega
theorem inB_false {x y z m : Int} (h : ¬ (-m ≤ x ∧ x ≤ m ∧ -m ≤ y ∧ y ≤ m ∧ -m ≤ z ∧ z ≤ m)) : inB x y z m = false := by
  cases k : inB x y z m
  · rfl
  · exact absurd (inB_true k) h
theorem frB_false {n lo hi : Int} (h : frB n lo hi = false) : n < lo ∨ hi < n := by
  have := of_decide_eq_false h
  omega
theorem size4_any (n : Int) (w : World) :
    Calls Tryd.prog 95 #[.int .i64 n] w fun e w' => e = .returned (.int .i64 (szS n)) ∧ w = w' := by
  go_enter Tryd.func95, Tryd.ntmps95
  go_wp2
  go_ret
  exact ⟨rfl, rfl⟩
set_option maxRecDepth 100000 in
set_option maxHeartbeats 4000000 in
theorem small_any (x y z m : Int) (w : World) (hm : 0 ≤ m ∧ m ≤ 1099511627776) :
    Calls Tryd.prog 72 #[.agg #[.int .i64 x, .int .i64 y, .int .i64 z], .int .i64 m] w fun e w' => e = .returned (.bool (inB x y z m)) ∧ Kept w w' := by
  obtain ⟨m0, m1⟩ := hm
  have H1 := Lib.hid (sz_ok (n := x) (show m ≤ 4611686018427387904 by omega))
  have H2 := Lib.hid (sz_ok (n := y) (show m ≤ 4611686018427387904 by omega))
  have H3 := Lib.hid (sz_ok (n := z) (show m ≤ 4611686018427387904 by omega))
  go_enter Tryd.func72, Tryd.ntmps72
  go_wp2_with (first | (go_at_call 95; refine (size4_any _ _).mono ?_; rintro e w1 ⟨rfl, rfl⟩))
  all_goals
    have h1 := H1.out
    have h2 := H2.out
    have h3 := H3.out
    go_ret
    refine ⟨ret_bool ?_, by (repeat (first | exact Kept.refl _ | assumption | refine Kept.alloc ?_ _ | refine Kept.ext ?_ _ | refine Kept.drew ?_ | refine Kept.drewN ?_ _))⟩
    first
    | exact (inB_mk (x := x) (y := y) (z := z) (m := m) (by omega)).symm
    | exact (inB_false (x := x) (y := y) (z := z) (m := m) (by omega)).symm
    | (by_cases k : -m ≤ z
       · rw [decide_eq_true k]
         exact (inB_mk (x := x) (y := y) (z := z) (m := m) (by omega)).symm
       · rw [decide_eq_false k]
         exact (inB_false (x := x) (y := y) (z := z) (m := m) (by omega)).symm)
set_option maxRecDepth 100000 in
set_option maxHeartbeats 8000000 in
theorem r4val_any (m0 m1 m2 m3 m4 m5 m6 m7 m8 m9 m10 : Int) (w : World) :
    Calls Tryd.prog 36 #[.agg #[.int .i64 m0, .int .i64 m1, .int .i64 m2, .int .i64 m3, .int .i64 m4, .int .i64 m5, .int .i64 m6, .int .i64 m7, .int .i64 m8, .int .i64 m9, .int .i64 m10]] w fun r w' => r = .returned (.int .i64 (vmS ⟨m0, m1, m2, m3, m4, m5, m6, m7, m8, m9, m10⟩)) ∧ Kept w w' := by
  cases h0 : frB m1 0 1048576
  · have g : vmS ⟨m0, m1, m2, m3, m4, m5, m6, m7, m8, m9, m10⟩ = 1 := by simp [vmS, okM, h0]
    rw [g]
    clear g
    rcases frB_false h0 with k | k
    all_goals
      clear h0
      go_enter Tryd.func36, Tryd.ntmps36
      go_wp2_with (first | (go_at_call 72; refine (small_any _ _ _ _ _ (by omega)).mono ?_; rintro e w1 ⟨rfl, x, rfl⟩))
      go_ret
      exact ⟨rfl, by (repeat (first | exact Kept.refl _ | assumption | refine Kept.alloc ?_ _ | refine Kept.ext ?_ _ | refine Kept.drew ?_ | refine Kept.drewN ?_ _))⟩
  have c0 := frB_true h0
  cases h1 : frB m0 (-m1) m1
  · have g : vmS ⟨m0, m1, m2, m3, m4, m5, m6, m7, m8, m9, m10⟩ = 1 := by simp [vmS, okM, h0, h1]
    rw [g]
    clear g
    rcases frB_false h1 with k | k
    all_goals
      clear h1
      go_enter Tryd.func36, Tryd.ntmps36
      go_wp2_with (first | (go_at_call 72; refine (small_any _ _ _ _ _ (by omega)).mono ?_; rintro e w1 ⟨rfl, x, rfl⟩))
      go_ret
      exact ⟨rfl, by (repeat (first | exact Kept.refl _ | assumption | refine Kept.alloc ?_ _ | refine Kept.ext ?_ _ | refine Kept.drew ?_ | refine Kept.drewN ?_ _))⟩
  have c1 := frB_true h1
  cases h2 : inB m2 m3 m4 1073741824
  · have g : vmS ⟨m0, m1, m2, m3, m4, m5, m6, m7, m8, m9, m10⟩ = 1 := by simp [vmS, okM, h0, h1, h2]
    rw [g]
    clear g
    go_enter Tryd.func36, Tryd.ntmps36
    go_wp2_with (first | (go_at_call 72; refine (small_any _ _ _ _ _ (by omega)).mono ?_; rintro e w1 ⟨rfl, x, rfl⟩))
    go_ret
    exact ⟨rfl, by (repeat (first | exact Kept.refl _ | assumption | refine Kept.alloc ?_ _ | refine Kept.ext ?_ _ | refine Kept.drew ?_ | refine Kept.drewN ?_ _))⟩
  cases h3 : frB m5 (-17179869184) 17179869184
  · have g : vmS ⟨m0, m1, m2, m3, m4, m5, m6, m7, m8, m9, m10⟩ = 1 := by simp [vmS, okM, h0, h1, h2, h3]
    rw [g]
    clear g
    rcases frB_false h3 with k | k
    all_goals
      clear h3
      go_enter Tryd.func36, Tryd.ntmps36
      go_wp2_with (first | (go_at_call 72; refine (small_any _ _ _ _ _ (by omega)).mono ?_; rintro e w1 ⟨rfl, x, rfl⟩))
      refine wp_loop_rounds 1 ?_
      rw [rounds_succ]
      go_wp2_with (first | (go_at_call 72; refine (small_any _ _ _ _ _ (by omega)).mono ?_; rintro e w1 ⟨rfl, x, rfl⟩))
      go_ret
      exact ⟨rfl, by (repeat (first | exact Kept.refl _ | assumption | refine Kept.alloc ?_ _ | refine Kept.ext ?_ _ | refine Kept.drew ?_ | refine Kept.drewN ?_ _))⟩
  have c3 := frB_true h3
  cases h4 : frB m6 (-17179869184) 17179869184
  · have g : vmS ⟨m0, m1, m2, m3, m4, m5, m6, m7, m8, m9, m10⟩ = 1 := by simp [vmS, okM, h0, h1, h2, h3, h4]
    rw [g]
    clear g
    rcases frB_false h4 with k | k
    all_goals
      clear h4
      go_enter Tryd.func36, Tryd.ntmps36
      go_wp2_with (first | (go_at_call 72; refine (small_any _ _ _ _ _ (by omega)).mono ?_; rintro e w1 ⟨rfl, x, rfl⟩))
      refine wp_loop_rounds 2 ?_
      rw [rounds_succ]
      go_wp2_with (first | (go_at_call 72; refine (small_any _ _ _ _ _ (by omega)).mono ?_; rintro e w1 ⟨rfl, x, rfl⟩))
      rw [rounds_succ]
      go_wp2_with (first | (go_at_call 72; refine (small_any _ _ _ _ _ (by omega)).mono ?_; rintro e w1 ⟨rfl, x, rfl⟩))
      go_ret
      exact ⟨rfl, by (repeat (first | exact Kept.refl _ | assumption | refine Kept.alloc ?_ _ | refine Kept.ext ?_ _ | refine Kept.drew ?_ | refine Kept.drewN ?_ _))⟩
  have c4 := frB_true h4
  cases h5 : frB m7 (-17179869184) 17179869184
  · have g : vmS ⟨m0, m1, m2, m3, m4, m5, m6, m7, m8, m9, m10⟩ = 1 := by simp [vmS, okM, h0, h1, h2, h3, h4, h5]
    rw [g]
    clear g
    rcases frB_false h5 with k | k
    all_goals
      clear h5
      go_enter Tryd.func36, Tryd.ntmps36
      go_wp2_with (first | (go_at_call 72; refine (small_any _ _ _ _ _ (by omega)).mono ?_; rintro e w1 ⟨rfl, x, rfl⟩))
      refine wp_loop_rounds 3 ?_
      rw [rounds_succ]
      go_wp2_with (first | (go_at_call 72; refine (small_any _ _ _ _ _ (by omega)).mono ?_; rintro e w1 ⟨rfl, x, rfl⟩))
      rw [rounds_succ]
      go_wp2_with (first | (go_at_call 72; refine (small_any _ _ _ _ _ (by omega)).mono ?_; rintro e w1 ⟨rfl, x, rfl⟩))
      rw [rounds_succ]
      go_wp2_with (first | (go_at_call 72; refine (small_any _ _ _ _ _ (by omega)).mono ?_; rintro e w1 ⟨rfl, x, rfl⟩))
      go_ret
      exact ⟨rfl, by (repeat (first | exact Kept.refl _ | assumption | refine Kept.alloc ?_ _ | refine Kept.ext ?_ _ | refine Kept.drew ?_ | refine Kept.drewN ?_ _))⟩
  have c5 := frB_true h5
  cases h6 : frB m8 (-17179869184) 17179869184
  · have g : vmS ⟨m0, m1, m2, m3, m4, m5, m6, m7, m8, m9, m10⟩ = 1 := by simp [vmS, okM, h0, h1, h2, h3, h4, h5, h6]
    rw [g]
    clear g
    rcases frB_false h6 with k | k
    all_goals
      clear h6
      go_enter Tryd.func36, Tryd.ntmps36
      go_wp2_with (first | (go_at_call 72; refine (small_any _ _ _ _ _ (by omega)).mono ?_; rintro e w1 ⟨rfl, x, rfl⟩))
      refine wp_loop_rounds 4 ?_
      rw [rounds_succ]
      go_wp2_with (first | (go_at_call 72; refine (small_any _ _ _ _ _ (by omega)).mono ?_; rintro e w1 ⟨rfl, x, rfl⟩))
      rw [rounds_succ]
      go_wp2_with (first | (go_at_call 72; refine (small_any _ _ _ _ _ (by omega)).mono ?_; rintro e w1 ⟨rfl, x, rfl⟩))
      rw [rounds_succ]
      go_wp2_with (first | (go_at_call 72; refine (small_any _ _ _ _ _ (by omega)).mono ?_; rintro e w1 ⟨rfl, x, rfl⟩))
      rw [rounds_succ]
      go_wp2_with (first | (go_at_call 72; refine (small_any _ _ _ _ _ (by omega)).mono ?_; rintro e w1 ⟨rfl, x, rfl⟩))
      go_ret
      exact ⟨rfl, by (repeat (first | exact Kept.refl _ | assumption | refine Kept.alloc ?_ _ | refine Kept.ext ?_ _ | refine Kept.drew ?_ | refine Kept.drewN ?_ _))⟩
  have c6 := frB_true h6
  cases h7 : frB m9 (-17179869184) 17179869184
  · have g : vmS ⟨m0, m1, m2, m3, m4, m5, m6, m7, m8, m9, m10⟩ = 1 := by simp [vmS, okM, h0, h1, h2, h3, h4, h5, h6, h7]
    rw [g]
    clear g
    rcases frB_false h7 with k | k
    all_goals
      clear h7
      go_enter Tryd.func36, Tryd.ntmps36
      go_wp2_with (first | (go_at_call 72; refine (small_any _ _ _ _ _ (by omega)).mono ?_; rintro e w1 ⟨rfl, x, rfl⟩))
      refine wp_loop_rounds 5 ?_
      rw [rounds_succ]
      go_wp2_with (first | (go_at_call 72; refine (small_any _ _ _ _ _ (by omega)).mono ?_; rintro e w1 ⟨rfl, x, rfl⟩))
      rw [rounds_succ]
      go_wp2_with (first | (go_at_call 72; refine (small_any _ _ _ _ _ (by omega)).mono ?_; rintro e w1 ⟨rfl, x, rfl⟩))
      rw [rounds_succ]
      go_wp2_with (first | (go_at_call 72; refine (small_any _ _ _ _ _ (by omega)).mono ?_; rintro e w1 ⟨rfl, x, rfl⟩))
      rw [rounds_succ]
      go_wp2_with (first | (go_at_call 72; refine (small_any _ _ _ _ _ (by omega)).mono ?_; rintro e w1 ⟨rfl, x, rfl⟩))
      rw [rounds_succ]
      go_wp2_with (first | (go_at_call 72; refine (small_any _ _ _ _ _ (by omega)).mono ?_; rintro e w1 ⟨rfl, x, rfl⟩))
      go_ret
      exact ⟨rfl, by (repeat (first | exact Kept.refl _ | assumption | refine Kept.alloc ?_ _ | refine Kept.ext ?_ _ | refine Kept.drew ?_ | refine Kept.drewN ?_ _))⟩
  have c7 := frB_true h7
  cases h8 : frB m10 (-17179869184) 17179869184
  · have g : vmS ⟨m0, m1, m2, m3, m4, m5, m6, m7, m8, m9, m10⟩ = 1 := by simp [vmS, okM, h0, h1, h2, h3, h4, h5, h6, h7, h8]
    rw [g]
    clear g
    rcases frB_false h8 with k | k
    all_goals
      clear h8
      go_enter Tryd.func36, Tryd.ntmps36
      go_wp2_with (first | (go_at_call 72; refine (small_any _ _ _ _ _ (by omega)).mono ?_; rintro e w1 ⟨rfl, x, rfl⟩))
      refine wp_loop_rounds 6 ?_
      rw [rounds_succ]
      go_wp2_with (first | (go_at_call 72; refine (small_any _ _ _ _ _ (by omega)).mono ?_; rintro e w1 ⟨rfl, x, rfl⟩))
      rw [rounds_succ]
      go_wp2_with (first | (go_at_call 72; refine (small_any _ _ _ _ _ (by omega)).mono ?_; rintro e w1 ⟨rfl, x, rfl⟩))
      rw [rounds_succ]
      go_wp2_with (first | (go_at_call 72; refine (small_any _ _ _ _ _ (by omega)).mono ?_; rintro e w1 ⟨rfl, x, rfl⟩))
      rw [rounds_succ]
      go_wp2_with (first | (go_at_call 72; refine (small_any _ _ _ _ _ (by omega)).mono ?_; rintro e w1 ⟨rfl, x, rfl⟩))
      rw [rounds_succ]
      go_wp2_with (first | (go_at_call 72; refine (small_any _ _ _ _ _ (by omega)).mono ?_; rintro e w1 ⟨rfl, x, rfl⟩))
      rw [rounds_succ]
      go_wp2_with (first | (go_at_call 72; refine (small_any _ _ _ _ _ (by omega)).mono ?_; rintro e w1 ⟨rfl, x, rfl⟩))
      go_ret
      exact ⟨rfl, by (repeat (first | exact Kept.refl _ | assumption | refine Kept.alloc ?_ _ | refine Kept.ext ?_ _ | refine Kept.drew ?_ | refine Kept.drewN ?_ _))⟩
  have c8 := frB_true h8
  have g : vmS ⟨m0, m1, m2, m3, m4, m5, m6, m7, m8, m9, m10⟩ = 0 := by simp [vmS, okM, h0, h1, h2, h3, h4, h5, h6, h7, h8]
  rw [g]
  clear g
  go_enter Tryd.func36, Tryd.ntmps36
  go_wp2_with (first | (go_at_call 72; refine (small_any _ _ _ _ _ (by omega)).mono ?_; rintro e w1 ⟨rfl, x, rfl⟩))
  refine wp_loop_rounds 7 ?_
  rw [rounds_succ]
  go_wp2_with (first | (go_at_call 72; refine (small_any _ _ _ _ _ (by omega)).mono ?_; rintro e w1 ⟨rfl, x, rfl⟩))
  rw [rounds_succ]
  go_wp2_with (first | (go_at_call 72; refine (small_any _ _ _ _ _ (by omega)).mono ?_; rintro e w1 ⟨rfl, x, rfl⟩))
  rw [rounds_succ]
  go_wp2_with (first | (go_at_call 72; refine (small_any _ _ _ _ _ (by omega)).mono ?_; rintro e w1 ⟨rfl, x, rfl⟩))
  rw [rounds_succ]
  go_wp2_with (first | (go_at_call 72; refine (small_any _ _ _ _ _ (by omega)).mono ?_; rintro e w1 ⟨rfl, x, rfl⟩))
  rw [rounds_succ]
  go_wp2_with (first | (go_at_call 72; refine (small_any _ _ _ _ _ (by omega)).mono ?_; rintro e w1 ⟨rfl, x, rfl⟩))
  rw [rounds_succ]
  go_wp2_with (first | (go_at_call 72; refine (small_any _ _ _ _ _ (by omega)).mono ?_; rintro e w1 ⟨rfl, x, rfl⟩))
  rw [rounds_succ]
  go_wp2_with (first | (go_at_call 72; refine (small_any _ _ _ _ _ (by omega)).mono ?_; rintro e w1 ⟨rfl, x, rfl⟩))
  go_ret
  exact ⟨rfl, by (repeat (first | exact Kept.refl _ | assumption | refine Kept.alloc ?_ _ | refine Kept.ext ?_ _ | refine Kept.drew ?_ | refine Kept.drewN ?_ _))⟩
/-- Moments with an error number. -/
structure MR where
  m : Mo
  e : Int
def moZ : Mo := ⟨0, 0, 0, 0, 0, 0, 0, 0, 0, 0, 0⟩
def toldM (m : Mo) : MR := if okM m then ⟨m, 0⟩ else ⟨moZ, 4⟩
set_option maxRecDepth 100000 in
theorem mres_any (m0 m1 m2 m3 m4 m5 m6 m7 m8 m9 m10 : Int) (w : World) :
    Calls Tryd.prog 68 #[.agg #[.int .i64 m0, .int .i64 m1, .int .i64 m2, .int .i64 m3, .int .i64 m4, .int .i64 m5, .int .i64 m6, .int .i64 m7, .int .i64 m8, .int .i64 m9, .int .i64 m10]] w fun r w' => r = .returned (.tuple #[.agg #[.int .i64 ((toldM ⟨m0, m1, m2, m3, m4, m5, m6, m7, m8, m9, m10⟩).m).q, .int .i64 ((toldM ⟨m0, m1, m2, m3, m4, m5, m6, m7, m8, m9, m10⟩).m).t, .int .i64 ((toldM ⟨m0, m1, m2, m3, m4, m5, m6, m7, m8, m9, m10⟩).m).x, .int .i64 ((toldM ⟨m0, m1, m2, m3, m4, m5, m6, m7, m8, m9, m10⟩).m).y, .int .i64 ((toldM ⟨m0, m1, m2, m3, m4, m5, m6, m7, m8, m9, m10⟩).m).z, .int .i64 ((toldM ⟨m0, m1, m2, m3, m4, m5, m6, m7, m8, m9, m10⟩).m).a, .int .i64 ((toldM ⟨m0, m1, m2, m3, m4, m5, m6, m7, m8, m9, m10⟩).m).b, .int .i64 ((toldM ⟨m0, m1, m2, m3, m4, m5, m6, m7, m8, m9, m10⟩).m).c, .int .i64 ((toldM ⟨m0, m1, m2, m3, m4, m5, m6, m7, m8, m9, m10⟩).m).d, .int .i64 ((toldM ⟨m0, m1, m2, m3, m4, m5, m6, m7, m8, m9, m10⟩).m).e, .int .i64 ((toldM ⟨m0, m1, m2, m3, m4, m5, m6, m7, m8, m9, m10⟩).m).f], .int .i64 (toldM ⟨m0, m1, m2, m3, m4, m5, m6, m7, m8, m9, m10⟩).e]) ∧ Kept w w' := by
  cases h : okM ⟨m0, m1, m2, m3, m4, m5, m6, m7, m8, m9, m10⟩
  · have e1 : vmS ⟨m0, m1, m2, m3, m4, m5, m6, m7, m8, m9, m10⟩ = 1 := by simp [vmS, h]
    have e2 : toldM ⟨m0, m1, m2, m3, m4, m5, m6, m7, m8, m9, m10⟩ = ⟨moZ, 4⟩ := by simp [toldM, h]
    rw [e2]
    clear e2
    go_enter Tryd.func68, Tryd.ntmps68
    go_wp2_with (first | (go_at_call 32; refine (mval_any _ _ _ _ _ _ _ _ _ _ _ _).mono ?_; rintro e w1 ⟨rfl, x, rfl⟩))
    refine bodyPost_ret (by simp only [results, Tryd.results68]; go_simp; rfl) rfl ?_
    exact ⟨rfl, by (repeat (first | exact Kept.refl _ | assumption | refine Kept.alloc ?_ _ | refine Kept.ext ?_ _ | refine Kept.drew ?_ | refine Kept.drewN ?_ _))⟩
  · have e1 : vmS ⟨m0, m1, m2, m3, m4, m5, m6, m7, m8, m9, m10⟩ = 0 := by simp [vmS, h]
    have e2 : toldM ⟨m0, m1, m2, m3, m4, m5, m6, m7, m8, m9, m10⟩ = ⟨⟨m0, m1, m2, m3, m4, m5, m6, m7, m8, m9, m10⟩, 0⟩ := by simp [toldM, h]
    rw [e2]
    clear e2
    go_enter Tryd.func68, Tryd.ntmps68
    go_wp2_with (first | (go_at_call 32; refine (mval_any _ _ _ _ _ _ _ _ _ _ _ _).mono ?_; rintro e w1 ⟨rfl, x, rfl⟩))
    refine bodyPost_ret (by simp only [results, Tryd.results68]; go_simp; rfl) rfl ?_
    exact ⟨rfl, by (repeat (first | exact Kept.refl _ | assumption | refine Kept.alloc ?_ _ | refine Kept.ext ?_ _ | refine Kept.drew ?_ | refine Kept.drewN ?_ _))⟩
end Go.Proofs.YtbefphfgcbbcpaaDoor
