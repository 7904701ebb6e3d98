/- Contracts: fractions compared exactly, of the program and of the reference; the reference's fractions; bounds. Conditions: those of each theorem. -/
import Derived.Test.YtjadpehpempjoaaQt
import Derived.Test.YtjadpehpempjoaaGc
import Derived.Test.YtjadpehpempjoaaFrs
namespace Go.Proofs.Ytjadpehpempjoaa
set_option linter.unusedVariables false
set_option linter.unusedSimpArgs false
open Go.RowKit
theorem from_any (n lo hi : Int) (w : World) : Calls Try.prog 27 #[.int .i64 n, .int .i64 lo, .int .i64 hi] w fun e w' => e = .returned (.bool (decide (lo ≤ n ∧ n ≤ hi))) ∧ w = w' := by
  by_cases h : lo ≤ n
  · by_cases h2 : n ≤ hi
    · rw [decide_eq_true ⟨h, h2⟩]
      have f1 : decide (lo ≤ n) = true := decide_eq_true h
      have f2 : decide (n ≤ hi) = true := decide_eq_true h2
      go_enter Try.func27, Try.ntmps27
      go_wp2
      go_ret
      exact ⟨rfl, rfl⟩
    · rw [decide_eq_false fun q => h2 q.2]
      have f1 : decide (lo ≤ n) = true := decide_eq_true h
      have f2 : decide (n ≤ hi) = false := decide_eq_false h2
      go_enter Try.func27, Try.ntmps27
      go_wp2
      go_ret
      exact ⟨rfl, rfl⟩
  · rw [decide_eq_false fun q => h q.1]
    have f1 : decide (lo ≤ n) = false := decide_eq_false h
    go_enter Try.func27, Try.ntmps27
    go_wp2
    go_ret
    exact ⟨rfl, rfl⟩
theorem r6size_any (n : Int) (w : World) (h : -9223372036854775807 ≤ n ∧ n ≤ 9223372036854775807) :
    Calls Try.prog 28 #[.int .i64 n] w fun e w' => e = .returned (.int .i64 (n.natAbs : Int)) ∧ w = w' := by
  go_enter Try.func28, Try.ntmps28
  go_wp2
  all_goals (go_ret; exact ⟨ret_int (by omega), rfl⟩)
set_option maxRecDepth 100000 in
theorem ratio_any (n d : Int) (w : World) (hn : -4611686018427387904 ≤ n ∧ n ≤ 4611686018427387904) (hd : d ≠ 0 ∧ -4611686018427387904 ≤ d ∧ d ≤ 4611686018427387904) :
    Calls Try.prog 12 #[.int .i64 n, .int .i64 d] w fun e w' => e = .returned (.agg #[.int .i64 (frN n d), .int .i64 (frD n d)]) ∧ Kept w w' := by
  obtain ⟨g0, g1, g2⟩ := g_pos (n := n) hd.1
  have hF1 : frN n d = (if d < 0 then -n else n) / (Nat.gcd n.natAbs d.natAbs : Int) := rfl
  have hF2 : frD n d = (d.natAbs : Int) / (Nat.gcd n.natAbs d.natAbs : Int) := rfl
  have k1 : (n.natAbs : Int) ≤ 4611686018427387904 := by omega
  have k2 : (d.natAbs : Int) ≤ 4611686018427387904 := by omega
  have gb : (Nat.gcd n.natAbs d.natAbs : Int) ≤ 4611686018427387904 := by
    have := Nat.le_of_dvd (show 0 < d.natAbs by omega) (Nat.gcd_dvd_right n.natAbs d.natAbs)
    omega
  obtain ⟨ng, hng⟩ : ∃ k, n.natAbs = k := ⟨_, rfl⟩
  obtain ⟨dg, hdg⟩ : ∃ k, d.natAbs = k := ⟨_, rfl⟩
  have hd2 : if d < 0 then d = -(dg : Int) else d = dg := by split <;> omega
  rw [hng, hdg] at hF1 hF2 g0 g1 g2 gb
  have HF1 := Lib.hid hF1
  have HF2 := Lib.hid hF2
  have HNG := Lib.hid hng
  have HDG := Lib.hid hdg
  have HD2 := Lib.hid hd2
  have G1 := Lib.hid g1
  have G2 := Lib.hid g2
  rw [hng] at k1
  rw [hdg] at k2
  clear hF1 hF2 g1 g2 hng hdg hd2
  go_enter Try.func12, Try.ntmps12
  go_wp2_with (go_at_call 28; refine (r6size_any _ _ (by omega)).mono ?_; rintro e w1 ⟨rfl, rfl⟩; first | rw [HNG.out] | rw [HDG.out])
  go_loopw [5, 6] (fun a b wr => ∃ p q : Nat, a = .int .i64 p ∧ b = .int .i64 q ∧ Nat.gcd p q = Nat.gcd ng dg ∧ p ≤ 9223372036854775807 ∧ q ≤ 9223372036854775807 ∧ (∃ y, wr = ext (w.alloc (.cells #[.int .i64 0, .int .i64 0] 27)) y)) (fun _ b _ => (intOf b).toNat)
  case atStart => exact ⟨ng, dg, rfl, rfl, rfl, by omega, by omega, show Kept _ _ by (repeat (first | exact Kept.refl _ | assumption | refine Kept.alloc ?_ _ | refine Kept.ext ?_ _ | refine Kept.drew ?_ | refine Kept.drewN ?_ _))⟩
  case round =>
    obtain ⟨p, q, rfl, rfl, hg, hp, hq, x1, rfl⟩ := hrel
    by_cases h0 : q = 0
    · have hz : (q : Int) = 0 := by omega
      rw [h0, Nat.gcd_zero_right] at hg
      have HG := Lib.hid hg
      rw [← hg] at g0 gb
      clear hg
      have f1 : ((p : Int) == 0) = false := beq_eq_false_iff_ne.2 (by omega)
      have f0 : ¬ p = 0 := by omega
      by_cases hs : d < 0
      · go_wp2
        ((first | (with_reducible refine wp_region_tail2 6 (by kernel_rfl) (by kernel_rfl) ?_) | refine wp_region_tail 6 (by kernel_rfl) (by kernel_rfl) ?_); simp only [List.take_succ_cons, List.take_zero, List.drop_succ_cons, List.drop_zero]; (repeat (go_big_quiet_step (first | fail))); refine wpQuiet_nil ?_; intro x)
        go_wp2
        refine bodyPost_ret (by simp only [results, Try.results12]; go_simp; rfl) rfl ?_
        refine ⟨?_, by (repeat (first | exact Kept.refl _ | assumption | refine Kept.alloc ?_ _ | refine Kept.ext ?_ _ | refine Kept.drew ?_ | refine Kept.drewN ?_ _))⟩
        have g1 := G1.out
        have g2 := G2.out
        have hd2 := HD2.out
        rw [← HG.out] at g1 g2
        rw [if_pos hs] at hd2
        have q1 := fr_bd g0 (show -4611686018427387904 ≤ -n ∧ -n ≤ 4611686018427387904 by omega)
        have q2 := fr_bd g0 (show -4611686018427387904 ≤ -d ∧ -d ≤ 4611686018427387904 by omega)
        rw [← (fr_div g0 (Int.dvd_neg.2 g1)).1, Int.neg_tdiv] at q1
        rw [← (fr_div g0 (Int.dvd_neg.2 g2)).1, Int.neg_tdiv] at q2
        rw [HF1.out, HF2.out, if_pos hs, ← HG.out, show (dg : Int) = -d by omega, ← (fr_div g0 (Int.dvd_neg.2 g1)).1, ← (fr_div g0 (Int.dvd_neg.2 g2)).1, Int.neg_tdiv, Int.neg_tdiv]
        rw [show wrap64 (-n.tdiv (p : Int)) = -n.tdiv (p : Int) by unfold wrap64; omega, show wrap64 (-d.tdiv (p : Int)) = -d.tdiv (p : Int) by unfold wrap64; omega]
      · go_wp2
        ((first | (with_reducible refine wp_region_tail2 6 (by kernel_rfl) (by kernel_rfl) ?_) | refine wp_region_tail 6 (by kernel_rfl) (by kernel_rfl) ?_); simp only [List.take_succ_cons, List.take_zero, List.drop_succ_cons, List.drop_zero]; (repeat (go_big_quiet_step (first | fail))); refine wpQuiet_nil ?_; intro x)
        go_wp2
        refine bodyPost_ret (by simp only [results, Try.results12]; go_simp; rfl) rfl ?_
        refine ⟨?_, by (repeat (first | exact Kept.refl _ | assumption | refine Kept.alloc ?_ _ | refine Kept.ext ?_ _ | refine Kept.drew ?_ | refine Kept.drewN ?_ _))⟩
        have g1 := G1.out
        have hd2 := HD2.out
        rw [← HG.out] at g1
        have hs' : ¬ d < 0 := by omega
        rw [if_neg hs'] at hd2
        rw [HF1.out, HF2.out, if_neg hs', ← HG.out, (fr_div g0 g1).1, show (dg : Int) = d by omega]
    · have f1 : ((q : Int) == 0) = false := beq_eq_false_iff_ne.2 (by omega)
      have HG := Lib.hid hg
      clear hg
      go_wp2
      ((first | (with_reducible refine wp_region_kept2 (by kernel_rfl) (by kernel_rfl) ?_) | refine wp_region_kept (by kernel_rfl) (by kernel_rfl) ?_); (repeat (go_big_quiet_step (first | fail))); refine wpQuiet_nil ?_; intro x)
      go_wp2
      refine ⟨⟨q, p % q, rfl, ?_, ?_, by omega, ?_, show Kept _ _ by (repeat (first | exact Kept.refl _ | assumption | refine Kept.alloc ?_ _ | refine Kept.ext ?_ _ | refine Kept.drew ?_ | refine Kept.drewN ?_ _))⟩, ?_⟩
      · rw [Int.natCast_emod]
      · rw [← HG.out, Nat.gcd_comm q, ← Nat.gcd_rec, Nat.gcd_comm]
      · have := Nat.mod_lt p (show 0 < q by omega)
        omega
      · have := Nat.mod_lt p (show 0 < q by omega)
        rw [← Int.natCast_emod]
        simp only [intOf]
        omega
theorem pS_pos {a b : Int} (ha : 0 ≤ a) (hb : 0 ≤ b) : pS a b = false := by
  unfold pS
  rw [decide_eq_false (show ¬ a < 0 by omega), decide_eq_false (show ¬ b < 0 by omega)]
  rfl
set_option maxRecDepth 100000 in
set_option maxHeartbeats 4000000 in
theorem above_any (a b c d : Int) (w : World) (h : (0 ≤ a ∧ a ≤ 4611686018427387904) ∧ (0 ≤ b ∧ b ≤ 4611686018427387904) ∧ (0 ≤ c ∧ c ≤ 4611686018427387904) ∧ (0 ≤ d ∧ d ≤ 4611686018427387904)) :
    Calls Try.prog 21 #[.agg #[.int .i64 a, .int .i64 b], .agg #[.int .i64 c, .int .i64 d]] w fun e w' => e = .returned (.bool (decide (c * b < a * d))) ∧ Kept w w' := by
  obtain ⟨ha, hb, hc, hd⟩ := h
  have hm : ∀ w, Calls Try.prog 35 #[wv (pX a d) (pS a d), wv (pX c b) (pS c b)] w fun e w' => e = .returned (wv (mZ (pX a d) (pS a d) (pX c b) (pS c b)) (mU (pX a d) (pS a d) (pX c b) (pS c b))) ∧ Kept w w' :=
    fun w => wmin_any _ _ _ _ w ⟨p_lt (by omega) (by omega), p_lt (by omega) (by omega)⟩
  have z2 := m_val (pX a d) (pX c b) (pS a d) (pS c b)
  rw [p_val, p_val] at z2
  generalize mZ (pX a d) (pS a d) (pX c b) (pS c b) = Z at *
  generalize mU (pX a d) (pS a d) (pX c b) (pS c b) = u at *
  obtain ⟨zh, hzh⟩ : ∃ n, Z / 18446744073709551616 = n := ⟨_, rfl⟩
  obtain ⟨zl, hzl⟩ : ∃ n, Z % 18446744073709551616 = n := ⟨_, rfl⟩
  rw [wv_at hzh hzl] at hm
  have MI := Lib.hid hm
  have hV : (c * b < a * d) ↔ (u = false ∧ (zh ≠ 0 ∨ zl ≠ 0)) := by
    unfold wn at z2
    generalize c * b = x at *
    generalize a * d = y at *
    cases u
    · simp only [Bool.false_eq_true, if_false] at z2
      constructor
      · intro h; exact ⟨rfl, by omega⟩
      · intro h; omega
    · simp only [if_true] at z2
      constructor
      · intro h; omega
      · intro h; exact absurd h.1 (by decide)
  have HV := Lib.hid hV
  have HA := Lib.hid ha
  have HB := Lib.hid hb
  have HC := Lib.hid hc
  have HD := Lib.hid hd
  clear hm z2 hzh hzl hV
  obtain ⟨res, hres⟩ : ∃ r, decide (c * b < a * d) = r := ⟨_, rfl⟩
  rw [hres]
  have HR := Lib.hid hres
  clear hres
  go_enter Try.func21, Try.ntmps21
  go_wp2
  have hFr : frsB [.q, .q, .q, .q, .q, .q, .q, .q, .q, .q, .q, .s, .s] [⟨11, 12, 69, #[.int .u64 0, .int .u64 0, .bool false], #[.int .u64 zh, .int .u64 zl, .bool u]⟩] = true := by kernel_rfl
  refine wp_region_frs _ _ (by kernel_rfl) (by kernel_rfl) hFr (fun b => by kernel_rfl) ?_
  apply Exists.intro
  refine ⟨?_, ?_, ?_, ?_⟩
  · rintro b' W ⟨yy, rfl⟩
    simp only [swapL, Nat.reduceAdd]
    repeat (go_big_quiet_step (first | (go_at_call 34; exact Calls.kept_of (wprod_any _ _ _ (by omega) (by omega))) | (go_at_call 35; exact Calls.kept_of (MI.out _))))
    refine wpQuiet_nil ?_
    rfl
  · simp only [EachS, and_true]
    refine ⟨?_, ?_⟩
    · exact fun L b' w' hd hL hI => FI.tells_alloc hFr 0 rfl hI hL (by go_simp)
    · exact fun L b' w' hd hL hI => FI.tells_store hFr 0 rfl hI hL (hd { on := 11, ground := .data } (by simp) rfl) 69 (.tmp 5) (.tmp 16) rfl rfl rfl (by kernel_rfl) rfl (by kernel_rfl)
  · intro b1 b2 d hd
    simp [callSlots, dullOp] at hd
    rcases hd with rfl | rfl | rfl <;> rfl
  · intro L b' w' hL hI
    obtain ⟨g, e0, l0, h0⟩ := hI.ends 0 rfl (hL 11 (by decide)) (hL 12 (by decide))
    have e0' : b' 11 = _ := e0
    clear hFr e0
    obtain ⟨z, rfl⟩ := hI.kept
    clear hI hL
    obtain ⟨i0, rfl, -, t0, d0, f0⟩ := late_at h0 l0
    have d00 := d0 0
    have d01 := d0 1
    have d02 := d0 2
    have f00 := f0 0
    have f01 := f0 1
    have f02 := f0 2
    simp only [List.getElem?_toArray, List.getElem?_cons_zero, List.getElem?_cons_succ] at d00 d01 d02
    clear h0 l0 d0 f0
    simp only [e0']
    clear e0'
    cases u
    · by_cases q1 : zh = 0
      · by_cases q2 : zl = 0
        · have g1 : (zh : Int) = 0 := by omega
          have g2 : (zl : Int) = 0 := by omega
          go_wp2
          go_ret
          refine ⟨?_, by (repeat (first | exact Kept.refl _ | assumption | refine Kept.alloc ?_ _ | refine Kept.ext ?_ _ | refine Kept.drew ?_ | refine Kept.drewN ?_ _))⟩
          rw [← HR.out, decide_eq_false (fun h => by have := HV.out.1 h; omega)]
          rfl
        · have g1 : (zh : Int) = 0 := by omega
          have g2 : decide (0 < zl) = true := decide_eq_true (by omega)
          go_wp2
          go_ret
          refine ⟨?_, by (repeat (first | exact Kept.refl _ | assumption | refine Kept.alloc ?_ _ | refine Kept.ext ?_ _ | refine Kept.drew ?_ | refine Kept.drewN ?_ _))⟩
          rw [← HR.out, decide_eq_true (HV.out.2 ⟨by trivial, .inr q2⟩)]
          rfl
      · have g2 : decide (0 < zh) = true := decide_eq_true (by omega)
        go_wp2
        go_ret
        refine ⟨?_, by (repeat (first | exact Kept.refl _ | assumption | refine Kept.alloc ?_ _ | refine Kept.ext ?_ _ | refine Kept.drew ?_ | refine Kept.drewN ?_ _))⟩
        rw [← HR.out, decide_eq_true (HV.out.2 ⟨by trivial, .inl q1⟩)]
        rfl
    · go_wp2
      go_ret
      refine ⟨?_, by (repeat (first | exact Kept.refl _ | assumption | refine Kept.alloc ?_ _ | refine Kept.ext ?_ _ | refine Kept.drew ?_ | refine Kept.drewN ?_ _))⟩
      rw [← HR.out, decide_eq_false (fun h => by have := HV.out.1 h; exact absurd this.1 (by decide))]
      rfl
end Go.Proofs.Ytjadpehpempjoaa
