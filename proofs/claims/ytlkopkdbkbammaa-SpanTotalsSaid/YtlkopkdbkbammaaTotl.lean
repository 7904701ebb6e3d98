/- For every input the statement SpanTotals returns true and leaves its argument as it was. No conditions. -/
import Derived.Test.YtlkopkdbkbammaaMean
import Derived.Deep.RegionHeld3
namespace Go.Proofs.Ytlkopkdbkbammaa
set_option linter.unusedVariables false
set_option linter.unusedSimpArgs false
open Go.ChangeShapes Go.WideShapes Go.ChangeAt Go.RowKit
/-- The bounds of the hull of the first k + 1 spans. -/
def hullLo (lo : Nat → Int) : Nat → Int
  | 0 => lo 0
  | k + 1 => min (hullLo lo k) (lo (k + 1))
def hullHi (hi : Nat → Int) : Nat → Int
  | 0 => hi 0
  | k + 1 => max (hullHi hi k) (hi (k + 1))
theorem hull_bd {lo hi : Nat → Int} (k : Nat) (h : allV (k + 1) lo hi = true) : validB (hullLo lo k) (hullHi hi k) = true ∧ ((k : Int) + 1) * hullLo lo k ≤ sumF (k + 1) lo ∧ sumF (k + 1) hi ≤ ((k : Int) + 1) * hullHi hi k := by
  induction k with
  | zero =>
    have v := allV_at h (show 0 < 1 by omega)
    exact ⟨v, by simp [hullLo, sumF], by simp [hullHi, sumF]⟩
  | succ k ih =>
    obtain ⟨v, a, b⟩ := ih (allV_of h (by omega))
    have v2 := allV_at h (show k + 1 < k + 1 + 1 by omega)
    have w1 := valid_bd v
    have w2 := valid_bd v2
    refine ⟨?_, ?_, ?_⟩
    · unfold validB hullLo hullHi
      exact decide_eq_true (by omega)
    · have h1 : hullLo lo (k + 1) ≤ hullLo lo k := by show min _ _ ≤ _; omega
      have h2 : hullLo lo (k + 1) ≤ lo (k + 1) := by show min _ _ ≤ _; omega
      have h3 := Int.mul_le_mul_of_nonneg_left h1 (show 0 ≤ (k : Int) + 1 by omega)
      have e : ((k + 1 : Nat) : Int) + 1 = ((k : Int) + 1) + 1 := by omega
      rw [e, Int.add_mul (k + 1 : Int) 1, Int.one_mul]
      show _ ≤ sumF (k + 1) lo + lo (k + 1)
      omega
    · have h1 : hullHi hi k ≤ hullHi hi (k + 1) := by show _ ≤ max _ _; omega
      have h2 : hi (k + 1) ≤ hullHi hi (k + 1) := by show _ ≤ max _ _; omega
      have h3 := Int.mul_le_mul_of_nonneg_left h1 (show 0 ≤ (k : Int) + 1 by omega)
      have e : ((k + 1 : Nat) : Int) + 1 = ((k : Int) + 1) + 1 := by omega
      rw [e, Int.add_mul (k + 1 : Int) 1, Int.one_mul]
      show sumF (k + 1) hi + hi (k + 1) ≤ _
      omega
theorem hull_next {lo hi : Nat → Int} {n k : Nat} (h : allV n lo hi = true) (hk : k + 1 < n) : hullS (hullLo lo k) (hullHi hi k) (lo (k + 1)) (hi (k + 1)) = ⟨hullLo lo (k + 1), hullHi hi (k + 1), 0⟩ := by
  have v := (hull_bd k (allV_of h (show k + 1 ≤ n by omega))).1
  have v2 := allV_at h hk
  unfold hullS
  rw [v, v2]
  rfl
theorem hull_next2 {lo hi : Nat → Int} {n k : Nat} (h : allV n lo hi = true) (h1 : 1 ≤ k) (hk : k < n) : hullS (hullLo lo (k - 1)) (hullHi hi (k - 1)) (lo k) (hi k) = ⟨hullLo lo k, hullHi hi k, 0⟩ := by
  obtain ⟨m, rfl⟩ : ∃ m, k = m + 1 := ⟨k - 1, by omega⟩
  exact hull_next h hk
theorem mean_encl {n : Nat} {lo hi : Nat → Int} (h : (meanS n lo hi).e = 0) :
    0 < n ∧ allV n lo hi = true ∧ enclosesB (hullLo lo (n - 1)) (hullHi hi (n - 1)) 0 (meanS n lo hi).lo (meanS n lo hi).hi = true := by
  rcases tot_cases n lo hi with ⟨e, h1, h2⟩ | e | e
  · by_cases h0 : n = 0
    · subst h0
      unfold meanS at h; rw [e] at h; cases h
    · have e2 : meanS n lo hi = resultS ((sumF n lo).fdiv n) (-((-sumF n hi).fdiv n)) := by unfold meanS; rw [e]; rw [if_pos rfl, if_neg h0]
      refine ⟨by omega, h2, ?_⟩
      rw [e2] at h ⊢
      obtain ⟨e3, -⟩ := result_ok h
      rw [e3]
      obtain ⟨m, rfl⟩ : ∃ m, n = m + 1 := ⟨n - 1, by omega⟩
      obtain ⟨v, a, b⟩ := hull_bd m h2
      unfold enclosesB
      simp only [Nat.add_sub_cancel]
      have p : (0 : Int) < ((m + 1 : Nat) : Int) := by omega
      rw [fdiv_pos _ _ p, fdiv_pos _ _ p]
      have c1 : hullLo lo m ≤ sumF (m + 1) lo / ((m + 1 : Nat) : Int) := by
        rw [Int.le_ediv_iff_mul_le p, Int.mul_comm]
        have e9 : ((m + 1 : Nat) : Int) = (m : Int) + 1 := by omega
        rw [e9]; exact a
      have c2 : -hullHi hi m ≤ -sumF (m + 1) hi / ((m + 1 : Nat) : Int) := by
        rw [Int.le_ediv_iff_mul_le p, Int.neg_mul, Int.mul_comm]
        have e9 : ((m + 1 : Nat) : Int) = (m : Int) + 1 := by omega
        rw [e9]; omega
      rw [Bool.or_eq_true, decide_eq_true_eq]
      exact .inr ⟨c1, by omega⟩
  · unfold meanS at h; rw [e] at h; cases h
  · unfold meanS at h; rw [e] at h; cases h
set_option maxRecDepth 100000 in
set_option maxHeartbeats 4000000 in
theorem totals_law (A : Option Addr) (n cap : Nat) (lo hi : Nat → Int) (w : World) (hn : n ≤ 9223372036854775807) (hs : SpansAt w A n lo hi) :
    Calls Try.prog 6 #[.slice A n cap] w fun r w' => r = .returned (.bool true) ∧ Kept w w' := by
  have HS := Lib.hid hs
  clear hs
  by_cases h1 : 20000 < n
  · go_enter Try.func6, Try.ntmps6
    go_wp2_with (first | (go_at_call 21; refine (known_any _).mono ?_; rintro e w1 ⟨rfl, x, rfl⟩))
    go_ret
    refine ⟨rfl, ?_⟩
    (repeat (first | exact Kept.refl _ | assumption | refine Kept.alloc ?_ _ | refine Kept.ext ?_ _ | refine Kept.drew ?_ | refine Kept.drewN ?_ _))
  by_cases hg : (meanS n lo hi).e = 0
  · have he := Lib.hid (mean_encl hg)
    have f1 : ((meanS n lo hi).e != 0) = false := by simpa using hg
    clear hg
    obtain ⟨h0, -⟩ := he.out
    go_enter Try.func6, Try.ntmps6
    go_wp2_with fail
    refine (ssum_any _ _ _ lo hi _ (by omega) (HS.out.of (by (repeat (first | exact Kept.refl _ | assumption | refine Kept.alloc ?_ _ | refine Kept.ext ?_ _ | refine Kept.drew ?_ | refine Kept.drewN ?_ _))))).mono ?_
    rintro e w1 ⟨rfl, x1, rfl⟩
    go_wp2_with fail
    refine (rsum_any _ _ _ lo hi _ (by omega) (HS.out.of (by (repeat (first | exact Kept.refl _ | assumption | refine Kept.alloc ?_ _ | refine Kept.ext ?_ _ | refine Kept.drew ?_ | refine Kept.drewN ?_ _))))).mono ?_
    rintro e w1 ⟨rfl, x2, rfl⟩
    go_wp2_with fail
    refine (mean_any _ _ _ lo hi _ (by omega) (HS.out.of (by (repeat (first | exact Kept.refl _ | assumption | refine Kept.alloc ?_ _ | refine Kept.ext ?_ _ | refine Kept.drew ?_ | refine Kept.drewN ?_ _))))).mono ?_
    rintro e w1 ⟨rfl, x3, rfl⟩
    go_wp2_with fail
    refine (rmean_any _ _ _ lo hi _ (by omega) (HS.out.of (by (repeat (first | exact Kept.refl _ | assumption | refine Kept.alloc ?_ _ | refine Kept.ext ?_ _ | refine Kept.drew ?_ | refine Kept.drewN ?_ _))))).mono ?_
    rintro e w1 ⟨rfl, x4, rfl⟩
    obtain ⟨b, off, rfl, hb, hcell⟩ := HS.out h0
    have LB : Lower b w.heap.size := ⟨hb⟩
    obtain ⟨c0, c1⟩ := hcell 0 h0
    simp only [Nat.zero_mul, Nat.add_zero] at c0 c1
    go_wp2_with fail
    go_loopw [12] (fun i wr => ∃ k : Nat, 1 ≤ k ∧ k ≤ n ∧ i = .int .i64 k ∧ ∃ y, wr = ext (World.alloc (((ext ((ext ((ext ((ext w x1).alloc (.cells #[.int .i64 (sumsS n lo hi).lo, .int .i64 (sumsS n lo hi).hi] 23)) x2).alloc (.cells #[.int .i64 (sumsS n lo hi).lo, .int .i64 (sumsS n lo hi).hi] 23)) x3).alloc (.cells #[.int .i64 (meanS n lo hi).lo, .int .i64 (meanS n lo hi).hi] 23)) x4).alloc (.cells #[.int .i64 (meanS n lo hi).lo, .int .i64 (meanS n lo hi).hi] 23))) (.cells #[.int .i64 (hullLo lo (k - 1)), .int .i64 (hullHi hi (k - 1))] 23)) y) (fun i _ => n - (intOf i).toNat)
    case atStart => exact ⟨1, by omega, by omega, rfl, show Kept _ _ by (repeat (first | exact Kept.refl _ | assumption | refine Kept.alloc ?_ _ | refine Kept.ext ?_ _ | refine Kept.drew ?_ | refine Kept.drewN ?_ _))⟩
    case round =>
      obtain ⟨k, hk1, hk, rfl, y, rfl⟩ := hrel
      by_cases hlt : k < n
      · obtain ⟨c2, c3⟩ := hcell k hlt
        have e5 := hull_next2 he.out.2.1 hk1 hlt
        have i0 : (0 : Int) ≤ (k : Int) := by omega
        have i1 : (k : Int) < (n : Int) := by omega
        go_wp2_with fail
        go_region_held3 (fun w' => w'.cell? ⟨adv (adv (adv (adv w.heap.size x1.obs.size + 1) x2.obs.size + 1) x3.obs.size + 1) x4.obs.size + 1, 0, none⟩ = some (.int .i64 (hullLo lo (k - 1))) ∧ w'.cell? ⟨adv (adv (adv (adv w.heap.size x1.obs.size + 1) x2.obs.size + 1) x3.obs.size + 1) x4.obs.size + 1, 1, none⟩ = some (.int .i64 (hullHi hi (k - 1))) ∧ w'.cell? ⟨b, off + k * 2, none⟩ = some (.int .i64 (lo k)) ∧ w'.cell? ⟨b, off + k * 2 + 1, none⟩ = some (.int .i64 (hi k))) ((refine ⟨?_, ?_, ?_, ?_⟩ <;> go_simp)) ((first | (go_at_call 26; refine (hull_any _ _ _ _ _).mono ?_; rintro e w1 ⟨rfl, x, rfl⟩)))
        all_goals
          rename_i hS
          clear hS
          go_wp2_with fail
          go_roundw
          case rel => exact ⟨k + 1, by omega, by omega, by go_num, show Kept (World.alloc (((ext ((ext ((ext ((ext w x1).alloc (.cells #[.int .i64 (sumsS n lo hi).lo, .int .i64 (sumsS n lo hi).hi] 23)) x2).alloc (.cells #[.int .i64 (sumsS n lo hi).lo, .int .i64 (sumsS n lo hi).hi] 23)) x3).alloc (.cells #[.int .i64 (meanS n lo hi).lo, .int .i64 (meanS n lo hi).hi] 23)) x4).alloc (.cells #[.int .i64 (meanS n lo hi).lo, .int .i64 (meanS n lo hi).hi] 23))) (.cells #[.int .i64 (hullLo lo k), .int .i64 (hullHi hi k)] 23)) _ by (repeat (first | exact Kept.refl _ | assumption | refine Kept.alloc ?_ _ | refine Kept.ext ?_ _ | refine Kept.drew ?_ | refine Kept.drewN ?_ _))⟩
          case measure => simp [intOf]; omega
      · obtain rfl : n = k := by omega
        have he2 := he.out.2.2
        go_wp2_with (first | (go_at_call 38; refine (encloses_any _ _ _ _ _ _).mono ?_; rintro e w1 ⟨rfl, x, rfl⟩) | (go_at_call 21; refine (known_any _).mono ?_; rintro e w1 ⟨rfl, x, rfl⟩))
        go_ret
        refine ⟨rfl, ?_⟩
        (repeat (first | exact Kept.refl _ | assumption | refine Kept.alloc ?_ _ | refine Kept.ext ?_ _ | refine Kept.drew ?_ | refine Kept.drewN ?_ _))
  · have f1 : ((meanS n lo hi).e != 0) = true := by simpa using hg
    clear hg
    go_enter Try.func6, Try.ntmps6
    go_wp2_with fail
    refine (ssum_any _ _ _ lo hi _ (by omega) (HS.out.of (by (repeat (first | exact Kept.refl _ | assumption | refine Kept.alloc ?_ _ | refine Kept.ext ?_ _ | refine Kept.drew ?_ | refine Kept.drewN ?_ _))))).mono ?_
    rintro e w1 ⟨rfl, x1, rfl⟩
    go_wp2_with fail
    refine (rsum_any _ _ _ lo hi _ (by omega) (HS.out.of (by (repeat (first | exact Kept.refl _ | assumption | refine Kept.alloc ?_ _ | refine Kept.ext ?_ _ | refine Kept.drew ?_ | refine Kept.drewN ?_ _))))).mono ?_
    rintro e w1 ⟨rfl, x2, rfl⟩
    go_wp2_with fail
    refine (mean_any _ _ _ lo hi _ (by omega) (HS.out.of (by (repeat (first | exact Kept.refl _ | assumption | refine Kept.alloc ?_ _ | refine Kept.ext ?_ _ | refine Kept.drew ?_ | refine Kept.drewN ?_ _))))).mono ?_
    rintro e w1 ⟨rfl, x3, rfl⟩
    go_wp2_with fail
    refine (rmean_any _ _ _ lo hi _ (by omega) (HS.out.of (by (repeat (first | exact Kept.refl _ | assumption | refine Kept.alloc ?_ _ | refine Kept.ext ?_ _ | refine Kept.drew ?_ | refine Kept.drewN ?_ _))))).mono ?_
    rintro e w1 ⟨rfl, x4, rfl⟩
    go_wp2_with (first | (go_at_call 21; refine (known_any _).mono ?_; rintro e w1 ⟨rfl, x, rfl⟩))
    go_ret
    refine ⟨rfl, ?_⟩
    (repeat (first | exact Kept.refl _ | assumption | refine Kept.alloc ?_ _ | refine Kept.ext ?_ _ | refine Kept.drew ?_ | refine Kept.drewN ?_ _))
theorem totals_law2 (A : Option Addr) (n cap : Nat) (f : Nat → Nat → Int) (w : World) (h : n ≤ cap ∧ cap ≤ maxLen ∧ RowsAt w A n 2 f) :
    Calls Try.prog 6 #[.slice A n cap] w fun r w' => r = .returned (.bool true) ∧ Kept w w' := by
  obtain ⟨h1, h2, h3⟩ := h
  unfold maxLen at h2
  refine totals_law A n cap (fun k => f k 0) (fun k => f k 1) w (by omega) (fun h0 => ?_)
  obtain ⟨b, off, e, hb, hc⟩ := h3 h0
  exact ⟨b, off, e, hb, fun k hk => ⟨(hc k hk 0 (by omega)).1, (hc k hk 1 (by omega)).1⟩⟩
theorem ownSpanTotals : ownKnob Try.prog.godebug = none := by kernel_rfl
theorem laidOutSpanTotals : laidOutB Try.prog = true := by kernel_rfl
set_option linter.unusedVariables false in
set_option maxRecDepth 100000 in
theorem liftedSpanTotals (os : Os) (started : os.Started) (H : Type) (enc : TypeId × Value → H) :
    ReturnsInHanded {} Try.checked os 6 .any (Rows.spanTotalsSpec.pre6 enc Try.prog Try.f6 Rows.spanTotalsRow.domain false) (Rows.spanTotalsSpec.post enc Try.prog Try.f6 false true false false) := by
  refine returnsInHanded_of_change (C := Try.checked) ownSpanTotals started (by kernel_rfl) Try.func6
    (ChangeSpec.witness6 (enc := enc) (C := Try.checked) false ⟨#[], #[.slice none 0 0], []⟩ 8 (by kernel_rfl) (by kernel_rfl) (by kernel_rfl) (by kernel_rfl)) ?_
  intro W base args ds gs before hval0 hW hcnd _
  have hval : ∀ (j : Nat) t v, Try.f6.params[j]? = some t → args[j]? = some v → Value.okWide Try.prog W .any base t v := hval0
  have hW' := hW
  obtain ⟨p, q, hA0, hV, rfl, hfz, hnd⟩ := hW
  have hA : DataW.TrodAll enc Try.prog W 0 (fun _ => true) true Try.f6.params.toList args.toList ds p := hA0
  rw [Try.params6] at hA hval
  obtain ⟨v0, vs0, d0, ds0, p0, q0, hargs, rfl, rfl, h0, r0⟩ := trodAll_cons hA
  obtain ⟨rfl, rfl, rfl⟩ := trodAll_nil r0
  obtain rfl : args = #[v0] := by cases args; simp_all
  obtain ⟨rfl, rfl⟩ := trodVars_none hV
  have lt0 : ∀ x ∈ p0, x.block < W.heap.size := by obtain ⟨m, hm⟩ := h0; exact DataW.trod_lt m _ _ _ hm
  obtain ⟨A0, n0, cap0, f0, rfl, hl0, hm0, hr0⟩ := open_rows 2 Try.underlying40 (by kernel_rfl) (by decide) (by kernel_rfl) (hval 0 40 v0 rfl rfl) h0 lt0
  clear hA0 hval0
  refine (totals_law2 A0 n0 cap0 f0 W ⟨hl0, hm0, hr0⟩).mono fun e W' ⟨he, hk⟩ => ?_
  subst he
  have bel := hk.below
  exact ⟨_, rfl, _, _, _, [], _, [], hW', trodAll_mk1 (shut_bool Try.underlying4 _), (trodAll_cons_mk (Below.trod laidOutSpanTotals (by kernel_rfl) (of_decide_eq_true (by kernel_rfl)) h0 bel lt0) trodAll_mk0), rfl, bel.frame _, fun h => by cases h⟩
/-- For every input the statement SpanTotals returns true, and each argument reads afterwards as it read before. -/
theorem spanTotals_holds : Rows.SpanTotalsSaid :=
  OpenClaim.holds_of_wide 6 Try.f6 rfl rfl rfl rfl rfl rfl rfl ⟨rfl, rfl, rfl, rfl, rfl⟩ rfl rfl rfl rfl rfl (by kernel_rfl) Try.func6 (by kernel_rfl)
    (of_decide_eq_true (by kernel_rfl)) (by unfold Func.isWrapper; first | (rw [if_pos (by decide +kernel)]; kernel_rfl) | (rw [if_neg (by decide +kernel)]; exact ⟨rfl, rfl⟩))
    (fun os started H enc _ => liftedSpanTotals os started H enc)
#print axioms spanTotals_holds

end Go.Proofs.Ytlkopkdbkbammaa
