/- Fractions, minors of longer choices: plain facts; the minor of a written matrix. Conditions: those of each theorem. -/
import Derived.Test.YtjadpehpempjoaaTo
import Derived.Test.YtjadpehpempjoaaPe
namespace Go.Proofs.Ytjadpehpempjoaa
set_option linter.unusedVariables false
set_option linter.unusedSimpArgs false
open Go.RowKit Go.Deep
theorem fr_signed {n d : Int} (hd : d ≠ 0) : ∃ g : Int, 0 < g ∧ frN n d * g = (if d < 0 then -n else n) ∧ frD n d * g = (d.natAbs : Int) := by
  obtain ⟨g0, g1, g2⟩ := g_pos (n := n) hd
  refine ⟨_, g0, ?_, ?_⟩
  · unfold frN
    refine Int.ediv_mul_cancel ?_
    split
    · exact Int.dvd_neg.2 g1
    · exact g1
  · unfold frD
    refine Int.ediv_mul_cancel ?_
    exact Int.natCast_dvd_natCast.2 (Nat.gcd_dvd_right _ _)
theorem fr_back {v d : Int} (hd : d ≠ 0) : d.tmod (frD v d) = 0 ∧ frN v d * d.tdiv (frD v d) = v := by
  obtain ⟨g, g0, g1, g2⟩ := fr_signed (n := v) hd
  have hp := frD_pos (n := v) hd
  generalize frN v d = a at *
  generalize frD v d = b at *
  by_cases hs : d < 0
  · rw [if_pos hs] at g1
    have e : d = b * (-g) := by
      rw [Int.mul_neg, g2]; omega
    refine ⟨by rw [e]; exact Int.mul_tmod_right _ _, ?_⟩
    rw [e, Int.mul_tdiv_cancel_left _ (by omega), Int.mul_neg]
    omega
  · rw [if_neg hs] at g1
    have e : d = b * g := by rw [g2]; omega
    refine ⟨by rw [e]; exact Int.mul_tmod_right _ _, ?_⟩
    rw [e, Int.mul_tdiv_cancel_left _ (by omega)]
    omega
theorem fr_zero {v d : Int} (hd : d ≠ 0) : frN v d = 0 ↔ v = 0 := by
  obtain ⟨g, g0, g1, -⟩ := fr_signed (n := v) hd
  constructor
  · intro h
    rw [h, Int.zero_mul] at g1
    split at g1 <;> omega
  · rintro rfl
    unfold frN
    simp
theorem gcd_less (p o d : Int) : Nat.gcd (p * d - o).natAbs d.natAbs = Nat.gcd o.natAbs d.natAbs := by
  refine Nat.dvd_antisymm (Nat.dvd_gcd ?_ (Nat.gcd_dvd_right _ _)) (Nat.dvd_gcd ?_ (Nat.gcd_dvd_right _ _))
  · have h1 := Int.ofNat_dvd_left.2 (Nat.gcd_dvd_left (p * d - o).natAbs d.natAbs)
    have h2 := Int.ofNat_dvd_left.2 (Nat.gcd_dvd_right (p * d - o).natAbs d.natAbs)
    refine Int.ofNat_dvd_left.1 ?_
    have h3 := Int.dvd_sub (Int.dvd_mul_of_dvd_right h2 (b := p)) h1
    rwa [show p * d - (p * d - o) = o by omega] at h3
  · have h1 := Int.ofNat_dvd_left.2 (Nat.gcd_dvd_left o.natAbs d.natAbs)
    have h2 := Int.ofNat_dvd_left.2 (Nat.gcd_dvd_right o.natAbs d.natAbs)
    exact Int.ofNat_dvd_left.1 (Int.dvd_sub (Int.dvd_mul_of_dvd_right h2) h1)
theorem fr_less {p o d : Int} (hd : d ≠ 0) : frN (p * d - o) d = p * frD o d - frN o d ∧ frD (p * d - o) d = frD o d := by
  have hD : frD (p * d - o) d = frD o d := by
    unfold frD
    rw [gcd_less]
  refine ⟨?_, hD⟩
  obtain ⟨g0, g1, g2⟩ := g_pos (n := o) hd
  obtain ⟨g, hg⟩ : ∃ g : Int, (Nat.gcd o.natAbs d.natAbs : Int) = g := ⟨_, rfl⟩
  unfold frN frD
  rw [gcd_less, hg]
  rw [hg] at g0 g1 g2
  obtain ⟨t, rfl⟩ := g1
  obtain ⟨k, rfl⟩ := g2
  by_cases hs : g * k < 0
  · rw [if_pos hs, if_pos hs, show (((g * k).natAbs : Nat) : Int) = g * (-k) by rw [Int.mul_neg]; omega, Int.mul_ediv_cancel_left _ (by omega), show -(g * t) = g * (-t) by rw [Int.mul_neg], Int.mul_ediv_cancel_left _ (by omega), show -(p * (g * k) - g * t) = g * (p * -k - -t) by grind, Int.mul_ediv_cancel_left _ (by omega)]
  · rw [if_neg hs, if_neg hs, show (((g * k).natAbs : Nat) : Int) = g * k by omega, Int.mul_ediv_cancel_left _ (by omega), Int.mul_ediv_cancel_left _ (by omega), show p * (g * k) - g * t = g * (p * k - t) by grind, Int.mul_ediv_cancel_left _ (by omega)]
theorem insZ_nat {s : Nat} {x : Nat → Nat → Int} {i a : Nat} : (insZ s x (i : Int) a 0).toNat = insN s (natF x) i a := by
  unfold insZ insN natF
  split
  · rfl
  · split
    · simp
    · rfl
theorem more_left {f : Nat → Nat → Int} {l s t : Nat} {R C : Nat → Nat → Int} {i j : Nat} (hs : s ≤ l) (ht : t ≤ l) (h1 : hasB l R i = false) (h2 : hasB l C j = false) : D (l + 1) (subF f (insZ s R i) (insZ t C j)) = 0 ↔ leftV f l R C i j = 0 := by
  have e : leftV f l R C i j = D (l + 1) (subF f (addF l R i) (addF l C j)) := by
    unfold leftV
    rw [h1, h2, if_neg (by simp)]
  have e2 : D (l + 1) (subF f (insZ s R i) (insZ t C j)) = D (l + 1) (fun a b => f (insN s (natF R) i a) (insN t (natF C) j b)) := D_congr fun a ha b hb => by
    unfold subF
    rw [insZ_nat, insZ_nat]
  have := D_ins hs ht f (natF R) (natF C) i j
  rw [e, left_D, e2]
  omega
theorem choE_of {n : Nat} {m : Nat → Nat} {f : Nat → Nat → Int} {l : Nat} {R C : Nat → Nat → Int} (hv : valE n m f = 0) (hs : setB n l R = true) (ht : setB (m 0) l C = true) : choE n m f l R l C = 0 := by
  unfold choE
  simp [hv, hs, ht]
theorem prod_mul {n : Nat} {m : Nat → Nat} {f : Nat → Nat → Int} {rl : Nat} {R : Nat → Nat → Int} {cl : Nat} {C : Nat → Nat → Int} {xl : Nat} {X : Nat → Nat → Int} (h : opnE n m f rl R cl C = 0) : prodE n m f xl X = mulE n m f rl R cl C xl X := by
  obtain ⟨hc, -⟩ := opnE_0 h
  obtain ⟨hv, -⟩ := choE_0 hc
  unfold prodE mulE
  rw [if_pos hv, if_pos hc, h]
theorem insZ_I {N l s a : Nat} {x : Nat → Nat → Int} {z : Int} (h : setB N l x = true) (hz : 0 ≤ z ∧ z < N) (hN : N ≤ 6) (hs : s ≤ l) (ha : a < l + 1) {j : Nat} : I64 (insZ s x z a j) := by
  unfold insZ
  split
  · have := setB_at h (show a < l by omega)
    unfold I64; omega
  · split
    · unfold I64; omega
    · have := setB_at h (show a - 1 < l by omega)
      unfold I64; omega
theorem D5_bd {n : Nat} {m : Nat → Nat} {f : Nat → Nat → Int} {l : Nat} {R C : Nat → Nat → Int} (hk : Mok n m f l R C) (h5 : l ≤ 5) : -1200000000000 ≤ D l (subF f R C) ∧ D l (subF f R C) ≤ 1200000000000 := by
  have hb := D_bd (c := 100) (by decide) (n := l) (X := subF f R C) hk.sml
  have h12 : fb 100 l ≤ 1200000000000 := by
    have : ∀ l, l ≤ 5 → fb 100 l ≤ 1200000000000 := by decide
    exact this l h5
  omega
/-- What the law needs of one element. -/
theorem top_el {n : Nat} {m : Nat → Nat} {f : Nat → Nat → Int} {rl : Nat} {R : Nat → Nat → Int} {cl : Nat} {C : Nat → Nat → Int} (h : opnE n m f rl R cl C = 0) {i j : Nat} (hi : i < n) (hj : j < m 0) :
    ∃ N D0 : Int, resN n m f rl R cl C i j = N ∧ resD n m f rl R cl C i j = D0 ∧ resE n m f rl R cl C i j = 0 ∧ 1 ≤ D0 ∧ D0 ≤ 9223372036854775807 ∧ I64 N ∧ (D rl (subF f R C)).tmod D0 = 0 ∧ N * (D rl (subF f R C)).tdiv D0 = leftV f rl R C i j ∧ (N = 0 ↔ leftV f rl R C i j = 0) ∧ -720000000000000 ≤ leftV f rl R C i j ∧ leftV f rl R C i j ≤ 720000000000000 ∧ -9223372036854775807 ≤ (D rl (subF f R C)).tdiv D0 ∧ (D rl (subF f R C)).tdiv D0 ≤ 9223372036854775807 := by
  obtain ⟨hc, hd⟩ := opnE_0 h
  obtain ⟨hv, hs, -, rfl⟩ := choE_0 hc
  obtain ⟨-, hk⟩ := Mok.of hc
  obtain ⟨e1, e2, e3⟩ := res_in (i := (i : Int)) (j := (j : Int)) h (by omega) (by omega)
  have hlb := leftV_bd (i := (i : Int)) (j := (j : Int)) hk hs (by omega) (by omega)
  obtain ⟨b1, b2⟩ := fr_back (v := leftV f rl R C i j) hd
  have hp := frD_pos (n := leftV f rl R C i j) hd
  have hnb := frN_bd (n := leftV f rl R C i j) hlb hd
  have hdb := hk.bd
  obtain ⟨g, g0, g1, g2⟩ := fr_signed (n := leftV f rl R C i j) hd
  have hle : frD (leftV f rl R C i j) (D rl (subF f R C)) ≤ ((D rl (subF f R C)).natAbs : Int) := by
    rw [← g2]
    have := Int.mul_le_mul_of_nonneg_left (show 1 ≤ g by omega) (show 0 ≤ frD (leftV f rl R C i j) (D rl (subF f R C)) by omega)
    rwa [Int.mul_one] at this
  have hq : ((D rl (subF f R C)).tdiv (frD (leftV f rl R C i j) (D rl (subF f R C)))).natAbs ≤ (D rl (subF f R C)).natAbs := by
    rw [Int.natAbs_tdiv]
    exact Nat.div_le_self _ _
  exact ⟨_, _, e2, e3, e1, by omega, by omega, by unfold I64; omega, b1, b2, fr_zero hd, hlb.1, hlb.2, by omega, by omega⟩
theorem top_choice {n : Nat} {m : Nat → Nat} {f : Nat → Nat → Int} {rl : Nat} {R : Nat → Nat → Int} {cl : Nat} {C : Nat → Nat → Int} (h : opnE n m f rl R cl C = 0) {i j s t : Nat} (hi : i < n) (hj : j < m 0) (hs : s ≤ rl) (ht : t ≤ cl)
    (h1 : hasB rl R i = false) (h2 : hasB cl C j = false) (s2 : ∀ a, a < s → R a 0 < i) (s3 : ∀ a, s ≤ a → a < rl → (i : Int) < R a 0) (t2 : ∀ a, a < t → C a 0 < j) (t3 : ∀ a, t ≤ a → a < cl → (j : Int) < C a 0) :
    choE n m f (rl + 1) (insZ s R i) (cl + 1) (insZ t C j) = 0 ∧ (minV n m f (rl + 1) (insZ s R i) (cl + 1) (insZ t C j) = 0 ↔ leftV f rl R C i j = 0) := by
  obtain ⟨hc, hd⟩ := opnE_0 h
  obtain ⟨hv, hsr, hsc, rfl⟩ := choE_0 hc
  have e := choE_of (f := f) hv (insZ_set (z := (i : Int)) hsr (by omega) hs s2 s3) (insZ_set (z := (j : Int)) hsc (by omega) ht t2 t3)
  refine ⟨e, ?_⟩
  rw [show minV n m f (rl + 1) (insZ s R i) (rl + 1) (insZ t C j) = D (rl + 1) (subF f (insZ s R i) (insZ t C j)) from if_pos e]
  exact more_left hs ht h1 h2
theorem fr_bd9 {n g : Int} (hg : 0 < g) (hn : -9000000000000000000 ≤ n ∧ n ≤ 9000000000000000000) : -9000000000000000000 ≤ n / g ∧ n / g ≤ 9000000000000000000 := by
  constructor
  · rw [Int.le_ediv_iff_mul_le hg]
    have : (9000000000000000000 : Int) * 1 ≤ 9000000000000000000 * g := Int.mul_le_mul_of_nonneg_left (by omega) (by decide)
    rw [show (-9000000000000000000 : Int) * g = -(9000000000000000000 * g) by rw [Int.neg_mul]]
    omega
  · have := Int.ediv_le_ediv hg hn.2
    have h2 : (9000000000000000000 : Int) / g ≤ 9000000000000000000 := Int.ediv_le_self _ (by decide)
    omega
set_option maxRecDepth 100000 in
theorem ratio_big (n d : Int) (w : World) (hn : -9000000000000000000 ≤ n ∧ n ≤ 9000000000000000000) (hd : d ≠ 0 ∧ -4611686018427387904 ≤ d ∧ d ≤ 4611686018427387904) :
    Calls Try.prog 12 #[.int .i64 n, .int .i64 d] w fun e w' => e = .returned (.agg #[.int .i64 (frN n d), .int .i64 (frD n d)]) ∧ Kept w w' := by
  obtain ⟨g0, g1, g2⟩ := g_pos (n := n) hd.1
  have hF1 : frN n d = (if d < 0 then -n else n) / (Nat.gcd n.natAbs d.natAbs : Int) := rfl
  have hF2 : frD n d = (d.natAbs : Int) / (Nat.gcd n.natAbs d.natAbs : Int) := rfl
  have k1 : (n.natAbs : Int) ≤ 9000000000000000000 := by omega
  have k2 : (d.natAbs : Int) ≤ 4611686018427387904 := by omega
  have gb : (Nat.gcd n.natAbs d.natAbs : Int) ≤ 4611686018427387904 := by
    have := Nat.le_of_dvd (show 0 < d.natAbs by omega) (Nat.gcd_dvd_right n.natAbs d.natAbs)
    omega
  obtain ⟨ng, hng⟩ : ∃ k, n.natAbs = k := ⟨_, rfl⟩
  obtain ⟨dg, hdg⟩ : ∃ k, d.natAbs = k := ⟨_, rfl⟩
  have hd2 : if d < 0 then d = -(dg : Int) else d = dg := by split <;> omega
  rw [hng, hdg] at hF1 hF2 g0 g1 g2 gb
  have HF1 := Lib.hid hF1
  have HF2 := Lib.hid hF2
  have HNG := Lib.hid hng
  have HDG := Lib.hid hdg
  have HD2 := Lib.hid hd2
  have G1 := Lib.hid g1
  have G2 := Lib.hid g2
  rw [hng] at k1
  rw [hdg] at k2
  clear hF1 hF2 g1 g2 hng hdg hd2
  go_enter Try.func12, Try.ntmps12
  go_wp2_with (go_at_call 28; refine (r6size_any _ _ (by omega)).mono ?_; rintro e w1 ⟨rfl, rfl⟩; first | rw [HNG.out] | rw [HDG.out])
  go_loopw [5, 6] (fun a b wr => ∃ p q : Nat, a = .int .i64 p ∧ b = .int .i64 q ∧ Nat.gcd p q = Nat.gcd ng dg ∧ p ≤ 9223372036854775807 ∧ q ≤ 9223372036854775807 ∧ (∃ y, wr = ext (w.alloc (.cells #[.int .i64 0, .int .i64 0] 27)) y)) (fun _ b _ => (intOf b).toNat)
  case atStart => exact ⟨ng, dg, rfl, rfl, rfl, by omega, by omega, show Kept _ _ by (repeat (first | exact Kept.refl _ | assumption | refine Kept.alloc ?_ _ | refine Kept.ext ?_ _ | refine Kept.drew ?_ | refine Kept.drewN ?_ _))⟩
  case round =>
    obtain ⟨p, q, rfl, rfl, hg, hp, hq, x1, rfl⟩ := hrel
    by_cases h0 : q = 0
    · have hz : (q : Int) = 0 := by omega
      rw [h0, Nat.gcd_zero_right] at hg
      have HG := Lib.hid hg
      rw [← hg] at g0 gb
      clear hg
      have f1 : ((p : Int) == 0) = false := beq_eq_false_iff_ne.2 (by omega)
      have f0 : ¬ p = 0 := by omega
      by_cases hs : d < 0
      · go_wp2
        ((first | (with_reducible refine wp_region_tail2 6 (by kernel_rfl) (by kernel_rfl) ?_) | refine wp_region_tail 6 (by kernel_rfl) (by kernel_rfl) ?_); simp only [List.take_succ_cons, List.take_zero, List.drop_succ_cons, List.drop_zero]; (repeat (go_big_quiet_step (first | fail))); refine wpQuiet_nil ?_; intro x)
        go_wp2
        refine bodyPost_ret (by simp only [results, Try.results12]; go_simp; rfl) rfl ?_
        refine ⟨?_, by (repeat (first | exact Kept.refl _ | assumption | refine Kept.alloc ?_ _ | refine Kept.ext ?_ _ | refine Kept.drew ?_ | refine Kept.drewN ?_ _))⟩
        have g1 := G1.out
        have g2 := G2.out
        have hd2 := HD2.out
        rw [← HG.out] at g1 g2
        rw [if_pos hs] at hd2
        have q1 := fr_bd9 g0 (show -9000000000000000000 ≤ -n ∧ -n ≤ 9000000000000000000 by omega)
        have q2 := fr_bd g0 (show -4611686018427387904 ≤ -d ∧ -d ≤ 4611686018427387904 by omega)
        rw [← (fr_div g0 (Int.dvd_neg.2 g1)).1, Int.neg_tdiv] at q1
        rw [← (fr_div g0 (Int.dvd_neg.2 g2)).1, Int.neg_tdiv] at q2
        rw [HF1.out, HF2.out, if_pos hs, ← HG.out, show (dg : Int) = -d by omega, ← (fr_div g0 (Int.dvd_neg.2 g1)).1, ← (fr_div g0 (Int.dvd_neg.2 g2)).1, Int.neg_tdiv, Int.neg_tdiv]
        rw [show wrap64 (-n.tdiv (p : Int)) = -n.tdiv (p : Int) by unfold wrap64; omega, show wrap64 (-d.tdiv (p : Int)) = -d.tdiv (p : Int) by unfold wrap64; omega]
      · go_wp2
        ((first | (with_reducible refine wp_region_tail2 6 (by kernel_rfl) (by kernel_rfl) ?_) | refine wp_region_tail 6 (by kernel_rfl) (by kernel_rfl) ?_); simp only [List.take_succ_cons, List.take_zero, List.drop_succ_cons, List.drop_zero]; (repeat (go_big_quiet_step (first | fail))); refine wpQuiet_nil ?_; intro x)
        go_wp2
        refine bodyPost_ret (by simp only [results, Try.results12]; go_simp; rfl) rfl ?_
        refine ⟨?_, by (repeat (first | exact Kept.refl _ | assumption | refine Kept.alloc ?_ _ | refine Kept.ext ?_ _ | refine Kept.drew ?_ | refine Kept.drewN ?_ _))⟩
        have g1 := G1.out
        have hd2 := HD2.out
        rw [← HG.out] at g1
        have hs' : ¬ d < 0 := by omega
        rw [if_neg hs'] at hd2
        rw [HF1.out, HF2.out, if_neg hs', ← HG.out, (fr_div g0 g1).1, show (dg : Int) = d by omega]
    · have f1 : ((q : Int) == 0) = false := beq_eq_false_iff_ne.2 (by omega)
      have HG := Lib.hid hg
      clear hg
      go_wp2
      ((first | (with_reducible refine wp_region_kept2 (by kernel_rfl) (by kernel_rfl) ?_) | refine wp_region_kept (by kernel_rfl) (by kernel_rfl) ?_); (repeat (go_big_quiet_step (first | fail))); refine wpQuiet_nil ?_; intro x)
      go_wp2
      refine ⟨⟨q, p % q, rfl, ?_, ?_, by omega, ?_, show Kept _ _ by (repeat (first | exact Kept.refl _ | assumption | refine Kept.alloc ?_ _ | refine Kept.ext ?_ _ | refine Kept.drew ?_ | refine Kept.drewN ?_ _))⟩, ?_⟩
      · rw [Int.natCast_emod]
      · rw [← HG.out, Nat.gcd_comm q, ← Nat.gcd_rec, Nat.gcd_comm]
      · have := Nat.mod_lt p (show 0 < q by omega)
        omega
      · have := Nat.mod_lt p (show 0 < q by omega)
        rw [← Int.natCast_emod]
        simp only [intOf]
        omega
theorem ex_min : choE 2 (fun _ => 2) exF 2 (fun k _ => k) 2 (fun k _ => k) = 0 ∧ minV 2 (fun _ => 2) exF 2 (fun k _ => k) 2 (fun k _ => k) = 1 := by decide
set_option maxRecDepth 100000 in
theorem lit_minor (v : World) (g : Nat) (hg : v.heap.size = g) :
    Calls Try.prog 4 #[.slice (some ⟨g + 1 + 1, 0, none⟩) 2 2, .slice (some ⟨g + 1 + 1 + 1, 0, none⟩) 2 2, .slice (some ⟨g + 1 + 1 + 1 + 1, 0, none⟩) 2 2] (((((v.alloc (.cells #[.int .i64 2, .int .i64 1] 3)).alloc (.cells #[.int .i64 1, .int .i64 1] 3)).alloc (.cells #[.slice (some ⟨g, 0, none⟩) 2 2, .slice (some ⟨g + 1, 0, none⟩) 2 2] 23)).alloc (.cells #[.int .i64 0, .int .i64 1] 3)).alloc (.cells #[.int .i64 0, .int .i64 1] 3)) fun e w' => e = .returned (.tuple #[.int .i64 1, .int .i64 0]) ∧ Kept (((((v.alloc (.cells #[.int .i64 2, .int .i64 1] 3)).alloc (.cells #[.int .i64 1, .int .i64 1] 3)).alloc (.cells #[.slice (some ⟨g, 0, none⟩) 2 2, .slice (some ⟨g + 1, 0, none⟩) 2 2] 23)).alloc (.cells #[.int .i64 0, .int .i64 1] 3)).alloc (.cells #[.int .i64 0, .int .i64 1] 3)) w' := by
  subst hg
  have h0 : (((((v.alloc (.cells #[.int .i64 2, .int .i64 1] 3)).alloc (.cells #[.int .i64 1, .int .i64 1] 3)).alloc (.cells #[.slice (some ⟨v.heap.size, 0, none⟩) 2 2, .slice (some ⟨v.heap.size + 1, 0, none⟩) 2 2] 23)).alloc (.cells #[.int .i64 0, .int .i64 1] 3)).alloc (.cells #[.int .i64 0, .int .i64 1] 3)).heap[v.heap.size]? = _ := fr_kept (w := (v.alloc (.cells #[.int .i64 2, .int .i64 1] 3))) (alloc_at2 v (.cells #[.int .i64 2, .int .i64 1] 3) v.heap.size) (by (repeat (first | exact Kept.refl _ | assumption | refine Kept.alloc ?_ _ | refine Kept.ext ?_ _ | refine Kept.drew ?_ | refine Kept.drewN ?_ _)))
  have h1 : (((((v.alloc (.cells #[.int .i64 2, .int .i64 1] 3)).alloc (.cells #[.int .i64 1, .int .i64 1] 3)).alloc (.cells #[.slice (some ⟨v.heap.size, 0, none⟩) 2 2, .slice (some ⟨v.heap.size + 1, 0, none⟩) 2 2] 23)).alloc (.cells #[.int .i64 0, .int .i64 1] 3)).alloc (.cells #[.int .i64 0, .int .i64 1] 3)).heap[v.heap.size + 1]? = _ := fr_kept (w := ((v.alloc (.cells #[.int .i64 2, .int .i64 1] 3)).alloc (.cells #[.int .i64 1, .int .i64 1] 3))) (alloc_at2 (v.alloc (.cells #[.int .i64 2, .int .i64 1] 3)) (.cells #[.int .i64 1, .int .i64 1] 3) (v.heap.size + 1)) (by (repeat (first | exact Kept.refl _ | assumption | refine Kept.alloc ?_ _ | refine Kept.ext ?_ _ | refine Kept.drew ?_ | refine Kept.drewN ?_ _)))
  have h2 : (((((v.alloc (.cells #[.int .i64 2, .int .i64 1] 3)).alloc (.cells #[.int .i64 1, .int .i64 1] 3)).alloc (.cells #[.slice (some ⟨v.heap.size, 0, none⟩) 2 2, .slice (some ⟨v.heap.size + 1, 0, none⟩) 2 2] 23)).alloc (.cells #[.int .i64 0, .int .i64 1] 3)).alloc (.cells #[.int .i64 0, .int .i64 1] 3)).heap[v.heap.size + 1 + 1]? = _ := fr_kept (w := (((v.alloc (.cells #[.int .i64 2, .int .i64 1] 3)).alloc (.cells #[.int .i64 1, .int .i64 1] 3)).alloc (.cells #[.slice (some ⟨v.heap.size, 0, none⟩) 2 2, .slice (some ⟨v.heap.size + 1, 0, none⟩) 2 2] 23))) (alloc_at2 ((v.alloc (.cells #[.int .i64 2, .int .i64 1] 3)).alloc (.cells #[.int .i64 1, .int .i64 1] 3)) (.cells #[.slice (some ⟨v.heap.size, 0, none⟩) 2 2, .slice (some ⟨v.heap.size + 1, 0, none⟩) 2 2] 23) (v.heap.size + 1 + 1)) (by (repeat (first | exact Kept.refl _ | assumption | refine Kept.alloc ?_ _ | refine Kept.ext ?_ _ | refine Kept.drew ?_ | refine Kept.drewN ?_ _)))
  have h3 : (((((v.alloc (.cells #[.int .i64 2, .int .i64 1] 3)).alloc (.cells #[.int .i64 1, .int .i64 1] 3)).alloc (.cells #[.slice (some ⟨v.heap.size, 0, none⟩) 2 2, .slice (some ⟨v.heap.size + 1, 0, none⟩) 2 2] 23)).alloc (.cells #[.int .i64 0, .int .i64 1] 3)).alloc (.cells #[.int .i64 0, .int .i64 1] 3)).heap[v.heap.size + 1 + 1 + 1]? = _ := fr_kept (w := ((((v.alloc (.cells #[.int .i64 2, .int .i64 1] 3)).alloc (.cells #[.int .i64 1, .int .i64 1] 3)).alloc (.cells #[.slice (some ⟨v.heap.size, 0, none⟩) 2 2, .slice (some ⟨v.heap.size + 1, 0, none⟩) 2 2] 23)).alloc (.cells #[.int .i64 0, .int .i64 1] 3))) (alloc_at2 (((v.alloc (.cells #[.int .i64 2, .int .i64 1] 3)).alloc (.cells #[.int .i64 1, .int .i64 1] 3)).alloc (.cells #[.slice (some ⟨v.heap.size, 0, none⟩) 2 2, .slice (some ⟨v.heap.size + 1, 0, none⟩) 2 2] 23)) (.cells #[.int .i64 0, .int .i64 1] 3) (v.heap.size + 1 + 1 + 1)) (by (repeat (first | exact Kept.refl _ | assumption | refine Kept.alloc ?_ _ | refine Kept.ext ?_ _ | refine Kept.drew ?_ | refine Kept.drewN ?_ _)))
  have h4 : (((((v.alloc (.cells #[.int .i64 2, .int .i64 1] 3)).alloc (.cells #[.int .i64 1, .int .i64 1] 3)).alloc (.cells #[.slice (some ⟨v.heap.size, 0, none⟩) 2 2, .slice (some ⟨v.heap.size + 1, 0, none⟩) 2 2] 23)).alloc (.cells #[.int .i64 0, .int .i64 1] 3)).alloc (.cells #[.int .i64 0, .int .i64 1] 3)).heap[v.heap.size + 1 + 1 + 1 + 1]? = _ := alloc_at2 ((((v.alloc (.cells #[.int .i64 2, .int .i64 1] 3)).alloc (.cells #[.int .i64 1, .int .i64 1] 3)).alloc (.cells #[.slice (some ⟨v.heap.size, 0, none⟩) 2 2, .slice (some ⟨v.heap.size + 1, 0, none⟩) 2 2] 23)).alloc (.cells #[.int .i64 0, .int .i64 1] 3)) (.cells #[.int .i64 0, .int .i64 1] 3) (v.heap.size + 1 + 1 + 1 + 1)
  have z0 : ∀ k : Nat, k < 2 → (#[Value.int .i64 0, Value.int .i64 1] : Array Value)[k]? = some (.int .i64 (k : Int)) ∧ I64 (k : Int) := fun k hk => by
    rcases (show k = 0 ∨ k = 1 by omega) with rfl | rfl
    · exact ⟨rfl, by unfold I64; omega⟩
    · exact ⟨rfl, by unfold I64; omega⟩
  have hcall := cMinor_any (some ⟨v.heap.size + 1 + 1, 0, none⟩) 2 2 _ (fun _ => 2) (fun _ => 2) exF (some ⟨v.heap.size + 1 + 1 + 1, 0, none⟩) 2 2 (fun k _ => k) (some ⟨v.heap.size + 1 + 1 + 1 + 1, 0, none⟩) 2 2 (fun k _ => k) _ (by omega) (by omega) (by omega) (ex_mat _ h0 h1 h2) (lit_rows _ (x := fun k => (k : Int)) h3 z0) (lit_rows _ (x := fun k => (k : Int)) h4 z0)
  rw [ex_min.1, ex_min.2] at hcall
  exact hcall
end Go.Proofs.Ytjadpehpempjoaa
