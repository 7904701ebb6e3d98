/- Contracts: an enclosure of a mesh's area, of the program and of the reference. Conditions: the lists' lengths are ints. -/
import Derived.Test.YtbhcjdgfcinpcaaGwl
import Derived.Test.YtbhcjdgfcinpcaaLen
import Derived.Test.YtbhcjdgfcinpcaaTom
namespace Go.Proofs.Ytbhcjdgfcinpcaa
set_option linter.unusedVariables false
set_option linter.unusedSimpArgs false
open Go.RowKit
theorem len_ok {q : Int} (h : 0 ≤ q ∧ q ≤ 17179869184) : (lenS q).e = 0 ∧ 0 ≤ (lenS q).lo ∧ (lenS q).lo ≤ (lenS q).hi ∧ (lenS q).hi ≤ 274877906944 := by
  obtain ⟨s0, s1, -⟩ := sqrtS_spec (show 0 ≤ q * 1099511627776 by omega)
  have s3 : sqrtS (q * 1099511627776) ≤ 137438953472 := of_sq_le (by decide) (by omega)
  unfold lenS
  rw [if_pos (by omega)]
  have key : ∀ a b : Int, 0 ≤ a → a ≤ b → b ≤ 137438953473 → resultS a b = ⟨a, b, 0⟩ := fun a b h1 h2 h3 => by
    unfold resultS
    rw [if_pos (show validB a b = true from decide_eq_true (by omega))]
  split
  · rw [key _ _ s0 (Int.le_refl _) (by omega)]
    exact ⟨rfl, s0, Int.le_refl _, by simp only; omega⟩
  · rw [key _ _ s0 (by omega) (by omega)]
    exact ⟨rfl, s0, by simp only; omega, by simp only; omega⟩
theorem part_ok {l h : Int} (b : 0 ≤ l ∧ l ≤ h ∧ h ≤ 274877906944) : (partS l h 2).e = 0 ∧ (-1099511627776 ≤ (partS l h 2).lo ∧ (partS l h 2).lo ≤ 1099511627776) ∧ (-1099511627776 ≤ (partS l h 2).hi ∧ (partS l h 2).hi ≤ 1099511627776) := by
  have hv : validB l h = true := decide_eq_true (by omega)
  have e : partS l h 2 = ⟨l / 2, -(-h / 2), 0⟩ := by
    unfold partS
    rw [hv]
    simp only [Bool.true_and]
    rw [if_pos (by decide)]
    unfold resultS
    rw [if_pos (show validB (l / 2) (-(-h / 2)) = true from decide_eq_true (by omega))]
  rw [e]
  exact ⟨rfl, by simp only; omega, by simp only; omega⟩
/-- The square of a normal's length. -/
def nnF (P F : Nat → Nat → Int) (k : Nat) : Int := nX (co P F k 0 0) (co P F k 0 1) (co P F k 0 2) (co P F k 1 0) (co P F k 1 1) (co P F k 1 2) (co P F k 2 0) (co P F k 2 1) (co P F k 2 2) * nX (co P F k 0 0) (co P F k 0 1) (co P F k 0 2) (co P F k 1 0) (co P F k 1 1) (co P F k 1 2) (co P F k 2 0) (co P F k 2 1) (co P F k 2 2) + nY (co P F k 0 0) (co P F k 0 1) (co P F k 0 2) (co P F k 1 0) (co P F k 1 1) (co P F k 1 2) (co P F k 2 0) (co P F k 2 1) (co P F k 2 2) * nY (co P F k 0 0) (co P F k 0 1) (co P F k 0 2) (co P F k 1 0) (co P F k 1 1) (co P F k 1 2) (co P F k 2 0) (co P F k 2 1) (co P F k 2 2) + nZ (co P F k 0 0) (co P F k 0 1) (co P F k 0 2) (co P F k 1 0) (co P F k 1 1) (co P F k 1 2) (co P F k 2 0) (co P F k 2 1) (co P F k 2 2) * nZ (co P F k 0 0) (co P F k 0 1) (co P F k 0 2) (co P F k 1 0) (co P F k 1 1) (co P F k 1 2) (co P F k 2 0) (co P F k 2 1) (co P F k 2 2)
/-- The enclosure of a face's area. -/
def arF (P F : Nat → Nat → Int) (k j : Nat) : Int := if j = 0 then (partS (lenS (nnF P F k)).lo (lenS (nnF P F k)).hi 2).lo else (partS (lenS (nnF P F k)).lo (lenS (nnF P F k)).hi 2).hi
def areaS (n : Nat) (P : Nat → Nat → Int) (m : Nat) (F : Nat → Nat → Int) : R := if validE n P m F = 0 then sumsS m (fun k => arF P F k 0) (fun k => arF P F k 1) else ⟨0, 0, validE n P m F⟩
theorem nrm_bd {P F : Nat → Nat → Int} {n k : Nat} (hb : ptsBad P n = false) (hF : cornB n F k = true) : (-32768 ≤ nX (co P F k 0 0) (co P F k 0 1) (co P F k 0 2) (co P F k 1 0) (co P F k 1 1) (co P F k 1 2) (co P F k 2 0) (co P F k 2 1) (co P F k 2 2) ∧ nX (co P F k 0 0) (co P F k 0 1) (co P F k 0 2) (co P F k 1 0) (co P F k 1 1) (co P F k 1 2) (co P F k 2 0) (co P F k 2 1) (co P F k 2 2) ≤ 32768) ∧ (-32768 ≤ nY (co P F k 0 0) (co P F k 0 1) (co P F k 0 2) (co P F k 1 0) (co P F k 1 1) (co P F k 1 2) (co P F k 2 0) (co P F k 2 1) (co P F k 2 2) ∧ nY (co P F k 0 0) (co P F k 0 1) (co P F k 0 2) (co P F k 1 0) (co P F k 1 1) (co P F k 1 2) (co P F k 2 0) (co P F k 2 1) (co P F k 2 2) ≤ 32768) ∧ (-32768 ≤ nZ (co P F k 0 0) (co P F k 0 1) (co P F k 0 2) (co P F k 1 0) (co P F k 1 1) (co P F k 1 2) (co P F k 2 0) (co P F k 2 1) (co P F k 2 2) ∧ nZ (co P F k 0 0) (co P F k 0 1) (co P F k 0 2) (co P F k 1 0) (co P F k 1 1) (co P F k 1 2) (co P F k 2 0) (co P F k 2 1) (co P F k 2 2) ≤ 32768) := by
  obtain ⟨c0, c1, c2⟩ := cornB_true hF
  have b0 := co_bd hb c0
  have b1 := co_bd hb c1
  have b2 := co_bd hb c2
  unfold nX nY nZ
  exact ⟨diff_bd (by omega), diff_bd (by omega), diff_bd (by omega)⟩
theorem nn_bd {x y z : Int} (h : (-32768 ≤ x ∧ x ≤ 32768) ∧ (-32768 ≤ y ∧ y ≤ 32768) ∧ (-32768 ≤ z ∧ z ≤ 32768)) : (0 ≤ x * x ∧ x * x ≤ 1073741824) ∧ (0 ≤ y * y ∧ y * y ≤ 1073741824) ∧ (0 ≤ z * z ∧ z * z ≤ 1073741824) := by
  have k1 := mul_sq 32768 1073741824 h.1 h.1 rfl
  have k2 := mul_sq 32768 1073741824 h.2.1 h.2.1 rfl
  have k3 := mul_sq 32768 1073741824 h.2.2 h.2.2 rfl
  have p1 : 0 ≤ x * x := by rcases Int.le_total 0 x with h0 | h0; exact Int.mul_nonneg h0 h0; exact Int.mul_nonneg_of_nonpos_of_nonpos h0 h0
  have p2 : 0 ≤ y * y := by rcases Int.le_total 0 y with h0 | h0; exact Int.mul_nonneg h0 h0; exact Int.mul_nonneg_of_nonpos_of_nonpos h0 h0
  have p3 : 0 ≤ z * z := by rcases Int.le_total 0 z with h0 | h0; exact Int.mul_nonneg h0 h0; exact Int.mul_nonneg_of_nonpos_of_nonpos h0 h0
  omega
theorem nnF_bd {P F : Nat → Nat → Int} {n k : Nat} (hb : ptsBad P n = false) (hF : cornB n F k = true) : 0 ≤ nnF P F k ∧ nnF P F k ≤ 17179869184 := by
  have := nn_bd (nrm_bd hb hF)
  unfold nnF
  omega
theorem arF_I {P F : Nat → Nat → Int} {n m : Nat} (hb : ptsBad P n = false) (hc : ∀ i, i < m → cornB n F i = true) : ∀ k, k < m → ∀ j, j < 2 → I64 (arF P F k j) := by
  intro k hk j hj
  obtain ⟨-, h1, h2, h3⟩ := len_ok (nnF_bd hb (hc k hk))
  obtain ⟨-, h4, h5⟩ := part_ok ⟨h1, h2, h3⟩
  unfold arF I64
  split <;> omega
theorem arF_row (P F : Nat → Nat → Int) (k : Nat) : ((List.range 2).map fun j => Value.int .i64 (arF P F k j)) = [.int .i64 (partS (lenS (nnF P F k)).lo (lenS (nnF P F k)).hi 2).lo, .int .i64 (partS (lenS (nnF P F k)).lo (lenS (nnF P F k)).hi 2).hi] := rfl
theorem spans_of {w : World} {A : Option Addr} {m : Nat} {f : Nat → Nat → Int} (h : RowsAt w A m 2 f) : SpansAt w A m (fun k => f k 0) (fun k => f k 1) := by
  intro h0
  obtain ⟨b, off, rfl, hb, hc⟩ := h h0
  exact ⟨b, off, rfl, hb, fun k hk => ⟨(hc k hk 0 (by omega)).1, (hc k hk 1 (by omega)).1⟩⟩
theorem infoSpan : (Try.prog.info? 39).map (fun i => (i.zero, i.size, i.bytes)) = some (some (.agg #[.int .i64 0, .int .i64 0]), 2, 16) := by kernel_rfl
set_option maxRecDepth 100000 in
set_option maxHeartbeats 16000000 in
theorem sarea_any (A B : Option Addr) (n cap m cap2 : Nat) (P F : Nat → Nat → Int) (w : World) (hn : n ≤ 9223372036854775807 ∧ m ≤ 9223372036854775807) (hP : RowsAt w A n 3 P) (hF : RowsAt w B m 3 F) :
    Calls Try.prog 9 #[.agg #[.slice A n cap, .slice B m cap2]] w fun r w' => r = .returned (.tuple #[.agg #[.int .i64 (areaS n P m F).lo, .int .i64 (areaS n P m F).hi], .int .i64 (areaS n P m F).e]) ∧ Kept w w' := by
  have HP := Lib.hid hP
  have HF := Lib.hid hF
  clear hP hF
  by_cases hv : validE n P m F = 0
  case neg =>
    rw [show areaS n P m F = ⟨0, 0, validE n P m F⟩ from if_neg hv]
    obtain ⟨e, he⟩ : ∃ e, validE n P m F = e := ⟨_, rfl⟩
    rw [he] at hv
    have HV := Lib.hid he
    clear he
    have hv2 : (e == 0) = false := by simpa using hv
    have hv3 : decide (e = 0) = false := by simpa using hv
    go_enter Try.func9, Try.ntmps9
    go_wp2_with (go_at_call 24; refine (svalidate_any _ _ _ _ _ _ P F _ hn (HP.out.of (by (repeat (first | exact Kept.refl _ | assumption | refine Kept.alloc ?_ _ | refine Kept.ext ?_ _ | refine Kept.drew ?_ | refine Kept.drewN ?_ _)))) (HF.out.of (by (repeat (first | exact Kept.refl _ | assumption | refine Kept.alloc ?_ _ | refine Kept.ext ?_ _ | refine Kept.drew ?_ | refine Kept.drewN ?_ _))))).mono ?_; rintro e w1 ⟨rfl, x, rfl⟩; rw [HV.out])
    refine bodyPost_ret (by simp only [results, Try.results9]; go_simp; rfl) rfl ?_
    rw [HV.out]
    exact ⟨rfl, by (repeat (first | exact Kept.refl _ | assumption | refine Kept.alloc ?_ _ | refine Kept.ext ?_ _ | refine Kept.drew ?_ | refine Kept.drewN ?_ _))⟩
  have HV := Lib.hid hv
  have HA := Lib.hid (show areaS n P m F = sumsS m (fun k => arF P F k 0) (fun k => arF P F k 1) from if_pos hv)
  obtain ⟨n64, m96, hb, hf, -⟩ := validE_ok hv
  have HB := Lib.hid hb
  have HC := Lib.hid (corn_of hf)
  clear hv hb hf
  obtain ⟨i0, hi, hz0, hz1, hz2⟩ := info_parts infoSpan
  have HI := Lib.hid (And.intro hi (And.intro hz0 (And.intro hz1 hz2)))
  clear hi hz0 hz1 hz2
  go_enter Try.func9, Try.ntmps9
  go_wp2_with (first | (go_at_call 24; refine (svalidate_any _ _ _ _ _ _ P F _ hn (HP.out.of (by (repeat (first | exact Kept.refl _ | assumption | refine Kept.alloc ?_ _ | refine Kept.ext ?_ _ | refine Kept.drew ?_ | refine Kept.drewN ?_ _)))) (HF.out.of (by (repeat (first | exact Kept.refl _ | assumption | refine Kept.alloc ?_ _ | refine Kept.ext ?_ _ | refine Kept.drew ?_ | refine Kept.drewN ?_ _))))).mono ?_; rintro e w1 ⟨rfl, x0, rfl⟩; rw [HV.out]) | fail)
  refine (spanels_any _ _ _ _ _ _ P F _ (by omega) (by omega) HC.out (HP.out.of (by (repeat (first | exact Kept.refl _ | assumption | refine Kept.alloc ?_ _ | refine Kept.ext ?_ _ | refine Kept.drew ?_ | refine Kept.drewN ?_ _)))) (HF.out.of (by (repeat (first | exact Kept.refl _ | assumption | refine Kept.alloc ?_ _ | refine Kept.ext ?_ _ | refine Kept.drew ?_ | refine Kept.drewN ?_ _))))).mono ?_
  rintro r w1 ⟨v, rfl, ⟨x1, rfl⟩, hown⟩
  obtain ⟨A2, cp, rfl, hcp⟩ := own_sl hown
  have HR := Lib.hid (rows_of_owns hown (pnF_I (rows_I HP.out) HC.out))
  clear hown
  go_wp2_with fail
  go_loopw [5, 20] (fun v i wr => ∃ k : Nat, k ≤ m ∧ i = .int .i64 k ∧ (∃ y, wr = ext (ext (ext ((w.alloc (.cells #[.slice A n cap, .slice B m cap2] 25)).alloc (.cells #[.int .i64 0, .int .i64 0] 39)) x0) x1) y) ∧ wr.ownsRow (adv (adv (w.heap.size + 1 + 1) x0.obs.size) x1.obs.size) 39 2 v k (rowC 2 (arF P F) k)) (fun _ i _ => m - (intOf i).toNat)
  case atStart => exact ⟨0, by omega, rfl, show Kept _ _ by (repeat (first | exact Kept.refl _ | assumption | refine Kept.alloc ?_ _ | refine Kept.ext ?_ _ | refine Kept.drew ?_ | refine Kept.drewN ?_ _)), ⟨rfl, .inl ⟨rfl, rfl⟩⟩⟩
  case round =>
    obtain ⟨k, hk, rfl, ⟨y, rfl⟩, hown⟩ := hrel
    obtain ⟨A3, cp3, rfl, hcp3⟩ := own_sl hown
    have HO := Lib.hid hown
    clear hown
    by_cases hlt : k < m
    · have hcB := HC.out k hlt
      have HCB := Lib.hid hcB
      obtain ⟨fb, off, rfl, hfb, f0, f1, f2, f3, f4, f5, f6, f7, f8⟩ := panel_at HR.out hlt
      have LB : Lower fb (adv (adv (w.heap.size + 1 + 1) x0.obs.size) x1.obs.size) := ⟨by simpa using hfb⟩
      clear hfb
      obtain ⟨c0, c1, c2⟩ := cornB_true hcB
      have b0 := co_bd HB.out c0
      have b1 := co_bd HB.out c1
      have b2 := co_bd HB.out c2
      have bn := nrm_bd HB.out hcB
      have bq := nnF_bd HB.out hcB
      obtain ⟨le0, le1, le2, le3⟩ := len_ok bq
      obtain ⟨pe0, pe1, pe2⟩ := part_ok ⟨le1, le2, le3⟩
      obtain ⟨x', hx⟩ : ∃ x, nX (co P F k 0 0) (co P F k 0 1) (co P F k 0 2) (co P F k 1 0) (co P F k 1 1) (co P F k 1 2) (co P F k 2 0) (co P F k 2 1) (co P F k 2 2) = x := ⟨_, rfl⟩
      obtain ⟨y', hy⟩ : ∃ x, nY (co P F k 0 0) (co P F k 0 1) (co P F k 0 2) (co P F k 1 0) (co P F k 1 1) (co P F k 1 2) (co P F k 2 0) (co P F k 2 1) (co P F k 2 2) = x := ⟨_, rfl⟩
      obtain ⟨z', hz⟩ : ∃ x, nZ (co P F k 0 0) (co P F k 0 1) (co P F k 0 2) (co P F k 1 0) (co P F k 1 1) (co P F k 1 2) (co P F k 2 0) (co P F k 2 1) (co P F k 2 2) = x := ⟨_, rfl⟩
      have hnn : nnF P F k = x' * x' + y' * y' + z' * z' := by unfold nnF; rw [hx, hy, hz]
      rw [hx, hy, hz] at bn
      have bs := nn_bd bn
      have HX := Lib.hid (And.intro hx (And.intro hy hz))
      obtain ⟨l, hl⟩ : ∃ x, (lenS (nnF P F k)).lo = x := ⟨_, rfl⟩
      obtain ⟨h, hh⟩ : ∃ x, (lenS (nnF P F k)).hi = x := ⟨_, rfl⟩
      rw [hl, hh] at pe0 pe1 pe2
      obtain ⟨p, hp⟩ : ∃ x, (partS l h 2).lo = x := ⟨_, rfl⟩
      obtain ⟨r, hr⟩ : ∃ x, (partS l h 2).hi = x := ⟨_, rfl⟩
      have HQ := Lib.hid (And.intro hp (And.intro hr pe0))
      have e9 : rowC 2 (arF P F) (k + 1) = rowC 2 (arF P F) k ++ [.int .i64 p, .int .i64 r] := by rw [rowC_next, arF_row, hl, hh, hp, hr]
      rw [hnn] at hl hh le0
      have HL := Lib.hid (And.intro hl (And.intro hh le0))
      have H9 := Lib.hid e9
      clear hx hy hz hl hh hp hr e9 le0 pe0 bq hnn le1 le2 le3 pe1 pe2 c0 c1 c2 hcB
      go_wp2_with (first | (go_at_call 29; refine (snormal_any _ _ _ _ _ _ _ _ _ _ (by omega)).mono ?_; rintro e w1 ⟨rfl, x, rfl⟩; rw [HX.out.1, HX.out.2.1, HX.out.2.2]) | (go_at_call 31; refine (sdot_any _ _ _ _ _ _ _ (by omega)).mono ?_; rintro e w1 ⟨rfl, x, rfl⟩) | (go_at_call 30; refine (len_any _ _).mono ?_; rintro e w1 ⟨rfl, x, rfl⟩; rw [HL.out.1, HL.out.2.1, HL.out.2.2]) | (go_at_call 32; refine (part_any _ _ _ _).mono ?_; rintro e w1 ⟨rfl, x, rfl⟩; rw [HQ.out.1, HQ.out.2.1, HQ.out.2.2]) | (at_builtin; refine wpList_append_lies _ rfl _ _ _ rfl (adv (adv (w.heap.size + 1 + 1) x0.obs.size) x1.obs.size) 39 i0 _ 2 16 Try.underlying64 HI.out.1 HI.out.2.1 HI.out.2.2.1 HI.out.2.2.2 rfl (by omega) _ k (rowC 2 (arF P F) k) rfl (owns_kept HO.out (by (repeat (first | exact Kept.refl _ | assumption | refine Kept.alloc ?_ _ | refine Kept.ext ?_ _ | refine Kept.drew ?_ | refine Kept.drewN ?_ _)))) _ 1 1 [.int .i64 p, .int .i64 r] rfl rfl (World.news_of_block (alloc_now _ _ _)) (by simp [Value.oneCell']) (by omega) (by unfold maxLen; omega) (by omega) (by simp [adv]; omega) _ rfl ?_; intro g cp w2 hown2 hg2 hat hlt2))
      have hk2 : Kept (ext (ext ((w.alloc (.cells #[.slice A n cap, .slice B m cap2] 25)).alloc (.cells #[.int .i64 0, .int .i64 0] 39)) x0) x1) w2 := by
        refine kept_grown (base := (adv (adv (w.heap.size + 1 + 1) x0.obs.size) x1.obs.size)) ?_ (owns_kept HO.out ?_) (by simp) hg2
        · (repeat (first | exact Kept.refl _ | assumption | refine Kept.alloc ?_ _ | refine Kept.ext ?_ _ | refine Kept.drew ?_ | refine Kept.drewN ?_ _))
        · (repeat (first | exact Kept.refl _ | assumption | refine Kept.alloc ?_ _ | refine Kept.ext ?_ _ | refine Kept.drew ?_ | refine Kept.drewN ?_ _))
      go_roundw
      case rel => exact ⟨k + 1, by omega, by go_num, hk2, by rw [H9.out]; exact hown2⟩
      case measure => simp [intOf]; omega
    · obtain rfl : k = m := by omega
      have HS := Lib.hid (spans_of (rows_of_owns HO.out (arF_I HB.out HC.out)))
      go_wp2_with fail
      refine (ssum_any _ _ _ (fun k => arF P F k 0) (fun k => arF P F k 1) _ (by omega) (HS.out.of (by (repeat (first | exact Kept.refl _ | assumption | refine Kept.alloc ?_ _ | refine Kept.ext ?_ _ | refine Kept.drew ?_ | refine Kept.drewN ?_ _))))).mono ?_
      rintro r w1 ⟨rfl, x9, rfl⟩
      go_wp2_with fail
      refine bodyPost_ret (by simp only [results, Try.results9]; go_simp; rfl) rfl ?_
      rw [HA.out]
      exact ⟨rfl, by (repeat (first | exact Kept.refl _ | assumption | refine Kept.alloc ?_ _ | refine Kept.ext ?_ _ | refine Kept.drew ?_ | refine Kept.drewN ?_ _))⟩
end Go.Proofs.Ytbhcjdgfcinpcaa
