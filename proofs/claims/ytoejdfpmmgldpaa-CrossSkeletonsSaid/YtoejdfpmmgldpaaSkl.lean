/- For every input the statement CrossSkeletons returns true and leaves its arguments as they were. No conditions. -/
import Derived.Test.YtoejdfpmmgldpaaSr
import Derived.Test.YtoejdfpmmgldpaaIns
namespace Go.Proofs.Ytoejdfpmmgldpaa
set_option linter.unusedVariables false
set_option linter.unusedSimpArgs false
open Go.ChangeShapes Go.WideShapes Go.ChangeAt Go.RowKit Go.Deep
theorem rowsS {w : World} {A : Option Addr} {n k : Nat} {f : Nat → Nat → Int} (h : RowsAt w A n 2 f) (hk : k < n) :
    ∃ b off, A = some ⟨b, off, none⟩ ∧ b < w.heap.size ∧ w.cell? ⟨b, off + k * 2, none⟩ = some (.int .i64 (f k 0)) ∧ w.cell? ⟨b, off + k * 2 + 1, none⟩ = some (.int .i64 (f k 1)) := by
  obtain ⟨b, off, hA, hb, hc⟩ := h (by omega)
  exact ⟨b, off, hA, hb, (hc k hk 0 (by omega)).1, (hc k hk 1 (by omega)).1⟩
set_option maxRecDepth 100000 in
set_option maxHeartbeats 4000000 in
theorem sameRatsS (A B : Option Addr) (n cap cap2 : Nat) (F : Nat → Nat → Int) (w : World) (hn : n ≤ 9223372036854775807) (hA : RowsAt w A n 2 F) (hB : RowsAt w B n 2 F) :
    Calls Try.prog 47 #[.slice A n cap, .slice B n cap2] w fun r w' => r = .returned (.bool true) ∧ Kept w w' := by
  have HA := Lib.hid hA
  have HB := Lib.hid hB
  clear hA hB
  go_enter Try.func47, Try.ntmps47
  go_wp2_with fail
  go_loopw [5] (fun i wr => ∃ k : Nat, k ≤ n ∧ i = .int .i64 k ∧ ∃ y, wr = ext w y) (fun i _ => n - (intOf i).toNat)
  case atStart => exact ⟨0, by omega, rfl, show Kept _ _ by (repeat (first | exact Kept.refl _ | assumption | refine Kept.alloc ?_ _ | refine Kept.ext ?_ _ | refine Kept.drew ?_ | refine Kept.drewN ?_ _))⟩
  case round =>
    obtain ⟨k, hk, rfl, y, rfl⟩ := hrel
    by_cases hlt : k < n
    · obtain ⟨b, off, rfl, hb, f0, f1⟩ := rowsS HA.out hlt
      obtain ⟨b', off', rfl, hb', g0, g1⟩ := rowsS HB.out hlt
      have LB : Lower b w.heap.size := ⟨hb⟩
      have LB' : Lower b' w.heap.size := ⟨hb'⟩
      go_wp2_with fail
      ((first | (with_reducible refine wp_region_kept2 (by kernel_rfl) (by kernel_rfl) ?_) | refine wp_region_kept (by kernel_rfl) (by kernel_rfl) ?_); (repeat (go_big_quiet_step (first | fail))); refine wpQuiet_nil ?_; intro x)
      go_wp2_with fail
      go_roundw
      case rel => exact ⟨k + 1, by omega, by go_num, show Kept _ _ by (repeat (first | exact Kept.refl _ | assumption | refine Kept.alloc ?_ _ | refine Kept.ext ?_ _ | refine Kept.drew ?_ | refine Kept.drewN ?_ _))⟩
      case measure => simp [intOf]; omega
    · have e1 : k = n := by omega
      clear hlt
      subst e1
      go_wp2_with fail
      go_ret
      exact ⟨rfl, by (repeat (first | exact Kept.refl _ | assumption | refine Kept.alloc ?_ _ | refine Kept.ext ?_ _ | refine Kept.drew ?_ | refine Kept.drewN ?_ _))⟩
/-- A list of n lists of M fractions can be read. -/
def QAt (w : World) (A : Option Addr) (n M : Nat) (F : Nat → Nat → Nat → Int) : Prop :=
  ∀ k, k < n → ∃ b Bk cp, A = some ⟨b, 0, none⟩ ∧ b < w.heap.size ∧ w.cell? ⟨b, k, none⟩ = some (.slice Bk M cp) ∧ RowsAt w Bk M 2 (F k)
theorem QAt.on {w w' : World} {A : Option Addr} {n M : Nat} {F : Nat → Nat → Nat → Int} (h : QAt w A n M F) (hk : Kept w w') : QAt w' A n M F := by
  intro k hkn
  obtain ⟨b, Bk, cp, h1, h2, h3, h4⟩ := h k hkn
  exact ⟨b, Bk, cp, h1, Nat.lt_of_lt_of_le h2 (kept_le hk), cell_on h3 h2 hk, h4.of hk⟩
theorem OutL.q {base N M cp : Nat} {F : Nat → Nat → Nat → Int} {A : Option Addr} {w : World} (h : OutL base 61 32 2 N (fun _ => M) F (.slice A N cp) w) (hI : ∀ i, i < N → ∀ j, j < M → ∀ c, I64 (F i j c)) : QAt w A N M F := by
  intro k hk
  obtain ⟨b, u, h1, h2, h3, h4⟩ := h.at hk
  obtain ⟨A2, c2, rfl⟩ := own_slice2 h4
  exact ⟨b, A2, c2, h1, h2, h3, rows_of_owns h4 fun j hj c _ => hI k hk j hj c⟩
theorem OwnQ.q {W wr : World} {base g N M : Nat} {V : Nat → Value} {F : Nat → Nat → Nat → Int} (h : OwnQ W base g N V (fun _ => M) F wr) (hI : ∀ i, i < N → ∀ j, j < M → ∀ c, I64 (F i j c)) : QAt wr (some ⟨g, 0, none⟩) N M F := by
  intro k hk
  obtain ⟨h1, -, -, h2⟩ := h.cellV hk
  have hr := h.r k hk
  obtain ⟨A2, c2, e⟩ := own_slice2 hr
  rw [e] at h1 hr
  exact ⟨g, A2, c2, rfl, h2, h1, rows_of_owns hr fun j hj c _ => hI k hk j hj c⟩
set_option maxRecDepth 100000 in
set_option maxHeartbeats 16000000 in
theorem cskel_law (A : Option Addr) (n cap : Nat) (B : Nat → Option Addr) (m cp : Nat → Nat) (f : Nat → Nat → Int) (RA : Option Addr) (rl rc : Nat) (R : Nat → Nat → Int) (CA : Option Addr) (cl cc : Nat) (C : Nat → Nat → Int) (w : World)
    (h : n ≤ cap ∧ cap ≤ maxLen ∧ MatAt w A n B m cp f) (h2 : (rl ≤ rc ∧ rc ≤ maxLen ∧ RowsAt w RA rl 1 R) ∧ (cl ≤ cc ∧ cc ≤ maxLen ∧ RowsAt w CA cl 1 C)) :
    Calls Try.prog 14 #[.slice A n cap, .agg #[.slice RA rl rc, .slice CA cl cc]] w fun r w' => r = .returned (.bool true) ∧ Kept w w' := by
  obtain ⟨a1, a2, hM⟩ := h
  obtain ⟨⟨b1, b2, hR⟩, c1, c2, hC⟩ := h2
  have HM := Lib.hid hM
  have HR := Lib.hid hR
  have HC := Lib.hid hC
  have B2 := Lib.hid (And.intro b1 b2)
  have C2 := Lib.hid (And.intro c1 c2)
  clear hM hR hC
  unfold maxLen at a2 b2 c2
  have hn : n ≤ 9223372036854775807 := by omega
  have hrl : rl ≤ 9223372036854775807 := by omega
  have hcl : cl ≤ 9223372036854775807 := by omega
  clear a1 a2 b1 b2 c1 c2
  cases hl : longB n m
  case true =>
    have HL := Lib.hid hl
    clear hl
    go_enter Try.func14, Try.ntmps14
    go_wp2_with (first | (go_at_call 15; refine (long6_any _ _ _ _ _ _ _ _ hn (HM.out.of (by (repeat (first | exact Kept.refl _ | assumption | refine Kept.alloc ?_ _ | refine Kept.ext ?_ _ | refine Kept.drew ?_ | refine Kept.drewN ?_ _))))).mono ?_; rintro e w1 ⟨rfl, rfl⟩; rw [HL.out]) | (go_at_call 17; refine (known6_any _).mono ?_; rintro e w1 ⟨rfl, x9, rfl⟩))
    go_ret
    exact ⟨rfl, by (repeat (first | exact Kept.refl _ | assumption | refine Kept.alloc ?_ _ | refine Kept.ext ?_ _ | refine Kept.drew ?_ | refine Kept.drewN ?_ _))⟩
  have HL := Lib.hid hl
  clear hl
  cases hy : manyB rl cl
  case true =>
    have HY := Lib.hid hy
    clear hy
    go_enter Try.func14, Try.ntmps14
    go_wp2_with (first | (go_at_call 15; refine (long6_any _ _ _ _ _ _ _ _ hn (HM.out.of (by (repeat (first | exact Kept.refl _ | assumption | refine Kept.alloc ?_ _ | refine Kept.ext ?_ _ | refine Kept.drew ?_ | refine Kept.drewN ?_ _))))).mono ?_; rintro e w1 ⟨rfl, rfl⟩; rw [HL.out]) | (go_at_call 16; refine (many6_any _ _ _ _ _ _ _).mono ?_; rintro e w1 ⟨rfl, x8, rfl⟩; rw [HY.out]) | (go_at_call 17; refine (known6_any _).mono ?_; rintro e w1 ⟨rfl, x9, rfl⟩))
    go_ret
    exact ⟨rfl, by (repeat (first | exact Kept.refl _ | assumption | refine Kept.alloc ?_ _ | refine Kept.ext ?_ _ | refine Kept.drew ?_ | refine Kept.drewN ?_ _))⟩
  have HY := Lib.hid hy
  clear hy
  obtain ⟨E, hE⟩ : ∃ e, opnE n m f rl R cl C = e := ⟨_, rfl⟩
  obtain ⟨wN, hN⟩ : ∃ e, wstN n m f rl R cl C = e := ⟨_, rfl⟩
  obtain ⟨wD, hD⟩ : ∃ e, wstD n m f rl R cl C = e := ⟨_, rfl⟩
  obtain ⟨rk, hrk⟩ : ∃ e, rankV n m f = e := ⟨_, rfl⟩
  obtain ⟨ev, hev⟩ : ∃ e, valE n m f = e := ⟨_, rfl⟩
  have HE := Lib.hid hE
  have HN := Lib.hid hN
  have HD := Lib.hid hD
  have HRK := Lib.hid hrk
  have HEV := Lib.hid hev
  by_cases h0 : E = 0
  · subst h0
    obtain ⟨hch, hd⟩ := opnE_0 hE
    obtain ⟨hv, hs, ht, rfl⟩ := choE_0 hch
    obtain ⟨-, hk⟩ := Mok.of hch
    obtain ⟨⟨n1, n6⟩, ⟨m1, m6⟩, -, -⟩ := valE_0 hv
    have hdb := hk.bd
    have hkI : ∀ i, i < n → ∀ j, j < m 0 → ∀ c, I64 (kpF f rl R C (D rl (subF f R C)) i j c) := fun i hi j hj => kpF_I hk hs ⟨hd, by omega⟩ hi hj
    have hlr := left_rank (f := f) hs ht hd
    have hpos := wmat_pos (f := f) (l := rl) (R := R) (C := C) (c := m 0) n
    have hrk2 : rk = rkP f n (m 0) (min n (m 0)) := by rw [← hrk]; exact if_pos hv
    have hwN : wN = frN (wmat f rl R C (m 0) n) ((D rl (subF f R C)).natAbs : Int) := by rw [← hN]; exact if_pos hE
    have hcmp : (wN = 0 ∧ (rl : Int) = rk) ∨ (wN ≠ 0 ∧ (rl : Int) ≠ rk) := by
      by_cases hW : wmat f rl R C (m 0) n = 0
      · left
        refine ⟨by rw [hwN, hW]; unfold frN; simp, ?_⟩
        have := hlr.1 hW
        omega
      · right
        refine ⟨fun q => hW ?_, fun q => hW (hlr.2 (by omega))⟩
        obtain ⟨g, g0, g1, -⟩ := fr_parts (n := wmat f rl R C (m 0) n) (d := ((D rl (subF f R C)).natAbs : Int)) (by omega)
        rw [← hwN, q] at g1
        simp at g1
        omega
    have hev0 : ev = 0 := by rw [← hev]; exact hv
    subst hev0
    have hsk : ∀ w', Kept w w' → Calls Try.prog 50 #[.slice A n cap, .slice RA rl rc, .slice CA rl cc] w' fun e w'' => ∃ XA, e = .returned (.tuple #[.slice XA n n, .int .i64 0]) ∧ Kept w' w'' ∧ QAt w'' XA n (m 0) (fun i j c => kpF f rl R C (D rl (subF f R C)) i j c) := fun w' hkw => by
      refine (cSkelok_any A n cap B m cp f RA rl rc R CA cc C w' hn hrl (HM.out.of hkw) (HR.out.of hkw) (HC.out.of hkw) hE).mono ?_
      rintro e w'' ⟨g, V, W0, rfl, q1, q2⟩
      exact ⟨_, rfl, q1.trans q2.on, q2.q hkI⟩
    have hrs : ∀ w', Kept w w' → Calls Try.prog 51 #[.slice A n cap, .slice RA rl rc, .slice CA rl cc] w' fun e w'' => ∃ YA yc, e = .returned (.tuple #[.slice YA n yc, .int .i64 0]) ∧ Kept w' w'' ∧ QAt w'' YA n (m 0) (fun i j c => kpF f rl R C (D rl (subF f R C)) i j c) := fun w' hkw => by
      refine (r6Skelok_any A n cap B m cp f RA rl rc R CA cc C w' hn B2.out C2.out (HM.out.of hkw) (HR.out.of hkw) (HC.out.of hkw) hE).mono ?_
      rintro e w'' ⟨v, rfl, q1, q2⟩
      obtain ⟨YA, yc, rfl⟩ := q2.slice
      exact ⟨_, _, rfl, q1, q2.q hkI⟩
    have HSK := Lib.hid hsk
    have HRS := Lib.hid hrs
    have HCMP := Lib.hid hcmp
    clear hE hN hD hrk hev hch hd hv hs ht hk hdb hkI hlr hpos hrk2 hwN hcmp hsk hrs
    go_enter Try.func14, Try.ntmps14
    go_wp2_with (first | (go_at_call 15; refine (long6_any _ _ _ _ _ _ _ _ hn (HM.out.of (by (repeat (first | exact Kept.refl _ | assumption | refine Kept.alloc ?_ _ | refine Kept.ext ?_ _ | refine Kept.drew ?_ | refine Kept.drewN ?_ _))))).mono ?_; rintro e w1 ⟨rfl, rfl⟩; rw [HL.out]) | (go_at_call 16; refine (many6_any _ _ _ _ _ _ _).mono ?_; rintro e w1 ⟨rfl, x8, rfl⟩; rw [HY.out]) | (go_at_call 50; refine (HSK.out _ (by (repeat (first | exact Kept.refl _ | assumption | refine Kept.alloc ?_ _ | refine Kept.ext ?_ _ | refine Kept.drew ?_ | refine Kept.drewN ?_ _)))).mono ?_; rintro e w1 ⟨XA, rfl, ⟨x1, rfl⟩, hq1⟩; have HQ1 := Lib.hid hq1; clear hq1) | (go_at_call 51; refine (HRS.out _ (by (repeat (first | exact Kept.refl _ | assumption | refine Kept.alloc ?_ _ | refine Kept.ext ?_ _ | refine Kept.drew ?_ | refine Kept.drewN ?_ _)))).mono ?_; rintro e w1 ⟨YA, yc, rfl, ⟨x2, rfl⟩, hq2⟩; have HQ2 := Lib.hid hq2; clear hq2) | (go_at_call 49; refine (cWorst_any _ _ _ _ _ _ _ _ _ _ _ _ _ _ _ _ hn hrl hcl (HM.out.of (by (repeat (first | exact Kept.refl _ | assumption | refine Kept.alloc ?_ _ | refine Kept.ext ?_ _ | refine Kept.drew ?_ | refine Kept.drewN ?_ _)))) (HR.out.of (by (repeat (first | exact Kept.refl _ | assumption | refine Kept.alloc ?_ _ | refine Kept.ext ?_ _ | refine Kept.drew ?_ | refine Kept.drewN ?_ _)))) (HC.out.of (by (repeat (first | exact Kept.refl _ | assumption | refine Kept.alloc ?_ _ | refine Kept.ext ?_ _ | refine Kept.drew ?_ | refine Kept.drewN ?_ _))))).mono ?_; rintro e w1 ⟨rfl, x3, rfl⟩; rw [HN.out, HD.out, HE.out]) | (go_at_call 52; refine (r6Worst_any _ _ _ _ _ _ _ _ _ _ _ _ _ _ _ _ hn B2.out C2.out (HM.out.of (by (repeat (first | exact Kept.refl _ | assumption | refine Kept.alloc ?_ _ | refine Kept.ext ?_ _ | refine Kept.drew ?_ | refine Kept.drewN ?_ _)))) (HR.out.of (by (repeat (first | exact Kept.refl _ | assumption | refine Kept.alloc ?_ _ | refine Kept.ext ?_ _ | refine Kept.drew ?_ | refine Kept.drewN ?_ _)))) (HC.out.of (by (repeat (first | exact Kept.refl _ | assumption | refine Kept.alloc ?_ _ | refine Kept.ext ?_ _ | refine Kept.drew ?_ | refine Kept.drewN ?_ _))))).mono ?_; rintro e w1 ⟨rfl, x4, rfl⟩; rw [HN.out, HD.out, HE.out]))
    refine wp_gen (fun Wc hWc => ?_)
    have hkc : Kept w Wc := by rw [hWc]; (repeat (first | exact Kept.refl _ | assumption | refine Kept.alloc ?_ _ | refine Kept.ext ?_ _ | refine Kept.drew ?_ | refine Kept.drewN ?_ _))
    have hq1 : QAt Wc XA n (m 0) (fun i j c => kpF f rl R C (D rl (subF f R C)) i j c) := by rw [hWc]; exact HQ1.out.on (by (repeat (first | exact Kept.refl _ | assumption | refine Kept.alloc ?_ _ | refine Kept.ext ?_ _ | refine Kept.drew ?_ | refine Kept.drewN ?_ _)))
    have hq2 : QAt Wc YA n (m 0) (fun i j c => kpF f rl R C (D rl (subF f R C)) i j c) := by rw [hWc]; exact HQ2.out.on (by (repeat (first | exact Kept.refl _ | assumption | refine Kept.alloc ?_ _ | refine Kept.ext ?_ _ | refine Kept.drew ?_ | refine Kept.drewN ?_ _)))
    have bx0 : Wc.cell? ⟨w.heap.size, 0, none⟩ = some (.slice RA rl rc) := by rw [hWc]; go_simp
    have Lb : Lower w.heap.size Wc.heap.size := ⟨by rw [hWc]; exact low⟩
    have bw0 : Wc.cell? ⟨adv (adv (adv (adv (w.heap.size + 1) x8.obs.size) x1.obs.size) x2.obs.size) x3.obs.size, 0, none⟩ = some (.int .i64 wN) := by rw [hWc]; go_simp
    have Lw : Lower (adv (adv (adv (adv (w.heap.size + 1) x8.obs.size) x1.obs.size) x2.obs.size) x3.obs.size) Wc.heap.size := ⟨by rw [hWc]; exact low⟩
    obtain ⟨wb, hwb⟩ : ∃ wb, adv (adv (adv (adv (w.heap.size + 1) x8.obs.size) x1.obs.size) x2.obs.size) x3.obs.size = wb := ⟨_, rfl⟩
    rw [hwb] at bw0 Lw ⊢
    have HKC := Lib.hid hkc
    have HQ3 := Lib.hid hq1
    have HQ4 := Lib.hid hq2
    clear hWc hkc hq1 hq2 hwb
    go_loopw [13] (fun i wr => ∃ k : Nat, k ≤ n ∧ i = .int .i64 k ∧ Kept Wc wr) (fun i _ => n - (intOf i).toNat)
    case atStart => exact ⟨0, by omega, rfl, Kept.refl _⟩
    case round =>
      obtain ⟨k, hk, rfl, y, rfl⟩ := hrel
      by_cases hlt : k < n
      · obtain ⟨b3, B3, d3, rfl, g1, g2, g3⟩ := HQ3.out k hlt
        obtain ⟨b4, B4, d4, rfl, g4, g5, g6⟩ := HQ4.out k hlt
        have L3 : Lower b3 Wc.heap.size := ⟨g1⟩
        have L4 : Lower b4 Wc.heap.size := ⟨g4⟩
        have hsm : ∀ W', Kept Wc W' → Calls Try.prog 47 #[.slice B3 (m 0) d3, .slice B4 (m 0) d4] W' fun e w'' => e = .returned (.bool true) ∧ Kept W' w'' := fun W' hW => sameRatsS B3 B4 (m 0) d3 d4 _ W' (by omega) (g3.of hW) (g6.of hW)
        have HSM := Lib.hid hsm
        clear g3 g6 hsm
        go_wp2_with fail
        ((first | (with_reducible refine wp_region_kept2 (by kernel_rfl) (by kernel_rfl) ?_) | refine wp_region_kept (by kernel_rfl) (by kernel_rfl) ?_); (repeat (go_big_quiet_step (first | (go_at_call 47; exact Calls.kept_of (HSM.out _ (by (repeat (first | exact Kept.refl _ | assumption | refine Kept.alloc ?_ _ | refine Kept.ext ?_ _ | refine Kept.drew ?_ | refine Kept.drewN ?_ _)))))))); refine wpQuiet_nil ?_; intro x5)
        go_wp2_with fail
        go_roundw
        case rel => exact ⟨k + 1, by omega, by go_num, by (repeat (first | exact Kept.refl _ | assumption | refine Kept.alloc ?_ _ | refine Kept.ext ?_ _ | refine Kept.drew ?_ | refine Kept.drewN ?_ _))⟩
        case measure => simp [intOf]; omega
      · obtain rfl : k = n := by omega
        rcases HCMP.out with ⟨e1, e2⟩ | ⟨e1, e2⟩
        · subst e1
          have g1 : ((rl : Int) == rk) = true := by simpa using e2
          clear e2
          go_wp2_with (first | (go_at_call 33; refine (cRank_any _ _ _ _ _ _ _ _ hn (HM.out.of (HKC.out.trans (by (repeat (first | exact Kept.refl _ | assumption | refine Kept.alloc ?_ _ | refine Kept.ext ?_ _ | refine Kept.drew ?_ | refine Kept.drewN ?_ _)))))).mono ?_; rintro e w2 ⟨rfl, x5, rfl⟩; rw [HRK.out, HEV.out]) | (go_at_call 17; refine (known6_any _).mono ?_; rintro e w7 ⟨rfl, x9, rfl⟩))
          go_ret
          exact ⟨rfl, HKC.out.trans (by (repeat (first | exact Kept.refl _ | assumption | refine Kept.alloc ?_ _ | refine Kept.ext ?_ _ | refine Kept.drew ?_ | refine Kept.drewN ?_ _)))⟩
        · have g1 : ((rl : Int) == rk) = false := by simpa using e2
          have g2 : (wN == 0) = false := by simpa using e1
          clear e1 e2
          go_wp2_with (first | (go_at_call 33; refine (cRank_any _ _ _ _ _ _ _ _ hn (HM.out.of (HKC.out.trans (by (repeat (first | exact Kept.refl _ | assumption | refine Kept.alloc ?_ _ | refine Kept.ext ?_ _ | refine Kept.drew ?_ | refine Kept.drewN ?_ _)))))).mono ?_; rintro e w2 ⟨rfl, x5, rfl⟩; rw [HRK.out, HEV.out]) | (go_at_call 17; refine (known6_any _).mono ?_; rintro e w7 ⟨rfl, x9, rfl⟩))
          go_ret
          exact ⟨rfl, HKC.out.trans (by (repeat (first | exact Kept.refl _ | assumption | refine Kept.alloc ?_ _ | refine Kept.ext ?_ _ | refine Kept.drew ?_ | refine Kept.drewN ?_ _)))⟩
  · have hv2 : (E == 0) = false := by simpa using h0
    have hv3 : decide (E = 0) = false := by simpa using h0
    have hv4 : (E != 0) = true := by simpa using h0
    have hsk : ∀ w', Kept w w' → Calls Try.prog 50 #[.slice A n cap, .slice RA rl rc, .slice CA cl cc] w' fun e w'' => e = .returned (.tuple #[.slice none 0 0, .int .i64 E]) ∧ Kept w' w'' := fun w' hk => by
      have := cSkelno_any A n cap B m cp f RA rl rc R CA cl cc C w' hn hrl hcl (HM.out.of hk) (HR.out.of hk) (HC.out.of hk) (by rw [hE]; exact h0)
      rwa [hE] at this
    have hrs : ∀ w', Kept w w' → Calls Try.prog 51 #[.slice A n cap, .slice RA rl rc, .slice CA cl cc] w' fun e w'' => e = .returned (.tuple #[.slice none 0 0, .int .i64 E]) ∧ Kept w' w'' := fun w' hk => by
      have := r6Skelno_any A n cap B m cp f RA rl rc R CA cl cc C w' hn B2.out C2.out (HM.out.of hk) (HR.out.of hk) (HC.out.of hk) (by rw [hE]; exact h0)
      rwa [hE] at this
    have HSK := Lib.hid hsk
    have HRS := Lib.hid hrs
    clear hE hN hD hrk hev hsk hrs h0
    go_enter Try.func14, Try.ntmps14
    go_wp2_with (first | (go_at_call 15; refine (long6_any _ _ _ _ _ _ _ _ hn (HM.out.of (by (repeat (first | exact Kept.refl _ | assumption | refine Kept.alloc ?_ _ | refine Kept.ext ?_ _ | refine Kept.drew ?_ | refine Kept.drewN ?_ _))))).mono ?_; rintro e w1 ⟨rfl, rfl⟩; rw [HL.out]) | (go_at_call 16; refine (many6_any _ _ _ _ _ _ _).mono ?_; rintro e w1 ⟨rfl, x8, rfl⟩; rw [HY.out]) | (go_at_call 50; refine (HSK.out _ (by (repeat (first | exact Kept.refl _ | assumption | refine Kept.alloc ?_ _ | refine Kept.ext ?_ _ | refine Kept.drew ?_ | refine Kept.drewN ?_ _)))).mono ?_; rintro e w1 ⟨rfl, x1, rfl⟩) | (go_at_call 51; refine (HRS.out _ (by (repeat (first | exact Kept.refl _ | assumption | refine Kept.alloc ?_ _ | refine Kept.ext ?_ _ | refine Kept.drew ?_ | refine Kept.drewN ?_ _)))).mono ?_; rintro e w1 ⟨rfl, x2, rfl⟩) | (go_at_call 49; refine (cWorst_any _ _ _ _ _ _ _ _ _ _ _ _ _ _ _ _ hn hrl hcl (HM.out.of (by (repeat (first | exact Kept.refl _ | assumption | refine Kept.alloc ?_ _ | refine Kept.ext ?_ _ | refine Kept.drew ?_ | refine Kept.drewN ?_ _)))) (HR.out.of (by (repeat (first | exact Kept.refl _ | assumption | refine Kept.alloc ?_ _ | refine Kept.ext ?_ _ | refine Kept.drew ?_ | refine Kept.drewN ?_ _)))) (HC.out.of (by (repeat (first | exact Kept.refl _ | assumption | refine Kept.alloc ?_ _ | refine Kept.ext ?_ _ | refine Kept.drew ?_ | refine Kept.drewN ?_ _))))).mono ?_; rintro e w1 ⟨rfl, x3, rfl⟩; rw [HN.out, HD.out, HE.out]) | (go_at_call 52; refine (r6Worst_any _ _ _ _ _ _ _ _ _ _ _ _ _ _ _ _ hn B2.out C2.out (HM.out.of (by (repeat (first | exact Kept.refl _ | assumption | refine Kept.alloc ?_ _ | refine Kept.ext ?_ _ | refine Kept.drew ?_ | refine Kept.drewN ?_ _)))) (HR.out.of (by (repeat (first | exact Kept.refl _ | assumption | refine Kept.alloc ?_ _ | refine Kept.ext ?_ _ | refine Kept.drew ?_ | refine Kept.drewN ?_ _)))) (HC.out.of (by (repeat (first | exact Kept.refl _ | assumption | refine Kept.alloc ?_ _ | refine Kept.ext ?_ _ | refine Kept.drew ?_ | refine Kept.drewN ?_ _))))).mono ?_; rintro e w1 ⟨rfl, x4, rfl⟩; rw [HN.out, HD.out, HE.out]))
    refine wp_gen (fun Wc hWc => ?_)
    have hkc : Kept w Wc := by rw [hWc]; (repeat (first | exact Kept.refl _ | assumption | refine Kept.alloc ?_ _ | refine Kept.ext ?_ _ | refine Kept.drew ?_ | refine Kept.drewN ?_ _))
    have HKC := Lib.hid hkc
    clear hWc hkc
    go_loopw [13] (fun i wr => i = .int .i64 0 ∧ Kept Wc wr) (fun _ _ => 0)
    case atStart => exact ⟨rfl, Kept.refl _⟩
    case round =>
      obtain ⟨rfl, y, rfl⟩ := hrel
      go_wp2_with (first | (go_at_call 33; refine (cRank_any _ _ _ _ _ _ _ _ hn (HM.out.of (HKC.out.trans (by (repeat (first | exact Kept.refl _ | assumption | refine Kept.alloc ?_ _ | refine Kept.ext ?_ _ | refine Kept.drew ?_ | refine Kept.drewN ?_ _)))))).mono ?_; rintro e w2 ⟨rfl, x5, rfl⟩; rw [HRK.out, HEV.out]) | (go_at_call 17; refine (known6_any _).mono ?_; rintro e w7 ⟨rfl, x9, rfl⟩))
      go_ret
      exact ⟨rfl, HKC.out.trans (by (repeat (first | exact Kept.refl _ | assumption | refine Kept.alloc ?_ _ | refine Kept.ext ?_ _ | refine Kept.drew ?_ | refine Kept.drewN ?_ _)))⟩
theorem ownCrossSkeletons : ownKnob Try.prog.godebug = none := by kernel_rfl
theorem laidOutCrossSkeletons : laidOutB Try.prog = true := by kernel_rfl
set_option linter.unusedVariables false in
set_option maxRecDepth 100000 in
theorem liftedCrossSkeletons (os : Os) (started : os.Started) (H : Type) (enc : TypeId × Value → H) :
    ReturnsInHanded {} Try.checked os 14 .any (Rows.crossSkeletonsSpec.pre6 enc Try.prog Try.f14 Rows.crossSkeletonsRow.domain false) (Rows.crossSkeletonsSpec.post enc Try.prog Try.f14 false true false false) := by
  refine returnsInHanded_of_change (C := Try.checked) ownCrossSkeletons started (by kernel_rfl) Try.func14
    (ChangeSpec.witness6 (enc := enc) (C := Try.checked) false ⟨#[], #[.slice none 0 0, .agg #[.slice none 0 0, .slice none 0 0]], []⟩ 8 (by kernel_rfl) (by kernel_rfl) (by kernel_rfl) (by kernel_rfl)) ?_
  intro W base args ds gs before hval0 hW hcnd _
  have hval : ∀ (j : Nat) t v, Try.f14.params[j]? = some t → args[j]? = some v → Value.okWide Try.prog W .any base t v := hval0
  have hW' := hW
  obtain ⟨p, q, hA0, hV, rfl, hfz, hnd⟩ := hW
  have hA : DataW.TrodAll enc Try.prog W 0 (fun _ => true) true Try.f14.params.toList args.toList ds p := hA0
  rw [Try.params14] at hA hval
  obtain ⟨v0, vs0, d0, ds0, p0, q0, hargs, rfl, rfl, h0, r0⟩ := trodAll_cons hA
  obtain ⟨v1, vs1, d1, ds1, p1, q1, rfl, rfl, rfl, h1, r1⟩ := trodAll_cons r0
  obtain ⟨rfl, rfl, rfl⟩ := trodAll_nil r1
  obtain rfl : args = #[v0, v1] := by cases args; simp_all
  obtain ⟨rfl, rfl⟩ := trodVars_none hV
  have lt0 : ∀ x ∈ p0, x.block < W.heap.size := by obtain ⟨m, hm⟩ := h0; exact DataW.trod_lt m _ _ _ hm
  obtain ⟨A0, n0, cap0, B0, m0, cp0, f0, rfl, hl0, hm0, hr0⟩ := open_mat Try.underlying22 (by kernel_rfl) Try.underlying23 (by kernel_rfl) (by kernel_rfl) (hval 0 22 v0 rfl rfl) h0 lt0
  have lt1 : ∀ x ∈ p1, x.block < W.heap.size := by obtain ⟨m, hm⟩ := h1; exact DataW.trod_lt m _ _ _ hm
  obtain ⟨A1, n1, cap1, f1, B1, m1, capb1, g1, rfl, hpa1, hpb1⟩ := open_mesh _ _ 25 3 3 1 1 Try.underlying25 ⟨rfl, rfl, by kernel_rfl, by kernel_rfl, by kernel_rfl⟩ Try.underlying23 (by kernel_rfl) (by decide) (by kernel_rfl) Try.underlying23 (by kernel_rfl) (by decide) (by kernel_rfl) (hval 1 25 v1 rfl rfl) h1 lt1
  clear hA0 hval0
  refine (cskel_law A0 n0 cap0 B0 m0 cp0 f0 A1 n1 cap1 f1 B1 m1 capb1 g1 W ⟨hl0, hm0, hr0⟩ ⟨hpa1, hpb1⟩).mono fun e W' ⟨he, hk⟩ => ?_
  subst he
  have bel := hk.below
  exact ⟨_, rfl, _, _, _, [], _, [], hW', trodAll_mk1 (shut_bool Try.underlying4 _), (trodAll_cons_mk (Below.trod laidOutCrossSkeletons (by kernel_rfl) (of_decide_eq_true (by kernel_rfl)) h0 bel lt0) (trodAll_cons_mk (Below.trod laidOutCrossSkeletons (by kernel_rfl) (of_decide_eq_true (by kernel_rfl)) h1 bel lt1) trodAll_mk0)), rfl, bel.frame _, fun h => by cases h⟩
/-- For every input the statement CrossSkeletons returns true, and each argument reads afterwards as it read before. -/
theorem crossSkeletons_holds : Rows.CrossSkeletonsSaid :=
  OpenClaim.holds_of_wide 14 Try.f14 rfl rfl rfl rfl rfl rfl rfl ⟨rfl, rfl, rfl, rfl, rfl⟩ rfl rfl rfl rfl rfl (by kernel_rfl) Try.func14 (by kernel_rfl)
    (of_decide_eq_true (by kernel_rfl)) (by unfold Func.isWrapper; first | (rw [if_pos (by decide +kernel)]; kernel_rfl) | (rw [if_neg (by decide +kernel)]; exact ⟨rfl, rfl⟩))
    (fun os started H enc _ => liftedCrossSkeletons os started H enc)
#print axioms crossSkeletons_holds

end Go.Proofs.Ytoejdfpmmgldpaa
