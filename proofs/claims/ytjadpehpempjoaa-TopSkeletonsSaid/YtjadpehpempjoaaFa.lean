/- Contracts: products of skeletons, of the program. Conditions: the lists' lengths are ints. -/
import Derived.Test.YtjadpehpempjoaaRl
namespace Go.Proofs.Ytjadpehpempjoaa
set_option linter.unusedVariables false
set_option linter.unusedSimpArgs false
open Go.RowKit Go.Deep
/-- The fractions of a product with a skeleton. -/
def fstF (m : Nat → Nat) (f : Nat → Nat → Int) (rl : Nat) (R C X : Nat → Nat → Int) (i j : Nat) : Int := if j = 0 then fstN m f rl R C X i else fstD m f rl R C X i
set_option maxRecDepth 100000 in
set_option maxHeartbeats 4000000 in
theorem cFastno_any (A : Option Addr) (n cap : Nat) (B : Nat → Option Addr) (m cp : Nat → Nat) (f : Nat → Nat → Int) (RA : Option Addr) (rl rc : Nat) (R : Nat → Nat → Int) (CA : Option Addr) (cl cc : Nat) (C : Nat → Nat → Int) (XA : Option Addr) (xl xc : Nat) (X : Nat → Nat → Int) (w : World)
    (hn : n ≤ 9223372036854775807) (hrl : rl ≤ 9223372036854775807) (hcl : cl ≤ 9223372036854775807) (hxl : xl ≤ 9223372036854775807) (h : MatAt w A n B m cp f) (hR : RowsAt w RA rl 1 R) (hC : RowsAt w CA cl 1 C) (hX : RowsAt w XA xl 1 X) (hE : mulE n m f rl R cl C xl X ≠ 0) :
    Calls Try.prog 9 #[.slice A n cap, .slice RA rl rc, .slice CA cl cc, .slice XA xl xc] w fun e w' => e = .returned (.tuple #[.slice none 0 0, .int .i64 (mulE n m f rl R cl C xl X)]) ∧ Kept w w' := by
  have HM := Lib.hid h
  have HR := Lib.hid hR
  have HC := Lib.hid hC
  have HX := Lib.hid hX
  clear h hR hC hX
  obtain ⟨e, he⟩ : ∃ e, mulE n m f rl R cl C xl X = e := ⟨_, rfl⟩
  have HV := Lib.hid hE
  rw [he] at hE ⊢
  have HE := Lib.hid he
  clear he
  have hv2 : (e == 0) = false := by simpa using hE
  have hv3 : decide (e = 0) = false := by simpa using hE
  go_enter Try.func9, Try.ntmps9
  go_wp2_with (go_at_call 24; refine (cmulno_any _ _ _ _ _ _ _ _ _ _ _ _ _ _ _ _ _ _ _ _ hn hrl hcl hxl (HM.out.of (by (repeat (first | exact Kept.refl _ | assumption | refine Kept.alloc ?_ _ | refine Kept.ext ?_ _ | refine Kept.drew ?_ | refine Kept.drewN ?_ _)))) (HR.out.of (by (repeat (first | exact Kept.refl _ | assumption | refine Kept.alloc ?_ _ | refine Kept.ext ?_ _ | refine Kept.drew ?_ | refine Kept.drewN ?_ _)))) (HC.out.of (by (repeat (first | exact Kept.refl _ | assumption | refine Kept.alloc ?_ _ | refine Kept.ext ?_ _ | refine Kept.drew ?_ | refine Kept.drewN ?_ _)))) (HX.out.of (by (repeat (first | exact Kept.refl _ | assumption | refine Kept.alloc ?_ _ | refine Kept.ext ?_ _ | refine Kept.drew ?_ | refine Kept.drewN ?_ _)))) HV.out).mono ?_; rintro e w1 ⟨rfl, x, rfl⟩; rw [HE.out])
  refine bodyPost_ret (by simp only [results, Try.results9]; go_simp; rfl) rfl ?_
  exact ⟨rfl, by (repeat (first | exact Kept.refl _ | assumption | refine Kept.alloc ?_ _ | refine Kept.ext ?_ _ | refine Kept.drew ?_ | refine Kept.drewN ?_ _))⟩
set_option maxRecDepth 100000 in
set_option maxHeartbeats 16000000 in
theorem cFastok_any (A : Option Addr) (n cap : Nat) (B : Nat → Option Addr) (m cp : Nat → Nat) (f : Nat → Nat → Int) (RA : Option Addr) (rl rc : Nat) (R : Nat → Nat → Int) (CA : Option Addr) (cl cc : Nat) (C : Nat → Nat → Int) (XA : Option Addr) (xl xc : Nat) (X : Nat → Nat → Int) (w : World)
    (hn : n ≤ 9223372036854775807) (hrl : rl ≤ 9223372036854775807) (hcl : cl ≤ 9223372036854775807) (hxl : xl ≤ 9223372036854775807) (h : MatAt w A n B m cp f) (hR : RowsAt w RA rl 1 R) (hC : RowsAt w CA cl 1 C) (hX : RowsAt w XA xl 1 X) (hE : mulE n m f rl R cl C xl X = 0) :
    Calls Try.prog 9 #[.slice A n cap, .slice RA rl rc, .slice CA cl cc, .slice XA xl xc] w fun e w' => ∃ v, e = .returned (.tuple #[v, .int .i64 0]) ∧ Kept w w' ∧ w'.ownsRow w.heap.size 27 2 v n (rowC 2 (fstF m f rl R C X) n) := by
  have HM := Lib.hid h
  have HR := Lib.hid hR
  have HC := Lib.hid hC
  have HX := Lib.hid hX
  clear h hR hC hX
  have HE := Lib.hid hE
  obtain ⟨hc, hf, ho⟩ := mulE_0 hE
  obtain ⟨-, hd⟩ := opnE_0 ho
  obtain ⟨hv, hs, -, rfl⟩ := choE_0 hc
  obtain ⟨-, hk⟩ := Mok.of hc
  obtain ⟨hn1, hm1, hmm, hff⟩ := valE_0 hv
  obtain ⟨hxe, hxb⟩ := facB_at hf
  have HD := Lib.hid hd
  have hdb := hk.bd
  have hden := fun i (hi : i < n) => den_bd (X := X) hk hs hi hd
  obtain ⟨dd, hdd⟩ : ∃ x, D rl (subF f R C) = x := ⟨_, rfl⟩
  rw [hdd] at hd hdb
  have HV := Lib.hid hv
  have HS := Lib.hid hs
  have HK := Lib.hid hk
  have HF := Lib.hid hf
  have HMM := Lib.hid hmm
  have HXE := Lib.hid hxe
  have HDD := Lib.hid hdd
  have HDEN := Lib.hid hden
  clear hE hc hf ho hv hs hk hmm hff hxe hxb hdd hden
  obtain ⟨n1, n6⟩ := hn1
  obtain ⟨m1, m6⟩ := hm1
  obtain ⟨ti, hti, hte⟩ := Option.map_eq_some_iff.1 info_R
  simp only [Prod.mk.injEq] at hte
  have HT := Lib.hid hti
  have HTE := Lib.hid hte
  clear hti hte
  go_enter Try.func9, Try.ntmps9
  go_wp2_with (go_at_call 24; refine (cmulok_any _ _ _ _ _ _ _ _ _ _ _ _ _ _ _ _ _ _ _ _ hn hrl hcl hxl (HM.out.of (by (repeat (first | exact Kept.refl _ | assumption | refine Kept.alloc ?_ _ | refine Kept.ext ?_ _ | refine Kept.drew ?_ | refine Kept.drewN ?_ _)))) (HR.out.of (by (repeat (first | exact Kept.refl _ | assumption | refine Kept.alloc ?_ _ | refine Kept.ext ?_ _ | refine Kept.drew ?_ | refine Kept.drewN ?_ _)))) (HC.out.of (by (repeat (first | exact Kept.refl _ | assumption | refine Kept.alloc ?_ _ | refine Kept.ext ?_ _ | refine Kept.drew ?_ | refine Kept.drewN ?_ _)))) (HX.out.of (by (repeat (first | exact Kept.refl _ | assumption | refine Kept.alloc ?_ _ | refine Kept.ext ?_ _ | refine Kept.drew ?_ | refine Kept.drewN ?_ _)))) HE.out).mono ?_; rintro e w1 ⟨rfl, x, rfl⟩; rw [HDD.out])
  refine wp_gen (fun W0 hW0 => ?_)
  obtain ⟨sk, hsk⟩ : ∃ sk, adv w.heap.size x.obs.size = sk := ⟨_, rfl⟩
  have f0 : W0.cell? ⟨sk, 0, none⟩ = some (.slice A n cap) := by rw [hW0, ← hsk]; go_simp
  have f1 : W0.cell? ⟨sk, 1, none⟩ = some (.slice RA rl rc) := by rw [hW0, ← hsk]; go_simp
  have f2 : W0.cell? ⟨sk, 2, none⟩ = some (.slice CA rl cc) := by rw [hW0, ← hsk]; go_simp
  have f3 : W0.cell? ⟨sk, 3, none⟩ = some (.int .i64 dd) := by rw [hW0, ← hsk]; go_simp
  have L0 : Lower sk W0.heap.size := ⟨by rw [hW0, ← hsk]; exact low⟩
  have hk0 : Kept w W0 := by rw [hW0]; (repeat (first | exact Kept.refl _ | assumption | refine Kept.alloc ?_ _ | refine Kept.ext ?_ _ | refine Kept.drew ?_ | refine Kept.drewN ?_ _))
  have hleft : ∀ w', Kept W0 w' → ∀ k q : Nat, k < n → q < m 0 → Calls Try.prog 25 #[.agg #[.slice A n cap, .slice RA rl rc, .slice CA rl cc, .int .i64 dd], .int .i64 k, .int .i64 q] w' fun e w'' => e = .returned (.int .i64 (leftV f rl R C k q)) ∧ Kept w' w'' := fun w' hkw k q hk hq =>
    cleft_any A n cap B m cp f RA rl rc R CA cc C dd k q w' HK.out HS.out (by omega) (by omega) (HM.out.of (hk0.trans hkw)) (HR.out.of (hk0.trans hkw)) (HC.out.of (hk0.trans hkw))
  have HLEFT := Lib.hid hleft
  have HM0 := Lib.hid (HM.out.of hk0)
  have HX0 := Lib.hid (HX.out.of hk0)
  have HK0 := Lib.hid hk0
  rw [hsk]
  clear hleft hW0 hk0 hsk
  go_loopw [12, 33] (fun o i wr => ∃ k : Nat, k ≤ n ∧ i = .int .i64 k ∧ Kept W0 wr ∧ wr.ownsRow W0.heap.size 27 2 o k (rowC 2 (fstF m f rl R C X) k)) (fun _ i _ => n - (intOf i).toNat)
  case atStart => exact ⟨0, by omega, rfl, Kept.refl _, World.ownsRow_nil _ _ _ _⟩
  case round =>
    obtain ⟨k, hk, rfl, hkw, hO⟩ := hrel
    by_cases hlt : k < n
    · obtain ⟨ab, ao, rfl, hab, c1⟩ := (HM0.out.of hkw).at hlt
      obtain ⟨y, rfl⟩ := hkw
      have hmk := HMM.out k hlt
      obtain ⟨bb, bo, hB, hbb, -, -⟩ := rows1 (k := 0) (HM0.out.el k hlt) (by omega)
      rw [hB, hmk] at c1
      have hcap := HM0.out.cap k hlt
      have LA : Lower ab (ext W0 y).heap.size := ⟨hab⟩
      obtain ⟨OA, oc, rfl⟩ := own_slice2 hO
      have HO := Lib.hid hO
      clear hO
      go_wp2
      go_loopw [15, 16, 40] (fun wh of j w2 => ∃ q : Nat, q ≤ m 0 ∧ j = .int .i64 q ∧ wh = .int .i64 (sumZ (pTerm f X k) q) ∧ of = .int .i64 (sumZ (oTerm f rl R C X k) q) ∧ ∃ y2, w2 = ext (ext W0 y) y2) (fun _ _ j _ => m 0 - (intOf j).toNat)
      case atStart => exact ⟨0, by omega, rfl, rfl, rfl, show Kept _ _ by (repeat (first | exact Kept.refl _ | assumption | refine Kept.alloc ?_ _ | refine Kept.ext ?_ _ | refine Kept.drew ?_ | refine Kept.drewN ?_ _))⟩
      case round =>
        obtain ⟨q, hq, rfl, rfl, rfl, y2, rfl⟩ := hrel
        by_cases hlq : q < m 0
        · obtain ⟨bb2, bo2, hB2, hbb2, c2, -⟩ := rows1 (k := q) (HM0.out.el k hlt) (by omega)
          rw [hB] at hB2
          cases hB2
          obtain ⟨xb, xo, rfl, hxb, c3, -⟩ := rows1 (k := q) HX0.out (by have := HXE.out; omega)
          have LX : Lower xb W0.heap.size := ⟨hxb⟩
          have LB : Lower bb W0.heap.size := ⟨hbb2⟩
          have b1 := pTerm_bd HV.out HF.out hlt hlq
          have b2 := pSum_bd HV.out HF.out hlt (q := q) (by omega)
          have b3 := oTerm_bd HK.out HS.out HF.out hlt hlq
          have b4 := oSum_bd HK.out HS.out HF.out hlt (q := q) (by omega)
          obtain ⟨S, hS⟩ : ∃ x, sumZ (pTerm f X k) q = x := ⟨_, rfl⟩
          obtain ⟨tt, htt⟩ : ∃ x, f k q * X q 0 = x := ⟨_, rfl⟩
          obtain ⟨T, hT⟩ : ∃ x, sumZ (oTerm f rl R C X k) q = x := ⟨_, rfl⟩
          obtain ⟨lv, hlv⟩ : ∃ x, leftV f rl R C k q = x := ⟨_, rfl⟩
          have e3 : oTerm f rl R C X k q = lv * X q 0 := by rw [← hlv]; rfl
          rw [e3] at b3
          obtain ⟨uu, huu⟩ : ∃ x, lv * X q 0 = x := ⟨_, rfl⟩
          have hS2 : sumZ (pTerm f X k) (q + 1) = S + tt := by rw [← hS, ← htt]; rfl
          have hT2 : sumZ (oTerm f rl R C X k) (q + 1) = T + uu := by rw [← hT, ← huu, ← e3]; rfl
          rw [hS] at b2 ⊢
          rw [htt] at b1
          rw [hT] at b4 ⊢
          rw [huu] at b3
          have HS2 := Lib.hid hS2
          have HT2 := Lib.hid hT2
          have hll := fun w' hkw => HLEFT.out w' hkw k q hlt hlq
          rw [hlv] at hll
          have HLL := Lib.hid hll
          have hqx : q < xl := by have := HXE.out; omega
          clear hS hS2 hT hT2 hlv e3 hll
          go_wp2
          ((first | (with_reducible refine wp_region_tail2 11 (by kernel_rfl) (by kernel_rfl) ?_) | refine wp_region_tail 11 (by kernel_rfl) (by kernel_rfl) ?_); simp only [List.take_succ_cons, List.take_zero, List.drop_succ_cons, List.drop_zero]; (repeat (go_big_quiet_step (first | (go_at_call 25; exact Calls.kept_of (HLL.out _ (by (repeat (first | exact Kept.refl _ | assumption | refine Kept.alloc ?_ _ | refine Kept.ext ?_ _ | refine Kept.drew ?_ | refine Kept.drewN ?_ _)))))))); refine wpQuiet_nil ?_; intro x4)
          go_wp2
          go_roundw
          case rel => exact ⟨q + 1, by omega, by go_num, by rw [HS2.out], by rw [HT2.out], show Kept _ _ by (repeat (first | exact Kept.refl _ | assumption | refine Kept.alloc ?_ _ | refine Kept.ext ?_ _ | refine Kept.drew ?_ | refine Kept.drewN ?_ _))⟩
          case measure => simp [intOf]; omega
        · obtain rfl : q = m 0 := by omega
          have b2 := pSum_bd HV.out HF.out hlt (q := m 0) (by omega)
          have b4 := oSum_bd HK.out HS.out HF.out hlt (q := m 0) (by omega)
          have b5 := HDEN.out k hlt
          have b6 := frN_bd b4 HD.out
          rw [show sumZ (pTerm f X k) (m 0) = pV f X (m 0) k from rfl] at b2 ⊢
          rw [show sumZ (oTerm f rl R C X k) (m 0) = oV f rl R C X (m 0) k from rfl] at b4 b6 ⊢
          have hN : fstN m f rl R C X k = pV f X (m 0) k * frD (oV f rl R C X (m 0) k) (D rl (subF f R C)) - frN (oV f rl R C X (m 0) k) (D rl (subF f R C)) := rfl
          have hDn : fstD m f rl R C X k = frD (oV f rl R C X (m 0) k) (D rl (subF f R C)) := rfl
          rw [HDD.out] at b5 b6 hN hDn
          obtain ⟨pv, hpv⟩ : ∃ x, pV f X (m 0) k = x := ⟨_, rfl⟩
          obtain ⟨ov, hov⟩ : ∃ x, oV f rl R C X (m 0) k = x := ⟨_, rfl⟩
          rw [hpv] at b2 hN ⊢
          rw [hov] at b4 b5 b6 hN hDn ⊢
          have hfr : ∀ w', Calls Try.prog 26 #[.int .i64 ov, .int .i64 dd] w' fun e w'' => e = .returned (.agg #[.int .i64 (frN ov dd), .int .i64 (frD ov dd)]) ∧ Kept w' w'' := fun w' => fraction_any ov dd w' (by omega) (by omega)
          obtain ⟨fn, hfn⟩ : ∃ x, frN ov dd = x := ⟨_, rfl⟩
          obtain ⟨fd, hfd⟩ : ∃ x, frD ov dd = x := ⟨_, rfl⟩
          rw [hfn] at b6 hN hfr
          rw [hfd] at b5 hN hDn hfr
          have b7 := mul_abs (c := 600000) (d := 1200000000000) (a := pv) (b := fd) (by omega) (by omega) (by decide) (by decide)
          have hrw := rowC_pr2 (F := fstF m f rl R C X) (k := k) (p := pv * fd - fn) (q := fd) (by rw [← hN]; rfl) (by rw [← hDn]; rfl)
          obtain ⟨pf, hpf⟩ : ∃ x, pv * fd = x := ⟨_, rfl⟩
          rw [hpf] at b7 hrw
          have HRW := Lib.hid hrw
          have HFR := Lib.hid hfr
          clear hN hDn hpv hov hfn hfd hfr hrw
          go_wp2_with (first
            | (go_at_call 26; refine (HFR.out _).mono ?_; rintro e w1 ⟨rfl, x5, rfl⟩)
            | (at_builtin; refine wpList_appR rfl (.tmp 69) (.tmp 80) 37 rfl W0.heap.size ti _ Try.underlying37 HT.out HTE.out.1 HTE.out.2.1 HTE.out.2.2 rfl (kept_le (by (repeat (first | exact Kept.refl _ | assumption | refine Kept.alloc ?_ _ | refine Kept.ext ?_ _ | refine Kept.drew ?_ | refine Kept.drewN ?_ _)))) _ k _ rfl (owns_kept HO.out (by (repeat (first | exact Kept.refl _ | assumption | refine Kept.alloc ?_ _ | refine Kept.ext ?_ _ | refine Kept.drew ?_ | refine Kept.drewN ?_ _)))) _ 1 1 _ rfl (rowsR_lit (pf - fn) fd (by unfold I64; omega) (by unfold I64; omega) (by simp)) (k + 1) rfl _ HRW.out (by omega) ?_
               intro A1 cp1 w1 k1 k2 k3
               have E1 := Lib.hid (kept_grown (W := W0) (by (repeat (first | exact Kept.refl _ | assumption | refine Kept.alloc ?_ _ | refine Kept.ext ?_ _ | refine Kept.drew ?_ | refine Kept.drewN ?_ _))) (owns_kept HO.out (by (repeat (first | exact Kept.refl _ | assumption | refine Kept.alloc ?_ _ | refine Kept.ext ?_ _ | refine Kept.drew ?_ | refine Kept.drewN ?_ _)))) (Nat.le_refl _) k2)
               have K1 := Lib.hid k1
               clear k1 k2 k3))
          go_roundw
          case rel => exact ⟨k + 1, by omega, by go_num, E1.out.trans (by (repeat (first | exact Kept.refl _ | assumption | refine Kept.alloc ?_ _ | refine Kept.ext ?_ _ | refine Kept.drew ?_ | refine Kept.drewN ?_ _))), owns_kept K1.out (by (repeat (first | exact Kept.refl _ | assumption | refine Kept.alloc ?_ _ | refine Kept.ext ?_ _ | refine Kept.drew ?_ | refine Kept.drewN ?_ _)))⟩
          case measure => simp [intOf]; omega
    · obtain rfl : k = n := by omega
      have HO := Lib.hid hO
      have HKW := Lib.hid hkw
      clear hO hkw
      go_wp2
      refine bodyPost_ret (by simp only [results, Try.results9]; go_simp; rfl) rfl ?_
      exact ⟨_, rfl, HK0.out.trans HKW.out, own_down HO.out (kept_le HK0.out)⟩
end Go.Proofs.Ytjadpehpempjoaa
