/- Contracts: skeletons where there are none, of the program; skeletons, of the reference. Conditions: the lists' lengths are ints. -/
import Derived.Test.YtoejdfpmmgldpaaSk
import Derived.Test.YtoejdfpmmgldpaaSts
namespace Go.Proofs.Ytoejdfpmmgldpaa
set_option linter.unusedVariables false
set_option linter.unusedSimpArgs false
open Go.RowKit Go.Deep
set_option maxRecDepth 100000 in
set_option maxHeartbeats 4000000 in
theorem cSkelno_any (A : Option Addr) (n cap : Nat) (B : Nat → Option Addr) (m cp : Nat → Nat) (f : Nat → Nat → Int) (RA : Option Addr) (rl rc : Nat) (R : Nat → Nat → Int) (CA : Option Addr) (cl cc : Nat) (C : Nat → Nat → Int) (w : World)
    (hn : n ≤ 9223372036854775807) (hrl : rl ≤ 9223372036854775807) (hcl : cl ≤ 9223372036854775807) (h : MatAt w A n B m cp f) (hR : RowsAt w RA rl 1 R) (hC : RowsAt w CA cl 1 C) (hE : opnE n m f rl R cl C ≠ 0) :
    Calls Try.prog 50 #[.slice A n cap, .slice RA rl rc, .slice CA cl cc] w fun e w' => e = .returned (.tuple #[.slice none 0 0, .int .i64 (opnE n m f rl R cl C)]) ∧ Kept w w' := by
  have HM := Lib.hid h
  have HR := Lib.hid hR
  have HC := Lib.hid hC
  have HV := Lib.hid hE
  clear h hR hC
  obtain ⟨e, he⟩ : ∃ e, opnE n m f rl R cl C = e := ⟨_, rfl⟩
  rw [he] at hE ⊢
  have HE := Lib.hid he
  have hv2 : (e == 0) = false := by simpa using hE
  have hv3 : decide (e = 0) = false := by simpa using hE
  clear he
  go_enter Try.func50, Try.ntmps50
  go_wp2_with (go_at_call 53; refine (copenno_any _ _ _ _ _ _ _ _ _ _ _ _ _ _ _ _ hn hrl hcl (HM.out.of (by (repeat (first | exact Kept.refl _ | assumption | refine Kept.alloc ?_ _ | refine Kept.ext ?_ _ | refine Kept.drew ?_ | refine Kept.drewN ?_ _)))) (HR.out.of (by (repeat (first | exact Kept.refl _ | assumption | refine Kept.alloc ?_ _ | refine Kept.ext ?_ _ | refine Kept.drew ?_ | refine Kept.drewN ?_ _)))) (HC.out.of (by (repeat (first | exact Kept.refl _ | assumption | refine Kept.alloc ?_ _ | refine Kept.ext ?_ _ | refine Kept.drew ?_ | refine Kept.drewN ?_ _)))) HV.out).mono ?_; rintro e w1 ⟨rfl, x, rfl⟩; rw [HE.out])
  refine bodyPost_ret (by simp only [results, Try.results50]; go_simp; rfl) rfl ?_
  exact ⟨rfl, by (repeat (first | exact Kept.refl _ | assumption | refine Kept.alloc ?_ _ | refine Kept.ext ?_ _ | refine Kept.drew ?_ | refine Kept.drewN ?_ _))⟩
set_option maxRecDepth 100000 in
set_option maxHeartbeats 4000000 in
theorem r6Skelno_any (A : Option Addr) (n cap : Nat) (B : Nat → Option Addr) (m cp : Nat → Nat) (f : Nat → Nat → Int) (RA : Option Addr) (rl rc : Nat) (R : Nat → Nat → Int) (CA : Option Addr) (cl cc : Nat) (C : Nat → Nat → Int) (w : World)
    (hn : n ≤ 9223372036854775807) (hrl : rl ≤ rc ∧ rc ≤ maxLen) (hcl : cl ≤ cc ∧ cc ≤ maxLen) (h : MatAt w A n B m cp f) (hR : RowsAt w RA rl 1 R) (hC : RowsAt w CA cl 1 C) (hE : opnE n m f rl R cl C ≠ 0) :
    Calls Try.prog 51 #[.slice A n cap, .slice RA rl rc, .slice CA cl cc] w fun e w' => e = .returned (.tuple #[.slice none 0 0, .int .i64 (opnE n m f rl R cl C)]) ∧ Kept w w' := by
  have HM := Lib.hid h
  have HR := Lib.hid hR
  have HC := Lib.hid hC
  clear h hR hC
  obtain ⟨e, he⟩ : ∃ e, opnE n m f rl R cl C = e := ⟨_, rfl⟩
  rw [he] at hE ⊢
  have HE := Lib.hid he
  have hv2 : (e == 0) = false := by simpa using hE
  have hv3 : decide (e = 0) = false := by simpa using hE
  clear he
  go_enter Try.func51, Try.ntmps51
  go_wp2_with (go_at_call 57; refine (r6div_any _ _ _ _ _ _ _ _ _ _ _ _ _ _ _ _ hn hrl hcl (HM.out.of (by (repeat (first | exact Kept.refl _ | assumption | refine Kept.alloc ?_ _ | refine Kept.ext ?_ _ | refine Kept.drew ?_ | refine Kept.drewN ?_ _)))) (HR.out.of (by (repeat (first | exact Kept.refl _ | assumption | refine Kept.alloc ?_ _ | refine Kept.ext ?_ _ | refine Kept.drew ?_ | refine Kept.drewN ?_ _)))) (HC.out.of (by (repeat (first | exact Kept.refl _ | assumption | refine Kept.alloc ?_ _ | refine Kept.ext ?_ _ | refine Kept.drew ?_ | refine Kept.drewN ?_ _))))).mono ?_; rintro e w1 ⟨rfl, x, rfl⟩; rw [HE.out])
  refine bodyPost_ret (by simp only [results, Try.results51]; go_simp; rfl) rfl ?_
  exact ⟨rfl, by (repeat (first | exact Kept.refl _ | assumption | refine Kept.alloc ?_ _ | refine Kept.ext ?_ _ | refine Kept.drew ?_ | refine Kept.drewN ?_ _))⟩
set_option maxRecDepth 100000 in
set_option maxHeartbeats 16000000 in
theorem r6Skelok_any (A : Option Addr) (n cap : Nat) (B : Nat → Option Addr) (m cp : Nat → Nat) (f : Nat → Nat → Int) (RA : Option Addr) (l rc : Nat) (R : Nat → Nat → Int) (CA : Option Addr) (cc : Nat) (C : Nat → Nat → Int) (w : World)
    (hn : n ≤ 9223372036854775807) (hrl : l ≤ rc ∧ rc ≤ maxLen) (hcl : l ≤ cc ∧ cc ≤ maxLen) (h : MatAt w A n B m cp f) (hR : RowsAt w RA l 1 R) (hC : RowsAt w CA l 1 C) (hE : opnE n m f l R l C = 0) :
    Calls Try.prog 51 #[.slice A n cap, .slice RA l rc, .slice CA l cc] w fun e w' => ∃ v, e = .returned (.tuple #[v, .int .i64 0]) ∧ Kept w w' ∧ OutL w.heap.size 61 32 2 n (fun _ => m 0) (fun i j c => kpF f l R C (D l (subF f R C)) i j c) v w' := by
  have HM := Lib.hid h
  have HR := Lib.hid hR
  have HC := Lib.hid hC
  have HE := Lib.hid hE
  clear h hR hC
  obtain ⟨hch, hd⟩ := opnE_0 hE
  obtain ⟨hv, hs, -, -⟩ := choE_0 hch
  obtain ⟨-, hk⟩ := Mok.of hch
  obtain ⟨⟨n1, n6⟩, ⟨m1, m6⟩, hmm, hff⟩ := valE_0 hv
  have hdb := hk.bd
  obtain ⟨dd, hdd⟩ : ∃ x, D l (subF f R C) = x := ⟨_, rfl⟩
  rw [hdd] at hd hdb ⊢
  have HDD := Lib.hid hdd
  have HK := Lib.hid hk
  have HS := Lib.hid hs
  have HMM := Lib.hid hmm
  have HFF := Lib.hid hff
  obtain ⟨ti, hti, hte⟩ := Option.map_eq_some_iff.1 info_R
  simp only [Prod.mk.injEq] at hte
  have HT := Lib.hid hti
  have HTE := Lib.hid hte
  obtain ⟨tj, htj, htf⟩ := Option.map_eq_some_iff.1 info_SQ
  simp only [Prod.mk.injEq] at htf
  have HU := Lib.hid htj
  have HUE := Lib.hid htf
  clear hti hte htj htf hE hch hv hs hk hmm hff hdd
  go_enter Try.func51, Try.ntmps51
  go_wp2_with (go_at_call 57; refine (r6div_any _ _ _ _ _ _ _ _ _ _ _ _ _ _ _ _ hn hrl hcl (HM.out.of (by (repeat (first | exact Kept.refl _ | assumption | refine Kept.alloc ?_ _ | refine Kept.ext ?_ _ | refine Kept.drew ?_ | refine Kept.drewN ?_ _)))) (HR.out.of (by (repeat (first | exact Kept.refl _ | assumption | refine Kept.alloc ?_ _ | refine Kept.ext ?_ _ | refine Kept.drew ?_ | refine Kept.drewN ?_ _)))) (HC.out.of (by (repeat (first | exact Kept.refl _ | assumption | refine Kept.alloc ?_ _ | refine Kept.ext ?_ _ | refine Kept.drew ?_ | refine Kept.drewN ?_ _))))).mono ?_; rintro e w1 ⟨rfl, x, rfl⟩; rw [HE.out, if_pos rfl, HDD.out])
  go_loopw [10, 11] (fun o i wr => ∃ k : Nat, k ≤ n ∧ i = .int .i64 k ∧ Kept w wr ∧ OutL w.heap.size 61 32 2 k (fun _ => m 0) (fun i j c => kpF f l R C dd i j c) o wr) (fun _ i _ => n - (intOf i).toNat)
  case atStart => exact ⟨0, by omega, rfl, by (repeat (first | exact Kept.refl _ | assumption | refine Kept.alloc ?_ _ | refine Kept.ext ?_ _ | refine Kept.drew ?_ | refine Kept.drewN ?_ _)), OutL.nil _ _ _ _ _ _ _⟩
  case round =>
    obtain ⟨k, hk, rfl, hkw, hO⟩ := hrel
    obtain ⟨Wi, rfl⟩ : ∃ x, x = wr := ⟨_, rfl⟩
    obtain ⟨OA, oc, rfl⟩ := hO.slice
    have HKW := Lib.hid hkw
    have HO := Lib.hid hO
    clear hO
    by_cases hlt : k < n
    · obtain ⟨a0, o0, hA, ha0, c0⟩ := (HM.out.of hkw).at (k := 0) (by omega)
      subst hA
      rw [Nat.add_zero] at c0
      have LA0 : Lower a0 Wi.heap.size := ⟨ha0⟩
      have HMI := Lib.hid (HM.out.of hkw)
      clear hkw
      go_wp2_with fail
      go_loopw [12, 13] (fun row j w2 => ∃ q : Nat, q ≤ m 0 ∧ j = .int .i64 q ∧ Kept Wi w2 ∧ w2.ownsRow Wi.heap.size 32 2 row q (rowC 2 (kpF f l R C dd k) q)) (fun _ j _ => m 0 - (intOf j).toNat)
      case atStart => exact ⟨0, by omega, rfl, Kept.refl _, World.ownsRow_nil _ _ _ _⟩
      case round =>
        obtain ⟨q, hq, rfl, hk2, hL⟩ := hrel
        obtain ⟨LAd, lc, rfl⟩ := own_slice2 hL
        have HL := Lib.hid hL
        have HK2 := Lib.hid hk2
        have LA2 : Lower a0 wr.heap.size := ⟨Nat.lt_of_lt_of_le ha0 (kept_le hk2)⟩
        have c0' : wr.cell? ⟨a0, o0, none⟩ = some (.slice (B 0) (m 0) (cp 0)) := cell_on c0 ha0 hk2
        clear hL
        by_cases hlq : q < m 0
        · have hlb := leftV_bd (i := (k : Int)) (j := (q : Int)) HK.out HS.out ⟨by omega, by omega⟩ ⟨by omega, by omega⟩
          have hbo : ∀ w', Kept wr w' → Calls Try.prog 60 #[.slice (some ⟨a0, o0, none⟩) n cap, .slice RA l rc, .slice CA l cc, .int .i64 k, .int .i64 q] w' fun e w'' => e = .returned (.int .i64 (leftV f l R C k q)) ∧ Kept w' w'' := fun w' hkw =>
            r6bord_any _ n cap B m cp f RA l rc R CA cc C k q w' HK.out HS.out (by omega) (by omega) (HMI.out.of (hk2.trans hkw)) (HR.out.of (HKW.out.trans (hk2.trans hkw))) (HC.out.of (HKW.out.trans (hk2.trans hkw)))
          have h0 : kpF f l R C dd k q 0 = f k q * frD (leftV f l R C k q) dd - frN (leftV f l R C k q) dd := rfl
          have h1 : kpF f l R C dd k q 1 = frD (leftV f l R C k q) dd := rfl
          obtain ⟨lv, hlv⟩ : ∃ x, leftV f l R C k q = x := ⟨_, rfl⟩
          rw [hlv] at hlb hbo h0 h1
          have hnb := frN_bd (n := lv) (b := 720000000000000) hlb hd
          have hdp := frD_pos (n := lv) hd
          have hdl := frD_le (n := lv) (b := 720000000000000) hd (by omega)
          have hoff := fr_off (p := f k q) (n := lv) hd
          have hff := HFF.out k hlt q hlq
          have hfr : ∀ w', Calls Try.prog 59 #[.int .i64 lv, .int .i64 dd] w' fun e w'' => e = .returned (.agg #[.int .i64 (frN lv dd), .int .i64 (frD lv dd)]) ∧ Kept w' w'' := fun w' => ratio_any lv dd w' (by omega) (by omega)
          obtain ⟨fn, hfn⟩ : ∃ x, frN lv dd = x := ⟨_, rfl⟩
          obtain ⟨fd, hfd⟩ : ∃ x, frD lv dd = x := ⟨_, rfl⟩
          rw [hfn] at hnb hfr hoff h0
          rw [hfd] at hdp hdl hfr hoff h0 h1
          have hmb := mul_abs (c := 100) (d := 720000000000000) (a := f k q) (b := fd) hff (by omega) (by decide) (by decide)
          obtain ⟨pf, hpf⟩ : ∃ x, f k q * fd = x := ⟨_, rfl⟩
          rw [hpf] at hmb hoff h0
          have hfr2 : ∀ w', Calls Try.prog 59 #[.int .i64 (pf - fn), .int .i64 fd] w' fun e w'' => e = .returned (.agg #[.int .i64 (pf - fn), .int .i64 fd]) ∧ Kept w' w'' := fun w' => by
            have := ratio2_any (pf - fn) fd w' (by omega) (by omega)
            rwa [hoff.1, hoff.2] at this
          have hrw := rowC_pr2 (F := kpF f l R C dd k) (k := q) (p := pf - fn) (q := fd) h0 h1
          have HRW := Lib.hid hrw
          have HBO := Lib.hid hbo
          have HFR := Lib.hid hfr
          have HFR2 := Lib.hid hfr2
          obtain ⟨bb, bo, hB, -, -, -⟩ := rows1 (k := q) (HMI.out.el k hlt) (by rw [HMM.out k hlt]; exact hlq)
          have hcell : ∀ W, Kept Wi W → a0 < W.heap.size ∧ bb < W.heap.size ∧ W.cell? ⟨a0, o0 + k, none⟩ = some (.slice (some ⟨bb, bo, none⟩) (m 0) (cp k)) ∧ W.cell? ⟨bb, bo + q, none⟩ = some (.int .i64 (f k q)) := fun W hW => by
            obtain ⟨ab, ao, e, hab, d1⟩ := (HMI.out.of hW).at hlt
            simp only [Option.some.injEq, Addr.mk.injEq, and_true] at e
            obtain ⟨rfl, rfl⟩ := e
            rw [HMM.out k hlt, hB] at d1
            obtain ⟨bb2, bo2, hB2, hbb, d2, -⟩ := rows1 (k := q) ((HMI.out.of hW).el k hlt) (by rw [HMM.out k hlt]; exact hlq)
            rw [hB] at hB2
            cases hB2
            exact ⟨hab, hbb, d1, d2⟩
          have HCELL := Lib.hid hcell
          clear hB hk2 hbo h0 h1 hlv hfn hfd hfr hfr2 hoff hrw hff hcell
          go_wp2_with (first | (go_at_call 60; refine (HBO.out _ (by (repeat (first | exact Kept.refl _ | assumption | refine Kept.alloc ?_ _ | refine Kept.ext ?_ _ | refine Kept.drew ?_ | refine Kept.drewN ?_ _)))).mono ?_; rintro e w1 ⟨rfl, x3, rfl⟩) | (go_at_call 59; refine (HFR.out _).mono ?_; rintro e w1 ⟨rfl, x5, rfl⟩))
          refine wp_gen (fun WB hWB => ?_)
          obtain ⟨cb, hcb⟩ : ∃ cb, adv (adv wr.heap.size x3.obs.size) x5.obs.size = cb := ⟨_, rfl⟩
          have f0 : WB.cell? ⟨cb, 0, none⟩ = some (.int .i64 fn) := by rw [hWB, ← hcb]; go_simp
          have f1 : WB.cell? ⟨cb, 1, none⟩ = some (.int .i64 fd) := by rw [hWB, ← hcb]; go_simp
          have fl : cb < WB.heap.size := by rw [hWB, ← hcb]; exact low
          have hkB : Kept wr WB := by rw [hWB]; (repeat (first | exact Kept.refl _ | assumption | refine Kept.alloc ?_ _ | refine Kept.ext ?_ _ | refine Kept.drew ?_ | refine Kept.drewN ?_ _))
          have hne : some cb ≠ (Value.slice LAd q lc).ownBlock := fun e => by
            have h1 := own_lt HL.out e.symm
            have h2 : wr.heap.size ≤ cb := by
              rw [← hcb]
              exact Nat.le_trans (adv_le _ _) (adv_le _ _)
            omega
          have FO := Lib.hid (owns_kept HL.out hkB)
          have FK := Lib.hid (HK2.out.trans hkB)
          have FN := Lib.hid hne
          rw [hcb]
          clear hWB hcb hkB hne
          refine wp_region_tellC (C := fun W' => Kept Wi W' ∧ W'.cell? ⟨cb, 0, none⟩ = some (.int .i64 fn) ∧ W'.cell? ⟨cb, 1, none⟩ = some (.int .i64 fd) ∧ cb < W'.heap.size) [.q, .q, .q, .q, .q, .q, .q, .q, .q, .q, .q, .q, .q, .q, .q, .q, .q, .s, .s, .q] (AqI 17 18 Wi cb (.int .i64 fn) (.int .i64 fd) 32 2 (.slice LAd q lc) q (rowC 2 (kpF f l R C dd k) q) #[.int .i64 (pf - fn), .int .i64 fd] (rowC 2 (kpF f l R C dd k) (q + 1))) (by kernel_rfl) (by kernel_rfl) (fun b => by kernel_rfl) ?_ ?_ ?_ ?_
          · intro b
            exact (AqI.start FK.out f0 f1 fl FN.out FO.out).on (by (repeat (first | exact Kept.refl _ | assumption | refine Kept.alloc ?_ _ | refine Kept.ext ?_ _ | refine Kept.drew ?_ | refine Kept.drewN ?_ _)))
          · intro i L b w' w'' hs hI hk
            exact (hI.on hk).other (by rintro rfl; cases hs) (by rintro rfl; cases hs)
          · exact fun _ _ _ h => ⟨h.kept, h.c0, h.c1, h.cl⟩
          apply Exists.intro
          refine ⟨?_, ?_, ?_, ?_⟩
          · rintro bv W ⟨hkw, d0, d1, d2⟩
            have LW : Lower cb W.heap.size := ⟨d2⟩
            obtain ⟨g1, g2, g3, g4⟩ := HCELL.out W hkw
            have LW1 : Lower a0 W.heap.size := ⟨g1⟩
            have LW2 : Lower bb W.heap.size := ⟨g2⟩
            simp only [swapL, Nat.reduceAdd]
            repeat (go_big_quiet_step (first | (go_at_call 59; exact Calls.kept_of (HFR2.out _))))
            refine wpQuiet_nil ?_
            rfl
          · simp only [EachS, and_true]
            refine ⟨?_, ?_⟩
            · intro S b w' hd hL hI
              have h14 := hI.opP (by decide) hL
              go_simp
              exact ⟨rfl, h14⟩
            · intro S b w' hd hL hI
              have d14 : S 17 = true := hd { on := 17, ground := .data } (by simp) rfl
              obtain ⟨g, e1, e2⟩ := hI.lit d14 hL
              refine tells_append (.tmp 47) (.tmp 64) 61 rfl Wi.heap.size 32 ti _ 2 16 Try.underlying61 HT.out HTE.out.1 HTE.out.2.1 HTE.out.2.2 rfl (by omega) (kept_le hI.kept) (.slice LAd q lc) q _ rfl (hI.pre hL) (some ⟨g, 0, none⟩) 1 1 _ e1 (rowsR_at e2 (by unfold I64; omega) (by unfold I64; omega)) (by unfold maxLen; omega) (by omega) ?_
              intro v' w'' k1 k2 k3
              rw [HRW.out] at k1
              exact ⟨rfl, hI.opA (by decide) d14 hL k1 k2⟩
          · intro b1 b2 d hd
            simp [callSlots, dullOp] at hd
            subst hd
            rfl
          · intro L b w' hL hI
            have hown := hI.res (hL 18 (by decide))
            have hK := hI.kept
            obtain ⟨A2, c2, hb2⟩ := own_slice2 hown
            rw [hb2] at hown
            go_simp
            go_wp2_with fail
            go_roundw
            case rel => exact ⟨q + 1, by omega, by go_num, hK, hown⟩
            case measure => simp [intOf]; omega
        · obtain rfl : q = m 0 := by omega
          obtain ⟨V, h1, h2⟩ := HO.out
          have H1 := Lib.hid h1
          have H2 := Lib.hid h2
          clear h1 h2 hk2
          go_wp2_with (at_builtin; go_loud (refine wpList_append_lies _ rfl (.tmp 66) (.tmp 68) 70 rfl w.heap.size 61 tj _ 1 24 Try.underlying70 HU.out HUE.out.1 HUE.out.2.1 HUE.out.2.2 rfl (by omega) _ _ _ rfl (owns_kept (owns_kept H1.out HK2.out) (by (repeat (first | exact Kept.refl _ | assumption | refine Kept.alloc ?_ _ | refine Kept.ext ?_ _ | refine Kept.drew ?_ | refine Kept.drewN ?_ _)))) _ 1 1 [.slice LAd (m 0) lc] rfl rfl (lit_cell _ _ _) (lit_one _ rfl) (by omega) (by unfold maxLen; omega) (by omega) (by rw [World.size_alloc]; exact Nat.le_trans (kept_le (HKW.out.trans HK2.out)) (Nat.le_succ _)) _ rfl ?_); intro g1 cp1 w1 k1 k2 k3 k4; have E1 := Lib.hid k2; have K1 := Lib.hid k1; clear k1 k2 k3 k4)
          go_roundw
          case rel =>
            have hKB : Kept wr (wr.alloc (.cells #[.slice LAd (m 0) lc] 61)) := by (repeat (first | exact Kept.refl _ | assumption | refine Kept.alloc ?_ _ | refine Kept.ext ?_ _ | refine Kept.drew ?_ | refine Kept.drewN ?_ _))
            refine ⟨k + 1, by omega, by go_num, ?_, ?_⟩
            · exact kept_grown (W := w) ((HKW.out.trans HK2.out).trans hKB) (owns_kept (owns_kept H1.out HK2.out) hKB) (Nat.le_refl _) E1.out
            · exact OutL.push (V := V) (u := .slice LAd (m 0) lc) (owns_kept (owns_kept H1.out HK2.out) hKB) (fun i hi => owns_kept (owns_kept (H2.out i hi) HK2.out) hKB) (by decide) (owns_kept (own_lo2 HL.out (kept_le HKW.out)) hKB) E1.out K1.out
          case measure => simp [intOf]; omega
    · obtain rfl : k = n := by omega
      clear hkw
      go_wp2_with fail
      refine bodyPost_ret (by simp only [results, Try.results51]; go_simp; rfl) rfl ?_
      exact ⟨_, rfl, HKW.out, HO.out⟩
end Go.Proofs.Ytoejdfpmmgldpaa
