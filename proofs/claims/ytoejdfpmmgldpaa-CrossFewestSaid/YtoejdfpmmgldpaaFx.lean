/- Contract: what the function value of the program's search does with a choice. Conditions: the matrix and the bound are valid. -/
import Derived.Test.YtoejdfpmmgldpaaFw
namespace Go.Proofs.Ytoejdfpmmgldpaa
set_option linter.unusedVariables false
set_option linter.unusedSimpArgs false
open Go.RowKit Go.Deep
set_option maxRecDepth 100000 in
set_option maxHeartbeats 8000000 in
theorem ccarg_any (W : World) (b bA bQ bF bR bC : Nat) (A : Option Addr) (n cap : Nat) (B : Nat → Option Addr) (m cp : Nat → Nat) (f : Nat → Nat → Int) (p q k : Int) (r c : Nat) (RA CA : Option Addr) (rc cc : Nat) (vr vc : Value) (wr : World)
    (hv : valE n m f = 0) (hbb : bndB p q = true) (hM : MatAt W A n B m cp f) (hll : (bl r n).length = (bl c (m 0)).length) (hI : CgB W b bA bQ bF bR bC A n cap p q (.bool false) vr vc wr)
    (hR : wr.ownsRow b 3 1 (.slice RA (bl r n).length rc) (bl r n).length (rowC 1 (blF r n) (bl r n).length)) (hC : wr.ownsRow b 3 1 (.slice CA (bl c (m 0)).length cc) (bl c (m 0)).length (rowC 1 (blF c (m 0)) (bl c (m 0)).length)) :
    Calls Try.prog 78 #[.slice RA (bl r n).length rc, .slice CA (bl c (m 0)).length cc, .pointer (some ⟨bA, 0, none⟩), .pointer (some ⟨bQ, 0, none⟩), .pointer (some ⟨bF, 0, none⟩), .pointer (some ⟨bR, 0, none⟩), .pointer (some ⟨bC, 0, none⟩)] wr
      fun e w'' => FromOn b wr w'' ∧ ((okE n m f p q r c ≠ 0 ∧ e = .returned (.bool true) ∧ CgB W b bA bQ bF bR bC A n cap p q (.bool false) vr vc w'') ∨
        (okE n m f p q r c = 0 ∧ e = .returned (.bool false) ∧ CgB W b bA bQ bF bR bC A n cap p q (.bool true) (.slice RA (bl r n).length rc) (.slice CA (bl c (m 0)).length cc) w'')) := by
  have hw := ChoW.of (f := f) (RA := RA) (CA := CA) hv hll hR hC
  obtain ⟨hcc, hk⟩ := And.intro (bl_cho (f := f) hv hll) (Mok.of (bl_cho (f := f) hv hll)).2
  have hdb := hk.bd
  have hwb := wmat_bd hk bl_set n (Nat.le_refl n)
  obtain ⟨l, hl⟩ : ∃ l, (bl r n).length = l := ⟨_, rfl⟩
  have hlc : (bl c (m 0)).length = l := by rw [← hll, hl]
  have hset := bl_set (r := r) (n := n)
  have hoE : okE n m f p q r c = chkE n m f l (blF r n) l (blF c (m 0)) p q := by unfold okE; rw [hl, hlc]
  have hRr := hw.hr
  have hCr := hw.hc
  have hl6 := hw.l6
  rw [hl] at hcc hk hdb hwb hRr hset hl6 ⊢
  rw [hlc] at hcc hCr ⊢
  rw [hoE]
  obtain ⟨⟨n1, n6⟩, ⟨m1, m6⟩, -, -⟩ := valE_0 hv
  obtain ⟨a1, a2, a3⟩ := box_at hI.ha
  obtain ⟨q1, q2, q3⟩ := box2_at hI.hq
  obtain ⟨f1, f2, f3⟩ := box_at hI.hf
  have LA : Lower bA wr.heap.size := ⟨a3⟩
  have LQ : Lower bQ wr.heap.size := ⟨q3⟩
  have LF : Lower bF wr.heap.size := ⟨f3⟩
  have HI := Lib.hid hI
  have HM := Lib.hid (hM.of hI.kept)
  have HRr := Lib.hid hRr
  have HCr := Lib.hid hCr
  have hn9 : n ≤ 9223372036854775807 := by omega
  have hl9 : l ≤ 9223372036854775807 := by omega
  have HKM := Lib.hid hk
  have HSET := Lib.hid hset
  have HBB := Lib.hid hbb
  have hsame := same_set f1
  have HSM := Lib.hid hsame
  by_cases hd : D l (subF f (blF r n) (blF c (m 0))) = 0
  · have hop : opnE n m f l (blF r n) l (blF c (m 0)) = 11 := by
      unfold opnE
      rw [if_pos hcc, if_pos hd]
    have hne : chkE n m f l (blF r n) l (blF c (m 0)) p q ≠ 0 := by
      unfold chkE
      rw [if_neg (by rw [hop]; decide), hop]
      decide
    have HOP := Lib.hid hop
    have HNE := Lib.hid hne
    clear hv hM hll hI hR hC hw hcc hk hdb hwb hl hlc hoE hRr hCr hd hop hne hset hbb
    go_enter Try.func78, Try.ntmps78
    go_wp2_with (go_at_call 53; refine (copenno_any _ _ _ _ _ _ _ _ _ _ _ _ _ _ _ _ hn9 hl9 hl9 (HM.out.of (by (repeat (first | exact Kept.refl _ | assumption | refine Kept.alloc ?_ _ | refine Kept.ext ?_ _ | refine Kept.drew ?_ | refine Kept.drewN ?_ _)))) (HRr.out.of (by (repeat (first | exact Kept.refl _ | assumption | refine Kept.alloc ?_ _ | refine Kept.ext ?_ _ | refine Kept.drew ?_ | refine Kept.drewN ?_ _)))) (HCr.out.of (by (repeat (first | exact Kept.refl _ | assumption | refine Kept.alloc ?_ _ | refine Kept.ext ?_ _ | refine Kept.drew ?_ | refine Kept.drewN ?_ _)))) (by rw [HOP.out]; decide)).mono ?_; rintro e w1 ⟨rfl, x, rfl⟩; rw [HOP.out])
    ((first | (with_reducible refine wp_region_tail2 9 (by kernel_rfl) (by kernel_rfl) ?_) | refine wp_region_tail 9 (by kernel_rfl) (by kernel_rfl) ?_); simp only [List.take_succ_cons, List.take_zero, List.drop_succ_cons, List.drop_zero]; (repeat (go_big_quiet_step (fail))); refine wpQuiet_nil ?_; intro x3)
    go_wp2_with fail
    go_ret
    have hkx : Kept wr (ext ((ext wr x).alloc (.cells #[.slice none 0 0, .slice none 0 0, .slice none 0 0, .int .i64 0] 74)) x3) := by (repeat (first | exact Kept.refl _ | assumption | refine Kept.alloc ?_ _ | refine Kept.ext ?_ _ | refine Kept.drew ?_ | refine Kept.drewN ?_ _))
    exact ⟨.of hkx, .inl ⟨HNE.out, rfl, HI.out.on hkx⟩⟩
  · have hop : opnE n m f l (blF r n) l (blF c (m 0)) = 0 := by
      unfold opnE
      rw [if_pos hcc, if_neg hd]
    have hN2 : wstN n m f l (blF r n) l (blF c (m 0)) = frN (wmat f l (blF r n) (blF c (m 0)) (m 0) n) ((D l (subF f (blF r n) (blF c (m 0)))).natAbs : Int) := if_pos hop
    have hD2 : wstD n m f l (blF r n) l (blF c (m 0)) = frD (wmat f l (blF r n) (blF c (m 0)) (m 0) n) ((D l (subF f (blF r n) (blF c (m 0)))).natAbs : Int) := if_pos hop
    obtain ⟨dd, hdd⟩ : ∃ x, D l (subF f (blF r n) (blF c (m 0))) = x := ⟨_, rfl⟩
    rw [hdd] at hd hdb hN2 hD2
    have hp := fr_pos hwb (show 1 ≤ (dd.natAbs : Int) ∧ (dd.natAbs : Int) ≤ 720000000000000 by omega)
    obtain ⟨wN, hN⟩ : ∃ x, frN (wmat f l (blF r n) (blF c (m 0)) (m 0) n) (dd.natAbs : Int) = x := ⟨_, rfl⟩
    obtain ⟨wD, hDN⟩ : ∃ x, frD (wmat f l (blF r n) (blF c (m 0)) (m 0) n) (dd.natAbs : Int) = x := ⟨_, rfl⟩
    rw [hN] at hp hN2
    rw [hDN] at hp hD2
    have hpq := bnd_at hbb
    have hwst : ∀ w', Kept wr w' → Calls Try.prog 69 #[.agg #[.slice A n cap, .slice RA l rc, .slice CA l cc, .int .i64 dd]] w' fun e w'' => e = .returned (.agg #[.int .i64 wN, .int .i64 wD]) ∧ Kept w' w'' := fun w' hkw => by
      have := cworst_any A n cap B m cp f RA l rc (blF r n) CA cc (blF c (m 0)) dd w' HKM.out HSET.out (by omega) (HM.out.of hkw) (HRr.out.of hkw) (HCr.out.of hkw)
      rwa [hN, hDN] at this
    have HWST := Lib.hid hwst
    have HOP := Lib.hid hop
    have HDD := Lib.hid hdd
    have hchk : chkE n m f l (blF r n) l (blF c (m 0)) p q = if p * wD < wN * q then 12 else 0 := by
      unfold chkE
      rw [if_pos hop, if_pos hbb, hN2, hD2]
    by_cases hc : p * wD < wN * q
    · have hab := fun w => above_any wN wD p q w ⟨by omega, by omega, by omega, by omega⟩
      rw [decide_eq_true hc] at hab
      have HAB := Lib.hid hab
      have HNE := Lib.hid (show chkE n m f l (blF r n) l (blF c (m 0)) p q ≠ 0 by rw [hchk, if_pos hc]; decide)
      clear hv hM hll hI hR hC hw hcc hk hdb hwb hl hlc hoE hRr hCr hd hop hset hbb hN2 hD2 hdd hp hN hDN hpq hwst hchk hc hab
      go_enter Try.func78, Try.ntmps78
      go_wp2_with (go_at_call 53; refine (copenok_any _ _ _ _ _ _ _ _ _ _ _ _ _ _ _ _ hn9 hl9 hl9 (HM.out.of (by (repeat (first | exact Kept.refl _ | assumption | refine Kept.alloc ?_ _ | refine Kept.ext ?_ _ | refine Kept.drew ?_ | refine Kept.drewN ?_ _)))) (HRr.out.of (by (repeat (first | exact Kept.refl _ | assumption | refine Kept.alloc ?_ _ | refine Kept.ext ?_ _ | refine Kept.drew ?_ | refine Kept.drewN ?_ _)))) (HCr.out.of (by (repeat (first | exact Kept.refl _ | assumption | refine Kept.alloc ?_ _ | refine Kept.ext ?_ _ | refine Kept.drew ?_ | refine Kept.drewN ?_ _)))) HOP.out).mono ?_; rintro e w1 ⟨rfl, x, rfl⟩; rw [HDD.out])
      ((first | (with_reducible refine wp_region_tail2 9 (by kernel_rfl) (by kernel_rfl) ?_) | refine wp_region_tail 9 (by kernel_rfl) (by kernel_rfl) ?_); simp only [List.take_succ_cons, List.take_zero, List.drop_succ_cons, List.drop_zero]; (repeat (go_big_quiet_step (first | (go_at_call 69; exact Calls.kept_of (HWST.out _ (by (repeat (first | exact Kept.refl _ | assumption | refine Kept.alloc ?_ _ | refine Kept.ext ?_ _ | refine Kept.drew ?_ | refine Kept.drewN ?_ _))))) | (go_at_call 68; exact Calls.kept_of (HAB.out _))))); refine wpQuiet_nil ?_; intro x3)
      go_wp2_with fail
      go_ret
      have hkx : Kept wr (ext ((ext wr x).alloc (.cells #[.slice A n cap, .slice RA l rc, .slice CA l cc, .int .i64 dd] 74)) x3) := by (repeat (first | exact Kept.refl _ | assumption | refine Kept.alloc ?_ _ | refine Kept.ext ?_ _ | refine Kept.drew ?_ | refine Kept.drewN ?_ _))
      exact ⟨.of hkx, .inl ⟨HNE.out, rfl, HI.out.on hkx⟩⟩
    · have hab := fun w => above_any wN wD p q w ⟨by omega, by omega, by omega, by omega⟩
      rw [decide_eq_false hc] at hab
      have HAB := Lib.hid hab
      have HNE := Lib.hid (show chkE n m f l (blF r n) l (blF c (m 0)) p q = 0 by rw [hchk, if_neg hc])
      clear hsame
      have h1 := hI.setF (.bool true)
      have h2 := h1.setR (.slice RA l rc)
      have h3 := h2.setC (.slice CA l cc)
      obtain ⟨g1, g2, g3⟩ := box_at h1.hf
      obtain ⟨g4, g5, g6⟩ := box_at h1.hr
      obtain ⟨g7, g8, g9⟩ := box_at h2.hc
      obtain ⟨g10, g11, g12⟩ := box_at h2.hf
      obtain ⟨g13, g14, g15⟩ := box_at h3.hf
      have LR : Lower bR wr.heap.size := ⟨(box_at hI.hr).2.2⟩
      have LC : Lower bC wr.heap.size := ⟨(box_at hI.hc).2.2⟩
      have H3 := Lib.hid h3
      have HFO := Lib.hid (((FromOn.set (w := wr) (o := 0) (u := .bool true) hI.hi.1).trans (FromOn.set (o := 0) (u := .slice RA l rc) hI.hi.2.1)).trans (FromOn.set (o := 0) (u := .slice CA l cc) hI.hi.2.2))
      clear hv hM hll hI hR hC hw hcc hk hdb hwb hl hlc hoE hRr hCr hd hop hset hbb hN2 hD2 hdd hp hN hDN hpq hwst hchk hc hab h1 h2 h3
      go_enter Try.func78, Try.ntmps78
      go_wp2_with (go_at_call 53; refine (copenok_any _ _ _ _ _ _ _ _ _ _ _ _ _ _ _ _ hn9 hl9 hl9 (HM.out.of (by (repeat (first | exact Kept.refl _ | assumption | refine Kept.alloc ?_ _ | refine Kept.ext ?_ _ | refine Kept.drew ?_ | refine Kept.drewN ?_ _)))) (HRr.out.of (by (repeat (first | exact Kept.refl _ | assumption | refine Kept.alloc ?_ _ | refine Kept.ext ?_ _ | refine Kept.drew ?_ | refine Kept.drewN ?_ _)))) (HCr.out.of (by (repeat (first | exact Kept.refl _ | assumption | refine Kept.alloc ?_ _ | refine Kept.ext ?_ _ | refine Kept.drew ?_ | refine Kept.drewN ?_ _)))) HOP.out).mono ?_; rintro e w1 ⟨rfl, x, rfl⟩; rw [HDD.out])
      ((first | (with_reducible refine wp_region_tail2 9 (by kernel_rfl) (by kernel_rfl) ?_) | refine wp_region_tail 9 (by kernel_rfl) (by kernel_rfl) ?_); simp only [List.take_succ_cons, List.take_zero, List.drop_succ_cons, List.drop_zero]; (repeat (go_big_quiet_step (first | (go_at_call 69; exact Calls.kept_of (HWST.out _ (by (repeat (first | exact Kept.refl _ | assumption | refine Kept.alloc ?_ _ | refine Kept.ext ?_ _ | refine Kept.drew ?_ | refine Kept.drewN ?_ _))))) | (go_at_call 68; exact Calls.kept_of (HAB.out _))))); refine wpQuiet_nil ?_; intro x3)
      go_wp2_with fail
      go_ret
      have hkx : Kept (((wr.setCell ⟨bF, 0, none⟩ (.bool true)).setCell ⟨bR, 0, none⟩ (.slice RA l rc)).setCell ⟨bC, 0, none⟩ (.slice CA l cc)) (ext ((ext (((wr.setCell ⟨bF, 0, none⟩ (.bool true)).setCell ⟨bR, 0, none⟩ (.slice RA l rc)).setCell ⟨bC, 0, none⟩ (.slice CA l cc)) x).alloc (.cells #[.slice A n cap, .slice RA l rc, .slice CA l cc, .int .i64 dd] 74)) x3) := by (repeat (first | exact Kept.refl _ | assumption | refine Kept.alloc ?_ _ | refine Kept.ext ?_ _ | refine Kept.drew ?_ | refine Kept.drewN ?_ _))
      exact ⟨HFO.out.trans (.of hkx), .inr ⟨HNE.out, rfl, H3.out.on hkx⟩⟩
end Go.Proofs.Ytoejdfpmmgldpaa
