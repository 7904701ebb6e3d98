/- Contracts: which choices keep a bound, of the program and of the reference. Conditions: the lists' lengths are ints. -/
import Derived.Test.YtjadpehpempjoaaWt
namespace Go.Proofs.Ytjadpehpempjoaa
set_option linter.unusedVariables false
set_option linter.unusedSimpArgs false
open Go.RowKit Go.Deep
theorem fr_pos {a d : Int} (ha : 0 ≤ a ∧ a ≤ 720000000000000) (hd : 1 ≤ d ∧ d ≤ 720000000000000) : (0 ≤ frN a d ∧ frN a d ≤ 720000000000000) ∧ (0 ≤ frD a d ∧ frD a d ≤ 720000000000000) := by
  have hg := (g_pos (n := a) (d := d) (by omega)).1
  unfold frN frD
  rw [if_neg (by omega)]
  refine ⟨⟨Int.ediv_nonneg ha.1 (by omega), ?_⟩, Int.ediv_nonneg (by omega) (by omega), ?_⟩
  · have := Int.ediv_le_self (Nat.gcd a.natAbs d.natAbs : Int) ha.1
    omega
  · have := Int.ediv_le_self (Nat.gcd a.natAbs d.natAbs : Int) (show 0 ≤ (d.natAbs : Int) by omega)
    omega
section
variable (n : Nat) (m : Nat → Nat) (f : Nat → Nat → Int) (rl : Nat) (R : Nat → Nat → Int) (cl : Nat) (C : Nat → Nat → Int) (p q : Int)
def chkE : Int := if opnE n m f rl R cl C = 0 then (if bndB p q = true then (if p * wstD n m f rl R cl C < wstN n m f rl R cl C * q then 12 else 0) else 1) else opnE n m f rl R cl C
end
theorem bnd_at {p q : Int} (h : bndB p q = true) : (1 ≤ q ∧ q ≤ 1000) ∧ (0 ≤ p ∧ p ≤ 1000000) := by
  unfold bndB at h
  simp only [Bool.and_eq_true, decide_eq_true_eq] at h
  exact ⟨h.1, h.2.1⟩
set_option maxRecDepth 100000 in
set_option maxHeartbeats 8000000 in
theorem cChk_any (A : Option Addr) (n cap : Nat) (B : Nat → Option Addr) (m cp : Nat → Nat) (f : Nat → Nat → Int) (RA : Option Addr) (rl rc : Nat) (R : Nat → Nat → Int) (CA : Option Addr) (cl cc : Nat) (C : Nat → Nat → Int) (p q : Int) (w : World)
    (hn : n ≤ 9223372036854775807) (hrl : rl ≤ 9223372036854775807) (hcl : cl ≤ 9223372036854775807) (h : MatAt w A n B m cp f) (hR : RowsAt w RA rl 1 R) (hC : RowsAt w CA cl 1 C) :
    Calls Try.prog 7 #[.slice A n cap, .slice RA rl rc, .slice CA cl cc, .agg #[.int .i64 p, .int .i64 q]] w fun e w' => e = .returned (.int .i64 (chkE n m f rl R cl C p q)) ∧ Kept w w' := by
  have HM := Lib.hid h
  have HR := Lib.hid hR
  have HC := Lib.hid hC
  clear h hR hC
  by_cases hv : opnE n m f rl R cl C = 0
  · obtain ⟨hcc, hd⟩ := opnE_0 hv
    obtain ⟨-, hs, -, -⟩ := choE_0 hcc
    obtain ⟨rfl, hk⟩ := Mok.of hcc
    have hdb := hk.bd
    have hwb := wmat_bd hk hs n (Nat.le_refl n)
    have hN2 : wstN n m f rl R rl C = frN (wmat f rl R C (m 0) n) ((D rl (subF f R C)).natAbs : Int) := if_pos hv
    have hD2 : wstD n m f rl R rl C = frD (wmat f rl R C (m 0) n) ((D rl (subF f R C)).natAbs : Int) := if_pos hv
    obtain ⟨dd, hdd⟩ : ∃ x, D rl (subF f R C) = x := ⟨_, rfl⟩
    rw [hdd] at hd hdb hN2 hD2
    have hp := fr_pos hwb (show 1 ≤ (dd.natAbs : Int) ∧ (dd.natAbs : Int) ≤ 720000000000000 by omega)
    obtain ⟨wN, hN⟩ : ∃ x, frN (wmat f rl R C (m 0) n) (dd.natAbs : Int) = x := ⟨_, rfl⟩
    obtain ⟨wD, hDN⟩ : ∃ x, frD (wmat f rl R C (m 0) n) (dd.natAbs : Int) = x := ⟨_, rfl⟩
    rw [hN] at hp hN2
    rw [hDN] at hp hD2
    have HO := Lib.hid hv
    have HK := Lib.hid hk
    have HS := Lib.hid hs
    have HD := Lib.hid hdd
    have HN := Lib.hid hN
    have HDN := Lib.hid hDN
    have HN2 := Lib.hid hN2
    have HD2 := Lib.hid hD2
    cases hbb : bndB p q
    · rw [show chkE n m f rl R rl C p q = 1 by unfold chkE; rw [if_pos hv, if_neg (by rw [hbb]; decide)]]
      have HBB := Lib.hid hbb
      clear hk hs hv hcc hdd hN hDN hN2 hD2 hbb
      go_enter Try.func7, Try.ntmps7
      go_wp2_with (first | (go_at_call 20; refine (copenok_any _ _ _ _ _ _ _ _ _ _ _ _ _ _ _ _ hn hrl hcl (HM.out.of (by (repeat (first | exact Kept.refl _ | assumption | refine Kept.alloc ?_ _ | refine Kept.ext ?_ _ | refine Kept.drew ?_ | refine Kept.drewN ?_ _)))) (HR.out.of (by (repeat (first | exact Kept.refl _ | assumption | refine Kept.alloc ?_ _ | refine Kept.ext ?_ _ | refine Kept.drew ?_ | refine Kept.drewN ?_ _)))) (HC.out.of (by (repeat (first | exact Kept.refl _ | assumption | refine Kept.alloc ?_ _ | refine Kept.ext ?_ _ | refine Kept.drew ?_ | refine Kept.drewN ?_ _)))) HO.out).mono ?_; rintro e w1 ⟨rfl, x, rfl⟩; rw [HD.out]) | (go_at_call 16; refine (cbound_any _ _ _).mono ?_; rintro e w1 ⟨rfl, x5, rfl⟩; rw [HBB.out]))
      go_ret
      exact ⟨rfl, by (repeat (first | exact Kept.refl _ | assumption | refine Kept.alloc ?_ _ | refine Kept.ext ?_ _ | refine Kept.drew ?_ | refine Kept.drewN ?_ _))⟩
    · have hpq := bnd_at hbb
      have HBB := Lib.hid hbb
      have hwst : ∀ w', Kept w w' → Calls Try.prog 22 #[.agg #[.slice A n cap, .slice RA rl rc, .slice CA rl cc, .int .i64 dd]] w' fun e w'' => e = .returned (.agg #[.int .i64 wN, .int .i64 wD]) ∧ Kept w' w'' := fun w' hk => by
        have := cworst_any A n cap B m cp f RA rl rc R CA cc C dd w' HK.out HS.out (by omega) (HM.out.of hk) (HR.out.of hk) (HC.out.of hk)
        rwa [HN.out, HDN.out] at this
      have HWST := Lib.hid hwst
      clear hwst
      by_cases hc : p * wD < wN * q
      · rw [show chkE n m f rl R rl C p q = 12 by unfold chkE; rw [if_pos hv, if_pos hbb, hN2, hD2]; exact if_pos hc]
        have hab := fun w => above_any wN wD p q w ⟨by omega, by omega, by omega, by omega⟩
        rw [decide_eq_true hc] at hab
        have HAB := Lib.hid hab
        have HC2 := Lib.hid hc
        clear hab hc hk hs hv hcc hdd hN hDN hN2 hD2 hbb
        go_enter Try.func7, Try.ntmps7
        go_wp2_with (first | (go_at_call 20; refine (copenok_any _ _ _ _ _ _ _ _ _ _ _ _ _ _ _ _ hn hrl hcl (HM.out.of (by (repeat (first | exact Kept.refl _ | assumption | refine Kept.alloc ?_ _ | refine Kept.ext ?_ _ | refine Kept.drew ?_ | refine Kept.drewN ?_ _)))) (HR.out.of (by (repeat (first | exact Kept.refl _ | assumption | refine Kept.alloc ?_ _ | refine Kept.ext ?_ _ | refine Kept.drew ?_ | refine Kept.drewN ?_ _)))) (HC.out.of (by (repeat (first | exact Kept.refl _ | assumption | refine Kept.alloc ?_ _ | refine Kept.ext ?_ _ | refine Kept.drew ?_ | refine Kept.drewN ?_ _)))) HO.out).mono ?_; rintro e w1 ⟨rfl, x, rfl⟩; rw [HD.out]) | (go_at_call 16; refine (cbound_any _ _ _).mono ?_; rintro e w1 ⟨rfl, x5, rfl⟩; rw [HBB.out]))
        ((first | (with_reducible refine wp_region_kept2 (by kernel_rfl) (by kernel_rfl) ?_) | refine wp_region_kept (by kernel_rfl) (by kernel_rfl) ?_); (repeat (go_big_quiet_step (first | (go_at_call 22; exact Calls.kept_of (HWST.out _ (by (repeat (first | exact Kept.refl _ | assumption | refine Kept.alloc ?_ _ | refine Kept.ext ?_ _ | refine Kept.drew ?_ | refine Kept.drewN ?_ _))))) | (go_at_call 21; exact Calls.kept_of (HAB.out _))))); refine wpQuiet_nil ?_; intro x3)
        go_wp2
        go_ret
        exact ⟨rfl, by (repeat (first | exact Kept.refl _ | assumption | refine Kept.alloc ?_ _ | refine Kept.ext ?_ _ | refine Kept.drew ?_ | refine Kept.drewN ?_ _))⟩
      · rw [show chkE n m f rl R rl C p q = 0 by unfold chkE; rw [if_pos hv, if_pos hbb, hN2, hD2]; exact if_neg hc]
        have hab := fun w => above_any wN wD p q w ⟨by omega, by omega, by omega, by omega⟩
        rw [decide_eq_false hc] at hab
        have HAB := Lib.hid hab
        have HC2 := Lib.hid hc
        clear hab hc hk hs hv hcc hdd hN hDN hN2 hD2 hbb
        go_enter Try.func7, Try.ntmps7
        go_wp2_with (first | (go_at_call 20; refine (copenok_any _ _ _ _ _ _ _ _ _ _ _ _ _ _ _ _ hn hrl hcl (HM.out.of (by (repeat (first | exact Kept.refl _ | assumption | refine Kept.alloc ?_ _ | refine Kept.ext ?_ _ | refine Kept.drew ?_ | refine Kept.drewN ?_ _)))) (HR.out.of (by (repeat (first | exact Kept.refl _ | assumption | refine Kept.alloc ?_ _ | refine Kept.ext ?_ _ | refine Kept.drew ?_ | refine Kept.drewN ?_ _)))) (HC.out.of (by (repeat (first | exact Kept.refl _ | assumption | refine Kept.alloc ?_ _ | refine Kept.ext ?_ _ | refine Kept.drew ?_ | refine Kept.drewN ?_ _)))) HO.out).mono ?_; rintro e w1 ⟨rfl, x, rfl⟩; rw [HD.out]) | (go_at_call 16; refine (cbound_any _ _ _).mono ?_; rintro e w1 ⟨rfl, x5, rfl⟩; rw [HBB.out]))
        ((first | (with_reducible refine wp_region_kept2 (by kernel_rfl) (by kernel_rfl) ?_) | refine wp_region_kept (by kernel_rfl) (by kernel_rfl) ?_); (repeat (go_big_quiet_step (first | (go_at_call 22; exact Calls.kept_of (HWST.out _ (by (repeat (first | exact Kept.refl _ | assumption | refine Kept.alloc ?_ _ | refine Kept.ext ?_ _ | refine Kept.drew ?_ | refine Kept.drewN ?_ _))))) | (go_at_call 21; exact Calls.kept_of (HAB.out _))))); refine wpQuiet_nil ?_; intro x3)
        go_wp2
        go_ret
        exact ⟨rfl, by (repeat (first | exact Kept.refl _ | assumption | refine Kept.alloc ?_ _ | refine Kept.ext ?_ _ | refine Kept.drew ?_ | refine Kept.drewN ?_ _))⟩
  · obtain ⟨e, he⟩ : ∃ e, opnE n m f rl R cl C = e := ⟨_, rfl⟩
    rw [show chkE n m f rl R cl C p q = e by unfold chkE; rw [if_neg hv, he]]
    have HV := Lib.hid hv
    have HO := Lib.hid he
    rw [he] at hv
    clear he
    have hv2 : (e == 0) = false := by simpa using hv
    have hv3 : decide (e = 0) = false := by simpa using hv
    go_enter Try.func7, Try.ntmps7
    go_wp2_with (go_at_call 20; refine (copenno_any _ _ _ _ _ _ _ _ _ _ _ _ _ _ _ _ hn hrl hcl (HM.out.of (by (repeat (first | exact Kept.refl _ | assumption | refine Kept.alloc ?_ _ | refine Kept.ext ?_ _ | refine Kept.drew ?_ | refine Kept.drewN ?_ _)))) (HR.out.of (by (repeat (first | exact Kept.refl _ | assumption | refine Kept.alloc ?_ _ | refine Kept.ext ?_ _ | refine Kept.drew ?_ | refine Kept.drewN ?_ _)))) (HC.out.of (by (repeat (first | exact Kept.refl _ | assumption | refine Kept.alloc ?_ _ | refine Kept.ext ?_ _ | refine Kept.drew ?_ | refine Kept.drewN ?_ _)))) HV.out).mono ?_; rintro e w1 ⟨rfl, x, rfl⟩; rw [HO.out])
    go_ret
    exact ⟨rfl, by (repeat (first | exact Kept.refl _ | assumption | refine Kept.alloc ?_ _ | refine Kept.ext ?_ _ | refine Kept.drew ?_ | refine Kept.drewN ?_ _))⟩
theorem wrow_ge {f : Nat → Nat → Int} {l : Nat} {R C : Nat → Nat → Int} {i : Nat} {b : Int} : ∀ c, b ≤ wrow f l R C i b c ∧ ∀ j, j < c → ((leftV f l R C i j).natAbs : Int) ≤ wrow f l R C i b c
  | 0 => ⟨Int.le_refl _, fun j hj => absurd hj (by omega)⟩
  | c + 1 => by
    obtain ⟨h1, h2⟩ := wrow_ge (f := f) (l := l) (R := R) (C := C) (i := i) (b := b) c
    have e : wrow f l R C i b (c + 1) = max (wrow f l R C i b c) ((leftV f l R C i c).natAbs : Int) := rfl
    rw [e]
    refine ⟨by omega, fun j hj => ?_⟩
    by_cases hjc : j = c
    · subst hjc
      omega
    · have := h2 j (by omega)
      omega
theorem wmat_ge {f : Nat → Nat → Int} {l : Nat} {R C : Nat → Nat → Int} {c : Nat} : ∀ (n i j : Nat), i < n → j < c → ((leftV f l R C i j).natAbs : Int) ≤ wmat f l R C c n
  | 0, i, _, hi, _ => absurd hi (by omega)
  | n + 1, i, j, hi, hj => by
    obtain ⟨h1, h2⟩ := wrow_ge (f := f) (l := l) (R := R) (C := C) (i := n) (b := wmat f l R C c n) c
    have e : wmat f l R C c (n + 1) = wrow f l R C n (wmat f l R C c n) c := rfl
    rw [e]
    by_cases hin : i = n
    · subst hin
      exact h2 j hj
    · exact Int.le_trans (wmat_ge n i j (by omega) hj) h1
/-- What the fraction of two numbers is, times the common factor. -/
theorem fr_parts {n d : Int} (hd : d ≠ 0) : ∃ g : Int, 0 < g ∧ ((frN n d).natAbs : Int) * g = (n.natAbs : Int) ∧ frD n d * g = (d.natAbs : Int) := by
  obtain ⟨g0, g1, g2⟩ := g_pos (n := n) hd
  refine ⟨_, g0, ?_, ?_⟩
  · obtain ⟨g, hg⟩ : ∃ g : Int, (Nat.gcd n.natAbs d.natAbs : Int) = g := ⟨_, rfl⟩
    unfold frN
    rw [hg] at g0 g1 ⊢
    have e : ((if d < 0 then -n else n) / g) * g = if d < 0 then -n else n := by
      refine Int.ediv_mul_cancel ?_
      split
      · exact Int.dvd_neg.2 g1
      · exact g1
    rw [show ((((if d < 0 then -n else n) / g).natAbs : Nat) : Int) * g = ((((if d < 0 then -n else n) / g) * g).natAbs : Int) by rw [Int.natAbs_mul, Int.natCast_mul, show (g.natAbs : Int) = g by omega], e]
    split <;> omega
  · unfold frD
    exact Int.ediv_mul_cancel (by rw [show (d.natAbs : Int) = if d < 0 then -d else d by split <;> omega]; split
                                  · exact Int.dvd_neg.2 g2
                                  · exact g2)
theorem frp_pos {n d : Int} (hd : d ≠ 0) : 0 < frD n d := by
  obtain ⟨g0, -, -⟩ := g_pos (n := n) hd
  unfold frD
  have g3 : (Nat.gcd n.natAbs d.natAbs : Int) ∣ (d.natAbs : Int) := Int.natCast_dvd_natCast.2 (Nat.gcd_dvd_right _ _)
  have : (1 : Int) ≤ (d.natAbs : Int) / (Nat.gcd n.natAbs d.natAbs : Int) := by
    rw [Int.le_ediv_iff_mul_le g0, Int.one_mul]
    exact Int.le_of_dvd (by omega) g3
  omega
end Go.Proofs.Ytjadpehpempjoaa
