/- Contracts: the greatest element of a residual, of the program and of the reference. Conditions: those of each theorem. Contracts: the greatest residual with its error, bounds, which choices keep a bound, of the program and of the reference. Conditions: the lists' lengths are ints. -/
import Derived.Test.YtoejdfpmmgldpaaLg
namespace Go.Proofs.Ytoejdfpmmgldpaa
set_option linter.unusedVariables false
set_option linter.unusedSimpArgs false
open Go.RowKit Go.Deep
section
variable (f : Nat → Nat → Int) (l : Nat) (R C : Nat → Nat → Int)
/-- The greatest absolute value so far: b, and those of row i ahead of column j. -/
def wrow (i : Nat) (b : Int) : Nat → Int
  | 0 => b
  | j + 1 => max (wrow i b j) ((leftV f l R C i j).natAbs : Int)
def wmat (c : Nat) : Nat → Int
  | 0 => 0
  | i + 1 => wrow f l R C i (wmat c i) c
end
theorem wrow_bd {n : Nat} {m : Nat → Nat} {f : Nat → Nat → Int} {l : Nat} {R C : Nat → Nat → Int} (h : Mok n m f l R C) (hs : setB n l R = true) {i : Nat} (hi : i < n) {b : Int} (hb : 0 ≤ b ∧ b ≤ 720000000000000) : ∀ j, j ≤ m 0 → 0 ≤ wrow f l R C i b j ∧ wrow f l R C i b j ≤ 720000000000000
  | 0, _ => hb
  | j + 1, hj => by
    have h1 := wrow_bd h hs hi hb j (by omega)
    have h2 := leftV_bd (i := (i : Int)) (j := (j : Int)) h hs (by omega) (by omega)
    unfold wrow
    omega
theorem wmat_bd {n : Nat} {m : Nat → Nat} {f : Nat → Nat → Int} {l : Nat} {R C : Nat → Nat → Int} (h : Mok n m f l R C) (hs : setB n l R = true) : ∀ i, i ≤ n → 0 ≤ wmat f l R C (m 0) i ∧ wmat f l R C (m 0) i ≤ 720000000000000
  | 0, _ => by unfold wmat; omega
  | i + 1, hi => wrow_bd h hs (by omega) (wmat_bd h hs i (by omega)) (m 0) (Nat.le_refl _)
set_option maxRecDepth 100000 in
set_option maxHeartbeats 8000000 in
theorem cworst_any (A : Option Addr) (n cap : Nat) (B : Nat → Option Addr) (m cp : Nat → Nat) (f : Nat → Nat → Int) (RA : Option Addr) (l rc : Nat) (R : Nat → Nat → Int) (CA : Option Addr) (cc : Nat) (C : Nat → Nat → Int) (mn : Int) (w : World)
    (hk : Mok n m f l R C) (hs : setB n l R = true) (hmn : mn ≠ 0 ∧ -720000000000000 ≤ mn ∧ mn ≤ 720000000000000) (h : MatAt w A n B m cp f) (hR : RowsAt w RA l 1 R) (hC : RowsAt w CA l 1 C) :
    Calls Try.prog 69 #[.agg #[.slice A n cap, .slice RA l rc, .slice CA l cc, .int .i64 mn]] w fun e w' => e = .returned (.agg #[.int .i64 (frN (wmat f l R C (m 0) n) (mn.natAbs : Int)), .int .i64 (frD (wmat f l R C (m 0) n) (mn.natAbs : Int))]) ∧ Kept w w' := by
  have HM := Lib.hid h
  have HR := Lib.hid hR
  have HC := Lib.hid hC
  have HK := Lib.hid hk
  have HS := Lib.hid hs
  obtain ⟨⟨n1, n6⟩, ⟨m1, m6⟩, -, -, -, -, l6⟩ := hk
  clear h hR hC hs
  obtain ⟨b, off, rfl, hb, c00⟩ := HM.out.at (k := 0) (by omega)
  have LB : Lower b w.heap.size := ⟨hb⟩
  rw [Nat.add_zero] at c00
  have emn : max mn (-mn) = (mn.natAbs : Int) := by omega
  go_enter Try.func69, Try.ntmps69
  go_wp2
  go_loopw [3, 10] (fun v i wr => ∃ k : Nat, k ≤ n ∧ i = .int .i64 k ∧ v = .int .i64 (wmat f l R C (m 0) k) ∧ ∃ y, wr = ext ((w.alloc (.cells #[.slice (some ⟨b, off, none⟩) n cap, .slice RA l rc, .slice CA l cc, .int .i64 mn] 74)).alloc (.cells #[.int .i64 0, .int .i64 0] 32)) y) (fun _ i _ => n - (intOf i).toNat)
  case atStart => exact ⟨0, by omega, rfl, rfl, show Kept _ _ by (repeat (first | exact Kept.refl _ | assumption | refine Kept.alloc ?_ _ | refine Kept.ext ?_ _ | refine Kept.drew ?_ | refine Kept.drewN ?_ _))⟩
  case round =>
    obtain ⟨k, hk, rfl, rfl, y, rfl⟩ := hrel
    by_cases hlt : k < n
    · obtain ⟨bk, hbk⟩ : ∃ x, wmat f l R C (m 0) k = x := ⟨_, rfl⟩
      have hb0 := wmat_bd HK.out HS.out k (by omega)
      rw [hbk] at hb0 ⊢
      have HBK := Lib.hid hbk
      clear hbk
      go_wp2
      go_loopw [3, 18] (fun v j wr => ∃ q : Nat, q ≤ m 0 ∧ j = .int .i64 q ∧ v = .int .i64 (wrow f l R C k bk q) ∧ ∃ y2, wr = ext ((w.alloc (.cells #[.slice (some ⟨b, off, none⟩) n cap, .slice RA l rc, .slice CA l cc, .int .i64 mn] 74)).alloc (.cells #[.int .i64 0, .int .i64 0] 32)) y2) (fun _ j _ => m 0 - (intOf j).toNat)
      case atStart => exact ⟨0, by omega, rfl, rfl, show Kept _ _ by (repeat (first | exact Kept.refl _ | assumption | refine Kept.alloc ?_ _ | refine Kept.ext ?_ _ | refine Kept.drew ?_ | refine Kept.drewN ?_ _))⟩
      case round =>
        obtain ⟨q, hq, rfl, rfl, y2, rfl⟩ := hrel
        by_cases hlq : q < m 0
        · have hv := leftV_bd (i := (k : Int)) (j := (q : Int)) HK.out HS.out (by omega) (by omega)
          have hw0 := wrow_bd HK.out HS.out hlt hb0 q (by omega)
          obtain ⟨lv, hlv⟩ : ∃ x, leftV f l R C k q = x := ⟨_, rfl⟩
          obtain ⟨wr, hwr⟩ : ∃ x, wrow f l R C k bk q = x := ⟨_, rfl⟩
          have hnext : wrow f l R C k bk (q + 1) = max wr (lv.natAbs : Int) := by rw [← hlv, ← hwr]; rfl
          have hleft : ∀ w', Kept w w' → Calls Try.prog 56 #[.agg #[.slice (some ⟨b, off, none⟩) n cap, .slice RA l rc, .slice CA l cc, .int .i64 mn], .int .i64 (k : Int), .int .i64 (q : Int)] w' fun e w'' => e = .returned (.int .i64 lv) ∧ Kept w' w'' := fun w' hk => by
            have := cleft_any (some ⟨b, off, none⟩) n cap B m cp f RA l rc R CA cc C mn k q w' HK.out HS.out (by omega) (by omega) (HM.out.of hk) (HR.out.of hk) (HC.out.of hk)
            rwa [hlv] at this
          rw [hlv] at hv
          rw [hwr] at hw0 ⊢
          have HLEFT := Lib.hid hleft
          have HNEXT := Lib.hid hnext
          clear hleft hnext hlv hwr
          go_wp2_with (go_at_call 56; (with_reducible refine (HLEFT.out _ (by (repeat (first | exact Kept.refl _ | assumption | refine Kept.alloc ?_ _ | refine Kept.ext ?_ _ | refine Kept.drew ?_ | refine Kept.drewN ?_ _)))).mono ?_); rintro e w1 ⟨rfl, x2, rfl⟩)
          go_roundw
          case rel => exact ⟨q + 1, by omega, by go_num, by rw [HNEXT.out]; congr 1; omega, show Kept _ _ by (repeat (first | exact Kept.refl _ | assumption | refine Kept.alloc ?_ _ | refine Kept.ext ?_ _ | refine Kept.drew ?_ | refine Kept.drewN ?_ _))⟩
          case measure => simp [intOf]; omega
        · obtain rfl : q = m 0 := by omega
          go_wp2
          go_roundw
          case rel => exact ⟨k + 1, by omega, by go_num, by show _ = Value.int .i64 (wrow f l R C k (wmat f l R C (m 0) k) (m 0)); rw [HBK.out], show Kept _ _ by (repeat (first | exact Kept.refl _ | assumption | refine Kept.alloc ?_ _ | refine Kept.ext ?_ _ | refine Kept.drew ?_ | refine Kept.drewN ?_ _))⟩
          case measure => simp [intOf]; omega
    · obtain rfl : k = n := by omega
      have hb0 := wmat_bd HK.out HS.out k (by omega)
      obtain ⟨bk, hbk⟩ : ∃ x, wmat f l R C (m 0) k = x := ⟨_, rfl⟩
      rw [hbk] at hb0 ⊢
      have HBK := Lib.hid hbk
      clear hbk
      go_wp2_with (go_at_call 55; refine (fraction_any _ _ _ (by omega) (by omega)).mono ?_; rintro e w1 ⟨rfl, x3, rfl⟩)
      refine bodyPost_ret (by simp only [results, Try.results69]; go_simp; rfl) rfl ?_
      rw [HBK.out]
      exact ⟨rfl, by (repeat (first | exact Kept.refl _ | assumption | refine Kept.alloc ?_ _ | refine Kept.ext ?_ _ | refine Kept.drew ?_ | refine Kept.drewN ?_ _))⟩
set_option maxRecDepth 100000 in
set_option maxHeartbeats 8000000 in
theorem r6worst_any (A : Option Addr) (n cap : Nat) (B : Nat → Option Addr) (m cp : Nat → Nat) (f : Nat → Nat → Int) (RA : Option Addr) (l rc : Nat) (R : Nat → Nat → Int) (CA : Option Addr) (cc : Nat) (C : Nat → Nat → Int) (w : World)
    (hk : Mok n m f l R C) (hs : setB n l R = true) (h : MatAt w A n B m cp f) (hR : RowsAt w RA l 1 R) (hC : RowsAt w CA l 1 C) :
    Calls Try.prog 85 #[.slice A n cap, .slice RA l rc, .slice CA l cc] w fun e w' => e = .returned (.int .i64 (wmat f l R C (m 0) n)) ∧ Kept w w' := by
  have HM := Lib.hid h
  have HR := Lib.hid hR
  have HC := Lib.hid hC
  have HK := Lib.hid hk
  have HS := Lib.hid hs
  obtain ⟨⟨n1, n6⟩, ⟨m1, m6⟩, -, -, -, -, l6⟩ := hk
  clear h hR hC hs
  obtain ⟨b, off, rfl, hb, c00⟩ := HM.out.at (k := 0) (by omega)
  have LB : Lower b w.heap.size := ⟨hb⟩
  rw [Nat.add_zero] at c00
  go_enter Try.func85, Try.ntmps85
  go_wp2
  go_loopw [7, 8] (fun v i wr => ∃ k : Nat, k ≤ n ∧ i = .int .i64 k ∧ v = .int .i64 (wmat f l R C (m 0) k) ∧ ∃ y, wr = ext w y) (fun _ i _ => n - (intOf i).toNat)
  case atStart => exact ⟨0, by omega, rfl, rfl, show Kept _ _ by (repeat (first | exact Kept.refl _ | assumption | refine Kept.alloc ?_ _ | refine Kept.ext ?_ _ | refine Kept.drew ?_ | refine Kept.drewN ?_ _))⟩
  case round =>
    obtain ⟨k, hk, rfl, rfl, y, rfl⟩ := hrel
    by_cases hlt : k < n
    · obtain ⟨bk, hbk⟩ : ∃ x, wmat f l R C (m 0) k = x := ⟨_, rfl⟩
      have hb0 := wmat_bd HK.out HS.out k (by omega)
      rw [hbk] at hb0 ⊢
      have HBK := Lib.hid hbk
      clear hbk
      go_wp2
      go_loopw [7, 9] (fun v j wr => ∃ q : Nat, q ≤ m 0 ∧ j = .int .i64 q ∧ v = .int .i64 (wrow f l R C k bk q) ∧ ∃ y2, wr = ext w y2) (fun _ j _ => m 0 - (intOf j).toNat)
      case atStart => exact ⟨0, by omega, rfl, rfl, show Kept _ _ by (repeat (first | exact Kept.refl _ | assumption | refine Kept.alloc ?_ _ | refine Kept.ext ?_ _ | refine Kept.drew ?_ | refine Kept.drewN ?_ _))⟩
      case round =>
        obtain ⟨q, hq, rfl, rfl, y2, rfl⟩ := hrel
        by_cases hlq : q < m 0
        · have hv := leftV_bd (i := (k : Int)) (j := (q : Int)) HK.out HS.out (by omega) (by omega)
          have hw0 := wrow_bd HK.out HS.out hlt hb0 q (by omega)
          obtain ⟨lv, hlv⟩ : ∃ x, leftV f l R C k q = x := ⟨_, rfl⟩
          obtain ⟨wr, hwr⟩ : ∃ x, wrow f l R C k bk q = x := ⟨_, rfl⟩
          have hnext : wrow f l R C k bk (q + 1) = max wr (lv.natAbs : Int) := by rw [← hlv, ← hwr]; rfl
          have hleft : ∀ w', Kept w w' → Calls Try.prog 60 #[.slice (some ⟨b, off, none⟩) n cap, .slice RA l rc, .slice CA l cc, .int .i64 (k : Int), .int .i64 (q : Int)] w' fun e w'' => e = .returned (.int .i64 lv) ∧ Kept w' w'' := fun w' hk => by
            have := r6bord_any (some ⟨b, off, none⟩) n cap B m cp f RA l rc R CA cc C k q w' HK.out HS.out (by omega) (by omega) (HM.out.of hk) (HR.out.of hk) (HC.out.of hk)
            rwa [hlv] at this
          rw [hlv] at hv
          rw [hwr] at hw0 ⊢
          have HLEFT := Lib.hid hleft
          have HNEXT := Lib.hid hnext
          clear hleft hnext hlv hwr
          obtain ⟨ab, hab⟩ : ∃ x, lv.natAbs = x := ⟨_, rfl⟩
          have HAB := Lib.hid hab
          by_cases hc : wr < (ab : Int)
          · have g1 : decide (wr < (ab : Int)) = true := decide_eq_true hc
            go_wp2_with (first | (go_at_call 60; (with_reducible refine (HLEFT.out _ (by (repeat (first | exact Kept.refl _ | assumption | refine Kept.alloc ?_ _ | refine Kept.ext ?_ _ | refine Kept.drew ?_ | refine Kept.drewN ?_ _)))).mono ?_); rintro e w1 ⟨rfl, x2, rfl⟩) | (go_at_call 84; refine (r6size_any _ _ (by omega)).mono ?_; rintro e w1 ⟨rfl, rfl⟩; rw [HAB.out]))
            go_roundw
            case rel => exact ⟨q + 1, by omega, by go_num, by rw [HNEXT.out, HAB.out]; congr 1; omega, show Kept _ _ by (repeat (first | exact Kept.refl _ | assumption | refine Kept.alloc ?_ _ | refine Kept.ext ?_ _ | refine Kept.drew ?_ | refine Kept.drewN ?_ _))⟩
            case measure => simp [intOf]; omega
          · have g1 : decide (wr < (ab : Int)) = false := decide_eq_false hc
            go_wp2_with (first | (go_at_call 60; (with_reducible refine (HLEFT.out _ (by (repeat (first | exact Kept.refl _ | assumption | refine Kept.alloc ?_ _ | refine Kept.ext ?_ _ | refine Kept.drew ?_ | refine Kept.drewN ?_ _)))).mono ?_); rintro e w1 ⟨rfl, x2, rfl⟩) | (go_at_call 84; refine (r6size_any _ _ (by omega)).mono ?_; rintro e w1 ⟨rfl, rfl⟩; rw [HAB.out]))
            go_roundw
            case rel => exact ⟨q + 1, by omega, by go_num, by rw [HNEXT.out, HAB.out]; congr 1; omega, show Kept _ _ by (repeat (first | exact Kept.refl _ | assumption | refine Kept.alloc ?_ _ | refine Kept.ext ?_ _ | refine Kept.drew ?_ | refine Kept.drewN ?_ _))⟩
            case measure => simp [intOf]; omega
        · obtain rfl : q = m 0 := by omega
          go_wp2
          go_roundw
          case rel => exact ⟨k + 1, by omega, by go_num, by show _ = Value.int .i64 (wrow f l R C k (wmat f l R C (m 0) k) (m 0)); rw [HBK.out], show Kept _ _ by (repeat (first | exact Kept.refl _ | assumption | refine Kept.alloc ?_ _ | refine Kept.ext ?_ _ | refine Kept.drew ?_ | refine Kept.drewN ?_ _))⟩
          case measure => simp [intOf]; omega
    · obtain rfl : k = n := by omega
      go_wp2
      go_ret
      exact ⟨rfl, by (repeat (first | exact Kept.refl _ | assumption | refine Kept.alloc ?_ _ | refine Kept.ext ?_ _ | refine Kept.drew ?_ | refine Kept.drewN ?_ _))⟩
end Go.Proofs.Ytoejdfpmmgldpaa
namespace Go.Proofs.Ytoejdfpmmgldpaa
set_option linter.unusedVariables false
set_option linter.unusedSimpArgs false
open Go.RowKit Go.Deep
section
variable (n : Nat) (m : Nat → Nat) (f : Nat → Nat → Int) (rl : Nat) (R : Nat → Nat → Int) (cl : Nat) (C : Nat → Nat → Int)
def wstN : Int := if opnE n m f rl R cl C = 0 then frN (wmat f rl R C (m 0) n) ((D rl (subF f R C)).natAbs : Int) else 0
def wstD : Int := if opnE n m f rl R cl C = 0 then frD (wmat f rl R C (m 0) n) ((D rl (subF f R C)).natAbs : Int) else 0
end
set_option maxRecDepth 100000 in
set_option maxHeartbeats 8000000 in
theorem cWorst_any (A : Option Addr) (n cap : Nat) (B : Nat → Option Addr) (m cp : Nat → Nat) (f : Nat → Nat → Int) (RA : Option Addr) (rl rc : Nat) (R : Nat → Nat → Int) (CA : Option Addr) (cl cc : Nat) (C : Nat → Nat → Int) (w : World)
    (hn : n ≤ 9223372036854775807) (hrl : rl ≤ 9223372036854775807) (hcl : cl ≤ 9223372036854775807) (h : MatAt w A n B m cp f) (hR : RowsAt w RA rl 1 R) (hC : RowsAt w CA cl 1 C) :
    Calls Try.prog 49 #[.slice A n cap, .slice RA rl rc, .slice CA cl cc] w fun e w' => e = .returned (.tuple #[.agg #[.int .i64 (wstN n m f rl R cl C), .int .i64 (wstD n m f rl R cl C)], .int .i64 (opnE n m f rl R cl C)]) ∧ Kept w w' := by
  have HM := Lib.hid h
  have HR := Lib.hid hR
  have HC := Lib.hid hC
  clear h hR hC
  by_cases hv : opnE n m f rl R cl C = 0
  · obtain ⟨hc, hd⟩ := opnE_0 hv
    obtain ⟨-, hs, -, -⟩ := choE_0 hc
    obtain ⟨rfl, hk⟩ := Mok.of hc
    have hdb := hk.bd
    rw [show wstN n m f rl R rl C = frN (wmat f rl R C (m 0) n) ((D rl (subF f R C)).natAbs : Int) from if_pos hv, show wstD n m f rl R rl C = frD (wmat f rl R C (m 0) n) ((D rl (subF f R C)).natAbs : Int) from if_pos hv, hv]
    obtain ⟨dd, hdd⟩ : ∃ x, D rl (subF f R C) = x := ⟨_, rfl⟩
    rw [hdd] at hd hdb ⊢
    have HO := Lib.hid hv
    have HK := Lib.hid hk
    have HS := Lib.hid hs
    have HD := Lib.hid hdd
    clear hk hs hv hc hdd
    go_enter Try.func49, Try.ntmps49
    go_wp2_with (first | (go_at_call 53; refine (copenok_any _ _ _ _ _ _ _ _ _ _ _ _ _ _ _ _ hn hrl hcl (HM.out.of (by (repeat (first | exact Kept.refl _ | assumption | refine Kept.alloc ?_ _ | refine Kept.ext ?_ _ | refine Kept.drew ?_ | refine Kept.drewN ?_ _)))) (HR.out.of (by (repeat (first | exact Kept.refl _ | assumption | refine Kept.alloc ?_ _ | refine Kept.ext ?_ _ | refine Kept.drew ?_ | refine Kept.drewN ?_ _)))) (HC.out.of (by (repeat (first | exact Kept.refl _ | assumption | refine Kept.alloc ?_ _ | refine Kept.ext ?_ _ | refine Kept.drew ?_ | refine Kept.drewN ?_ _)))) HO.out).mono ?_; rintro e w1 ⟨rfl, x, rfl⟩; rw [HD.out]) | (go_at_call 69; refine (cworst_any _ _ _ _ _ _ _ _ _ _ _ _ _ _ _ _ HK.out HS.out (by omega) (HM.out.of (by (repeat (first | exact Kept.refl _ | assumption | refine Kept.alloc ?_ _ | refine Kept.ext ?_ _ | refine Kept.drew ?_ | refine Kept.drewN ?_ _)))) (HR.out.of (by (repeat (first | exact Kept.refl _ | assumption | refine Kept.alloc ?_ _ | refine Kept.ext ?_ _ | refine Kept.drew ?_ | refine Kept.drewN ?_ _)))) (HC.out.of (by (repeat (first | exact Kept.refl _ | assumption | refine Kept.alloc ?_ _ | refine Kept.ext ?_ _ | refine Kept.drew ?_ | refine Kept.drewN ?_ _))))).mono ?_; rintro e w1 ⟨rfl, x2, rfl⟩))
    refine bodyPost_ret (by simp only [results, Try.results49]; go_simp; rfl) rfl ?_
    exact ⟨rfl, by (repeat (first | exact Kept.refl _ | assumption | refine Kept.alloc ?_ _ | refine Kept.ext ?_ _ | refine Kept.drew ?_ | refine Kept.drewN ?_ _))⟩
  · obtain ⟨e, he⟩ : ∃ e, opnE n m f rl R cl C = e := ⟨_, rfl⟩
    rw [show wstN n m f rl R cl C = 0 from if_neg hv, show wstD n m f rl R cl C = 0 from if_neg hv, he]
    have HV := Lib.hid hv
    have HO := Lib.hid he
    rw [he] at hv
    clear he
    have hv2 : (e == 0) = false := by simpa using hv
    have hv3 : decide (e = 0) = false := by simpa using hv
    go_enter Try.func49, Try.ntmps49
    go_wp2_with (go_at_call 53; refine (copenno_any _ _ _ _ _ _ _ _ _ _ _ _ _ _ _ _ hn hrl hcl (HM.out.of (by (repeat (first | exact Kept.refl _ | assumption | refine Kept.alloc ?_ _ | refine Kept.ext ?_ _ | refine Kept.drew ?_ | refine Kept.drewN ?_ _)))) (HR.out.of (by (repeat (first | exact Kept.refl _ | assumption | refine Kept.alloc ?_ _ | refine Kept.ext ?_ _ | refine Kept.drew ?_ | refine Kept.drewN ?_ _)))) (HC.out.of (by (repeat (first | exact Kept.refl _ | assumption | refine Kept.alloc ?_ _ | refine Kept.ext ?_ _ | refine Kept.drew ?_ | refine Kept.drewN ?_ _)))) HV.out).mono ?_; rintro e w1 ⟨rfl, x, rfl⟩; rw [HO.out])
    refine bodyPost_ret (by simp only [results, Try.results49]; go_simp; rfl) rfl ?_
    exact ⟨rfl, by (repeat (first | exact Kept.refl _ | assumption | refine Kept.alloc ?_ _ | refine Kept.ext ?_ _ | refine Kept.drew ?_ | refine Kept.drewN ?_ _))⟩
set_option maxRecDepth 100000 in
set_option maxHeartbeats 8000000 in
theorem r6Worst_any (A : Option Addr) (n cap : Nat) (B : Nat → Option Addr) (m cp : Nat → Nat) (f : Nat → Nat → Int) (RA : Option Addr) (rl rc : Nat) (R : Nat → Nat → Int) (CA : Option Addr) (cl cc : Nat) (C : Nat → Nat → Int) (w : World)
    (hn : n ≤ 9223372036854775807) (hrl : rl ≤ rc ∧ rc ≤ maxLen) (hcl : cl ≤ cc ∧ cc ≤ maxLen) (h : MatAt w A n B m cp f) (hR : RowsAt w RA rl 1 R) (hC : RowsAt w CA cl 1 C) :
    Calls Try.prog 52 #[.slice A n cap, .slice RA rl rc, .slice CA cl cc] w fun e w' => e = .returned (.tuple #[.agg #[.int .i64 (wstN n m f rl R cl C), .int .i64 (wstD n m f rl R cl C)], .int .i64 (opnE n m f rl R cl C)]) ∧ Kept w w' := by
  have HM := Lib.hid h
  have HR := Lib.hid hR
  have HC := Lib.hid hC
  clear h hR hC
  by_cases hv : opnE n m f rl R cl C = 0
  · obtain ⟨hc, hd⟩ := opnE_0 hv
    obtain ⟨-, hs, -, -⟩ := choE_0 hc
    obtain ⟨rfl, hk⟩ := Mok.of hc
    have hdb := hk.bd
    have hwb := wmat_bd hk hs n (Nat.le_refl n)
    rw [show wstN n m f rl R rl C = frN (wmat f rl R C (m 0) n) ((D rl (subF f R C)).natAbs : Int) from if_pos hv, show wstD n m f rl R rl C = frD (wmat f rl R C (m 0) n) ((D rl (subF f R C)).natAbs : Int) from if_pos hv, hv]
    obtain ⟨dd, hdd⟩ : ∃ x, D rl (subF f R C) = x := ⟨_, rfl⟩
    obtain ⟨wm, hwm⟩ : ∃ x, wmat f rl R C (m 0) n = x := ⟨_, rfl⟩
    rw [hdd] at hd hdb ⊢
    rw [hwm] at hwb ⊢
    have HO := Lib.hid hv
    have HK := Lib.hid hk
    have HS := Lib.hid hs
    have HD := Lib.hid hdd
    have HWM := Lib.hid hwm
    clear hk hs hv hc hdd hwm
    go_enter Try.func52, Try.ntmps52
    go_wp2_with (first | (go_at_call 57; refine (r6div_any _ _ _ _ _ _ _ _ _ _ _ _ _ _ _ _ hn hrl hcl (HM.out.of (by (repeat (first | exact Kept.refl _ | assumption | refine Kept.alloc ?_ _ | refine Kept.ext ?_ _ | refine Kept.drew ?_ | refine Kept.drewN ?_ _)))) (HR.out.of (by (repeat (first | exact Kept.refl _ | assumption | refine Kept.alloc ?_ _ | refine Kept.ext ?_ _ | refine Kept.drew ?_ | refine Kept.drewN ?_ _)))) (HC.out.of (by (repeat (first | exact Kept.refl _ | assumption | refine Kept.alloc ?_ _ | refine Kept.ext ?_ _ | refine Kept.drew ?_ | refine Kept.drewN ?_ _))))).mono ?_; rintro e w1 ⟨rfl, x, rfl⟩; rw [HO.out, if_pos rfl, HD.out]) | (go_at_call 85; refine (r6worst_any _ _ _ _ _ _ _ _ _ _ _ _ _ _ _ HK.out HS.out (HM.out.of (by (repeat (first | exact Kept.refl _ | assumption | refine Kept.alloc ?_ _ | refine Kept.ext ?_ _ | refine Kept.drew ?_ | refine Kept.drewN ?_ _)))) (HR.out.of (by (repeat (first | exact Kept.refl _ | assumption | refine Kept.alloc ?_ _ | refine Kept.ext ?_ _ | refine Kept.drew ?_ | refine Kept.drewN ?_ _)))) (HC.out.of (by (repeat (first | exact Kept.refl _ | assumption | refine Kept.alloc ?_ _ | refine Kept.ext ?_ _ | refine Kept.drew ?_ | refine Kept.drewN ?_ _))))).mono ?_; rintro e w1 ⟨rfl, x2, rfl⟩; rw [HWM.out]) | (go_at_call 84; refine (r6size_any _ _ (by omega)).mono ?_; rintro e w1 ⟨rfl, rfl⟩) | (go_at_call 59; refine (ratio_any _ _ _ (by omega) (by omega)).mono ?_; rintro e w1 ⟨rfl, x3, rfl⟩))
    refine bodyPost_ret (by simp only [results, Try.results52]; go_simp; rfl) rfl ?_
    exact ⟨rfl, by (repeat (first | exact Kept.refl _ | assumption | refine Kept.alloc ?_ _ | refine Kept.ext ?_ _ | refine Kept.drew ?_ | refine Kept.drewN ?_ _))⟩
  · obtain ⟨e, he⟩ : ∃ e, opnE n m f rl R cl C = e := ⟨_, rfl⟩
    rw [show wstN n m f rl R cl C = 0 from if_neg hv, show wstD n m f rl R cl C = 0 from if_neg hv, he]
    have HO := Lib.hid he
    rw [he] at hv
    clear he
    have hv2 : (e == 0) = false := by simpa using hv
    have hv3 : decide (e = 0) = false := by simpa using hv
    go_enter Try.func52, Try.ntmps52
    go_wp2_with (go_at_call 57; refine (r6div_any _ _ _ _ _ _ _ _ _ _ _ _ _ _ _ _ hn hrl hcl (HM.out.of (by (repeat (first | exact Kept.refl _ | assumption | refine Kept.alloc ?_ _ | refine Kept.ext ?_ _ | refine Kept.drew ?_ | refine Kept.drewN ?_ _)))) (HR.out.of (by (repeat (first | exact Kept.refl _ | assumption | refine Kept.alloc ?_ _ | refine Kept.ext ?_ _ | refine Kept.drew ?_ | refine Kept.drewN ?_ _)))) (HC.out.of (by (repeat (first | exact Kept.refl _ | assumption | refine Kept.alloc ?_ _ | refine Kept.ext ?_ _ | refine Kept.drew ?_ | refine Kept.drewN ?_ _))))).mono ?_; rintro e w1 ⟨rfl, x, rfl⟩; rw [HO.out, if_neg hv])
    refine bodyPost_ret (by simp only [results, Try.results52]; go_simp; rfl) rfl ?_
    exact ⟨rfl, by (repeat (first | exact Kept.refl _ | assumption | refine Kept.alloc ?_ _ | refine Kept.ext ?_ _ | refine Kept.drew ?_ | refine Kept.drewN ?_ _))⟩
/-- Whether a fraction is a bound. -/
def bndB (p q : Int) : Bool := decide (1 ≤ q ∧ q ≤ 1000) && (decide (0 ≤ p ∧ p ≤ 1000000) && (Nat.gcd p.natAbs q.natAbs == 1))
set_option maxRecDepth 100000 in
theorem cbound_any (p q : Int) (w : World) : Calls Try.prog 67 #[.agg #[.int .i64 p, .int .i64 q]] w fun e w' => e = .returned (.bool (bndB p q)) ∧ Kept w w' := by
  unfold bndB
  by_cases h1 : 1 ≤ q ∧ q ≤ 1000
  · have g1 : decide (1 ≤ q ∧ q ≤ 1000) = true := decide_eq_true h1
    by_cases h2 : 0 ≤ p ∧ p ≤ 1000000
    · have g2 : decide (0 ≤ p ∧ p ≤ 1000000) = true := decide_eq_true h2
      obtain ⟨gg, hg⟩ : ∃ x, Nat.gcd p.natAbs q.natAbs = x := ⟨_, rfl⟩
      rw [g1, g2, hg]
      have HG := Lib.hid hg
      clear hg
      go_enter Try.func67, Try.ntmps67
      go_wp2_with (first | (go_at_call 54; refine (from_any _ _ _ _).mono ?_; rintro e w1 ⟨rfl, rfl⟩) | (go_at_call 88; refine (gcd_any _ _ _ (by omega)).mono ?_; rintro e w1 ⟨rfl, x, rfl⟩; rw [HG.out]))
      go_ret
      refine ⟨ret_bool ?_, by (repeat (first | exact Kept.refl _ | assumption | refine Kept.alloc ?_ _ | refine Kept.ext ?_ _ | refine Kept.drew ?_ | refine Kept.drewN ?_ _))⟩
      rw [Bool.eq_iff_iff]
      simp
      omega
    · have g2 : decide (0 ≤ p ∧ p ≤ 1000000) = false := decide_eq_false h2
      rw [g1, g2]
      clear h2
      go_enter Try.func67, Try.ntmps67
      go_wp2_with (go_at_call 54; refine (from_any _ _ _ _).mono ?_; rintro e w1 ⟨rfl, rfl⟩)
      go_ret
      exact ⟨rfl, by (repeat (first | exact Kept.refl _ | assumption | refine Kept.alloc ?_ _ | refine Kept.ext ?_ _ | refine Kept.drew ?_ | refine Kept.drewN ?_ _))⟩
  · have g1 : decide (1 ≤ q ∧ q ≤ 1000) = false := decide_eq_false h1
    rw [g1]
    clear h1
    go_enter Try.func67, Try.ntmps67
    go_wp2_with (go_at_call 54; refine (from_any _ _ _ _).mono ?_; rintro e w1 ⟨rfl, rfl⟩)
    go_ret
    exact ⟨rfl, by (repeat (first | exact Kept.refl _ | assumption | refine Kept.alloc ?_ _ | refine Kept.ext ?_ _ | refine Kept.drew ?_ | refine Kept.drewN ?_ _))⟩
theorem fr_low {p q : Int} (hq : 1 ≤ q) : (frN p q = p ∧ frD p q = q) ↔ Nat.gcd p.natAbs q.natAbs = 1 := by
  have hg := g_pos (n := p) (d := q) (by omega)
  constructor
  · rintro ⟨-, h2⟩
    unfold frD at h2
    generalize (Nat.gcd p.natAbs q.natAbs) = g at *
    obtain ⟨k, hk⟩ := hg.2.2
    rw [show (q.natAbs : Int) = q by omega, hk, Int.mul_ediv_cancel_left k (by omega)] at h2
    have hk0 : 0 < k := by
      rcases Int.lt_trichotomy k 0 with e | e | e
      · have := Int.mul_neg_of_pos_of_neg hg.1 e; omega
      · rw [e, Int.mul_zero] at hk; omega
      · exact e
    have h3 : ((g : Int) - 1) * k = 0 := by rw [Int.sub_mul, Int.one_mul]; omega
    rcases Int.mul_eq_zero.1 h3 with e | e
    · omega
    · omega
  · intro h
    unfold frN frD
    rw [h, if_neg (by omega), show ((1 : Nat) : Int) = 1 from rfl, Int.ediv_one, Int.ediv_one]
    exact ⟨rfl, by omega⟩
set_option maxRecDepth 100000 in
theorem r6bound_any (p q : Int) (w : World) : Calls Try.prog 70 #[.agg #[.int .i64 p, .int .i64 q]] w fun e w' => e = .returned (.bool (bndB p q)) ∧ Kept w w' := by
  unfold bndB
  cases h1 : decide (1 ≤ q ∧ q ≤ 1000)
  · have k1 : ∀ w, Calls Try.prog 58 #[.int .i64 q, .int .i64 1, .int .i64 1000] w fun e w' => e = .returned (.bool false) ∧ w = w' := fun w => by
      have := r6within_any q 1 1000 w
      rwa [h1] at this
    have K1 := Lib.hid k1
    clear k1 h1
    go_enter Try.func70, Try.ntmps70
    go_wp2
    ((first | (with_reducible refine wp_region_kept2 (by kernel_rfl) (by kernel_rfl) ?_) | refine wp_region_kept (by kernel_rfl) (by kernel_rfl) ?_); (repeat (go_big_quiet_step (first | (go_at_call 58; with_reducible exact Calls.kept_same (K1.out _)) | (go_at_call 58; with_reducible exact Calls.kept_same (K2.out _)) | (go_at_call 59; exact Calls.kept_of (ratio_any _ _ _ (by omega) (by omega)))))); refine wpQuiet_nil ?_; intro x)
    go_wp2
    go_ret
    exact ⟨rfl, by (repeat (first | exact Kept.refl _ | assumption | refine Kept.alloc ?_ _ | refine Kept.ext ?_ _ | refine Kept.drew ?_ | refine Kept.drewN ?_ _))⟩
  cases h2 : decide (0 ≤ p ∧ p ≤ 1000000)
  · have k1 : ∀ w, Calls Try.prog 58 #[.int .i64 q, .int .i64 1, .int .i64 1000] w fun e w' => e = .returned (.bool true) ∧ w = w' := fun w => by
      have := r6within_any q 1 1000 w
      rwa [h1] at this
    have k2 : ∀ w, Calls Try.prog 58 #[.int .i64 p, .int .i64 0, .int .i64 1000000] w fun e w' => e = .returned (.bool false) ∧ w = w' := fun w => by
      have := r6within_any p 0 1000000 w
      rwa [h2] at this
    have K1 := Lib.hid k1
    have K2 := Lib.hid k2
    clear k1 k2 h1 h2
    go_enter Try.func70, Try.ntmps70
    go_wp2
    ((first | (with_reducible refine wp_region_kept2 (by kernel_rfl) (by kernel_rfl) ?_) | refine wp_region_kept (by kernel_rfl) (by kernel_rfl) ?_); (repeat (go_big_quiet_step (first | (go_at_call 58; with_reducible exact Calls.kept_same (K1.out _)) | (go_at_call 58; with_reducible exact Calls.kept_same (K2.out _)) | (go_at_call 59; exact Calls.kept_of (ratio_any _ _ _ (by omega) (by omega)))))); refine wpQuiet_nil ?_; intro x)
    go_wp2
    go_ret
    exact ⟨rfl, by (repeat (first | exact Kept.refl _ | assumption | refine Kept.alloc ?_ _ | refine Kept.ext ?_ _ | refine Kept.drew ?_ | refine Kept.drewN ?_ _))⟩
  have k1 : ∀ w, Calls Try.prog 58 #[.int .i64 q, .int .i64 1, .int .i64 1000] w fun e w' => e = .returned (.bool true) ∧ w = w' := fun w => by
    have := r6within_any q 1 1000 w
    rwa [h1] at this
  have k2 : ∀ w, Calls Try.prog 58 #[.int .i64 p, .int .i64 0, .int .i64 1000000] w fun e w' => e = .returned (.bool true) ∧ w = w' := fun w => by
    have := r6within_any p 0 1000000 w
    rwa [h2] at this
  have q1 := of_decide_eq_true h1
  have q2 := of_decide_eq_true h2
  have k3 := fun w => ratio_any p q w (by omega) (by omega)
  have hlow := fr_low (p := p) q1.1
  have K1 := Lib.hid k1
  have K2 := Lib.hid k2
  by_cases hg : Nat.gcd p.natAbs q.natAbs = 1
  · obtain ⟨e1, e2⟩ := hlow.2 hg
    rw [e1, e2] at k3
    rw [show (Nat.gcd p.natAbs q.natAbs == 1) = true by simpa using hg]
    have K3 := Lib.hid k3
    clear k1 k2 k3 h1 h2 hlow e1 e2 hg
    go_enter Try.func70, Try.ntmps70
    go_wp2
    ((first | (with_reducible refine wp_region_kept2 (by kernel_rfl) (by kernel_rfl) ?_) | refine wp_region_kept (by kernel_rfl) (by kernel_rfl) ?_); (repeat (go_big_quiet_step (first | (go_at_call 58; with_reducible exact Calls.kept_same (K1.out _)) | (go_at_call 58; with_reducible exact Calls.kept_same (K2.out _)) | (go_at_call 59; with_reducible exact Calls.kept_of (K3.out _))))); refine wpQuiet_nil ?_; intro x)
    go_wp2
    go_ret
    exact ⟨rfl, by (repeat (first | exact Kept.refl _ | assumption | refine Kept.alloc ?_ _ | refine Kept.ext ?_ _ | refine Kept.drew ?_ | refine Kept.drewN ?_ _))⟩
  · rw [show (Nat.gcd p.natAbs q.natAbs == 1) = false by simpa using hg]
    obtain ⟨a, ha⟩ : ∃ x, frN p q = x := ⟨_, rfl⟩
    obtain ⟨b, hb⟩ : ∃ x, frD p q = x := ⟨_, rfl⟩
    rw [ha, hb] at k3 hlow
    have hne : ¬ (a = p ∧ b = q) := fun h => hg (hlow.1 h)
    have K3 := Lib.hid k3
    clear k1 k2 k3 h1 h2 hlow hg ha hb
    by_cases e1 : a = p
    · have e2 : ¬ b = q := fun h => hne ⟨e1, h⟩
      have g1 : (a == p) = true := by simpa using e1
      have g2 : (b == q) = false := by simpa using e2
      subst e1
      go_enter Try.func70, Try.ntmps70
      go_wp2
      ((first | (with_reducible refine wp_region_kept2 (by kernel_rfl) (by kernel_rfl) ?_) | refine wp_region_kept (by kernel_rfl) (by kernel_rfl) ?_); (repeat (go_big_quiet_step (first | (go_at_call 58; with_reducible exact Calls.kept_same (K1.out _)) | (go_at_call 58; with_reducible exact Calls.kept_same (K2.out _)) | (go_at_call 59; with_reducible exact Calls.kept_of (K3.out _))))); refine wpQuiet_nil ?_; intro x)
      go_wp2
      go_ret
      exact ⟨rfl, by (repeat (first | exact Kept.refl _ | assumption | refine Kept.alloc ?_ _ | refine Kept.ext ?_ _ | refine Kept.drew ?_ | refine Kept.drewN ?_ _))⟩
    · have g1 : (a == p) = false := by simpa using e1
      go_enter Try.func70, Try.ntmps70
      go_wp2
      ((first | (with_reducible refine wp_region_kept2 (by kernel_rfl) (by kernel_rfl) ?_) | refine wp_region_kept (by kernel_rfl) (by kernel_rfl) ?_); (repeat (go_big_quiet_step (first | (go_at_call 58; with_reducible exact Calls.kept_same (K1.out _)) | (go_at_call 58; with_reducible exact Calls.kept_same (K2.out _)) | (go_at_call 59; with_reducible exact Calls.kept_of (K3.out _))))); refine wpQuiet_nil ?_; intro x)
      go_wp2
      go_ret
      exact ⟨rfl, by (repeat (first | exact Kept.refl _ | assumption | refine Kept.alloc ?_ _ | refine Kept.ext ?_ _ | refine Kept.drew ?_ | refine Kept.drewN ?_ _))⟩
end Go.Proofs.Ytoejdfpmmgldpaa
