/- Contracts: the greatest element of a residual, of the program and of the reference. Conditions: those of each theorem. Contracts: the greatest residual with its error, bounds, which choices keep a bound, of the program and of the reference. Conditions: the lists' lengths are ints. -/
import Derived.Test.YtjadpehpempjoaaLg
namespace Go.Proofs.Ytjadpehpempjoaa
set_option linter.unusedVariables false
set_option linter.unusedSimpArgs false
open Go.RowKit Go.Deep
section
variable (f : Nat → Nat → Int) (l : Nat) (R C : Nat → Nat → Int)
/-- The greatest absolute value so far: b, and those of row i ahead of column j. -/
def wrow (i : Nat) (b : Int) : Nat → Int
  | 0 => b
  | j + 1 => max (wrow i b j) ((leftV f l R C i j).natAbs : Int)
def wmat (c : Nat) : Nat → Int
  | 0 => 0
  | i + 1 => wrow f l R C i (wmat c i) c
end
theorem wrow_bd {n : Nat} {m : Nat → Nat} {f : Nat → Nat → Int} {l : Nat} {R C : Nat → Nat → Int} (h : Mok n m f l R C) (hs : setB n l R = true) {i : Nat} (hi : i < n) {b : Int} (hb : 0 ≤ b ∧ b ≤ 720000000000000) : ∀ j, j ≤ m 0 → 0 ≤ wrow f l R C i b j ∧ wrow f l R C i b j ≤ 720000000000000
  | 0, _ => hb
  | j + 1, hj => by
    have h1 := wrow_bd h hs hi hb j (by omega)
    have h2 := leftV_bd (i := (i : Int)) (j := (j : Int)) h hs (by omega) (by omega)
    unfold wrow
    omega
theorem wmat_bd {n : Nat} {m : Nat → Nat} {f : Nat → Nat → Int} {l : Nat} {R C : Nat → Nat → Int} (h : Mok n m f l R C) (hs : setB n l R = true) : ∀ i, i ≤ n → 0 ≤ wmat f l R C (m 0) i ∧ wmat f l R C (m 0) i ≤ 720000000000000
  | 0, _ => by unfold wmat; omega
  | i + 1, hi => wrow_bd h hs (by omega) (wmat_bd h hs i (by omega)) (m 0) (Nat.le_refl _)
set_option maxRecDepth 100000 in
set_option maxHeartbeats 8000000 in
theorem cworst_any (A : Option Addr) (n cap : Nat) (B : Nat → Option Addr) (m cp : Nat → Nat) (f : Nat → Nat → Int) (RA : Option Addr) (l rc : Nat) (R : Nat → Nat → Int) (CA : Option Addr) (cc : Nat) (C : Nat → Nat → Int) (mn : Int) (w : World)
    (hk : Mok n m f l R C) (hs : setB n l R = true) (hmn : mn ≠ 0 ∧ -720000000000000 ≤ mn ∧ mn ≤ 720000000000000) (h : MatAt w A n B m cp f) (hR : RowsAt w RA l 1 R) (hC : RowsAt w CA l 1 C) :
    Calls Try.prog 22 #[.agg #[.slice A n cap, .slice RA l rc, .slice CA l cc, .int .i64 mn]] w fun e w' => e = .returned (.agg #[.int .i64 (frN (wmat f l R C (m 0) n) (mn.natAbs : Int)), .int .i64 (frD (wmat f l R C (m 0) n) (mn.natAbs : Int))]) ∧ Kept w w' := by
  have HM := Lib.hid h
  have HR := Lib.hid hR
  have HC := Lib.hid hC
  have HK := Lib.hid hk
  have HS := Lib.hid hs
  obtain ⟨⟨n1, n6⟩, ⟨m1, m6⟩, -, -, -, -, l6⟩ := hk
  clear h hR hC hs
  obtain ⟨b, off, rfl, hb, c00⟩ := HM.out.at (k := 0) (by omega)
  have LB : Lower b w.heap.size := ⟨hb⟩
  rw [Nat.add_zero] at c00
  have emn : max mn (-mn) = (mn.natAbs : Int) := by omega
  go_enter Try.func22, Try.ntmps22
  go_wp2
  go_loopw [3, 10] (fun v i wr => ∃ k : Nat, k ≤ n ∧ i = .int .i64 k ∧ v = .int .i64 (wmat f l R C (m 0) k) ∧ ∃ y, wr = ext ((w.alloc (.cells #[.slice (some ⟨b, off, none⟩) n cap, .slice RA l rc, .slice CA l cc, .int .i64 mn] 53)).alloc (.cells #[.int .i64 0, .int .i64 0] 27)) y) (fun _ i _ => n - (intOf i).toNat)
  case atStart => exact ⟨0, by omega, rfl, rfl, show Kept _ _ by (repeat (first | exact Kept.refl _ | assumption | refine Kept.alloc ?_ _ | refine Kept.ext ?_ _ | refine Kept.drew ?_ | refine Kept.drewN ?_ _))⟩
  case round =>
    obtain ⟨k, hk, rfl, rfl, y, rfl⟩ := hrel
    by_cases hlt : k < n
    · obtain ⟨bk, hbk⟩ : ∃ x, wmat f l R C (m 0) k = x := ⟨_, rfl⟩
      have hb0 := wmat_bd HK.out HS.out k (by omega)
      rw [hbk] at hb0 ⊢
      have HBK := Lib.hid hbk
      clear hbk
      go_wp2
      go_loopw [3, 18] (fun v j wr => ∃ q : Nat, q ≤ m 0 ∧ j = .int .i64 q ∧ v = .int .i64 (wrow f l R C k bk q) ∧ ∃ y2, wr = ext ((w.alloc (.cells #[.slice (some ⟨b, off, none⟩) n cap, .slice RA l rc, .slice CA l cc, .int .i64 mn] 53)).alloc (.cells #[.int .i64 0, .int .i64 0] 27)) y2) (fun _ j _ => m 0 - (intOf j).toNat)
      case atStart => exact ⟨0, by omega, rfl, rfl, show Kept _ _ by (repeat (first | exact Kept.refl _ | assumption | refine Kept.alloc ?_ _ | refine Kept.ext ?_ _ | refine Kept.drew ?_ | refine Kept.drewN ?_ _))⟩
      case round =>
        obtain ⟨q, hq, rfl, rfl, y2, rfl⟩ := hrel
        by_cases hlq : q < m 0
        · have hv := leftV_bd (i := (k : Int)) (j := (q : Int)) HK.out HS.out (by omega) (by omega)
          have hw0 := wrow_bd HK.out HS.out hlt hb0 q (by omega)
          obtain ⟨lv, hlv⟩ : ∃ x, leftV f l R C k q = x := ⟨_, rfl⟩
          obtain ⟨wr, hwr⟩ : ∃ x, wrow f l R C k bk q = x := ⟨_, rfl⟩
          have hnext : wrow f l R C k bk (q + 1) = max wr (lv.natAbs : Int) := by rw [← hlv, ← hwr]; rfl
          have hleft : ∀ w', Kept w w' → Calls Try.prog 25 #[.agg #[.slice (some ⟨b, off, none⟩) n cap, .slice RA l rc, .slice CA l cc, .int .i64 mn], .int .i64 (k : Int), .int .i64 (q : Int)] w' fun e w'' => e = .returned (.int .i64 lv) ∧ Kept w' w'' := fun w' hk => by
            have := cleft_any (some ⟨b, off, none⟩) n cap B m cp f RA l rc R CA cc C mn k q w' HK.out HS.out (by omega) (by omega) (HM.out.of hk) (HR.out.of hk) (HC.out.of hk)
            rwa [hlv] at this
          rw [hlv] at hv
          rw [hwr] at hw0 ⊢
          have HLEFT := Lib.hid hleft
          have HNEXT := Lib.hid hnext
          clear hleft hnext hlv hwr
          go_wp2_with (go_at_call 25; (with_reducible refine (HLEFT.out _ (by (repeat (first | exact Kept.refl _ | assumption | refine Kept.alloc ?_ _ | refine Kept.ext ?_ _ | refine Kept.drew ?_ | refine Kept.drewN ?_ _)))).mono ?_); rintro e w1 ⟨rfl, x2, rfl⟩)
          go_roundw
          case rel => exact ⟨q + 1, by omega, by go_num, by rw [HNEXT.out]; congr 1; omega, show Kept _ _ by (repeat (first | exact Kept.refl _ | assumption | refine Kept.alloc ?_ _ | refine Kept.ext ?_ _ | refine Kept.drew ?_ | refine Kept.drewN ?_ _))⟩
          case measure => simp [intOf]; omega
        · obtain rfl : q = m 0 := by omega
          go_wp2
          go_roundw
          case rel => exact ⟨k + 1, by omega, by go_num, by show _ = Value.int .i64 (wrow f l R C k (wmat f l R C (m 0) k) (m 0)); rw [HBK.out], show Kept _ _ by (repeat (first | exact Kept.refl _ | assumption | refine Kept.alloc ?_ _ | refine Kept.ext ?_ _ | refine Kept.drew ?_ | refine Kept.drewN ?_ _))⟩
          case measure => simp [intOf]; omega
    · obtain rfl : k = n := by omega
      have hb0 := wmat_bd HK.out HS.out k (by omega)
      obtain ⟨bk, hbk⟩ : ∃ x, wmat f l R C (m 0) k = x := ⟨_, rfl⟩
      rw [hbk] at hb0 ⊢
      have HBK := Lib.hid hbk
      clear hbk
      go_wp2_with (go_at_call 26; refine (fraction_any _ _ _ (by omega) (by omega)).mono ?_; rintro e w1 ⟨rfl, x3, rfl⟩)
      refine bodyPost_ret (by simp only [results, Try.results22]; go_simp; rfl) rfl ?_
      rw [HBK.out]
      exact ⟨rfl, by (repeat (first | exact Kept.refl _ | assumption | refine Kept.alloc ?_ _ | refine Kept.ext ?_ _ | refine Kept.drew ?_ | refine Kept.drewN ?_ _))⟩
end Go.Proofs.Ytjadpehpempjoaa
namespace Go.Proofs.Ytjadpehpempjoaa
set_option linter.unusedVariables false
set_option linter.unusedSimpArgs false
open Go.RowKit Go.Deep
section
variable (n : Nat) (m : Nat → Nat) (f : Nat → Nat → Int) (rl : Nat) (R : Nat → Nat → Int) (cl : Nat) (C : Nat → Nat → Int)
def wstN : Int := if opnE n m f rl R cl C = 0 then frN (wmat f rl R C (m 0) n) ((D rl (subF f R C)).natAbs : Int) else 0
def wstD : Int := if opnE n m f rl R cl C = 0 then frD (wmat f rl R C (m 0) n) ((D rl (subF f R C)).natAbs : Int) else 0
end
/-- Whether a fraction is a bound. -/
def bndB (p q : Int) : Bool := decide (1 ≤ q ∧ q ≤ 1000) && (decide (0 ≤ p ∧ p ≤ 1000000) && (Nat.gcd p.natAbs q.natAbs == 1))
set_option maxRecDepth 100000 in
theorem cbound_any (p q : Int) (w : World) : Calls Try.prog 16 #[.agg #[.int .i64 p, .int .i64 q]] w fun e w' => e = .returned (.bool (bndB p q)) ∧ Kept w w' := by
  unfold bndB
  by_cases h1 : 1 ≤ q ∧ q ≤ 1000
  · have g1 : decide (1 ≤ q ∧ q ≤ 1000) = true := decide_eq_true h1
    by_cases h2 : 0 ≤ p ∧ p ≤ 1000000
    · have g2 : decide (0 ≤ p ∧ p ≤ 1000000) = true := decide_eq_true h2
      obtain ⟨gg, hg⟩ : ∃ x, Nat.gcd p.natAbs q.natAbs = x := ⟨_, rfl⟩
      rw [g1, g2, hg]
      have HG := Lib.hid hg
      clear hg
      go_enter Try.func16, Try.ntmps16
      go_wp2_with (first | (go_at_call 27; refine (from_any _ _ _ _).mono ?_; rintro e w1 ⟨rfl, rfl⟩) | (go_at_call 32; refine (gcd_any _ _ _ (by omega)).mono ?_; rintro e w1 ⟨rfl, x, rfl⟩; rw [HG.out]))
      go_ret
      refine ⟨ret_bool ?_, by (repeat (first | exact Kept.refl _ | assumption | refine Kept.alloc ?_ _ | refine Kept.ext ?_ _ | refine Kept.drew ?_ | refine Kept.drewN ?_ _))⟩
      rw [Bool.eq_iff_iff]
      simp
      omega
    · have g2 : decide (0 ≤ p ∧ p ≤ 1000000) = false := decide_eq_false h2
      rw [g1, g2]
      clear h2
      go_enter Try.func16, Try.ntmps16
      go_wp2_with (go_at_call 27; refine (from_any _ _ _ _).mono ?_; rintro e w1 ⟨rfl, rfl⟩)
      go_ret
      exact ⟨rfl, by (repeat (first | exact Kept.refl _ | assumption | refine Kept.alloc ?_ _ | refine Kept.ext ?_ _ | refine Kept.drew ?_ | refine Kept.drewN ?_ _))⟩
  · have g1 : decide (1 ≤ q ∧ q ≤ 1000) = false := decide_eq_false h1
    rw [g1]
    clear h1
    go_enter Try.func16, Try.ntmps16
    go_wp2_with (go_at_call 27; refine (from_any _ _ _ _).mono ?_; rintro e w1 ⟨rfl, rfl⟩)
    go_ret
    exact ⟨rfl, by (repeat (first | exact Kept.refl _ | assumption | refine Kept.alloc ?_ _ | refine Kept.ext ?_ _ | refine Kept.drew ?_ | refine Kept.drewN ?_ _))⟩
theorem fr_low {p q : Int} (hq : 1 ≤ q) : (frN p q = p ∧ frD p q = q) ↔ Nat.gcd p.natAbs q.natAbs = 1 := by
  have hg := g_pos (n := p) (d := q) (by omega)
  constructor
  · rintro ⟨-, h2⟩
    unfold frD at h2
    generalize (Nat.gcd p.natAbs q.natAbs) = g at *
    obtain ⟨k, hk⟩ := hg.2.2
    rw [show (q.natAbs : Int) = q by omega, hk, Int.mul_ediv_cancel_left k (by omega)] at h2
    have hk0 : 0 < k := by
      rcases Int.lt_trichotomy k 0 with e | e | e
      · have := Int.mul_neg_of_pos_of_neg hg.1 e; omega
      · rw [e, Int.mul_zero] at hk; omega
      · exact e
    have h3 : ((g : Int) - 1) * k = 0 := by rw [Int.sub_mul, Int.one_mul]; omega
    rcases Int.mul_eq_zero.1 h3 with e | e
    · omega
    · omega
  · intro h
    unfold frN frD
    rw [h, if_neg (by omega), show ((1 : Nat) : Int) = 1 from rfl, Int.ediv_one, Int.ediv_one]
    exact ⟨rfl, by omega⟩
end Go.Proofs.Ytjadpehpempjoaa
