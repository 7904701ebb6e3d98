/- Contracts: the number of sides of a matrix, of the program and of the reference; the greatest minor, of the reference. Conditions: the matrix is valid. -/
import Derived.Test.YtoejdfpmmgldpaaVol
namespace Go.Proofs.Ytoejdfpmmgldpaa
set_option linter.unusedVariables false
set_option linter.unusedSimpArgs false
open Go.RowKit Go.Deep
set_option maxRecDepth 100000 in
theorem r6sides_any (A : Option Addr) (n cap : Nat) (B : Nat → Option Addr) (m cp : Nat → Nat) (f : Nat → Nat → Int) (w : World) (hv : valE n m f = 0) (hM : MatAt w A n B m cp f) :
    Calls Try.prog 73 #[.slice A n cap] w fun e w' => e = .returned (.int .i64 (min n (m 0) : Nat)) ∧ w = w' := by
  obtain ⟨⟨n1, n6⟩, ⟨m1, m6⟩, -, -⟩ := valE_0 hv
  obtain ⟨ab, ao, rfl, hab, c1⟩ := hM.at (k := 0) (by omega)
  rw [Nat.add_zero] at c1
  clear hM hv
  generalize m 0 = M at *
  by_cases h : M < n
  · have h1 : decide (M < n) = true := decide_eq_true h
    have e : min n M = M := by omega
    rw [e]
    clear e h
    go_enter Try.func73, Try.ntmps73
    go_wp2_with fail
    go_ret
    exact ⟨rfl, rfl⟩
  · have h1 : decide (M < n) = false := decide_eq_false h
    have e : min n M = n := by omega
    rw [e]
    clear e h
    go_enter Try.func73, Try.ntmps73
    go_wp2_with fail
    go_ret
    exact ⟨rfl, rfl⟩
set_option maxRecDepth 100000 in
theorem cmost_any (A : Option Addr) (n cap : Nat) (B : Nat → Option Addr) (m cp : Nat → Nat) (f : Nat → Nat → Int) (w : World) (hv : valE n m f = 0) (hM : MatAt w A n B m cp f) :
    Calls Try.prog 75 #[.slice A n cap] w fun e w' => e = .returned (.int .i64 (min n (m 0) : Nat)) ∧ w = w' := by
  obtain ⟨⟨n1, n6⟩, ⟨m1, m6⟩, -, -⟩ := valE_0 hv
  obtain ⟨ab, ao, rfl, hab, c1⟩ := hM.at (k := 0) (by omega)
  rw [Nat.add_zero] at c1
  clear hM hv
  generalize m 0 = M at *
  go_enter Try.func75, Try.ntmps75
  go_wp2_with fail
  go_ret
  exact ⟨ret_int (by omega), rfl⟩
/-- Two calls that make something, at any time. -/
structure TwC (p q : Nat) (W : World) (P1 P2 : Value → World → Prop) (L : Nat → Bool) (b : Nat → Value) (w' : World) : Prop where
  kept : Kept W w'
  a : L p = true → P1 (b p) w'
  b : L q = true → P2 (b q) w'
theorem TwC.other {p q : Nat} {W : World} {P1 P2 : Value → World → Prop} {L : Nat → Bool} {b : Nat → Value} {w' w'' : World} {i : Nat} (h : TwC p q W P1 P2 L b w') (hk : Kept w' w'') (h1 : ∀ v w w', P1 v w → Kept w w' → P1 v w') (h2 : ∀ v w w', P2 v w → Kept w w' → P2 v w') (hp : i ≠ p) (hq : i ≠ q) : TwC p q W P1 P2 (doneAt L i) b w'' := by
  have d1 : doneAt L i p = L p := if_neg (Ne.symm hp)
  have d2 : doneAt L i q = L q := if_neg (Ne.symm hq)
  exact ⟨h.kept.trans hk, by rw [d1]; exact fun e => h1 _ _ _ (h.a e) hk, by rw [d2]; exact fun e => h2 _ _ _ (h.b e) hk⟩
theorem TwC.opA {p q : Nat} {W : World} {P1 P2 : Value → World → Prop} {L : Nat → Bool} {b : Nat → Value} {w' w'' : World} {v : Value} (h : TwC p q W P1 P2 L b w') (hpq : p ≠ q) (hk : Kept w' w'') (h2 : ∀ v w w', P2 v w → Kept w w' → P2 v w') (hv : P1 v w'') : TwC p q W P1 P2 (doneAt L p) (tellAt b p v) w'' := by
  have d2 : doneAt L p q = L q := if_neg (Ne.symm hpq)
  have e1 : tellAt b p v p = v := if_pos rfl
  have e2 : tellAt b p v q = b q := if_neg (Ne.symm hpq)
  exact ⟨h.kept.trans hk, fun _ => by rw [e1]; exact hv, by rw [d2, e2]; exact fun e => h2 _ _ _ (h.b e) hk⟩
theorem TwC.opB {p q : Nat} {W : World} {P1 P2 : Value → World → Prop} {L : Nat → Bool} {b : Nat → Value} {w' w'' : World} {v : Value} (h : TwC p q W P1 P2 L b w') (hpq : p ≠ q) (hk : Kept w' w'') (h1 : ∀ v w w', P1 v w → Kept w w' → P1 v w') (hv : P2 v w'') : TwC p q W P1 P2 (doneAt L q) (tellAt b q v) w'' := by
  have d2 : doneAt L q p = L p := if_neg hpq
  have e1 : tellAt b q v q = v := if_pos rfl
  have e2 : tellAt b q v p = b p := if_neg hpq
  exact ⟨h.kept.trans hk, by rw [d2, e2]; exact fun e => h1 _ _ _ (h.a e) hk, fun _ => by rw [e1]; exact hv⟩
/-- The sets that a call of the reference's Sets returns. -/
def SetsV (base n : Nat) (k : Int) (v : Value) (w : World) : Prop := OutL base 23 3 1 (slN n k (2 ^ n)).length (fun _ => k.toNat) (stF (slN n k (2 ^ n)) n) v w
theorem SetsV.on {base n : Nat} {k : Int} (v : Value) (w w' : World) (h : SetsV base n k v w) (hk : Kept w w') : SetsV base n k v w' := OutL.on h hk
theorem r6sets2_any (n base : Nat) (k : Int) (w : World) (hn : n ≤ 6) (hb : base ≤ w.heap.size) :
    Calls Try.prog 76 #[.int .i64 n, .int .i64 k] w fun e w' => ∃ v, e = .returned v ∧ Kept w w' ∧ SetsV base n k v w' :=
  (r6sets_any n k w hn).mono fun e w' ⟨v, h1, h2, h3⟩ => ⟨v, h1, h2, (h3.low hb).congr (fun i hi => by
    have := (slN_at hi).2
    unfold stL
    omega) (fun _ _ _ _ _ _ => rfl)⟩
set_option maxRecDepth 100000 in
set_option maxHeartbeats 8000000 in
theorem r6vol_any (A : Option Addr) (n cap : Nat) (B : Nat → Option Addr) (m cp : Nat → Nat) (f : Nat → Nat → Int) (k : Int) (w : World) (hv : valE n m f = 0) (hM : MatAt w A n B m cp f) :
    Calls Try.prog 74 #[.slice A n cap, .int .i64 k] w fun e w' => e = .returned (.int .i64 (volS f n (m 0) k)) ∧ Kept w w' := by
  have hvs : lmat f n (m 0) (slN n k (2 ^ n)) (slN (m 0) k (2 ^ m 0)) 0 (slN n k (2 ^ n)).length = volS f n (m 0) k := lmat_eq (2 ^ n)
  obtain ⟨⟨n1, n6⟩, ⟨m1, m6⟩, -, -⟩ := valE_0 hv
  obtain ⟨ab, ao, hA, hab, c1⟩ := hM.at (k := 0) (by omega)
  subst hA
  rw [Nat.add_zero] at c1
  have LA : Lower ab w.heap.size := ⟨hab⟩
  have HM := Lib.hid hM
  have HV := Lib.hid hv
  have HVS := Lib.hid hvs
  clear hM hv hvs
  go_enter Try.func74, Try.ntmps74
  go_wp2_with fail
  refine wp_region_tell [.q, .q, .q, .s, .q, .q, .q, .q, .q, .s, .q, .q] (TwC 3 9 w (SetsV w.heap.size n k) (SetsV w.heap.size (m 0) k)) (by kernel_rfl) (by kernel_rfl) (fun b => by kernel_rfl) ?_ ?_ ?_ ?_
  · exact fun b => ⟨(Kept.refl _).drew, (fun h => by cases h), (fun h => by cases h)⟩
  · intro i L b w' w'' hs hI hk
    exact hI.other hk SetsV.on SetsV.on (by rintro rfl; cases hs) (by rintro rfl; cases hs)
  · exact fun _ _ _ h => h.kept
  apply Exists.intro
  refine ⟨?_, ?_, ?_, ?_⟩
  · rintro b W ⟨x, rfl⟩
    simp only [swapL, Nat.reduceAdd]
    repeat (go_big_quiet_step (fail))
    refine wpQuiet_nil ?_
    rfl
  · simp only [EachS, and_true]
    refine ⟨?_, ?_⟩
    · intro S b w' _ hL hI
      go_simp
      exact (r6sets2_any n w.heap.size k w' n6 (kept_le hI.kept)).mono fun e w'' ⟨v, h1, h2, h3⟩ => ⟨v, h1, rfl, hI.opA (by decide) h2 SetsV.on h3⟩
    · intro S b w' _ hL hI
      go_simp
      exact (r6sets2_any (m 0) w.heap.size k w' m6 (kept_le hI.kept)).mono fun e w'' ⟨v, h1, h2, h3⟩ => ⟨v, h1, rfl, hI.opB (by decide) h2 SetsV.on h3⟩
  · intro b1 b2 d hd
    simp [callSlots, dullOp] at hd
    rcases hd with rfl | rfl <;> rfl
  · intro L b w1 hL hI
    obtain ⟨A1, cp1, hb1⟩ := (hI.a (hL 3 (by decide))).slice
    obtain ⟨A2, cp2, hb2⟩ := (hI.b (hL 9 (by decide))).slice
    have hs1 := hI.a (hL 3 (by decide))
    have hs2 := hI.b (hL 9 (by decide))
    rw [hb1] at hs1
    rw [hb2] at hs2
    have hkw := hI.kept
    clear hI hL
    go_simp
    go_wp2_with fail
    have hI1 : ∀ i, i < (slN n k (2 ^ n)).length → ∀ q, q < k.toNat → I64 (stF (slN n k (2 ^ n)) n i q 0) := fun i hi q hq => by
      obtain ⟨e1, e2⟩ := slN_at hi
      have := blN_lt (r := (slN n k (2 ^ n)).getD i 0) (n := n) (k := q) (by omega)
      unfold stF
      rw [blF_N]
      unfold I64
      omega
    have hI2 : ∀ i, i < (slN (m 0) k (2 ^ m 0)).length → ∀ q, q < k.toNat → I64 (stF (slN (m 0) k (2 ^ m 0)) (m 0) i q 0) := fun i hi q hq => by
      obtain ⟨e1, e2⟩ := slN_at hi
      have := blN_lt (r := (slN (m 0) k (2 ^ m 0)).getD i 0) (n := m 0) (k := q) (by omega)
      unfold stF
      rw [blF_N]
      unfold I64
      omega
    obtain ⟨B1, d1, M1⟩ := OutL.mat hs1 hI1
    obtain ⟨B2, d2, M2⟩ := OutL.mat hs2 hI2
    have HM1 := Lib.hid M1
    have HM2 := Lib.hid M2
    have HM0 := Lib.hid (HM.out.of hkw)
    have HKW := Lib.hid hkw
    have hl1 := slN_len (n := n) (k := k) (r := 2 ^ n)
    have hl2 := slN_len (n := m 0) (k := k) (r := 2 ^ m 0)
    have hp1 : 2 ^ n ≤ 64 := Nat.pow_le_pow_right (by omega) n6
    have hp2 : 2 ^ m 0 ≤ 64 := Nat.pow_le_pow_right (by omega) m6
    have hlen1 : (slN n k (2 ^ n)).length ≤ 64 := by omega
    have hlen2 : (slN (m 0) k (2 ^ m 0)).length ≤ 64 := by omega
    have hdet : ∀ (i j : Nat) (W' : World), i < (slN n k (2 ^ n)).length → j < (slN (m 0) k (2 ^ m 0)).length → Kept w1 W' → ∃ d : Int, (-720000000000000 ≤ d ∧ d ≤ 720000000000000) ∧ (d.natAbs : Int) = dV f n (m 0) ((slN n k (2 ^ n)).getD i 0) ((slN (m 0) k (2 ^ m 0)).getD j 0) ∧
        ∀ W', Kept w1 W' → Calls Try.prog 64 #[.slice (some ⟨ab, ao, none⟩) n cap, .slice (B1 i) k.toNat (d1 i), .slice (B2 j) k.toNat (d2 j)] W' fun e w'' => e = .returned (.int .i64 d) ∧ Kept W' w'' := by
      intro i j W' hi hj _
      obtain ⟨e1, e2⟩ := slN_at hi
      obtain ⟨e3, e4⟩ := slN_at hj
      obtain ⟨-, hk⟩ := Mok.of (bl_cho (f := f) HV.out (show (bl ((slN n k (2 ^ n)).getD i 0) n).length = (bl ((slN (m 0) k (2 ^ m 0)).getD j 0) (m 0)).length by omega))
      refine ⟨_, hk.bd, rfl, fun W' hW => ?_⟩
      have el : (bl ((slN n k (2 ^ n)).getD i 0) n).length = k.toNat := by omega
      have hk2 := hk
      rw [el] at hk2 ⊢
      exact r6det_any k.toNat _ n cap B m cp f (B1 i) (d1 i) (blF ((slN n k (2 ^ n)).getD i 0) n) (B2 j) (d2 j) (blF ((slN (m 0) k (2 ^ m 0)).getD j 0) (m 0)) W' n6 hk2.hl (HM0.out.of hW) ((HM1.out.of hW).el i hi) ((HM2.out.of hW).el j hj) (HM1.out.cap i hi) (HM2.out.cap j hj) hk2.hr hk2.hm hk2.hc m6 hk2.sml
    have HDET := Lib.hid hdet
    obtain ⟨l1, hL1⟩ : ∃ l, slN n k (2 ^ n) = l := ⟨_, rfl⟩
    obtain ⟨l2, hL2⟩ : ∃ l, slN (m 0) k (2 ^ m 0) = l := ⟨_, rfl⟩
    rw [hL1] at HVS HDET HM1 hlen1 ⊢
    rw [hL2] at HVS HDET HM2 hlen2 ⊢
    clear hI1 hI2 M1 M2 hkw hs1 hs2 hb1 hb2 hl1 hl2 hp1 hp2 hdet hL1 hL2
    go_loopw [5, 8] (fun o i wr => ∃ q : Nat, q ≤ l1.length ∧ i = .int .i64 q ∧ o = .int .i64 (lmat f n (m 0) l1 l2 0 q) ∧ Kept w1 wr) (fun _ i _ => l1.length - (intOf i).toNat)
    case atStart => exact ⟨0, by omega, rfl, rfl, Kept.refl _⟩
    case round =>
      obtain ⟨i, hi, rfl, rfl, y, rfl⟩ := hrel
      by_cases hli : i < l1.length
      · obtain ⟨b1, o1, rfl, hb1, c2⟩ := HM1.out.at hli
        have L1 : Lower b1 w1.heap.size := ⟨hb1⟩
        obtain ⟨b0, hb0⟩ : ∃ x, lmat f n (m 0) l1 l2 0 i = x := ⟨_, rfl⟩
        rw [hb0]
        have HB0 := Lib.hid hb0
        clear hb0
        go_wp2_with fail
        go_loopw [5, 9] (fun o j w2 => ∃ q : Nat, q ≤ l2.length ∧ j = .int .i64 q ∧ o = .int .i64 (lcol f n (m 0) (l1.getD i 0) l2 b0 q) ∧ Kept w1 w2) (fun _ j _ => l2.length - (intOf j).toNat)
        case atStart => exact ⟨0, by omega, rfl, rfl, by (repeat (first | exact Kept.refl _ | assumption | refine Kept.alloc ?_ _ | refine Kept.ext ?_ _ | refine Kept.drew ?_ | refine Kept.drewN ?_ _))⟩
        case round =>
          obtain ⟨j, hj, rfl, rfl, y2, rfl⟩ := hrel
          by_cases hlj : j < l2.length
          · obtain ⟨b2, o2, rfl, hb2, c3⟩ := HM2.out.at hlj
            have L2 : Lower b2 w1.heap.size := ⟨hb2⟩
            obtain ⟨d, hdb, hdv, hdc⟩ := HDET.out i j w1 hli hlj (Kept.refl _)
            have HDC := Lib.hid hdc
            obtain ⟨b9, hb9⟩ : ∃ x, lcol f n (m 0) (l1.getD i 0) l2 b0 j = x := ⟨_, rfl⟩
            have hnx : lcol f n (m 0) (l1.getD i 0) l2 b0 (j + 1) = max b9 (d.natAbs : Int) := by rw [← hb9, hdv]; rfl
            rw [hb9]
            have HNX := Lib.hid hnx
            clear hb9 hnx hdv hdc
            go_wp2_with fail
            ((first | (with_reducible refine wp_region_kept2 (by kernel_rfl) (by kernel_rfl) ?_) | refine wp_region_kept (by kernel_rfl) (by kernel_rfl) ?_); (repeat (go_big_quiet_step (first | (go_at_call 64; exact Calls.kept_of (HDC.out _ (by (repeat (first | exact Kept.refl _ | assumption | refine Kept.alloc ?_ _ | refine Kept.ext ?_ _ | refine Kept.drew ?_ | refine Kept.drewN ?_ _))))) | (go_at_call 84; exact Calls.kept_same (r6size_any _ _ (by omega)))))); refine wpQuiet_nil ?_; intro x4)
            by_cases hgt : b9 < (d.natAbs : Int)
            · have g1 : decide (b9 < (d.natAbs : Int)) = true := decide_eq_true hgt
              go_wp2_with fail
              go_roundw
              case rel => exact ⟨j + 1, by omega, by go_num, by rw [HNX.out]; exact val_eq (by omega), by (repeat (first | exact Kept.refl _ | assumption | refine Kept.alloc ?_ _ | refine Kept.ext ?_ _ | refine Kept.drew ?_ | refine Kept.drewN ?_ _))⟩
              case measure => simp [intOf]; omega
            · have g1 : decide (b9 < (d.natAbs : Int)) = false := decide_eq_false hgt
              go_wp2_with fail
              go_roundw
              case rel => exact ⟨j + 1, by omega, by go_num, by rw [HNX.out]; exact val_eq (by omega), by (repeat (first | exact Kept.refl _ | assumption | refine Kept.alloc ?_ _ | refine Kept.ext ?_ _ | refine Kept.drew ?_ | refine Kept.drewN ?_ _))⟩
              case measure => simp [intOf]; omega
          · obtain rfl : j = l2.length := by omega
            go_wp2_with fail
            go_roundw
            case rel => exact ⟨i + 1, by omega, by go_num, by rw [← HB0.out]; rfl, by (repeat (first | exact Kept.refl _ | assumption | refine Kept.alloc ?_ _ | refine Kept.ext ?_ _ | refine Kept.drew ?_ | refine Kept.drewN ?_ _))⟩
            case measure => simp [intOf]; omega
      · obtain rfl : i = l1.length := by omega
        rw [HVS.out]
        go_wp2_with fail
        go_ret
        exact ⟨rfl, HKW.out.trans (by (repeat (first | exact Kept.refl _ | assumption | refine Kept.alloc ?_ _ | refine Kept.ext ?_ _ | refine Kept.drew ?_ | refine Kept.drewN ?_ _)))⟩
end Go.Proofs.Ytoejdfpmmgldpaa
