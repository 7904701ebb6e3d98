/- Contract: how few rows keep a bound, with the error, of the reference. Conditions: the list's length is an int. -/
import Derived.Test.YtoejdfpmmgldpaaFe
namespace Go.Proofs.Ytoejdfpmmgldpaa
set_option linter.unusedVariables false
set_option linter.unusedSimpArgs false
open Go.RowKit Go.Deep
theorem cell_onR {w w' : World} {a : Addr} {v : Value} (h : w.cell? a = some v) (hl : a.block < w.heap.size) (hk : Kept w w') : w'.cell? a = some v := by
  obtain ⟨x, rfl⟩ := hk
  unfold World.cell? at *
  rw [ext_block _ _ _ hl]
  exact h
theorem slN_find {n : Nat} {k : Int} {r x : Nat} (h : x < r) (hl : ((bl x n).length : Int) = k) : ∃ i, i < (slN n k r).length ∧ (slN n k r).getD i 0 = x := by
  obtain ⟨i, hi, e⟩ := List.getElem_of_mem (slN_mem.2 ⟨h, hl⟩)
  exact ⟨i, hi, by rw [List.getD_eq_getElem?_getD, List.getElem?_eq_getElem hi, Option.getD_some, e]⟩
set_option maxRecDepth 100000 in
set_option maxHeartbeats 16000000 in
theorem r6Few_any (A : Option Addr) (n cap : Nat) (B : Nat → Option Addr) (m cp : Nat → Nat) (f : Nat → Nat → Int) (p q : Int) (K : Nat) (w : World) (hn : n ≤ 9223372036854775807) (hM : MatAt w A n B m cp f) (hK : fewE n m f p q = 0 → IsFew n m f p q K) :
    Calls Try.prog 38 #[.slice A n cap, .agg #[.int .i64 p, .int .i64 q]] w fun e w' => e = .returned (.tuple #[.int .i64 (fewN n m f p q K : Nat), .int .i64 (fewE n m f p q)]) ∧ Kept w w' := by
  have HM := Lib.hid hM
  by_cases hv : valE n m f = 0
  · cases hbb : bndB p q with
    | false =>
      have e : fewE n m f p q = 1 := by
        unfold fewE
        rw [if_pos hv, hbb]
        rfl
      rw [e, show fewN n m f p q K = 0 from if_neg (by rw [e]; decide)]
      have HV := Lib.hid hv
      have HBB := Lib.hid hbb
      clear hv hbb e hM hK
      go_enter Try.func38, Try.ntmps38
      go_wp2_with (first | (go_at_call 23; refine (r6val_any _ _ _ _ _ _ _ _ hn (HM.out.of (by (repeat (first | exact Kept.refl _ | assumption | refine Kept.alloc ?_ _ | refine Kept.ext ?_ _ | refine Kept.drew ?_ | refine Kept.drewN ?_ _))))).mono ?_; rintro e w1 ⟨rfl, x0, rfl⟩; rw [HV.out]) | (go_at_call 70; refine (r6bound_any _ _ _).mono ?_; rintro e w1 ⟨rfl, x5, rfl⟩; rw [HBB.out]))
      refine bodyPost_ret (by simp only [results, Try.results38]; go_simp; rfl) rfl ?_
      exact ⟨rfl, by (repeat (first | exact Kept.refl _ | assumption | refine Kept.alloc ?_ _ | refine Kept.ext ?_ _ | refine Kept.drew ?_ | refine Kept.drewN ?_ _))⟩
    | true =>
      have e : fewE n m f p q = 0 := by
        unfold fewE
        rw [if_pos hv, hbb]
        rfl
      obtain ⟨hK1, hK2, hK3⟩ := hK e
      rw [e, show fewN n m f p q K = K from if_pos e]
      obtain ⟨mn, hmn⟩ : ∃ x, min n (m 0) = x := ⟨_, rfl⟩
      obtain ⟨⟨n1, n6⟩, ⟨m1, m6⟩, -, -⟩ := valE_0 hv
      have hmn6 : mn ≤ 6 := by omega
      have hmo : ∀ w', Kept w w' → Calls Try.prog 73 #[.slice A n cap] w' fun e w'' => e = .returned (.int .i64 (mn : Int)) ∧ w' = w'' := fun w' hk => by
        have := r6sides_any A n cap B m cp f w' hv (HM.out.of hk)
        rwa [hmn] at this
      rw [hmn] at hK1
      have HMO := Lib.hid hmo
      have HV := Lib.hid hv
      have HBB := Lib.hid hbb
      have HK2 := Lib.hid hK2
      have HK3 := Lib.hid hK3
      obtain ⟨ab, ao, hA, hab, c1⟩ := hM.at (k := 0) (by omega)
      subst hA
      rw [Nat.add_zero] at c1
      have LA : Lower ab w.heap.size := ⟨hab⟩
      clear hv hbb e hK hK2 hK3 hmo hmn hM
      go_enter Try.func38, Try.ntmps38
      go_wp2_with (first | (go_at_call 23; refine (r6val_any _ _ _ _ _ _ _ _ hn (HM.out.of (by (repeat (first | exact Kept.refl _ | assumption | refine Kept.alloc ?_ _ | refine Kept.ext ?_ _ | refine Kept.drew ?_ | refine Kept.drewN ?_ _))))).mono ?_; rintro e w1 ⟨rfl, x0, rfl⟩; rw [HV.out]) | (go_at_call 70; refine (r6bound_any _ _ _).mono ?_; rintro e w1 ⟨rfl, x5, rfl⟩; rw [HBB.out]))
      refine wp_gen (fun W0 hW0 => ?_)
      have k0 : Kept w W0 := by rw [hW0]; (repeat (first | exact Kept.refl _ | assumption | refine Kept.alloc ?_ _ | refine Kept.ext ?_ _ | refine Kept.drew ?_ | refine Kept.drewN ?_ _))
      have hQ0 : W0.heap[w.heap.size]? = some (.cells #[.int .i64 p, .int .i64 q] 32 (0, 0)) := by rw [hW0]; exact fr_kept (alloc_at2 w _ _) (by (repeat (first | exact Kept.refl _ | assumption | refine Kept.alloc ?_ _ | refine Kept.ext ?_ _ | refine Kept.drew ?_ | refine Kept.drewN ?_ _)))
      obtain ⟨q1, q2, q3⟩ := box2_at hQ0
      have LQ : Lower w.heap.size W0.heap.size := ⟨q3⟩
      have LA0 : Lower ab W0.heap.size := ⟨Nat.lt_of_lt_of_le hab (kept_le k0)⟩
      have c0 : W0.cell? ⟨ab, ao, none⟩ = some (.slice (B 0) (m 0) (cp 0)) := cell_onR c1 hab k0
      have HK0 := Lib.hid k0
      clear hW0 k0 hQ0
      go_loopw [7] (fun i wr => ∃ k : Nat, k ≤ K ∧ i = .int .i64 k ∧ Kept W0 wr) (fun i _ => K + 1 - (intOf i).toNat)
      case atStart => exact ⟨0, by omega, rfl, Kept.refl _⟩
      case round =>
        obtain ⟨k, hk, rfl, y, rfl⟩ := hrel
        have g1 : decide ((k : Int) ≤ mn) = true := decide_eq_true (by omega)
        have g2 : decide (k ≤ mn) = true := decide_eq_true (by omega)
        go_wp2_with (go_at_call 73; refine (HMO.out _ (HK0.out.trans (by (repeat (first | exact Kept.refl _ | assumption | refine Kept.alloc ?_ _ | refine Kept.ext ?_ _ | refine Kept.drew ?_ | refine Kept.drewN ?_ _))))).mono ?_; rintro e w1 ⟨rfl, rfl⟩)
        refine wp_region_tell [.q, .q, .q, .s, .q, .q, .q, .q, .q, .s, .q, .q] (TwC 3 9 (ext W0 y) (SetsV w.heap.size n k) (SetsV w.heap.size (m 0) k)) (by kernel_rfl) (by kernel_rfl) (fun b => by kernel_rfl) ?_ ?_ ?_ ?_
        · exact fun b => ⟨(Kept.refl _).drew, (fun h => by cases h), (fun h => by cases h)⟩
        · intro i L b w' w'' hs hI hk
          exact hI.other hk SetsV.on SetsV.on (by rintro rfl; cases hs) (by rintro rfl; cases hs)
        · exact fun _ _ _ h => h.kept
        apply Exists.intro
        refine ⟨?_, ?_, ?_, ?_⟩
        · rintro b W ⟨x, rfl⟩
          simp only [swapL, Nat.reduceAdd]
          repeat (go_big_quiet_step (fail))
          refine wpQuiet_nil ?_
          rfl
        · have hbase : ∀ w', Kept (ext W0 y) w' → w.heap.size ≤ w'.heap.size := fun w' hk => Nat.le_trans (kept_le HK0.out) (Nat.le_trans (kept_le ((Kept.refl _).ext y)) (kept_le hk))
          simp only [EachS, and_true]
          refine ⟨?_, ?_⟩
          · intro S b w' _ hL hI
            go_simp
            exact (r6sets2_any n w.heap.size k w' n6 (hbase _ hI.kept)).mono fun e w'' ⟨v, h1, h2, h3⟩ => ⟨v, h1, rfl, hI.opA (by decide) h2 SetsV.on h3⟩
          · intro S b w' _ hL hI
            go_simp
            exact (r6sets2_any (m 0) w.heap.size k w' m6 (hbase _ hI.kept)).mono fun e w'' ⟨v, h1, h2, h3⟩ => ⟨v, h1, rfl, hI.opB (by decide) h2 SetsV.on h3⟩
        · intro b1 b2 d hd
          simp [callSlots, dullOp] at hd
          rcases hd with rfl | rfl <;> rfl
        · intro L b w1 hL hI
          obtain ⟨A1, cp1, hb1⟩ := (hI.a (hL 3 (by decide))).slice
          obtain ⟨A2, cp2, hb2⟩ := (hI.b (hL 9 (by decide))).slice
          have hs1 := hI.a (hL 3 (by decide))
          have hs2 := hI.b (hL 9 (by decide))
          rw [hb1] at hs1
          rw [hb2] at hs2
          have hkw : Kept W0 w1 := ((Kept.refl _).ext y).trans hI.kept
          clear hI hL
          have hI1 : ∀ i, i < (slN n k (2 ^ n)).length → ∀ q, q < (k : Int).toNat → I64 (stF (slN n k (2 ^ n)) n i q 0) := fun i hi q hq => by
            obtain ⟨e1, e2⟩ := slN_at hi
            have := blN_lt (r := (slN n k (2 ^ n)).getD i 0) (n := n) (k := q) (by omega)
            unfold stF
            rw [blF_N]
            unfold I64
            omega
          have hI2 : ∀ i, i < (slN (m 0) k (2 ^ m 0)).length → ∀ q, q < (k : Int).toNat → I64 (stF (slN (m 0) k (2 ^ m 0)) (m 0) i q 0) := fun i hi q hq => by
            obtain ⟨e1, e2⟩ := slN_at hi
            have := blN_lt (r := (slN (m 0) k (2 ^ m 0)).getD i 0) (n := m 0) (k := q) (by omega)
            unfold stF
            rw [blF_N]
            unfold I64
            omega
          obtain ⟨B1, d1, M1⟩ := OutL.mat hs1 hI1
          obtain ⟨B2, d2, M2⟩ := OutL.mat hs2 hI2
          have HM1 := Lib.hid M1
          have HM2 := Lib.hid M2
          have HKW := Lib.hid hkw
          have hl1 := slN_len (n := n) (k := (k : Int)) (r := 2 ^ n)
          have hl2 := slN_len (n := m 0) (k := (k : Int)) (r := 2 ^ m 0)
          have hp1 : 2 ^ n ≤ 64 := Nat.pow_le_pow_right (by omega) n6
          have hp2 : 2 ^ m 0 ≤ 64 := Nat.pow_le_pow_right (by omega) m6
          have hlen1 : (slN n k (2 ^ n)).length ≤ 64 := by omega
          have hlen2 : (slN (m 0) k (2 ^ m 0)).length ≤ 64 := by omega
          have hchk : ∀ (i j : Nat), i < (slN n k (2 ^ n)).length → j < (slN (m 0) k (2 ^ m 0)).length → ∀ W', Kept w1 W' → Calls Try.prog 28 #[.slice (some ⟨ab, ao, none⟩) n cap, .slice (B1 i) (k : Int).toNat (d1 i), .slice (B2 j) (k : Int).toNat (d2 j), .agg #[.int .i64 p, .int .i64 q]] W' fun e w'' => e = .returned (.int .i64 (okE n m f p q ((slN n k (2 ^ n)).getD i 0) ((slN (m 0) k (2 ^ m 0)).getD j 0))) ∧ Kept W' w'' := by
            intro i j hi hj W' hW
            obtain ⟨e1, e2⟩ := slN_at hi
            obtain ⟨e3, e4⟩ := slN_at hj
            have el : (bl ((slN n k (2 ^ n)).getD i 0) n).length = (k : Int).toNat := by omega
            have el2 : (bl ((slN (m 0) k (2 ^ m 0)).getD j 0) (m 0)).length = (k : Int).toNat := by omega
            unfold okE
            rw [el, el2]
            exact r6Chk_any _ n cap B m cp f (B1 i) (k : Int).toNat (d1 i) (blF ((slN n k (2 ^ n)).getD i 0) n) (B2 j) (k : Int).toNat (d2 j) (blF ((slN (m 0) k (2 ^ m 0)).getD j 0) (m 0)) p q W' hn (HM1.out.cap i hi) (HM2.out.cap j hj) (HM.out.of (HK0.out.trans (HKW.out.trans hW))) ((HM1.out.of hW).el i hi) ((HM2.out.of hW).el j hj)
          have hlast : k = K → ¬ ∀ i, i < (slN n k (2 ^ n)).length → ∀ j, j < (slN (m 0) k (2 ^ m 0)).length → okE n m f p q ((slN n k (2 ^ n)).getD i 0) ((slN (m 0) k (2 ^ m 0)).getD j 0) ≠ 0 := by
            rintro rfl hno
            obtain ⟨r, c, e1, e2, e3, e4, e5⟩ := HK2.out
            obtain ⟨i, hi, ei⟩ := slN_find (n := n) (k := (k : Int)) e1 (by omega)
            obtain ⟨j, hj, ej⟩ := slN_find (n := m 0) (k := (k : Int)) e2 (by omega)
            have := hno i hi j hj
            rw [ei, ej] at this
            exact this e5
          have hfirst : ∀ i j, i < (slN n k (2 ^ n)).length → j < (slN (m 0) k (2 ^ m 0)).length → okE n m f p q ((slN n k (2 ^ n)).getD i 0) ((slN (m 0) k (2 ^ m 0)).getD j 0) = 0 → k = K := by
            intro i j hi hj h0
            obtain ⟨e1, e2⟩ := slN_at hi
            obtain ⟨e3, e4⟩ := slN_at hj
            rcases Nat.lt_or_ge k K with h | h
            · exact absurd ⟨_, _, e1, e3, by omega, by omega, h0⟩ (HK3.out k h)
            · omega
          have HCHK := Lib.hid hchk
          have HLA := Lib.hid hlast
          have HFI := Lib.hid hfirst
          obtain ⟨l1, hL1⟩ : ∃ l, slN n k (2 ^ n) = l := ⟨_, rfl⟩
          obtain ⟨l2, hL2⟩ : ∃ l, slN (m 0) k (2 ^ m 0) = l := ⟨_, rfl⟩
          rw [hL1] at HCHK HLA HFI HM1 hlen1 hb1
          rw [hL2] at HCHK HLA HFI HM2 hlen2 hb2
          obtain ⟨ow, how⟩ : ∃ z, w1 = z := ⟨_, rfl⟩
          have LQ1 : Lower w.heap.size w1.heap.size := ⟨Nat.lt_of_lt_of_le q3 (kept_le hkw)⟩
          have q4 : w1.cell? ⟨w.heap.size, 0, none⟩ = some (.int .i64 p) := cell_onR q1 q3 hkw
          have q5 : w1.cell? ⟨w.heap.size, 1, none⟩ = some (.int .i64 q) := cell_onR q2 q3 hkw
          clear hI1 hI2 M1 M2 hkw hs1 hs2 hl1 hl2 hp1 hp2 hchk hlast hfirst hL1 hL2 how ow
          go_simp
          clear hb1 hb2
          go_wp2_with fail
          go_loopw [10] (fun i wr => ∃ t : Nat, t ≤ l1.length ∧ i = .int .i64 t ∧ Kept w1 wr ∧ ∀ a, a < t → ∀ b, b < l2.length → okE n m f p q (l1.getD a 0) (l2.getD b 0) ≠ 0) (fun i _ => l1.length - (intOf i).toNat)
          case atStart => exact ⟨0, by omega, rfl, Kept.refl _, fun a ha => absurd ha (by omega)⟩
          case round =>
            obtain ⟨i, hi, rfl, ⟨y1, rfl⟩, hno⟩ := hrel
            have HNO := Lib.hid hno
            clear hno
            by_cases hli : i < l1.length
            · obtain ⟨b1, o1, rfl, hb1, c2⟩ := HM1.out.at hli
              have L1 : Lower b1 w1.heap.size := ⟨hb1⟩
              go_wp2_with fail
              go_loopw [11] (fun j w2 => ∃ t : Nat, t ≤ l2.length ∧ j = .int .i64 t ∧ Kept w1 w2 ∧ ∀ b, b < t → okE n m f p q (l1.getD i 0) (l2.getD b 0) ≠ 0) (fun j _ => l2.length - (intOf j).toNat)
              case atStart => exact ⟨0, by omega, rfl, by (repeat (first | exact Kept.refl _ | assumption | refine Kept.alloc ?_ _ | refine Kept.ext ?_ _ | refine Kept.drew ?_ | refine Kept.drewN ?_ _)), fun b hb => absurd hb (by omega)⟩
              case round =>
                obtain ⟨j, hj, rfl, ⟨y2, rfl⟩, hno2⟩ := hrel
                have HNO2 := Lib.hid hno2
                clear hno2
                by_cases hlj : j < l2.length
                · obtain ⟨b2, o2, rfl, hb2, c3⟩ := HM2.out.at hlj
                  have L2 : Lower b2 w1.heap.size := ⟨hb2⟩
                  have hc := HCHK.out i j hli hlj
                  obtain ⟨oe, hoe⟩ : ∃ x, okE n m f p q (l1.getD i 0) (l2.getD j 0) = x := ⟨_, rfl⟩
                  rw [hoe] at hc
                  have HC := Lib.hid hc
                  have HOE := Lib.hid hoe
                  clear hc hoe
                  by_cases h0 : oe = 0
                  · subst h0
                    obtain rfl := HFI.out i j hli hlj HOE.out
                    go_wp2_with fail
                    ((first | (with_reducible refine wp_region_kept2 (by kernel_rfl) (by kernel_rfl) ?_) | refine wp_region_kept (by kernel_rfl) (by kernel_rfl) ?_); (repeat (go_big_quiet_step (first | (go_at_call 28; exact Calls.kept_of (HC.out _ (by (repeat (first | exact Kept.refl _ | assumption | refine Kept.alloc ?_ _ | refine Kept.ext ?_ _ | refine Kept.drew ?_ | refine Kept.drewN ?_ _)))))))); refine wpQuiet_nil ?_; intro x4)
                    go_wp2_with fail
                    refine bodyPost_ret (by simp only [results, Try.results38]; go_simp; rfl) rfl ?_
                    exact ⟨rfl, HK0.out.trans (HKW.out.trans (by (repeat (first | exact Kept.refl _ | assumption | refine Kept.alloc ?_ _ | refine Kept.ext ?_ _ | refine Kept.drew ?_ | refine Kept.drewN ?_ _))))⟩
                  · have g3 : (oe == 0) = false := by simpa using h0
                    have g4 : decide (oe = 0) = false := by simpa using h0
                    have H0 := Lib.hid h0
                    clear h0
                    go_wp2_with fail
                    ((first | (with_reducible refine wp_region_kept2 (by kernel_rfl) (by kernel_rfl) ?_) | refine wp_region_kept (by kernel_rfl) (by kernel_rfl) ?_); (repeat (go_big_quiet_step (first | (go_at_call 28; exact Calls.kept_of (HC.out _ (by (repeat (first | exact Kept.refl _ | assumption | refine Kept.alloc ?_ _ | refine Kept.ext ?_ _ | refine Kept.drew ?_ | refine Kept.drewN ?_ _)))))))); refine wpQuiet_nil ?_; intro x4)
                    go_wp2_with fail
                    go_roundw
                    case rel =>
                      refine ⟨j + 1, by omega, by go_num, by (repeat (first | exact Kept.refl _ | assumption | refine Kept.alloc ?_ _ | refine Kept.ext ?_ _ | refine Kept.drew ?_ | refine Kept.drewN ?_ _)), fun b hb => ?_⟩
                      by_cases e : b = j
                      · subst e; rw [HOE.out]; exact H0.out
                      · exact HNO2.out b (by omega)
                    case measure => simp [intOf]; omega
                · obtain rfl : j = l2.length := by omega
                  go_wp2_with fail
                  go_roundw
                  case rel =>
                    refine ⟨i + 1, by omega, by go_num, by (repeat (first | exact Kept.refl _ | assumption | refine Kept.alloc ?_ _ | refine Kept.ext ?_ _ | refine Kept.drew ?_ | refine Kept.drewN ?_ _)), fun a ha b hb => ?_⟩
                    by_cases e : a = i
                    · subst e; exact HNO2.out b hb
                    · exact HNO.out a (by omega) b hb
                  case measure => simp [intOf]; omega
            · obtain rfl : i = l1.length := by omega
              have hne : k ≠ K := fun e => HLA.out e HNO.out
              go_wp2_with fail
              go_roundw
              case rel => exact ⟨k + 1, by omega, by go_num, HKW.out.trans (by (repeat (first | exact Kept.refl _ | assumption | refine Kept.alloc ?_ _ | refine Kept.ext ?_ _ | refine Kept.drew ?_ | refine Kept.drewN ?_ _)))⟩
              case measure => simp [intOf]; omega
  · have e : fewE n m f p q = valE n m f := if_neg hv
    rw [show fewN n m f p q K = 0 from if_neg (by rw [e]; exact hv), e]
    obtain ⟨v, hve⟩ : ∃ v, valE n m f = v := ⟨_, rfl⟩
    rw [hve] at hv ⊢
    have HV := Lib.hid hve
    have hv2 : (v == 0) = false := by simpa using hv
    have hv3 : decide (v = 0) = false := by simpa using hv
    clear e hve hM hK
    go_enter Try.func38, Try.ntmps38
    go_wp2_with (go_at_call 23; refine (r6val_any _ _ _ _ _ _ _ _ hn (HM.out.of (by (repeat (first | exact Kept.refl _ | assumption | refine Kept.alloc ?_ _ | refine Kept.ext ?_ _ | refine Kept.drew ?_ | refine Kept.drewN ?_ _))))).mono ?_; rintro e w1 ⟨rfl, x0, rfl⟩; rw [HV.out])
    refine bodyPost_ret (by simp only [results, Try.results38]; go_simp; rfl) rfl ?_
    exact ⟨rfl, by (repeat (first | exact Kept.refl _ | assumption | refine Kept.alloc ?_ _ | refine Kept.ext ?_ _ | refine Kept.drew ?_ | refine Kept.drewN ?_ _))⟩
end Go.Proofs.Ytoejdfpmmgldpaa
