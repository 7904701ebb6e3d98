/- Contracts: a matrix in new memory, the transposed matrix, equal matrices, of the reference. Conditions: the lists are not long. -/
import Derived.Test.YtoejdfpmmgldpaaVs
import Derived.Test.YtoejdfpmmgldpaaTq
import Derived.Test.YtoejdfpmmgldpaaPe
namespace Go.Proofs.Ytoejdfpmmgldpaa
set_option linter.unusedVariables false
set_option linter.unusedSimpArgs false
open Go.RowKit Go.Deep
set_option maxRecDepth 100000 in
set_option maxHeartbeats 8000000 in
theorem r6copy_any (A : Option Addr) (n cap : Nat) (B : Nat → Option Addr) (m cp : Nat → Nat) (f : Nat → Nat → Int) (w : World) (hn : n ≤ 20) (hm : ∀ k, k < n → m k ≤ 20) (hM : MatAt w A n B m cp f) :
    Calls Try.prog 32 #[.slice A n cap] w fun e w' => ∃ v, e = .returned v ∧ Kept w w' ∧ OutL w.heap.size 23 3 1 n m (fun i q _ => f i q) v w' := by
  obtain ⟨ti, hti, hte⟩ := Option.map_eq_some_iff.1 info_I
  simp only [Prod.mk.injEq] at hte
  have HT := Lib.hid hti
  have HTE := Lib.hid hte
  clear hti hte
  obtain ⟨tj, htj, htf⟩ := Option.map_eq_some_iff.1 info_S
  simp only [Prod.mk.injEq] at htf
  have HU := Lib.hid htj
  have HUE := Lib.hid htf
  clear htj htf
  have HM := Lib.hid hM
  have HMM := Lib.hid hm
  clear hM hm
  go_enter Try.func32, Try.ntmps32
  go_wp2_with fail
  go_loopw [3, 4] (fun o i wr => ∃ k : Nat, k ≤ n ∧ i = .int .i64 k ∧ Kept w wr ∧ OutL w.heap.size 23 3 1 k m (fun i q _ => f i q) o wr) (fun _ i _ => n - (intOf i).toNat)
  case atStart => exact ⟨0, by omega, rfl, Kept.refl _, OutL.nil _ _ _ _ _ _ _⟩
  case round =>
    obtain ⟨k, hk, rfl, hkw, hO⟩ := hrel
    obtain ⟨OA, oc, rfl⟩ := hO.slice
    have HKW := Lib.hid hkw
    have HO := Lib.hid hO
    by_cases hlt : k < n
    · obtain ⟨b, o, rfl, hb, c1⟩ := (HM.out.of hkw).at hlt
      have LB : Lower b wr.heap.size := ⟨hb⟩
      have hmk := HMM.out k hlt
      obtain ⟨V, h1, h2⟩ := hO
      have H1 := Lib.hid h1
      have H2 := Lib.hid h2
      clear hkw h1 h2
      go_wp2_with (first
        | (at_builtin; refine wpList_app rfl (.tmp 12) (.tmp 16) 23 rfl wr.heap.size ti _ Try.underlying23 HT.out HTE.out.1 HTE.out.2.1 HTE.out.2.2 rfl (by simp) _ 0 [] rfl (own_new _ _ (Nat.le_refl _)) (B k) (m k) (cp k) (fun j _ => f k j) rfl ((HM.out.el k hlt).of (HKW.out.trans (by (repeat (first | exact Kept.refl _ | assumption | refine Kept.alloc ?_ _ | refine Kept.ext ?_ _ | refine Kept.drew ?_ | refine Kept.drewN ?_ _))))) (m k) (Nat.zero_add _) _ (List.nil_append _) (by omega) ?_
           intro A1 cp1 w1 k1 k2 k3
           have E1 := Lib.hid (kept_grown (W := wr) (by (repeat (first | exact Kept.refl _ | assumption | refine Kept.alloc ?_ _ | refine Kept.ext ?_ _ | refine Kept.drew ?_ | refine Kept.drewN ?_ _))) (own_new (c := 1) _ _ (Nat.le_refl _)) (Nat.le_refl _) k2)
           have K1 := Lib.hid k1
           clear k1 k2 k3)
        | (at_builtin; refine wpList_append_lies _ rfl (.tmp 11) (.tmp 18) 22 rfl w.heap.size 23 tj _ 1 24 Try.underlying22 HU.out HUE.out.1 HUE.out.2.1 HUE.out.2.2 rfl (by omega) _ _ _ rfl (owns_kept (owns_kept H1.out E1.out) (by (repeat (first | exact Kept.refl _ | assumption | refine Kept.alloc ?_ _ | refine Kept.ext ?_ _ | refine Kept.drew ?_ | refine Kept.drewN ?_ _)))) _ 1 1 [.slice A1 (m k) cp1] rfl rfl (lit_cell _ _ _) (lit_one _ rfl) (by omega) (by unfold maxLen; omega) (by omega) (by rw [World.size_alloc]; exact Nat.le_trans (kept_le (HKW.out.trans E1.out)) (Nat.le_succ _)) _ rfl ?_
           intro g1 cp2 w2 k1 k2 k3 k4
           have E2 := Lib.hid k2
           have K2 := Lib.hid k1
           clear k1 k2 k3 k4))
      go_roundw
      case rel =>
        have hKB : Kept w1 (w1.alloc (.cells #[.slice A1 (m k) cp1] 23)) := by (repeat (first | exact Kept.refl _ | assumption | refine Kept.alloc ?_ _ | refine Kept.ext ?_ _ | refine Kept.drew ?_ | refine Kept.drewN ?_ _))
        refine ⟨k + 1, by omega, by go_num, ?_, ?_⟩
        · exact kept_grown (W := w) ((HKW.out.trans E1.out).trans hKB) (owns_kept (owns_kept H1.out E1.out) hKB) (Nat.le_refl _) E2.out
        · exact OutL.push (V := V) (u := .slice A1 (m k) cp1) (owns_kept (owns_kept H1.out E1.out) hKB) (fun i hi => owns_kept (owns_kept (H2.out i hi) E1.out) hKB) (by decide) (owns_kept (own_lo2 K1.out (kept_le HKW.out)) hKB) E2.out K2.out
      case measure => simp [intOf]; omega
    · obtain rfl : k = n := by omega
      clear hkw hO
      go_wp2_with fail
      go_ret
      exact ⟨_, rfl, HKW.out, HO.out⟩
set_option maxRecDepth 100000 in
set_option maxHeartbeats 4000000 in
theorem r6trno_any (A : Option Addr) (n cap : Nat) (B : Nat → Option Addr) (m cp : Nat → Nat) (f : Nat → Nat → Int) (w : World) (hn : n ≤ 9223372036854775807) (hM : MatAt w A n B m cp f) (hv : valE n m f ≠ 0) :
    Calls Try.prog 35 #[.slice A n cap] w fun e w' => e = .returned (.tuple #[.slice none 0 0, .int .i64 (valE n m f)]) ∧ Kept w w' := by
  have HM := Lib.hid hM
  obtain ⟨v, hve⟩ : ∃ v, valE n m f = v := ⟨_, rfl⟩
  rw [hve] at hv ⊢
  have HV := Lib.hid hve
  have hv2 : (v == 0) = false := by simpa using hv
  have hv3 : decide (v = 0) = false := by simpa using hv
  clear hve hM
  go_enter Try.func35, Try.ntmps35
  go_wp2_with (go_at_call 23; refine (r6val_any _ _ _ _ _ _ _ _ hn (HM.out.of (by (repeat (first | exact Kept.refl _ | assumption | refine Kept.alloc ?_ _ | refine Kept.ext ?_ _ | refine Kept.drew ?_ | refine Kept.drewN ?_ _))))).mono ?_; rintro e w1 ⟨rfl, x0, rfl⟩; rw [HV.out])
  refine bodyPost_ret (by simp only [results, Try.results35]; go_simp; rfl) rfl ?_
  exact ⟨rfl, by (repeat (first | exact Kept.refl _ | assumption | refine Kept.alloc ?_ _ | refine Kept.ext ?_ _ | refine Kept.drew ?_ | refine Kept.drewN ?_ _))⟩
set_option maxRecDepth 100000 in
set_option maxHeartbeats 8000000 in
theorem r6trok_any (A : Option Addr) (n cap : Nat) (B : Nat → Option Addr) (m cp : Nat → Nat) (f : Nat → Nat → Int) (w : World) (hn : n ≤ 9223372036854775807) (hM : MatAt w A n B m cp f) (hv : valE n m f = 0) :
    Calls Try.prog 35 #[.slice A n cap] w fun e w' => ∃ v, e = .returned (.tuple #[v, .int .i64 0]) ∧ Kept w w' ∧ OutL w.heap.size 23 3 1 (m 0) (fun _ => n) (fun i q _ => f q i) v w' := by
  obtain ⟨⟨n1, n6⟩, ⟨m1, m6⟩, hmm, hff⟩ := valE_0 hv
  obtain ⟨ti, hti, hte⟩ := Option.map_eq_some_iff.1 info_I
  simp only [Prod.mk.injEq] at hte
  have HT := Lib.hid hti
  have HTE := Lib.hid hte
  clear hti hte
  obtain ⟨tj, htj, htf⟩ := Option.map_eq_some_iff.1 info_S
  simp only [Prod.mk.injEq] at htf
  have HU := Lib.hid htj
  have HUE := Lib.hid htf
  clear htj htf
  have HM := Lib.hid hM
  have HV := Lib.hid hv
  have HMM := Lib.hid hmm
  have HFF := Lib.hid hff
  clear hM hv hmm hff
  go_enter Try.func35, Try.ntmps35
  go_wp2_with (go_at_call 23; refine (r6val_any _ _ _ _ _ _ _ _ hn (HM.out.of (by (repeat (first | exact Kept.refl _ | assumption | refine Kept.alloc ?_ _ | refine Kept.ext ?_ _ | refine Kept.drew ?_ | refine Kept.drewN ?_ _))))).mono ?_; rintro e w1 ⟨rfl, x0, rfl⟩; rw [HV.out])
  go_loopw [5, 6] (fun o j wr => ∃ k : Nat, k ≤ m 0 ∧ j = .int .i64 k ∧ Kept w wr ∧ OutL w.heap.size 23 3 1 k (fun _ => n) (fun i q _ => f q i) o wr) (fun _ j _ => m 0 - (intOf j).toNat)
  case atStart => exact ⟨0, by omega, rfl, by (repeat (first | exact Kept.refl _ | assumption | refine Kept.alloc ?_ _ | refine Kept.ext ?_ _ | refine Kept.drew ?_ | refine Kept.drewN ?_ _)), OutL.nil _ _ _ _ _ _ _⟩
  case round =>
    obtain ⟨k, hk, rfl, hkw, hO⟩ := hrel
    obtain ⟨Wi, rfl⟩ : ∃ x, x = wr := ⟨_, rfl⟩
    obtain ⟨OA, oc, rfl⟩ := hO.slice
    have HKW := Lib.hid hkw
    have HO := Lib.hid hO
    obtain ⟨b, o, rfl, hb, c1⟩ := (HM.out.of hkw).at (k := 0) (by omega)
    rw [Nat.add_zero] at c1
    have LB : Lower b Wi.heap.size := ⟨hb⟩
    clear hkw hO
    by_cases hlt : k < m 0
    · go_wp2_with fail
      go_loopw [7, 8] (fun l i w2 => ∃ q : Nat, q ≤ n ∧ i = .int .i64 q ∧ Kept Wi w2 ∧ w2.ownsRow Wi.heap.size 3 1 l q (rowC 1 (fun p _ => f p k) q)) (fun _ i _ => n - (intOf i).toNat)
      case atStart => exact ⟨0, by omega, rfl, Kept.refl _, World.ownsRow_nil _ _ _ _⟩
      case round =>
        obtain ⟨q, hq, rfl, hk2, hL⟩ := hrel
        obtain ⟨LA, lc, rfl⟩ := own_slice2 hL
        have HL := Lib.hid hL
        have HK2 := Lib.hid hk2
        have L2 : Lower b wr.heap.size := ⟨Nat.lt_of_lt_of_le hb (kept_le hk2)⟩
        clear hL
        by_cases hlq : q < n
        · obtain ⟨b2, o2, e2, hb2, c2⟩ := (HM.out.of (HKW.out.trans hk2)).at hlq
          simp only [Option.some.injEq, Addr.mk.injEq, and_true] at e2
          obtain ⟨rfl, rfl⟩ := e2
          rw [HMM.out q hlq] at c2
          obtain ⟨b3, o3, e3, hb3, c3, z3⟩ := rows1 (k := k) ((HM.out.of (HKW.out.trans hk2)).el q hlq) (by rw [HMM.out q hlq]; exact hlt)
          rw [e3] at c2
          have L3 : Lower b3 wr.heap.size := ⟨hb3⟩
          have Z3 := Lib.hid z3
          have hap : rowC 1 (fun p _ => f p k) q ++ rowC 1 (fun _ _ => f q k) 1 = rowC 1 (fun p _ => f p k) (q + 1) := rfl
          have HAP := Lib.hid hap
          clear hk2 hap z3 e3
          go_wp2_with (at_builtin; refine wpList_app rfl (.tmp 28) (.tmp 36) 23 rfl Wi.heap.size ti _ Try.underlying23 HT.out HTE.out.1 HTE.out.2.1 HTE.out.2.2 rfl (kept_le (HK2.out.trans (by (repeat (first | exact Kept.refl _ | assumption | refine Kept.alloc ?_ _ | refine Kept.ext ?_ _ | refine Kept.drew ?_ | refine Kept.drewN ?_ _))))) _ q _ rfl (owns_kept HL.out (by (repeat (first | exact Kept.refl _ | assumption | refine Kept.alloc ?_ _ | refine Kept.ext ?_ _ | refine Kept.drew ?_ | refine Kept.drewN ?_ _)))) _ 1 1 _ rfl (rows_lit1 _ (f q k) Z3.out) (q + 1) rfl _ HAP.out (by omega) ?_; intro A1 cp1 w1 k1 k2 k3; have E1 := Lib.hid (kept_grown (HK2.out.trans (by (repeat (first | exact Kept.refl _ | assumption | refine Kept.alloc ?_ _ | refine Kept.ext ?_ _ | refine Kept.drew ?_ | refine Kept.drewN ?_ _)))) (owns_kept HL.out (by (repeat (first | exact Kept.refl _ | assumption | refine Kept.alloc ?_ _ | refine Kept.ext ?_ _ | refine Kept.drew ?_ | refine Kept.drewN ?_ _)))) (Nat.le_refl _) k2); have K1 := Lib.hid k1; clear k1 k2 k3)
          go_roundw
          case rel => exact ⟨q + 1, by omega, by go_num, E1.out, K1.out⟩
          case measure => simp [intOf]; omega
        · obtain rfl : q = n := by omega
          obtain ⟨V, h1, h2⟩ := HO.out
          have H1 := Lib.hid h1
          have H2 := Lib.hid h2
          clear h1 h2 hk2
          go_wp2_with (at_builtin; refine wpList_append_lies _ rfl (.tmp 38) (.tmp 40) 22 rfl w.heap.size 23 tj _ 1 24 Try.underlying22 HU.out HUE.out.1 HUE.out.2.1 HUE.out.2.2 rfl (by omega) _ _ _ rfl (owns_kept (owns_kept H1.out HK2.out) (by (repeat (first | exact Kept.refl _ | assumption | refine Kept.alloc ?_ _ | refine Kept.ext ?_ _ | refine Kept.drew ?_ | refine Kept.drewN ?_ _)))) _ 1 1 [.slice LA q lc] rfl rfl (lit_cell _ _ _) (lit_one _ rfl) (by omega) (by unfold maxLen; omega) (by omega) (by rw [World.size_alloc]; exact Nat.le_trans (kept_le (HKW.out.trans HK2.out)) (Nat.le_succ _)) _ rfl ?_; intro g1 cp1 w1 k1 k2 k3 k4; have E1 := Lib.hid k2; have K1 := Lib.hid k1; clear k1 k2 k3 k4)
          go_roundw
          case rel =>
            have hKB : Kept wr (wr.alloc (.cells #[.slice LA q lc] 23)) := by (repeat (first | exact Kept.refl _ | assumption | refine Kept.alloc ?_ _ | refine Kept.ext ?_ _ | refine Kept.drew ?_ | refine Kept.drewN ?_ _))
            refine ⟨k + 1, by omega, by go_num, ?_, ?_⟩
            · exact kept_grown (W := w) ((HKW.out.trans HK2.out).trans hKB) (owns_kept (owns_kept H1.out HK2.out) hKB) (Nat.le_refl _) E1.out
            · exact OutL.push (V := V) (u := .slice LA q lc) (owns_kept (owns_kept H1.out HK2.out) hKB) (fun i hi => owns_kept (owns_kept (H2.out i hi) HK2.out) hKB) (by decide) (owns_kept (own_lo2 HL.out (kept_le HKW.out)) hKB) E1.out K1.out
          case measure => simp [intOf]; omega
    · obtain rfl : k = m 0 := by omega
      go_wp2_with fail
      refine bodyPost_ret (by simp only [results, Try.results35]; go_simp; rfl) rfl ?_
      exact ⟨_, rfl, HKW.out, HO.out⟩
set_option maxRecDepth 100000 in
set_option maxHeartbeats 4000000 in
theorem r6same_any (A A2 : Option Addr) (n cap cap2 : Nat) (B B2 : Nat → Option Addr) (m cp cp2 : Nat → Nat) (f : Nat → Nat → Int) (w : World) (hn : n ≤ 9223372036854775807) (hM : MatAt w A n B m cp f) (hM2 : MatAt w A2 n B2 m cp2 f) :
    Calls Try.prog 36 #[.slice A n cap, .slice A2 n cap2] w fun e w' => e = .returned (.bool true) ∧ Kept w w' := by
  have HM := Lib.hid hM
  have HM2 := Lib.hid hM2
  have hsm : ∀ (k : Nat) W', k < n → Kept w W' → Calls Try.prog 46 #[.slice (B k) (m k) (cp k), .slice (B2 k) (m k) (cp2 k)] W' fun e w'' => e = .returned (.bool true) ∧ Kept W' w'' := fun k W' hk hW => by
    have := hM.cap k hk
    unfold maxLen at this
    exact sameInts_any (B k) (B2 k) (m k) (cp k) (cp2 k) (fun j _ => f k j) W' (by omega) ((hM.el k hk).of hW) ((hM2.el k hk).of hW)
  have HSM := Lib.hid hsm
  clear hM hM2 hsm
  go_enter Try.func36, Try.ntmps36
  go_wp2_with fail
  go_loopw [5] (fun i wr => ∃ k : Nat, k ≤ n ∧ i = .int .i64 k ∧ Kept w wr) (fun i _ => n - (intOf i).toNat)
  case atStart => exact ⟨0, by omega, rfl, Kept.refl _⟩
  case round =>
    obtain ⟨k, hk, rfl, y, rfl⟩ := hrel
    by_cases hlt : k < n
    · obtain ⟨b, o, rfl, hb, c1⟩ := HM.out.at hlt
      obtain ⟨b2, o2, rfl, hb2, c2⟩ := HM2.out.at hlt
      have L1 : Lower b w.heap.size := ⟨hb⟩
      have L2 : Lower b2 w.heap.size := ⟨hb2⟩
      have hs := fun W' hW => HSM.out k W' hlt hW
      have HS := Lib.hid hs
      clear hs
      go_wp2_with fail
      ((first | (with_reducible refine wp_region_kept2 (by kernel_rfl) (by kernel_rfl) ?_) | refine wp_region_kept (by kernel_rfl) (by kernel_rfl) ?_); (repeat (go_big_quiet_step (first | (go_at_call 46; exact Calls.kept_of (HS.out _ (by (repeat (first | exact Kept.refl _ | assumption | refine Kept.alloc ?_ _ | refine Kept.ext ?_ _ | refine Kept.drew ?_ | refine Kept.drewN ?_ _)))))))); refine wpQuiet_nil ?_; intro x4)
      go_wp2_with fail
      go_roundw
      case rel => exact ⟨k + 1, by omega, by go_num, by (repeat (first | exact Kept.refl _ | assumption | refine Kept.alloc ?_ _ | refine Kept.ext ?_ _ | refine Kept.drew ?_ | refine Kept.drewN ?_ _))⟩
      case measure => simp [intOf]; omega
    · obtain rfl : k = n := by omega
      go_wp2_with fail
      go_ret
      exact ⟨rfl, by (repeat (first | exact Kept.refl _ | assumption | refine Kept.alloc ?_ _ | refine Kept.ext ?_ _ | refine Kept.drew ?_ | refine Kept.drewN ?_ _))⟩
end Go.Proofs.Ytoejdfpmmgldpaa
