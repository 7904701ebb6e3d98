/- Contracts: volumes and centers of meshes, of the program and of the reference. Conditions: the lists' lengths are ints. -/
import Derived.Test.YtoadlneneijfaaaGbx
import Derived.Test.YtoadlneneijfaaaNorml
namespace Go.Proofs.Ytoadlneneijfaaa
set_option linter.unusedVariables false
set_option linter.unusedSimpArgs false
open Go.RowKit
/-- The volume, or 0 with an error. -/
def volV (n : Nat) (P : Nat → Nat → Int) (m : Nat) (F : Nat → Nat → Int) : Int := if validE n P m F = 0 then vol P F m else 0
set_option maxRecDepth 100000 in
theorem svol6_any (A B : Option Addr) (n cap m cap2 : Nat) (P F : Nat → Nat → Int) (w : World) (hn : n ≤ 9223372036854775807 ∧ m ≤ 9223372036854775807) (hP : RowsAt w A n 3 P) (hF : RowsAt w B m 3 F) :
    Calls Try.prog 54 #[.agg #[.slice A n cap, .slice B m cap2]] w fun r w' => r = .returned (.tuple #[.int .i64 (volV n P m F), .int .i64 (validE n P m F)]) ∧ Kept w w' := by
  have HP := Lib.hid hP
  have HF := Lib.hid hF
  clear hP hF
  by_cases hv : validE n P m F = 0
  · rw [show volV n P m F = vol P F m from if_pos hv]
    have HV := Lib.hid hv
    obtain ⟨n64, m96, hb, hf, -⟩ := validE_ok hv
    have HB := Lib.hid hb
    have HC := Lib.hid (corn_of hf)
    clear hv hb hf
    go_enter Try.func54, Try.ntmps54
    go_wp2_with (first | (go_at_call 30; refine (svalidate_any _ _ _ _ _ _ P F _ hn (HP.out.of (by (repeat (first | exact Kept.refl _ | assumption | refine Kept.alloc ?_ _ | refine Kept.ext ?_ _ | refine Kept.drew ?_ | refine Kept.drewN ?_ _)))) (HF.out.of (by (repeat (first | exact Kept.refl _ | assumption | refine Kept.alloc ?_ _ | refine Kept.ext ?_ _ | refine Kept.drew ?_ | refine Kept.drewN ?_ _))))).mono ?_; rintro e w1 ⟨rfl, x0, rfl⟩; rw [HV.out]) | (go_at_call 79; refine (svolume_any _ _ _ _ _ _ P F _ (by omega) (by omega) HB.out HC.out (HP.out.of (by (repeat (first | exact Kept.refl _ | assumption | refine Kept.alloc ?_ _ | refine Kept.ext ?_ _ | refine Kept.drew ?_ | refine Kept.drewN ?_ _)))) (HF.out.of (by (repeat (first | exact Kept.refl _ | assumption | refine Kept.alloc ?_ _ | refine Kept.ext ?_ _ | refine Kept.drew ?_ | refine Kept.drewN ?_ _))))).mono ?_; rintro e w1 ⟨rfl, x1, rfl⟩))
    refine bodyPost_ret (by simp only [results, Try.results54]; go_simp; rfl) rfl ?_
    rw [HV.out]
    exact ⟨rfl, by (repeat (first | exact Kept.refl _ | assumption | refine Kept.alloc ?_ _ | refine Kept.ext ?_ _ | refine Kept.drew ?_ | refine Kept.drewN ?_ _))⟩
  · rw [show volV n P m F = 0 from if_neg hv]
    obtain ⟨e, he⟩ : ∃ e, validE n P m F = e := ⟨_, rfl⟩
    rw [he] at hv
    have HV := Lib.hid he
    clear he
    have hv2 : (e == 0) = false := by simpa using hv
    have hv3 : decide (e = 0) = false := by simpa using hv
    go_enter Try.func54, Try.ntmps54
    go_wp2_with (go_at_call 30; refine (svalidate_any _ _ _ _ _ _ P F _ hn (HP.out.of (by (repeat (first | exact Kept.refl _ | assumption | refine Kept.alloc ?_ _ | refine Kept.ext ?_ _ | refine Kept.drew ?_ | refine Kept.drewN ?_ _)))) (HF.out.of (by (repeat (first | exact Kept.refl _ | assumption | refine Kept.alloc ?_ _ | refine Kept.ext ?_ _ | refine Kept.drew ?_ | refine Kept.drewN ?_ _))))).mono ?_; rintro e w1 ⟨rfl, x, rfl⟩; rw [HV.out])
    refine bodyPost_ret (by simp only [results, Try.results54]; go_simp; rfl) rfl ?_
    rw [HV.out]
    exact ⟨rfl, by (repeat (first | exact Kept.refl _ | assumption | refine Kept.alloc ?_ _ | refine Kept.ext ?_ _ | refine Kept.drew ?_ | refine Kept.drewN ?_ _))⟩
set_option maxRecDepth 100000 in
theorem r2vol6_any (A B : Option Addr) (n cap m cap2 : Nat) (P F : Nat → Nat → Int) (w : World) (hn : n ≤ 9223372036854775807 ∧ m ≤ 9223372036854775807) (hP : RowsAt w A n 3 P) (hF : RowsAt w B m 3 F) :
    Calls Try.prog 58 #[.agg #[.slice A n cap, .slice B m cap2]] w fun r w' => r = .returned (.tuple #[.int .i64 (volV n P m F), .int .i64 (validE n P m F)]) ∧ Kept w w' := by
  have HP := Lib.hid hP
  have HF := Lib.hid hF
  clear hP hF
  by_cases hv : validE n P m F = 0
  · rw [show volV n P m F = vol P F m from if_pos hv]
    have HV := Lib.hid hv
    obtain ⟨n64, m96, hb, hf, -⟩ := validE_ok hv
    have HB := Lib.hid hb
    have HC := Lib.hid (corn_of hf)
    clear hv hb hf
    go_enter Try.func58, Try.ntmps58
    go_wp2_with (first | (go_at_call 31; refine (r2validate_any _ _ _ _ _ _ P F _ hn (HP.out.of (by (repeat (first | exact Kept.refl _ | assumption | refine Kept.alloc ?_ _ | refine Kept.ext ?_ _ | refine Kept.drew ?_ | refine Kept.drewN ?_ _)))) (HF.out.of (by (repeat (first | exact Kept.refl _ | assumption | refine Kept.alloc ?_ _ | refine Kept.ext ?_ _ | refine Kept.drew ?_ | refine Kept.drewN ?_ _))))).mono ?_; rintro e w1 ⟨rfl, x0, rfl⟩; rw [HV.out]) | (go_at_call 81; refine (r2volume_any _ _ _ _ _ _ P F _ (by omega) (by omega) HB.out HC.out (HP.out.of (by (repeat (first | exact Kept.refl _ | assumption | refine Kept.alloc ?_ _ | refine Kept.ext ?_ _ | refine Kept.drew ?_ | refine Kept.drewN ?_ _)))) (HF.out.of (by (repeat (first | exact Kept.refl _ | assumption | refine Kept.alloc ?_ _ | refine Kept.ext ?_ _ | refine Kept.drew ?_ | refine Kept.drewN ?_ _))))).mono ?_; rintro e w1 ⟨rfl, x1, rfl⟩))
    refine bodyPost_ret (by simp only [results, Try.results58]; go_simp; rfl) rfl ?_
    rw [HV.out]
    exact ⟨rfl, by (repeat (first | exact Kept.refl _ | assumption | refine Kept.alloc ?_ _ | refine Kept.ext ?_ _ | refine Kept.drew ?_ | refine Kept.drewN ?_ _))⟩
  · rw [show volV n P m F = 0 from if_neg hv]
    obtain ⟨e, he⟩ : ∃ e, validE n P m F = e := ⟨_, rfl⟩
    rw [he] at hv
    have HV := Lib.hid he
    clear he
    have hv2 : (e == 0) = false := by simpa using hv
    have hv3 : decide (e = 0) = false := by simpa using hv
    go_enter Try.func58, Try.ntmps58
    go_wp2_with (go_at_call 31; refine (r2validate_any _ _ _ _ _ _ P F _ hn (HP.out.of (by (repeat (first | exact Kept.refl _ | assumption | refine Kept.alloc ?_ _ | refine Kept.ext ?_ _ | refine Kept.drew ?_ | refine Kept.drewN ?_ _)))) (HF.out.of (by (repeat (first | exact Kept.refl _ | assumption | refine Kept.alloc ?_ _ | refine Kept.ext ?_ _ | refine Kept.drew ?_ | refine Kept.drewN ?_ _))))).mono ?_; rintro e w1 ⟨rfl, x, rfl⟩; rw [HV.out])
    refine bodyPost_ret (by simp only [results, Try.results58]; go_simp; rfl) rfl ?_
    rw [HV.out]
    exact ⟨rfl, by (repeat (first | exact Kept.refl _ | assumption | refine Kept.alloc ?_ _ | refine Kept.ext ?_ _ | refine Kept.drew ?_ | refine Kept.drewN ?_ _))⟩
theorem r2plus_any (a0 a1 a2 b0 b1 b2 : Int) (w : World) (h : (-1099511627776 ≤ a0 ∧ a0 ≤ 1099511627776) ∧ (-1099511627776 ≤ a1 ∧ a1 ≤ 1099511627776) ∧ (-1099511627776 ≤ a2 ∧ a2 ≤ 1099511627776) ∧ (-1099511627776 ≤ b0 ∧ b0 ≤ 1099511627776) ∧ (-1099511627776 ≤ b1 ∧ b1 ≤ 1099511627776) ∧ (-1099511627776 ≤ b2 ∧ b2 ≤ 1099511627776)) :
    Calls Try.prog 57 #[.agg #[.int .i64 a0, .int .i64 a1, .int .i64 a2], .agg #[.int .i64 b0, .int .i64 b1, .int .i64 b2]] w fun e w' => e = .returned (.agg #[.int .i64 (a0 + b0), .int .i64 (a1 + b1), .int .i64 (a2 + b2)]) ∧ Kept w w' := by
  go_enter Try.func57, Try.ntmps57
  go_wp2
  refine bodyPost_ret (by simp only [results, Try.results57]; go_simp; rfl) rfl ?_
  exact ⟨rfl, by (repeat (first | exact Kept.refl _ | assumption | refine Kept.alloc ?_ _ | refine Kept.ext ?_ _ | refine Kept.drew ?_ | refine Kept.drewN ?_ _))⟩
/-- The state of the loop: the sums in block sb, nothing yet in the result's block rb. -/
def CenJ (W : World) (sb rb : Nat) (P F : Nat → Nat → Int) (k : Nat) (wr : World) : Prop :=
  Kept W wr ∧ wr.heap[sb]? = some (.cells #[.int .i64 (cen P F 0 k), .int .i64 (cen P F 1 k), .int .i64 (cen P F 2 k)] 34 (0, 0)) ∧ wr.heap[rb]? = some (.cells #[.int .i64 0, .int .i64 0, .int .i64 0] 34 (0, 0))
theorem add_swap (a b c : Int) : a + (b + c) = a + b + c := by omega
set_option maxRecDepth 100000 in
set_option maxHeartbeats 16000000 in
theorem r2center_any (A B : Option Addr) (n cap m cap2 : Nat) (P F : Nat → Nat → Int) (w : World) (hn : n ≤ 9223372036854775807 ∧ m ≤ 9223372036854775807) (hP : RowsAt w A n 3 P) (hF : RowsAt w B m 3 F) :
    Calls Try.prog 60 #[.agg #[.slice A n cap, .slice B m cap2]] w fun r w' => r = .returned (.tuple #[.agg #[.int .i64 (cenV n P m F 0), .int .i64 (cenV n P m F 1), .int .i64 (cenV n P m F 2)], .int .i64 (validE n P m F)]) ∧ Kept w w' := by
  have HP := Lib.hid hP
  have HF := Lib.hid hF
  clear hP hF
  by_cases hv : validE n P m F = 0
  case neg =>
    have c0 : ∀ c, cenV n P m F c = 0 := fun c => if_neg hv
    rw [c0, c0, c0]
    clear c0
    obtain ⟨e, he⟩ : ∃ e, validE n P m F = e := ⟨_, rfl⟩
    rw [he] at hv
    have HV := Lib.hid he
    clear he
    have hv2 : (e == 0) = false := by simpa using hv
    have hv3 : decide (e = 0) = false := by simpa using hv
    go_enter Try.func60, Try.ntmps60
    go_wp2_with (go_at_call 31; refine (r2validate_any _ _ _ _ _ _ P F _ hn (HP.out.of (by (repeat (first | exact Kept.refl _ | assumption | refine Kept.alloc ?_ _ | refine Kept.ext ?_ _ | refine Kept.drew ?_ | refine Kept.drewN ?_ _)))) (HF.out.of (by (repeat (first | exact Kept.refl _ | assumption | refine Kept.alloc ?_ _ | refine Kept.ext ?_ _ | refine Kept.drew ?_ | refine Kept.drewN ?_ _))))).mono ?_; rintro e w1 ⟨rfl, x, rfl⟩; rw [HV.out])
    refine bodyPost_ret (by simp only [results, Try.results60]; go_simp; rfl) rfl ?_
    rw [HV.out]
    exact ⟨rfl, by (repeat (first | exact Kept.refl _ | assumption | refine Kept.alloc ?_ _ | refine Kept.ext ?_ _ | refine Kept.drew ?_ | refine Kept.drewN ?_ _))⟩
  have HV := Lib.hid hv
  have c0 : ∀ c, cenV n P m F c = cen P F c m := fun c => if_pos hv
  rw [c0, c0, c0]
  obtain ⟨n64, m96, hb, hf, -⟩ := validE_ok hv
  have HB := Lib.hid hb
  have HC := Lib.hid (corn_of hf)
  clear c0 hv hb hf
  go_enter Try.func60, Try.ntmps60
  go_wp2_with (first | (go_at_call 31; refine (r2validate_any _ _ _ _ _ _ P F _ hn (HP.out.of (by (repeat (first | exact Kept.refl _ | assumption | refine Kept.alloc ?_ _ | refine Kept.ext ?_ _ | refine Kept.drew ?_ | refine Kept.drewN ?_ _)))) (HF.out.of (by (repeat (first | exact Kept.refl _ | assumption | refine Kept.alloc ?_ _ | refine Kept.ext ?_ _ | refine Kept.drew ?_ | refine Kept.drewN ?_ _))))).mono ?_; rintro e w1 ⟨rfl, x0, rfl⟩; rw [HV.out]) | fail)
  go_loopw [6] (fun i wr => ∃ k : Nat, k ≤ m ∧ i = .int .i64 k ∧ CenJ (w.alloc (.cells #[.slice A n cap, .slice B m cap2] 25)) (adv (w.heap.size + 1 + 1) x0.obs.size) (w.heap.size + 1) P F k wr) (fun i _ => m - (intOf i).toNat)
  case atStart => exact ⟨0, by omega, rfl, by (repeat (first | exact Kept.refl _ | assumption | refine Kept.alloc ?_ _ | refine Kept.ext ?_ _ | refine Kept.drew ?_ | refine Kept.drewN ?_ _)), by
    exact alloc_now _ _ _, by
    rw [(MapKept.heap_alloc _ _).2 _ (by simp [adv]; omega)]
    rw [ext_block _ _ _ (by simp)]
    exact alloc_now _ _ _⟩
  case round =>
    obtain ⟨k, hk, rfl, ⟨z, rfl⟩, hsb, hrb⟩ := hrel
    have HSB := Lib.hid hsb
    have HRB := Lib.hid hrb
    obtain ⟨s0, s1, s2⟩ := cells3 hsb
    have LS : Lower (adv (w.heap.size + 1 + 1) x0.obs.size) (adv (w.heap.size + 1) z.obs.size) := ⟨by have := cell_lt s0; simpa using this⟩
    by_cases hlt : k < m
    · clear hsb hrb
      have hcB := HC.out k hlt
      obtain ⟨c0, c1, c2⟩ := cornB_true hcB
      have b0 := co_bd HB.out c0
      have b1 := co_bd HB.out c1
      have b2 := co_bd HB.out c2
      have b3 := prF_bd HB.out hcB
      have d0 := cen_bd HB.out HC.out (show 0 < 3 by omega) k hk
      have d1 := cen_bd HB.out HC.out (show 1 < 3 by omega) k hk
      have d2 := cen_bd HB.out HC.out (show 2 < 3 by omega) k hk
      have e0 := cen_step HB.out hcB (show 0 < 3 by omega)
      have e1 := cen_step HB.out hcB (show 1 < 3 by omega)
      have e2 := cen_step HB.out hcB (show 2 < 3 by omega)
      obtain ⟨q0, g0⟩ : ∃ q, q = cen P F 0 k := ⟨_, rfl⟩
      obtain ⟨q1, g1⟩ : ∃ q, q = cen P F 1 k := ⟨_, rfl⟩
      obtain ⟨q2, g2⟩ : ∃ q, q = cen P F 2 k := ⟨_, rfl⟩
      have hn0 : cen P F 0 (k + 1) = q0 + prF P F k * (co P F k 0 0 + (co P F k 1 0 + co P F k 2 0)) := by rw [g0, add_swap]; rfl
      have hn1 : cen P F 1 (k + 1) = q1 + prF P F k * (co P F k 0 1 + (co P F k 1 1 + co P F k 2 1)) := by rw [g1, add_swap]; rfl
      have hn2 : cen P F 2 (k + 1) = q2 + prF P F k * (co P F k 0 2 + (co P F k 1 2 + co P F k 2 2)) := by rw [g2, add_swap]; rfl
      rw [← add_swap] at e0 e1 e2
      rw [← g0] at d0 s0
      rw [← g1] at d1 s1
      rw [← g2] at d2 s2
      clear g0 g1 g2
      unfold prF pr9 at b3 e0 e1 e2 hn0 hn1 hn2
      have HN := Lib.hid (And.intro hn0 (And.intro hn1 hn2))
      clear hn0 hn1 hn2 c0 c1 c2
      have k0 := cross_key (show -512 ≤ co P F k 0 0 ∧ co P F k 0 0 ≤ 512 by omega) (show -512 ≤ co P F k 1 1 ∧ co P F k 1 1 ≤ 512 by omega) (show -512 ≤ co P F k 2 2 ∧ co P F k 2 2 ≤ 512 by omega) (show -512 ≤ co P F k 1 2 ∧ co P F k 1 2 ≤ 512 by omega) (show -512 ≤ co P F k 2 1 ∧ co P F k 2 1 ≤ 512 by omega)
      have k1 := cross_key (show -512 ≤ co P F k 0 1 ∧ co P F k 0 1 ≤ 512 by omega) (show -512 ≤ co P F k 1 2 ∧ co P F k 1 2 ≤ 512 by omega) (show -512 ≤ co P F k 2 0 ∧ co P F k 2 0 ≤ 512 by omega) (show -512 ≤ co P F k 1 0 ∧ co P F k 1 0 ≤ 512 by omega) (show -512 ≤ co P F k 2 2 ∧ co P F k 2 2 ≤ 512 by omega)
      have k2 := cross_key (show -512 ≤ co P F k 0 2 ∧ co P F k 0 2 ≤ 512 by omega) (show -512 ≤ co P F k 1 0 ∧ co P F k 1 0 ≤ 512 by omega) (show -512 ≤ co P F k 2 1 ∧ co P F k 2 1 ≤ 512 by omega) (show -512 ≤ co P F k 1 1 ∧ co P F k 1 1 ≤ 512 by omega) (show -512 ≤ co P F k 2 0 ∧ co P F k 2 0 ≤ 512 by omega)
      go_wp2_with (go_at_call 72; refine (r2corners_any _ _ _ _ _ _ P F k _ hcB (by omega) (HP.out.of (by (repeat (first | exact Kept.refl _ | assumption | refine Kept.alloc ?_ _ | refine Kept.ext ?_ _ | refine Kept.drew ?_ | refine Kept.drewN ?_ _)))) (HF.out.of (by (repeat (first | exact Kept.refl _ | assumption | refine Kept.alloc ?_ _ | refine Kept.ext ?_ _ | refine Kept.drew ?_ | refine Kept.drewN ?_ _))))).mono ?_; rintro e w1 ⟨rfl, x, rfl⟩; unfold faceV)
      ((first | refine wp_region_tail 19 (by kernel_rfl) (by kernel_rfl) ?_); simp only [List.take_succ_cons, List.take_zero, List.drop_succ_cons, List.drop_zero]; (repeat (go_big_quiet_step (first | (go_at_call 57; exact Calls.kept_of (r2plus_any _ _ _ _ _ _ _ (by omega))) | (go_at_call 100; exact Calls.kept_of (r2cross_any _ _ _ _ _ _ _ (by omega))) | (go_at_call 99; exact Calls.kept_of (r2dot_any _ _ _ _ _ _ _ (by omega))) | (go_at_call 24; exact Calls.kept_of (r2times_any _ _ _ _ _ (by omega)))))); refine wpQuiet_nil ?_; intro x)
      refine wpList_store_row rfl 34 (.tmp 5) (.tmp 42) rfl (adv (w.heap.size + 1 + 1) x0.obs.size) _ rfl rfl _ _ (heap_kp HSB.out (by (repeat (first | exact Kept.refl _ | assumption | refine Kept.alloc ?_ _ | refine Kept.ext ?_ _ | refine Kept.drew ?_ | refine Kept.drewN ?_ _)))) (by kernel_rfl) rfl (by simp [Value.oneCell']) ?_
      go_wp2_with fail
      go_roundw
      case rel =>
        refine ⟨k + 1, by omega, by go_num, ?_, ?_, ?_⟩
        · exact Kept.map_store (by (repeat (first | exact Kept.refl _ | assumption | refine Kept.alloc ?_ _ | refine Kept.ext ?_ _ | refine Kept.drew ?_ | refine Kept.drewN ?_ _))) (by simp [adv]; omega) (grown_setRow _ _ _)
        · rw [setRow_heap _ _ _ _ _ _ (heap_kp HSB.out (by (repeat (first | exact Kept.refl _ | assumption | refine Kept.alloc ?_ _ | refine Kept.ext ?_ _ | refine Kept.drew ?_ | refine Kept.drewN ?_ _)))), HN.out.1, HN.out.2.1, HN.out.2.2]
        · rw [setRow_other _ _ _ _ (by simp [adv]; omega)]
          exact heap_kp HRB.out (by (repeat (first | exact Kept.refl _ | assumption | refine Kept.alloc ?_ _ | refine Kept.ext ?_ _ | refine Kept.drew ?_ | refine Kept.drewN ?_ _)))
      case measure => simp [intOf]; omega
    · obtain rfl : k = m := by omega
      clear hsb
      obtain ⟨r0, r1, r2⟩ := cells3 hrb
      have fr : ∀ j, (ext (w.alloc (.cells #[.slice A n cap, .slice B k cap2] 25)) z).frozen? ⟨w.heap.size + 1, j, none⟩ = false := fun j => by unfold World.frozen?; simp only [hrb]; simp
      have fr0 := fr 0
      have fr1 := fr 1
      have fr2 := fr 2
      clear fr hrb
      have LR : Lower (w.heap.size + 1) (adv (w.heap.size + 1) z.obs.size) := ⟨by have := cell_lt r0; simpa using this⟩
      go_wp2_with fail
      refine bodyPost_ret (by simp only [results, Try.results60]; go_simp; rfl) rfl ?_
      rw [HV.out]
      exact ⟨rfl, (((show Kept w (ext (w.alloc (.cells #[.slice A n cap, .slice B k cap2] 25)) z) by (repeat (first | exact Kept.refl _ | assumption | refine Kept.alloc ?_ _ | refine Kept.ext ?_ _ | refine Kept.drew ?_ | refine Kept.drewN ?_ _))).setCell (by simp) _).setCell (by simp) _).setCell (by simp) _⟩
end Go.Proofs.Ytoadlneneijfaaa
