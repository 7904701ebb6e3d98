/- Contracts: a mesh turned, scaled, moved, mirrored, of the program. Conditions: the lists' lengths are ints. -/
import Derived.Test.YtbhcjdgfcinpcaaGch
namespace Go.Proofs.Ytbhcjdgfcinpcaa
set_option linter.unusedVariables false
set_option linter.unusedSimpArgs false
open Go.RowKit Go.Deep
theorem cturn_any (x y z : Int) (w : World) (h : (-64 ≤ x ∧ x ≤ 64) ∧ (-64 ≤ y ∧ y ≤ 64) ∧ (-64 ≤ z ∧ z ≤ 64)) :
    Calls Try.prog 44 #[.agg #[.int .i64 x, .int .i64 y, .int .i64 z]] w fun r w' => r = .returned (.agg #[.int .i64 (-y), .int .i64 x, .int .i64 z]) ∧ Kept w w' := by
  go_enter Try.func44, Try.ntmps44
  go_wp2_with fail
  refine bodyPost_ret (by simp only [results, Try.results44]; go_simp; rfl) rfl ?_
  exact ⟨rfl, by (repeat (first | exact Kept.refl _ | assumption | refine Kept.alloc ?_ _ | refine Kept.ext ?_ _ | refine Kept.drew ?_ | refine Kept.drewN ?_ _))⟩
theorem cmirror_any (x y z : Int) (w : World) (h : (-64 ≤ x ∧ x ≤ 64) ∧ (-64 ≤ y ∧ y ≤ 64) ∧ (-64 ≤ z ∧ z ≤ 64)) :
    Calls Try.prog 45 #[.agg #[.int .i64 x, .int .i64 y, .int .i64 z]] w fun r w' => r = .returned (.agg #[.int .i64 (-x), .int .i64 y, .int .i64 z]) ∧ Kept w w' := by
  go_enter Try.func45, Try.ntmps45
  go_wp2_with fail
  refine bodyPost_ret (by simp only [results, Try.results45]; go_simp; rfl) rfl ?_
  exact ⟨rfl, by (repeat (first | exact Kept.refl _ | assumption | refine Kept.alloc ?_ _ | refine Kept.ext ?_ _ | refine Kept.drew ?_ | refine Kept.drewN ?_ _))⟩
theorem cmove_any (x y z v0 v1 v2 : Int) (c : Nat) (w : World) (h : (-64 ≤ x ∧ x ≤ 64) ∧ (-64 ≤ y ∧ y ≤ 64) ∧ (-64 ≤ z ∧ z ≤ 64)) (hv : (-128 ≤ v0 ∧ v0 ≤ 128) ∧ (-128 ≤ v1 ∧ v1 ≤ 128) ∧ (-128 ≤ v2 ∧ v2 ≤ 128)) (hc : w.heap[c]? = some (.cells #[.int .i64 v0, .int .i64 v1, .int .i64 v2] 27 (0, 0))) :
    Calls Try.prog 36 #[.agg #[.int .i64 x, .int .i64 y, .int .i64 z], .pointer (some ⟨c, 0, none⟩)] w fun r w' => r = .returned (.agg #[.int .i64 (x + v0), .int .i64 (y + v1), .int .i64 (z + v2)]) ∧ Kept w w' := by
  obtain ⟨c0, c1, c2⟩ := cells3 hc
  have LC : Lower c w.heap.size := ⟨cell_lt c0⟩
  clear hc
  go_enter Try.func36, Try.ntmps36
  go_wp2_with (go_at_call 27; refine (splus_any _ _ _ _ _ _ _ _ (by omega) (by omega)).mono ?_; rintro e w1 ⟨rfl, x9, rfl⟩)
  refine bodyPost_ret (by simp only [results, Try.results36]; go_simp; rfl) rfl ?_
  exact ⟨rfl, by (repeat (first | exact Kept.refl _ | assumption | refine Kept.alloc ?_ _ | refine Kept.ext ?_ _ | refine Kept.drew ?_ | refine Kept.drewN ?_ _))⟩
theorem cscale_any (x y z k0 : Int) (c : Nat) (w : World) (h : (-64 ≤ x ∧ x ≤ 64) ∧ (-64 ≤ y ∧ y ≤ 64) ∧ (-64 ≤ z ∧ z ≤ 64)) (hv : -128 ≤ k0 ∧ k0 ≤ 128) (hc : w.heap[c]? = some (.cells #[.int .i64 k0] 3 (0, 0))) :
    Calls Try.prog 38 #[.agg #[.int .i64 x, .int .i64 y, .int .i64 z], .pointer (some ⟨c, 0, none⟩)] w fun r w' => r = .returned (.agg #[.int .i64 (k0 * x), .int .i64 (k0 * y), .int .i64 (k0 * z)]) ∧ Kept w w' := by
  have c0 : w.cell? ⟨c, 0, none⟩ = some (.int .i64 k0) := by unfold World.cell?; simp only [hc]; rfl
  have LC : Lower c w.heap.size := ⟨cell_lt c0⟩
  clear hc
  have q0 := mul_bd 8192 hv h.1 rfl
  have q1 := mul_bd 8192 hv h.2.1 rfl
  have q2 := mul_bd 8192 hv h.2.2 rfl
  go_enter Try.func38, Try.ntmps38
  go_wp2_with (go_at_call 27; refine (splus_any _ _ _ _ _ _ _ _ (by omega) (by omega)).mono ?_; rintro e w1 ⟨rfl, x9, rfl⟩)
  refine bodyPost_ret (by simp only [results, Try.results38]; go_simp; rfl) rfl ?_
  exact ⟨rfl, by (repeat (first | exact Kept.refl _ | assumption | refine Kept.alloc ?_ _ | refine Kept.ext ?_ _ | refine Kept.drew ?_ | refine Kept.drewN ?_ _))⟩
set_option maxRecDepth 100000 in
set_option maxHeartbeats 16000000 in
theorem sturn_any (A B : Option Addr) (n cap m cap2 : Nat) (P F : Nat → Nat → Int) (w : World) (hn : n ≤ 9223372036854775807 ∧ m ≤ 9223372036854775807) (hP : RowsAt w A n 3 P) (hF : RowsAt w B m 3 F) :
    Calls Try.prog 16 #[.agg #[.slice A n cap, .slice B m cap2]] w fun r w' => MeshO w w' r (chgE n P m F (false) (turnP P) F) n (turnP P) m F := by
  have HP := Lib.hid hP
  have HF := Lib.hid hF
  by_cases hv : validE n P m F = 0
  case neg =>
    obtain ⟨e, he⟩ : ∃ e, validE n P m F = e := ⟨_, rfl⟩
    rw [show chgE n P m F (false) (turnP P) F = e by unfold chgE; rw [if_pos hv, he]]
    rw [he] at hv
    have HV := Lib.hid he
    clear he hP hF
    have hv2 : (e == 0) = false := by simpa using hv
    have hv3 : decide (e = 0) = false := by simpa using hv
    go_enter Try.func16, Try.ntmps16
    go_wp2_with (go_at_call 24; refine (svalidate_any _ _ _ _ _ _ P F _ hn (HP.out.of (by (repeat (first | exact Kept.refl _ | assumption | refine Kept.alloc ?_ _ | refine Kept.ext ?_ _ | refine Kept.drew ?_ | refine Kept.drewN ?_ _)))) (HF.out.of (by (repeat (first | exact Kept.refl _ | assumption | refine Kept.alloc ?_ _ | refine Kept.ext ?_ _ | refine Kept.drew ?_ | refine Kept.drewN ?_ _))))).mono ?_; rintro e w1 ⟨rfl, x0, rfl⟩; rw [HV.out])
    refine bodyPost_ret (by simp only [results, Try.results16]; go_simp; rfl) rfl ?_
    exact MeshO.no hv (by (repeat (first | exact Kept.refl _ | assumption | refine Kept.alloc ?_ _ | refine Kept.ext ?_ _ | refine Kept.drew ?_ | refine Kept.drewN ?_ _)))
  have HV := Lib.hid hv
  obtain ⟨n64, m96, hb, hf, -⟩ := validE_ok hv
  obtain ⟨e, he⟩ : ∃ e, validE n (turnP P) m F = e := ⟨_, rfl⟩
  rw [show chgE n P m F (false) (turnP P) F = e by unfold chgE; rw [if_neg (by simpa using hv), if_neg (by simp), he]]
  have HE := Lib.hid he
  clear he
  have HB := Lib.hid (ptsBad_at hb)
  clear hv hb hf hP hF
  go_enter Try.func16, Try.ntmps16
  go_wp2_with (go_at_call 24; refine (svalidate_any _ _ _ _ _ _ P F _ hn (HP.out.of (by (repeat (first | exact Kept.refl _ | assumption | refine Kept.alloc ?_ _ | refine Kept.ext ?_ _ | refine Kept.drew ?_ | refine Kept.drewN ?_ _)))) (HF.out.of (by (repeat (first | exact Kept.refl _ | assumption | refine Kept.alloc ?_ _ | refine Kept.ext ?_ _ | refine Kept.drew ?_ | refine Kept.drewN ?_ _))))).mono ?_; rintro e w1 ⟨rfl, x0, rfl⟩; rw [HV.out])
  refine (changed_turn _ _ _ _ _ _ P F false (turnP P) F _ (by omega) (HP.out.of (by (repeat (first | exact Kept.refl _ | assumption | refine Kept.alloc ?_ _ | refine Kept.ext ?_ _ | refine Kept.drew ?_ | refine Kept.drewN ?_ _)))) (HF.out.of (by (repeat (first | exact Kept.refl _ | assumption | refine Kept.alloc ?_ _ | refine Kept.ext ?_ _ | refine Kept.drew ?_ | refine Kept.drewN ?_ _)))) (turn_I HB.out) (fun _ _ _ _ => rfl) ?_).mono ?_
  · exact fun W i hi hk => cturn_any _ _ _ _ (by have := HB.out i hi; omega)
  rw [HE.out]
  rintro r w1 ⟨A1, c1, B1, c2, rfl, ⟨x1, rfl⟩, ho1, ho2⟩
  have H1 := Lib.hid ho1
  have H2 := Lib.hid ho2
  clear ho1 ho2
  have HR := Lib.hid (fr_kept (alloc_now (w.alloc (.cells #[.slice A n cap, .slice B m cap2] 25)) (.cells #[.slice none 0 0, .slice none 0 0] 25) _) (by (repeat (first | exact Kept.refl _ | assumption | refine Kept.alloc ?_ _ | refine Kept.ext ?_ _ | refine Kept.drew ?_ | refine Kept.drewN ?_ _)) : Kept ((w.alloc (.cells #[.slice A n cap, .slice B m cap2] 25)).alloc (.cells #[.slice none 0 0, .slice none 0 0] 25)) (ext (ext ((w.alloc (.cells #[.slice A n cap, .slice B m cap2] 25)).alloc (.cells #[.slice none 0 0, .slice none 0 0] 25)) x0) x1)))
  obtain ⟨q1, q2, -, -⟩ := cells2 (setRow_heap _ _ _ #[.slice A1 (okN e n) c1, .slice B1 (okN e m) c2] _ _ HR.out)
  go_wp2_with (refine wpList_store_row rfl 25 (.tmp 2) (.tmp 13) rfl (w.heap.size + 1) _ rfl rfl _ _ HR.out (by kernel_rfl) rfl (by simp [Value.oneCell']) ?_)
  refine bodyPost_ret (by simp only [results, Try.results16]; go_simp; rfl) rfl ?_
  exact ⟨A1, c1, B1, c2, rfl, Kept.map_store (by (repeat (first | exact Kept.refl _ | assumption | refine Kept.alloc ?_ _ | refine Kept.ext ?_ _ | refine Kept.drew ?_ | refine Kept.drewN ?_ _)) : Kept w (ext (ext ((w.alloc (.cells #[.slice A n cap, .slice B m cap2] 25)).alloc (.cells #[.slice none 0 0, .slice none 0 0] 25)) x0) x1)) (by first | omega | (simp; try omega)) (grown_setRow _ _ _), own_mono (own_row _ H1.out HR.out (by decide)) (by first | omega | (simp [adv]; try omega)), own_mono (own_row _ H2.out HR.out (by decide)) (by first | omega | (simp [adv]; try omega))⟩
set_option maxRecDepth 100000 in
set_option maxHeartbeats 16000000 in
theorem smirror_any (A B : Option Addr) (n cap m cap2 : Nat) (P F : Nat → Nat → Int) (w : World) (hn : n ≤ 9223372036854775807 ∧ m ≤ 9223372036854775807) (hP : RowsAt w A n 3 P) (hF : RowsAt w B m 3 F) :
    Calls Try.prog 17 #[.agg #[.slice A n cap, .slice B m cap2]] w fun r w' => MeshO w w' r (chgE n P m F (false) (mirP P) (mirF F)) n (mirP P) m (mirF F) := by
  have HP := Lib.hid hP
  have HF := Lib.hid hF
  by_cases hv : validE n P m F = 0
  case neg =>
    obtain ⟨e, he⟩ : ∃ e, validE n P m F = e := ⟨_, rfl⟩
    rw [show chgE n P m F (false) (mirP P) (mirF F) = e by unfold chgE; rw [if_pos hv, he]]
    rw [he] at hv
    have HV := Lib.hid he
    clear he hP hF
    have hv2 : (e == 0) = false := by simpa using hv
    have hv3 : decide (e = 0) = false := by simpa using hv
    go_enter Try.func17, Try.ntmps17
    go_wp2_with (go_at_call 24; refine (svalidate_any _ _ _ _ _ _ P F _ hn (HP.out.of (by (repeat (first | exact Kept.refl _ | assumption | refine Kept.alloc ?_ _ | refine Kept.ext ?_ _ | refine Kept.drew ?_ | refine Kept.drewN ?_ _)))) (HF.out.of (by (repeat (first | exact Kept.refl _ | assumption | refine Kept.alloc ?_ _ | refine Kept.ext ?_ _ | refine Kept.drew ?_ | refine Kept.drewN ?_ _))))).mono ?_; rintro e w1 ⟨rfl, x0, rfl⟩; rw [HV.out])
    refine bodyPost_ret (by simp only [results, Try.results17]; go_simp; rfl) rfl ?_
    exact MeshO.no hv (by (repeat (first | exact Kept.refl _ | assumption | refine Kept.alloc ?_ _ | refine Kept.ext ?_ _ | refine Kept.drew ?_ | refine Kept.drewN ?_ _)))
  have HV := Lib.hid hv
  obtain ⟨n64, m96, hb, hf, -⟩ := validE_ok hv
  obtain ⟨e, he⟩ : ∃ e, validE n (mirP P) m (mirF F) = e := ⟨_, rfl⟩
  rw [show chgE n P m F (false) (mirP P) (mirF F) = e by unfold chgE; rw [if_neg (by simpa using hv), if_neg (by simp), he]]
  have HE := Lib.hid he
  clear he
  have HB := Lib.hid (ptsBad_at hb)
  clear hv hb hf hP hF
  go_enter Try.func17, Try.ntmps17
  go_wp2_with (go_at_call 24; refine (svalidate_any _ _ _ _ _ _ P F _ hn (HP.out.of (by (repeat (first | exact Kept.refl _ | assumption | refine Kept.alloc ?_ _ | refine Kept.ext ?_ _ | refine Kept.drew ?_ | refine Kept.drewN ?_ _)))) (HF.out.of (by (repeat (first | exact Kept.refl _ | assumption | refine Kept.alloc ?_ _ | refine Kept.ext ?_ _ | refine Kept.drew ?_ | refine Kept.drewN ?_ _))))).mono ?_; rintro e w1 ⟨rfl, x0, rfl⟩; rw [HV.out])
  refine (changed_mirror _ _ _ _ _ _ P F true (mirP P) (mirF F) _ (by omega) (HP.out.of (by (repeat (first | exact Kept.refl _ | assumption | refine Kept.alloc ?_ _ | refine Kept.ext ?_ _ | refine Kept.drew ?_ | refine Kept.drewN ?_ _)))) (HF.out.of (by (repeat (first | exact Kept.refl _ | assumption | refine Kept.alloc ?_ _ | refine Kept.ext ?_ _ | refine Kept.drew ?_ | refine Kept.drewN ?_ _)))) (mir_I HB.out) (fun _ _ _ _ => rfl) ?_).mono ?_
  · exact fun W i hi hk => cmirror_any _ _ _ _ (by have := HB.out i hi; omega)
  rw [HE.out]
  rintro r w1 ⟨A1, c1, B1, c2, rfl, ⟨x1, rfl⟩, ho1, ho2⟩
  have H1 := Lib.hid ho1
  have H2 := Lib.hid ho2
  clear ho1 ho2
  have HR := Lib.hid (fr_kept (alloc_now (w.alloc (.cells #[.slice A n cap, .slice B m cap2] 25)) (.cells #[.slice none 0 0, .slice none 0 0] 25) _) (by (repeat (first | exact Kept.refl _ | assumption | refine Kept.alloc ?_ _ | refine Kept.ext ?_ _ | refine Kept.drew ?_ | refine Kept.drewN ?_ _)) : Kept ((w.alloc (.cells #[.slice A n cap, .slice B m cap2] 25)).alloc (.cells #[.slice none 0 0, .slice none 0 0] 25)) (ext (ext ((w.alloc (.cells #[.slice A n cap, .slice B m cap2] 25)).alloc (.cells #[.slice none 0 0, .slice none 0 0] 25)) x0) x1)))
  obtain ⟨q1, q2, -, -⟩ := cells2 (setRow_heap _ _ _ #[.slice A1 (okN e n) c1, .slice B1 (okN e m) c2] _ _ HR.out)
  go_wp2_with (refine wpList_store_row rfl 25 (.tmp 2) (.tmp 13) rfl (w.heap.size + 1) _ rfl rfl _ _ HR.out (by kernel_rfl) rfl (by simp [Value.oneCell']) ?_)
  refine bodyPost_ret (by simp only [results, Try.results17]; go_simp; rfl) rfl ?_
  exact ⟨A1, c1, B1, c2, rfl, Kept.map_store (by (repeat (first | exact Kept.refl _ | assumption | refine Kept.alloc ?_ _ | refine Kept.ext ?_ _ | refine Kept.drew ?_ | refine Kept.drewN ?_ _)) : Kept w (ext (ext ((w.alloc (.cells #[.slice A n cap, .slice B m cap2] 25)).alloc (.cells #[.slice none 0 0, .slice none 0 0] 25)) x0) x1)) (by first | omega | (simp; try omega)) (grown_setRow _ _ _), own_mono (own_row _ H1.out HR.out (by decide)) (by first | omega | (simp [adv]; try omega)), own_mono (own_row _ H2.out HR.out (by decide)) (by first | omega | (simp [adv]; try omega))⟩
set_option maxRecDepth 100000 in
set_option maxHeartbeats 16000000 in
theorem smove_any (A B : Option Addr) (n cap m cap2 : Nat) (P F : Nat → Nat → Int) (v0 v1 v2 : Int) (w : World) (hn : n ≤ 9223372036854775807 ∧ m ≤ 9223372036854775807) (hP : RowsAt w A n 3 P) (hF : RowsAt w B m 3 F) :
    Calls Try.prog 10 #[.agg #[.slice A n cap, .slice B m cap2], .agg #[.int .i64 v0, .int .i64 v1, .int .i64 v2]] w fun r w' => MeshO w w' r (chgE n P m F (!(inB v0 v1 v2 128)) (movP P v0 v1 v2) F) n (movP P v0 v1 v2) m F := by
  have HP := Lib.hid hP
  have HF := Lib.hid hF
  by_cases hv : validE n P m F = 0
  case neg =>
    obtain ⟨e, he⟩ : ∃ e, validE n P m F = e := ⟨_, rfl⟩
    rw [show chgE n P m F (!(inB v0 v1 v2 128)) (movP P v0 v1 v2) F = e by unfold chgE; rw [if_pos hv, he]]
    rw [he] at hv
    have HV := Lib.hid he
    clear he hP hF
    have hv2 : (e == 0) = false := by simpa using hv
    have hv3 : decide (e = 0) = false := by simpa using hv
    go_enter Try.func10, Try.ntmps10
    go_wp2_with (go_at_call 24; refine (svalidate_any _ _ _ _ _ _ P F _ hn (HP.out.of (by (repeat (first | exact Kept.refl _ | assumption | refine Kept.alloc ?_ _ | refine Kept.ext ?_ _ | refine Kept.drew ?_ | refine Kept.drewN ?_ _)))) (HF.out.of (by (repeat (first | exact Kept.refl _ | assumption | refine Kept.alloc ?_ _ | refine Kept.ext ?_ _ | refine Kept.drew ?_ | refine Kept.drewN ?_ _))))).mono ?_; rintro e w1 ⟨rfl, x0, rfl⟩; rw [HV.out])
    refine bodyPost_ret (by simp only [results, Try.results10]; go_simp; rfl) rfl ?_
    exact MeshO.no hv (by (repeat (first | exact Kept.refl _ | assumption | refine Kept.alloc ?_ _ | refine Kept.ext ?_ _ | refine Kept.drew ?_ | refine Kept.drewN ?_ _)))
  have HV := Lib.hid hv
  cases hbad : inB v0 v1 v2 128
  case false =>
    rw [show chgE n P m F (!false) (movP P v0 v1 v2) F = 1 by unfold chgE; rw [if_neg (by simpa using hv), if_pos (by simp)]]
    have HD := Lib.hid hbad
    clear hv hbad hP hF
    go_enter Try.func10, Try.ntmps10
    go_wp2_with (first | (go_at_call 24; refine (svalidate_any _ _ _ _ _ _ P F _ hn (HP.out.of (by (repeat (first | exact Kept.refl _ | assumption | refine Kept.alloc ?_ _ | refine Kept.ext ?_ _ | refine Kept.drew ?_ | refine Kept.drewN ?_ _)))) (HF.out.of (by (repeat (first | exact Kept.refl _ | assumption | refine Kept.alloc ?_ _ | refine Kept.ext ?_ _ | refine Kept.drew ?_ | refine Kept.drewN ?_ _))))).mono ?_; rintro e w1 ⟨rfl, x0, rfl⟩; rw [HV.out]) | (go_at_call 34; refine (inRange_any _ _ _ _ _ (by omega)).mono ?_; rintro e w1 ⟨rfl, x8, rfl⟩; rw [HD.out]))
    refine bodyPost_ret (by simp only [results, Try.results10]; go_simp; rfl) rfl ?_
    exact MeshO.no (by omega) (by (repeat (first | exact Kept.refl _ | assumption | refine Kept.alloc ?_ _ | refine Kept.ext ?_ _ | refine Kept.drew ?_ | refine Kept.drewN ?_ _)))
  have HD := Lib.hid hbad
  obtain ⟨n64, m96, hb, hf, -⟩ := validE_ok hv
  obtain ⟨e, he⟩ : ∃ e, validE n (movP P v0 v1 v2) m F = e := ⟨_, rfl⟩
  rw [show chgE n P m F (!true) (movP P v0 v1 v2) F = e by unfold chgE; rw [if_neg (by simpa using hv), if_neg (by simp), he]]
  have HE := Lib.hid he
  clear he
  have HB := Lib.hid (ptsBad_at hb)
  have bv := inB_true hbad
  clear hv hb hf hP hF hbad
  go_enter Try.func10, Try.ntmps10
  go_wp2_with (first | (go_at_call 24; refine (svalidate_any _ _ _ _ _ _ P F _ hn (HP.out.of (by (repeat (first | exact Kept.refl _ | assumption | refine Kept.alloc ?_ _ | refine Kept.ext ?_ _ | refine Kept.drew ?_ | refine Kept.drewN ?_ _)))) (HF.out.of (by (repeat (first | exact Kept.refl _ | assumption | refine Kept.alloc ?_ _ | refine Kept.ext ?_ _ | refine Kept.drew ?_ | refine Kept.drewN ?_ _))))).mono ?_; rintro e w1 ⟨rfl, x0, rfl⟩; rw [HV.out]) | (go_at_call 34; refine (inRange_any _ _ _ _ _ (by omega)).mono ?_; rintro e w1 ⟨rfl, x8, rfl⟩; rw [HD.out]))
  refine (changed_move _ _ _ _ _ _ P F false _ (movP P v0 v1 v2) F _ (by omega) (HP.out.of (by (repeat (first | exact Kept.refl _ | assumption | refine Kept.alloc ?_ _ | refine Kept.ext ?_ _ | refine Kept.drew ?_ | refine Kept.drewN ?_ _)))) (HF.out.of (by (repeat (first | exact Kept.refl _ | assumption | refine Kept.alloc ?_ _ | refine Kept.ext ?_ _ | refine Kept.drew ?_ | refine Kept.drewN ?_ _)))) (mov_I (by omega) HB.out) (fun _ _ _ _ => rfl) ?_).mono ?_
  · exact fun W i hi hk => cmove_any _ _ _ v0 v1 v2 _ _ (by have := HB.out i hi; omega) (by omega) (fr_kept (fr_kept (alloc_now (w.alloc (.cells #[.slice A n cap, .slice B m cap2] 25)) (.cells #[.int .i64 v0, .int .i64 v1, .int .i64 v2] 27) _) (by (repeat (first | exact Kept.refl _ | assumption | refine Kept.alloc ?_ _ | refine Kept.ext ?_ _ | refine Kept.drew ?_ | refine Kept.drewN ?_ _)))) hk)
  rw [HE.out]
  rintro r w1 ⟨A1, c1, B1, c2, rfl, ⟨x1, rfl⟩, ho1, ho2⟩
  have H1 := Lib.hid ho1
  have H2 := Lib.hid ho2
  clear ho1 ho2
  have HR := Lib.hid (fr_kept (alloc_now ((w.alloc (.cells #[.slice A n cap, .slice B m cap2] 25)).alloc (.cells #[.int .i64 v0, .int .i64 v1, .int .i64 v2] 27)) (.cells #[.slice none 0 0, .slice none 0 0] 25) _) (by (repeat (first | exact Kept.refl _ | assumption | refine Kept.alloc ?_ _ | refine Kept.ext ?_ _ | refine Kept.drew ?_ | refine Kept.drewN ?_ _)) : Kept (((w.alloc (.cells #[.slice A n cap, .slice B m cap2] 25)).alloc (.cells #[.int .i64 v0, .int .i64 v1, .int .i64 v2] 27)).alloc (.cells #[.slice none 0 0, .slice none 0 0] 25)) (ext (ext (ext (((w.alloc (.cells #[.slice A n cap, .slice B m cap2] 25)).alloc (.cells #[.int .i64 v0, .int .i64 v1, .int .i64 v2] 27)).alloc (.cells #[.slice none 0 0, .slice none 0 0] 25)) x0) x8) x1)))
  obtain ⟨q1, q2, -, -⟩ := cells2 (setRow_heap _ _ _ #[.slice A1 (okN e n) c1, .slice B1 (okN e m) c2] _ _ HR.out)
  go_wp2_with (refine wpList_store_row rfl 25 (.tmp 4) (.tmp 20) rfl (w.heap.size + 1 + 1) _ rfl rfl _ _ HR.out (by kernel_rfl) rfl (by simp [Value.oneCell']) ?_)
  refine bodyPost_ret (by simp only [results, Try.results10]; go_simp; rfl) rfl ?_
  exact ⟨A1, c1, B1, c2, rfl, Kept.map_store (by (repeat (first | exact Kept.refl _ | assumption | refine Kept.alloc ?_ _ | refine Kept.ext ?_ _ | refine Kept.drew ?_ | refine Kept.drewN ?_ _)) : Kept w (ext (ext (ext (((w.alloc (.cells #[.slice A n cap, .slice B m cap2] 25)).alloc (.cells #[.int .i64 v0, .int .i64 v1, .int .i64 v2] 27)).alloc (.cells #[.slice none 0 0, .slice none 0 0] 25)) x0) x8) x1)) (by first | omega | (simp; try omega)) (grown_setRow _ _ _), own_mono (own_row _ H1.out HR.out (by decide)) (by first | omega | (simp [adv]; try omega)), own_mono (own_row _ H2.out HR.out (by decide)) (by first | omega | (simp [adv]; try omega))⟩
set_option maxRecDepth 100000 in
set_option maxHeartbeats 16000000 in
theorem sscale2_any (A B : Option Addr) (n cap m cap2 : Nat) (P F : Nat → Nat → Int) (k0 : Int) (w : World) (hn : n ≤ 9223372036854775807 ∧ m ≤ 9223372036854775807) (hP : RowsAt w A n 3 P) (hF : RowsAt w B m 3 F) :
    Calls Try.prog 13 #[.agg #[.slice A n cap, .slice B m cap2], .int .i64 k0] w fun r w' => MeshO w w' r (chgE n P m F (!(frB k0 1 128)) (sclP P k0) F) n (sclP P k0) m F := by
  have HP := Lib.hid hP
  have HF := Lib.hid hF
  by_cases hv : validE n P m F = 0
  case neg =>
    obtain ⟨e, he⟩ : ∃ e, validE n P m F = e := ⟨_, rfl⟩
    rw [show chgE n P m F (!(frB k0 1 128)) (sclP P k0) F = e by unfold chgE; rw [if_pos hv, he]]
    rw [he] at hv
    have HV := Lib.hid he
    clear he hP hF
    have hv2 : (e == 0) = false := by simpa using hv
    have hv3 : decide (e = 0) = false := by simpa using hv
    go_enter Try.func13, Try.ntmps13
    go_wp2_with (go_at_call 24; refine (svalidate_any _ _ _ _ _ _ P F _ hn (HP.out.of (by (repeat (first | exact Kept.refl _ | assumption | refine Kept.alloc ?_ _ | refine Kept.ext ?_ _ | refine Kept.drew ?_ | refine Kept.drewN ?_ _)))) (HF.out.of (by (repeat (first | exact Kept.refl _ | assumption | refine Kept.alloc ?_ _ | refine Kept.ext ?_ _ | refine Kept.drew ?_ | refine Kept.drewN ?_ _))))).mono ?_; rintro e w1 ⟨rfl, x0, rfl⟩; rw [HV.out])
    refine bodyPost_ret (by simp only [results, Try.results13]; go_simp; rfl) rfl ?_
    exact MeshO.no hv (by (repeat (first | exact Kept.refl _ | assumption | refine Kept.alloc ?_ _ | refine Kept.ext ?_ _ | refine Kept.drew ?_ | refine Kept.drewN ?_ _)))
  have HV := Lib.hid hv
  cases hbad : frB k0 1 128
  case false =>
    rw [show chgE n P m F (!false) (sclP P k0) F = 1 by unfold chgE; rw [if_neg (by simpa using hv), if_pos (by simp)]]
    have HD := Lib.hid hbad
    clear hv hbad hP hF
    go_enter Try.func13, Try.ntmps13
    go_wp2_with (first | (go_at_call 24; refine (svalidate_any _ _ _ _ _ _ P F _ hn (HP.out.of (by (repeat (first | exact Kept.refl _ | assumption | refine Kept.alloc ?_ _ | refine Kept.ext ?_ _ | refine Kept.drew ?_ | refine Kept.drewN ?_ _)))) (HF.out.of (by (repeat (first | exact Kept.refl _ | assumption | refine Kept.alloc ?_ _ | refine Kept.ext ?_ _ | refine Kept.drew ?_ | refine Kept.drewN ?_ _))))).mono ?_; rintro e w1 ⟨rfl, x0, rfl⟩; rw [HV.out]) | (go_at_call 37; refine (sfrom_any _ _ _ _).mono ?_; rintro e w1 ⟨rfl, rfl⟩; rw [HD.out]))
    refine bodyPost_ret (by simp only [results, Try.results13]; go_simp; rfl) rfl ?_
    exact MeshO.no (by omega) (by (repeat (first | exact Kept.refl _ | assumption | refine Kept.alloc ?_ _ | refine Kept.ext ?_ _ | refine Kept.drew ?_ | refine Kept.drewN ?_ _)))
  have HD := Lib.hid hbad
  obtain ⟨n64, m96, hb, hf, -⟩ := validE_ok hv
  obtain ⟨e, he⟩ : ∃ e, validE n (sclP P k0) m F = e := ⟨_, rfl⟩
  rw [show chgE n P m F (!true) (sclP P k0) F = e by unfold chgE; rw [if_neg (by simpa using hv), if_neg (by simp), he]]
  have HE := Lib.hid he
  clear he
  have HB := Lib.hid (ptsBad_at hb)
  have bv := frB_true hbad
  clear hv hb hf hP hF hbad
  go_enter Try.func13, Try.ntmps13
  go_wp2_with (first | (go_at_call 24; refine (svalidate_any _ _ _ _ _ _ P F _ hn (HP.out.of (by (repeat (first | exact Kept.refl _ | assumption | refine Kept.alloc ?_ _ | refine Kept.ext ?_ _ | refine Kept.drew ?_ | refine Kept.drewN ?_ _)))) (HF.out.of (by (repeat (first | exact Kept.refl _ | assumption | refine Kept.alloc ?_ _ | refine Kept.ext ?_ _ | refine Kept.drew ?_ | refine Kept.drewN ?_ _))))).mono ?_; rintro e w1 ⟨rfl, x0, rfl⟩; rw [HV.out]) | (go_at_call 37; refine (sfrom_any _ _ _ _).mono ?_; rintro e w1 ⟨rfl, rfl⟩; rw [HD.out]))
  refine (changed_scale _ _ _ _ _ _ P F false _ (sclP P k0) F _ (by omega) (HP.out.of (by (repeat (first | exact Kept.refl _ | assumption | refine Kept.alloc ?_ _ | refine Kept.ext ?_ _ | refine Kept.drew ?_ | refine Kept.drewN ?_ _)))) (HF.out.of (by (repeat (first | exact Kept.refl _ | assumption | refine Kept.alloc ?_ _ | refine Kept.ext ?_ _ | refine Kept.drew ?_ | refine Kept.drewN ?_ _)))) (scl_I (by omega) HB.out) (fun _ _ _ _ => rfl) ?_).mono ?_
  · exact fun W i hi hk => cscale_any _ _ _ k0 _ _ (by have := HB.out i hi; omega) (by omega) (fr_kept (fr_kept (alloc_now (w.alloc (.cells #[.slice A n cap, .slice B m cap2] 25)) (.cells #[.int .i64 k0] 3) _) (by (repeat (first | exact Kept.refl _ | assumption | refine Kept.alloc ?_ _ | refine Kept.ext ?_ _ | refine Kept.drew ?_ | refine Kept.drewN ?_ _)))) hk)
  rw [HE.out]
  rintro r w1 ⟨A1, c1, B1, c2, rfl, ⟨x1, rfl⟩, ho1, ho2⟩
  have H1 := Lib.hid ho1
  have H2 := Lib.hid ho2
  clear ho1 ho2
  have HR := Lib.hid (fr_kept (alloc_now ((w.alloc (.cells #[.slice A n cap, .slice B m cap2] 25)).alloc (.cells #[.int .i64 k0] 3)) (.cells #[.slice none 0 0, .slice none 0 0] 25) _) (by (repeat (first | exact Kept.refl _ | assumption | refine Kept.alloc ?_ _ | refine Kept.ext ?_ _ | refine Kept.drew ?_ | refine Kept.drewN ?_ _)) : Kept (((w.alloc (.cells #[.slice A n cap, .slice B m cap2] 25)).alloc (.cells #[.int .i64 k0] 3)).alloc (.cells #[.slice none 0 0, .slice none 0 0] 25)) (ext (ext (((w.alloc (.cells #[.slice A n cap, .slice B m cap2] 25)).alloc (.cells #[.int .i64 k0] 3)).alloc (.cells #[.slice none 0 0, .slice none 0 0] 25)) x0) x1)))
  obtain ⟨q1, q2, -, -⟩ := cells2 (setRow_heap _ _ _ #[.slice A1 (okN e n) c1, .slice B1 (okN e m) c2] _ _ HR.out)
  go_wp2_with (refine wpList_store_row rfl 25 (.tmp 4) (.tmp 20) rfl (w.heap.size + 1 + 1) _ rfl rfl _ _ HR.out (by kernel_rfl) rfl (by simp [Value.oneCell']) ?_)
  refine bodyPost_ret (by simp only [results, Try.results13]; go_simp; rfl) rfl ?_
  exact ⟨A1, c1, B1, c2, rfl, Kept.map_store (by (repeat (first | exact Kept.refl _ | assumption | refine Kept.alloc ?_ _ | refine Kept.ext ?_ _ | refine Kept.drew ?_ | refine Kept.drewN ?_ _)) : Kept w (ext (ext (((w.alloc (.cells #[.slice A n cap, .slice B m cap2] 25)).alloc (.cells #[.int .i64 k0] 3)).alloc (.cells #[.slice none 0 0, .slice none 0 0] 25)) x0) x1)) (by first | omega | (simp; try omega)) (grown_setRow _ _ _), own_mono (own_row _ H1.out HR.out (by decide)) (by first | omega | (simp [adv]; try omega)), own_mono (own_row _ H2.out HR.out (by decide)) (by first | omega | (simp [adv]; try omega))⟩
end Go.Proofs.Ytbhcjdgfcinpcaa
