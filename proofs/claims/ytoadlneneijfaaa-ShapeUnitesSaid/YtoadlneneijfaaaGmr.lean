/- Contracts: a mesh turned, scaled, moved, mirrored, of the reference. Conditions: the lists' lengths are ints. -/
import Derived.Test.YtoadlneneijfaaaGmp
import Derived.Test.YtoadlneneijfaaaGvl
namespace Go.Proofs.Ytoadlneneijfaaa
set_option linter.unusedVariables false
set_option linter.unusedSimpArgs false
open Go.RowKit Go.Deep
theorem turn_I {P : Nat → Nat → Int} {n : Nat} (h : ∀ i, i < n → -64 ≤ P i 0 ∧ P i 0 ≤ 64 ∧ -64 ≤ P i 1 ∧ P i 1 ≤ 64 ∧ -64 ≤ P i 2 ∧ P i 2 ≤ 64) : ∀ k, k < n → ∀ j, j < 3 → I64 (turnP P k j) := by
  intro k hk j hj
  have := h k hk
  unfold turnP I64
  rcases (show j = 0 ∨ j = 1 ∨ j = 2 by omega) with rfl | rfl | rfl <;> simp <;> omega
theorem mir_I {P : Nat → Nat → Int} {n : Nat} (h : ∀ i, i < n → -64 ≤ P i 0 ∧ P i 0 ≤ 64 ∧ -64 ≤ P i 1 ∧ P i 1 ≤ 64 ∧ -64 ≤ P i 2 ∧ P i 2 ≤ 64) : ∀ k, k < n → ∀ j, j < 3 → I64 (mirP P k j) := by
  intro k hk j hj
  have := h k hk
  unfold mirP I64
  rcases (show j = 0 ∨ j = 1 ∨ j = 2 by omega) with rfl | rfl | rfl <;> simp <;> omega
theorem mov_I {P : Nat → Nat → Int} {n : Nat} {v0 v1 v2 : Int} (hv : (-128 ≤ v0 ∧ v0 ≤ 128) ∧ (-128 ≤ v1 ∧ v1 ≤ 128) ∧ (-128 ≤ v2 ∧ v2 ≤ 128)) (h : ∀ i, i < n → -64 ≤ P i 0 ∧ P i 0 ≤ 64 ∧ -64 ≤ P i 1 ∧ P i 1 ≤ 64 ∧ -64 ≤ P i 2 ∧ P i 2 ≤ 64) : ∀ k, k < n → ∀ j, j < 3 → I64 (movP P v0 v1 v2 k j) := by
  intro k hk j hj
  have := h k hk
  unfold movP I64
  rcases (show j = 0 ∨ j = 1 ∨ j = 2 by omega) with rfl | rfl | rfl <;> simp <;> omega
theorem scl_I {P : Nat → Nat → Int} {n : Nat} {k0 : Int} (hv : -128 ≤ k0 ∧ k0 ≤ 128) (h : ∀ i, i < n → -64 ≤ P i 0 ∧ P i 0 ≤ 64 ∧ -64 ≤ P i 1 ∧ P i 1 ≤ 64 ∧ -64 ≤ P i 2 ∧ P i 2 ≤ 64) : ∀ k, k < n → ∀ j, j < 3 → I64 (sclP P k0 k j) := by
  intro k hk j hj
  have := h k hk
  have q0 := mul_bd 8192 hv (show -64 ≤ P k 0 ∧ P k 0 ≤ 64 by omega) rfl
  have q1 := mul_bd 8192 hv (show -64 ≤ P k 1 ∧ P k 1 ≤ 64 by omega) rfl
  have q2 := mul_bd 8192 hv (show -64 ≤ P k 2 ∧ P k 2 ≤ 64 by omega) rfl
  unfold sclP I64
  rcases (show j = 0 ∨ j = 1 ∨ j = 2 by omega) with rfl | rfl | rfl <;> omega
theorem mirF_I {F : Nat → Nat → Int} {m : Nat} (h : ∀ k, k < m → ∀ j, j < 3 → I64 (F k j)) : ∀ k, k < m → ∀ j, j < 3 → I64 (mirF F k j) := by
  intro k hk j hj
  unfold mirF
  rcases (show j = 0 ∨ j = 1 ∨ j = 2 by omega) with rfl | rfl | rfl
  · exact h k hk 0 (by omega)
  · exact h k hk 2 (by omega)
  · exact h k hk 1 (by omega)
theorem r2timesX_any (a0 a1 a2 k : Int) (w : World) (h : (-1099511627776 ≤ k * a0 ∧ k * a0 ≤ 1099511627776) ∧ (-1099511627776 ≤ k * a1 ∧ k * a1 ≤ 1099511627776) ∧ (-1099511627776 ≤ k * a2 ∧ k * a2 ≤ 1099511627776)) :
    Calls Try.prog 24 #[.agg #[.int .i64 a0, .int .i64 a1, .int .i64 a2], .int .i64 k] w fun e w' => e = .returned (.agg #[.int .i64 (k * a0), .int .i64 (k * a1), .int .i64 (k * a2)]) ∧ Kept w w' := by
  obtain ⟨⟨h0, h1⟩, ⟨h2, h3⟩, h4, h5⟩ := h
  go_enter Try.func24, Try.ntmps24
  go_wp2
  refine bodyPost_ret (by simp only [results, Try.results24]; go_simp; rfl) rfl ?_
  exact ⟨rfl, by (repeat (first | exact Kept.refl _ | assumption | refine Kept.alloc ?_ _ | refine Kept.ext ?_ _ | refine Kept.drew ?_ | refine Kept.drewN ?_ _))⟩
theorem mir_put {P : Nat → Nat → Int} {n k : Nat} : ∀ i, i < n → ∀ j, j < 3 → setF (mixF k (mirP P) P) k 0 (-P k 0) i j = mixF (k + 1) (mirP P) P i j := by
  intro i _ j hj
  unfold setF mixF mirP
  by_cases q : i = k
  · subst q
    rcases (show j = 0 ∨ j = 1 ∨ j = 2 by omega) with rfl | rfl | rfl <;> simp
  · rw [if_neg (fun h => q h.1)]
    by_cases q2 : i < k
    · rw [if_pos q2, if_pos (show i < k + 1 by omega)]
    · rw [if_neg q2, if_neg (show ¬ i < k + 1 by omega)]
set_option maxRecDepth 100000 in
set_option maxHeartbeats 16000000 in
theorem r2turn_any (A B : Option Addr) (n cap m cap2 : Nat) (P F : Nat → Nat → Int) (w : World) (hn : n ≤ 9223372036854775807 ∧ m ≤ 9223372036854775807) (hP : RowsAt w A n 3 P) (hF : RowsAt w B m 3 F) :
    Calls Try.prog 34 #[.agg #[.slice A n cap, .slice B m cap2]] w fun r w' => MeshO w w' r (chgE n P m F (false) (turnP P) F) n (turnP P) m F := by
  have HP := Lib.hid hP
  have HF := Lib.hid hF
  by_cases hv : validE n P m F = 0
  case neg =>
    obtain ⟨e, he⟩ : ∃ e, validE n P m F = e := ⟨_, rfl⟩
    rw [show chgE n P m F (false) (turnP P) F = e by unfold chgE; rw [if_pos hv, he]]
    rw [he] at hv
    have HV := Lib.hid he
    clear he hP hF
    have hv2 : (e == 0) = false := by simpa using hv
    have hv3 : decide (e = 0) = false := by simpa using hv
    go_enter Try.func34, Try.ntmps34
    go_wp2_with (go_at_call 31; refine (r2validate_any _ _ _ _ _ _ P F _ hn (HP.out.of (by (repeat (first | exact Kept.refl _ | assumption | refine Kept.alloc ?_ _ | refine Kept.ext ?_ _ | refine Kept.drew ?_ | refine Kept.drewN ?_ _)))) (HF.out.of (by (repeat (first | exact Kept.refl _ | assumption | refine Kept.alloc ?_ _ | refine Kept.ext ?_ _ | refine Kept.drew ?_ | refine Kept.drewN ?_ _))))).mono ?_; rintro e w1 ⟨rfl, x0, rfl⟩; rw [HV.out])
    refine bodyPost_ret (by simp only [results, Try.results34]; go_simp; rfl) rfl ?_
    exact MeshO.no hv (by (repeat (first | exact Kept.refl _ | assumption | refine Kept.alloc ?_ _ | refine Kept.ext ?_ _ | refine Kept.drew ?_ | refine Kept.drewN ?_ _)))
  have HV := Lib.hid hv
  obtain ⟨n64, m96, hb, hf, -⟩ := validE_ok hv
  obtain ⟨e, he⟩ : ∃ e, validE n (turnP P) m F = e := ⟨_, rfl⟩
  rw [show chgE n P m F (false) (turnP P) F = e by unfold chgE; rw [if_neg (by simpa using hv), if_neg (by simp), he]]
  have HE := Lib.hid he
  have HB := Lib.hid (ptsBad_at hb)
  have HFI := Lib.hid (rows_I hF)
  clear hv hb hf he hP hF
  go_enter Try.func34, Try.ntmps34
  go_wp2_with (go_at_call 31; refine (r2validate_any _ _ _ _ _ _ P F _ hn (HP.out.of (by (repeat (first | exact Kept.refl _ | assumption | refine Kept.alloc ?_ _ | refine Kept.ext ?_ _ | refine Kept.drew ?_ | refine Kept.drewN ?_ _)))) (HF.out.of (by (repeat (first | exact Kept.refl _ | assumption | refine Kept.alloc ?_ _ | refine Kept.ext ?_ _ | refine Kept.drew ?_ | refine Kept.drewN ?_ _))))).mono ?_; rintro e w1 ⟨rfl, x0, rfl⟩; rw [HV.out])
  refine (r2copy_any _ _ _ _ _ _ P F _ (by omega) (HP.out.of (by (repeat (first | exact Kept.refl _ | assumption | refine Kept.alloc ?_ _ | refine Kept.ext ?_ _ | refine Kept.drew ?_ | refine Kept.drewN ?_ _)))) (HF.out.of (by (repeat (first | exact Kept.refl _ | assumption | refine Kept.alloc ?_ _ | refine Kept.ext ?_ _ | refine Kept.drew ?_ | refine Kept.drewN ?_ _))))).mono ?_
  rintro r w1 ⟨vP, vF, rfl, ⟨x1, rfl⟩, ho1, ho2⟩
  obtain ⟨A1, c1, rfl⟩ := own_slice2 ho1
  obtain ⟨B1, c2, rfl⟩ := own_slice2 ho2
  have H1 := Lib.hid ho1
  have H2 := Lib.hid ho2
  clear ho1 ho2
  go_wp2_with fail
  go_loopw [6] (fun i wr => ∃ k : Nat, k ≤ n ∧ i = .int .i64 k ∧ Msh2 (w.alloc (.cells #[.slice A n cap, .slice B m cap2] 25)) (w.heap.size + 1) (adv (adv (w.heap.size + 1 + 1) x0.obs.size) x1.obs.size) (.slice A1 n c1) n (mixF k (turnP P) P) (.slice B1 m c2) m F wr) (fun i _ => n - (intOf i).toNat)
  case atStart =>
    refine ⟨0, by omega, rfl, Msh2.congr ⟨by (repeat (first | exact Kept.refl _ | assumption | refine Kept.alloc ?_ _ | refine Kept.ext ?_ _ | refine Kept.drew ?_ | refine Kept.drewN ?_ _)), ?_, ?_, own_mono (owns_kept H1.out (by (repeat (first | exact Kept.refl _ | assumption | refine Kept.alloc ?_ _ | refine Kept.ext ?_ _ | refine Kept.drew ?_ | refine Kept.drewN ?_ _)))) ?_, own_mono (owns_kept H2.out (by (repeat (first | exact Kept.refl _ | assumption | refine Kept.alloc ?_ _ | refine Kept.ext ?_ _ | refine Kept.drew ?_ | refine Kept.drewN ?_ _)))) ?_⟩ mix_none (fun _ _ _ _ => rfl)⟩
    · exact fr_kept (alloc_now (w.alloc (.cells #[.slice A n cap, .slice B m cap2] 25)) _ _) (by (repeat (first | exact Kept.refl _ | assumption | refine Kept.alloc ?_ _ | refine Kept.ext ?_ _ | refine Kept.drew ?_ | refine Kept.drewN ?_ _)))
    · exact alloc_at2 _ _ _
    · simp [adv]; omega
    · simp [adv]; omega
  case round =>
    obtain ⟨k, hk, rfl, hM⟩ := hrel
    by_cases hlt : k < n
    · obtain ⟨g, rfl, hg1, hg2⟩ := own_head hM.p (by omega)
      obtain ⟨m0, m1, -, -⟩ := cells2 hM.q
      obtain ⟨f0, f1, f2⟩ := own_cells hM.p hlt
      rw [mix_at] at f0 f1 f2
      have LM : Lower (adv (adv (w.heap.size + 1 + 1) x0.obs.size) x1.obs.size) wr.heap.size := ⟨cell_lt m0⟩
      have LG : Lower g wr.heap.size := ⟨hg2⟩
      have bp := HB.out k hlt
      have HM := Lib.hid hM
      clear hM hg1 hg2
      go_wp2_with (refine wpList_store_mid rfl 34 (.tmp 39) (.tmp 38) rfl g (k * 3) #[.int .i64 (-P k 1), .int .i64 (P k 0), .int .i64 (P k 2)] (by rfl) (by rfl) (own_there (owns_kept HM.out.p (by (repeat (first | exact Kept.refl _ | assumption | refine Kept.alloc ?_ _ | refine Kept.ext ?_ _ | refine Kept.drew ?_ | refine Kept.drewN ?_ _)))) hlt) (by kernel_rfl) (by simp [Value.oneCell']) ?_)
      go_roundw
      case rel => exact ⟨k + 1, by omega, by go_num, ((HM.out.on (by (repeat (first | exact Kept.refl _ | assumption | refine Kept.alloc ?_ _ | refine Kept.ext ?_ _ | refine Kept.drew ?_ | refine Kept.drewN ?_ _)))).putP hlt _ _ _).congr (mix_put rfl rfl rfl) (fun _ _ _ _ => rfl)⟩
      case measure => simp [intOf]; omega
    · obtain rfl : k = n := by omega
      have hM := hM.congr mix_all (fun _ _ _ _ => rfl)
      obtain ⟨m0, m1, -, -⟩ := cells2 hM.q
      have LM : Lower (adv (adv (w.heap.size + 1 + 1) x0.obs.size) x1.obs.size) wr.heap.size := ⟨cell_lt m0⟩
      have HM := Lib.hid hM
      clear hM hlt
      go_wp2_with fail
      refine (r2toldK_any _ _ _ _ _ _ (turnP P) F _ hn (rows_of_owns HM.out.p (turn_I HB.out)) (rows_of_owns HM.out.f HFI.out)).mono ?_
      rintro r w1 ⟨rfl, x9, rfl⟩
      rw [HE.out]
      have HR := Lib.hid (fr_kept HM.out.r (by (repeat (first | exact Kept.refl _ | assumption | refine Kept.alloc ?_ _ | refine Kept.ext ?_ _ | refine Kept.drew ?_ | refine Kept.drewN ?_ _)) : Kept wr (ext wr x9)))
      obtain ⟨q1, q2, -, -⟩ := cells2 (setRow_heap _ _ _ #[.slice (okA e A1) (okN e k) (okN e c1), .slice (okA e B1) (okN e m) (okN e c2)] _ _ HR.out)
      go_wp2_with (refine wpList_store_row rfl 25 (.tmp 2) (.tmp 42) rfl (w.heap.size + 1) _ rfl rfl _ _ HR.out (by kernel_rfl) rfl (by simp [Value.oneCell']) ?_)
      refine bodyPost_ret (by simp only [results, Try.results34]; go_simp; rfl) rfl ?_
      exact HM.out.fin (by (repeat (first | exact Kept.refl _ | assumption | refine Kept.alloc ?_ _ | refine Kept.ext ?_ _ | refine Kept.drew ?_ | refine Kept.drewN ?_ _))) e (by (repeat (first | exact Kept.refl _ | assumption | refine Kept.alloc ?_ _ | refine Kept.ext ?_ _ | refine Kept.drew ?_ | refine Kept.drewN ?_ _))) (by simp)
set_option maxRecDepth 100000 in
set_option maxHeartbeats 16000000 in
theorem r2mirror_any (A B : Option Addr) (n cap m cap2 : Nat) (P F : Nat → Nat → Int) (w : World) (hn : n ≤ 9223372036854775807 ∧ m ≤ 9223372036854775807) (hP : RowsAt w A n 3 P) (hF : RowsAt w B m 3 F) :
    Calls Try.prog 36 #[.agg #[.slice A n cap, .slice B m cap2]] w fun r w' => MeshO w w' r (chgE n P m F (false) (mirP P) (mirF F)) n (mirP P) m (mirF F) := by
  have HP := Lib.hid hP
  have HF := Lib.hid hF
  by_cases hv : validE n P m F = 0
  case neg =>
    obtain ⟨e, he⟩ : ∃ e, validE n P m F = e := ⟨_, rfl⟩
    rw [show chgE n P m F (false) (mirP P) (mirF F) = e by unfold chgE; rw [if_pos hv, he]]
    rw [he] at hv
    have HV := Lib.hid he
    clear he hP hF
    have hv2 : (e == 0) = false := by simpa using hv
    have hv3 : decide (e = 0) = false := by simpa using hv
    go_enter Try.func36, Try.ntmps36
    go_wp2_with (go_at_call 31; refine (r2validate_any _ _ _ _ _ _ P F _ hn (HP.out.of (by (repeat (first | exact Kept.refl _ | assumption | refine Kept.alloc ?_ _ | refine Kept.ext ?_ _ | refine Kept.drew ?_ | refine Kept.drewN ?_ _)))) (HF.out.of (by (repeat (first | exact Kept.refl _ | assumption | refine Kept.alloc ?_ _ | refine Kept.ext ?_ _ | refine Kept.drew ?_ | refine Kept.drewN ?_ _))))).mono ?_; rintro e w1 ⟨rfl, x0, rfl⟩; rw [HV.out])
    refine bodyPost_ret (by simp only [results, Try.results36]; go_simp; rfl) rfl ?_
    exact MeshO.no hv (by (repeat (first | exact Kept.refl _ | assumption | refine Kept.alloc ?_ _ | refine Kept.ext ?_ _ | refine Kept.drew ?_ | refine Kept.drewN ?_ _)))
  have HV := Lib.hid hv
  obtain ⟨n64, m96, hb, hf, -⟩ := validE_ok hv
  obtain ⟨e, he⟩ : ∃ e, validE n (mirP P) m (mirF F) = e := ⟨_, rfl⟩
  rw [show chgE n P m F (false) (mirP P) (mirF F) = e by unfold chgE; rw [if_neg (by simpa using hv), if_neg (by simp), he]]
  have HE := Lib.hid he
  have HB := Lib.hid (ptsBad_at hb)
  have HFI := Lib.hid (rows_I hF)
  have HC := Lib.hid (corn_of hf)
  clear hv hb hf he hP hF
  go_enter Try.func36, Try.ntmps36
  go_wp2_with (go_at_call 31; refine (r2validate_any _ _ _ _ _ _ P F _ hn (HP.out.of (by (repeat (first | exact Kept.refl _ | assumption | refine Kept.alloc ?_ _ | refine Kept.ext ?_ _ | refine Kept.drew ?_ | refine Kept.drewN ?_ _)))) (HF.out.of (by (repeat (first | exact Kept.refl _ | assumption | refine Kept.alloc ?_ _ | refine Kept.ext ?_ _ | refine Kept.drew ?_ | refine Kept.drewN ?_ _))))).mono ?_; rintro e w1 ⟨rfl, x0, rfl⟩; rw [HV.out])
  refine (r2copy_any _ _ _ _ _ _ P F _ (by omega) (HP.out.of (by (repeat (first | exact Kept.refl _ | assumption | refine Kept.alloc ?_ _ | refine Kept.ext ?_ _ | refine Kept.drew ?_ | refine Kept.drewN ?_ _)))) (HF.out.of (by (repeat (first | exact Kept.refl _ | assumption | refine Kept.alloc ?_ _ | refine Kept.ext ?_ _ | refine Kept.drew ?_ | refine Kept.drewN ?_ _))))).mono ?_
  rintro r w1 ⟨vP, vF, rfl, ⟨x1, rfl⟩, ho1, ho2⟩
  obtain ⟨A1, c1, rfl⟩ := own_slice2 ho1
  obtain ⟨B1, c2, rfl⟩ := own_slice2 ho2
  have H1 := Lib.hid ho1
  have H2 := Lib.hid ho2
  clear ho1 ho2
  go_wp2_with fail
  go_loopw [6] (fun i wr => ∃ k : Nat, k ≤ n ∧ i = .int .i64 k ∧ Msh2 (w.alloc (.cells #[.slice A n cap, .slice B m cap2] 25)) (w.heap.size + 1) (adv (adv (w.heap.size + 1 + 1) x0.obs.size) x1.obs.size) (.slice A1 n c1) n (mixF k (mirP P) P) (.slice B1 m c2) m F wr) (fun i _ => n - (intOf i).toNat)
  case atStart =>
    refine ⟨0, by omega, rfl, Msh2.congr ⟨by (repeat (first | exact Kept.refl _ | assumption | refine Kept.alloc ?_ _ | refine Kept.ext ?_ _ | refine Kept.drew ?_ | refine Kept.drewN ?_ _)), ?_, ?_, own_mono (owns_kept H1.out (by (repeat (first | exact Kept.refl _ | assumption | refine Kept.alloc ?_ _ | refine Kept.ext ?_ _ | refine Kept.drew ?_ | refine Kept.drewN ?_ _)))) ?_, own_mono (owns_kept H2.out (by (repeat (first | exact Kept.refl _ | assumption | refine Kept.alloc ?_ _ | refine Kept.ext ?_ _ | refine Kept.drew ?_ | refine Kept.drewN ?_ _)))) ?_⟩ mix_none (fun _ _ _ _ => rfl)⟩
    · exact fr_kept (alloc_now (w.alloc (.cells #[.slice A n cap, .slice B m cap2] 25)) _ _) (by (repeat (first | exact Kept.refl _ | assumption | refine Kept.alloc ?_ _ | refine Kept.ext ?_ _ | refine Kept.drew ?_ | refine Kept.drewN ?_ _)))
    · exact alloc_at2 _ _ _
    · simp [adv]; omega
    · simp [adv]; omega
  case round =>
    obtain ⟨k, hk, rfl, hM⟩ := hrel
    by_cases hlt : k < n
    · obtain ⟨g, rfl, hg1, hg2⟩ := own_head hM.p (by omega)
      obtain ⟨m0, m1, -, -⟩ := cells2 hM.q
      obtain ⟨f0, f1, f2⟩ := own_cells hM.p hlt
      rw [mix_at] at f0 f1 f2
      have LM : Lower (adv (adv (w.heap.size + 1 + 1) x0.obs.size) x1.obs.size) wr.heap.size := ⟨cell_lt m0⟩
      have LG : Lower g wr.heap.size := ⟨hg2⟩
      have fz : wr.frozen? ⟨g, k * 3, none⟩ = false := by have := hM.p.frozenAt (k * 3); exact this
      have bp := HB.out k hlt
      have HM := Lib.hid hM
      clear hM hg1 hg2
      go_wp2_with fail
      ((first | refine wp_region_tail 10 (by kernel_rfl) (by kernel_rfl) ?_); simp only [List.take_succ_cons, List.take_zero, List.drop_succ_cons, List.drop_zero]; (repeat (go_big_quiet_step (first | fail))); refine wpQuiet_nil ?_; intro x)
      go_wp2_with fail
      go_roundw
      case rel => exact ⟨k + 1, by omega, by go_num, ((HM.out.setP hlt (j := 0) (by omega) _).on (by (repeat (first | exact Kept.refl _ | assumption | refine Kept.alloc ?_ _ | refine Kept.ext ?_ _ | refine Kept.drew ?_ | refine Kept.drewN ?_ _)))).congr mir_put (fun _ _ _ _ => rfl)⟩
      case measure => simp [intOf]; omega
    · obtain rfl : k = n := by omega
      have hM := hM.congr mix_all (mix_none (P' := mirF F))
      have HM := Lib.hid hM
      obtain ⟨m0, m1, -, -⟩ := cells2 hM.q
      have LM : Lower (adv (adv (w.heap.size + 1 + 1) x0.obs.size) x1.obs.size) wr.heap.size := ⟨cell_lt m0⟩
      clear hM hlt
      go_wp2_with fail
      go_loopw [7] (fun i wr => ∃ q : Nat, q ≤ m ∧ i = .int .i64 q ∧ Msh2 (w.alloc (.cells #[.slice A k cap, .slice B m cap2] 25)) (w.heap.size + 1) (adv (adv (w.heap.size + 1 + 1) x0.obs.size) x1.obs.size) (.slice A1 k c1) k (mirP P) (.slice B1 m c2) m (mixF q (mirF F) F) wr) (fun i _ => m - (intOf i).toNat)
      case atStart => exact ⟨0, by omega, rfl, HM.out.on (by (repeat (first | exact Kept.refl _ | assumption | refine Kept.alloc ?_ _ | refine Kept.ext ?_ _ | refine Kept.drew ?_ | refine Kept.drewN ?_ _)))⟩
      clear HM m0 m1 LM
      case round =>
        obtain ⟨q, hq, rfl, hM⟩ := hrel
        by_cases hlt : q < m
        · obtain ⟨g, rfl, hg1, hg2⟩ := own_head hM.f (by omega)
          obtain ⟨m0, m1, -, -⟩ := cells2 hM.q
          obtain ⟨f0, f1, f2⟩ := own_cells hM.f hlt
          rw [mix_at] at f0 f1 f2
          have LM : Lower (adv (adv (w.heap.size + 1 + 1) x0.obs.size) x1.obs.size) wr.heap.size := ⟨cell_lt m0⟩
          have LG : Lower g wr.heap.size := ⟨hg2⟩
          have HM := Lib.hid hM
          clear hM hg1 hg2
          go_wp2_with (refine wpList_store_mid rfl 54 (.tmp 58) (.tmp 57) rfl g (q * 3) #[.int .i64 (F q 0), .int .i64 (F q 2), .int .i64 (F q 1)] (by rfl) (by rfl) (own_there (owns_kept HM.out.f (by (repeat (first | exact Kept.refl _ | assumption | refine Kept.alloc ?_ _ | refine Kept.ext ?_ _ | refine Kept.drew ?_ | refine Kept.drewN ?_ _)))) hlt) (by kernel_rfl) (by simp [Value.oneCell']) ?_)
          go_roundw
          case rel => exact ⟨q + 1, by omega, by go_num, ((HM.out.on (by (repeat (first | exact Kept.refl _ | assumption | refine Kept.alloc ?_ _ | refine Kept.ext ?_ _ | refine Kept.drew ?_ | refine Kept.drewN ?_ _)))).putF hlt _ _ _).congr (fun _ _ _ _ => rfl) (mix_put rfl rfl rfl)⟩
          case measure => simp [intOf]; omega
        · obtain rfl : q = m := by omega
          have hM := hM.congr (fun _ _ _ _ => rfl) mix_all
          obtain ⟨m0, m1, -, -⟩ := cells2 hM.q
          have LM : Lower (adv (adv (w.heap.size + 1 + 1) x0.obs.size) x1.obs.size) wr.heap.size := ⟨cell_lt m0⟩
          have HM := Lib.hid hM
          clear hM hlt
          go_wp2_with fail
          refine (r2toldK_any _ _ _ _ _ _ (mirP P) (mirF F) _ hn (rows_of_owns HM.out.p (mir_I HB.out)) (rows_of_owns HM.out.f (mirF_I HFI.out))).mono ?_
          rintro r w1 ⟨rfl, x9, rfl⟩
          rw [HE.out]
          have HR := Lib.hid (fr_kept HM.out.r (by (repeat (first | exact Kept.refl _ | assumption | refine Kept.alloc ?_ _ | refine Kept.ext ?_ _ | refine Kept.drew ?_ | refine Kept.drewN ?_ _)) : Kept wr (ext wr x9)))
          obtain ⟨q1, q2, -, -⟩ := cells2 (setRow_heap _ _ _ #[.slice (okA e A1) (okN e k) (okN e c1), .slice (okA e B1) (okN e q) (okN e c2)] _ _ HR.out)
          go_wp2_with (refine wpList_store_row rfl 25 (.tmp 2) (.tmp 61) rfl (w.heap.size + 1) _ rfl rfl _ _ HR.out (by kernel_rfl) rfl (by simp [Value.oneCell']) ?_)
          refine bodyPost_ret (by simp only [results, Try.results36]; go_simp; rfl) rfl ?_
          exact HM.out.fin (by (repeat (first | exact Kept.refl _ | assumption | refine Kept.alloc ?_ _ | refine Kept.ext ?_ _ | refine Kept.drew ?_ | refine Kept.drewN ?_ _))) e (by (repeat (first | exact Kept.refl _ | assumption | refine Kept.alloc ?_ _ | refine Kept.ext ?_ _ | refine Kept.drew ?_ | refine Kept.drewN ?_ _))) (by simp)
set_option maxRecDepth 100000 in
set_option maxHeartbeats 16000000 in
theorem r2scale2_any (A B : Option Addr) (n cap m cap2 : Nat) (P F : Nat → Nat → Int) (k0 : Int) (w : World) (hn : n ≤ 9223372036854775807 ∧ m ≤ 9223372036854775807) (hP : RowsAt w A n 3 P) (hF : RowsAt w B m 3 F) :
    Calls Try.prog 41 #[.agg #[.slice A n cap, .slice B m cap2], .int .i64 k0] w fun r w' => MeshO w w' r (chgE n P m F (!(frB k0 1 128)) (sclP P k0) F) n (sclP P k0) m F := by
  have HP := Lib.hid hP
  have HF := Lib.hid hF
  by_cases hv : validE n P m F = 0
  case neg =>
    obtain ⟨e, he⟩ : ∃ e, validE n P m F = e := ⟨_, rfl⟩
    rw [show chgE n P m F (!(frB k0 1 128)) (sclP P k0) F = e by unfold chgE; rw [if_pos hv, he]]
    rw [he] at hv
    have HV := Lib.hid he
    clear he hP hF
    have hv2 : (e == 0) = false := by simpa using hv
    have hv3 : decide (e = 0) = false := by simpa using hv
    go_enter Try.func41, Try.ntmps41
    go_wp2_with (go_at_call 31; refine (r2validate_any _ _ _ _ _ _ P F _ hn (HP.out.of (by (repeat (first | exact Kept.refl _ | assumption | refine Kept.alloc ?_ _ | refine Kept.ext ?_ _ | refine Kept.drew ?_ | refine Kept.drewN ?_ _)))) (HF.out.of (by (repeat (first | exact Kept.refl _ | assumption | refine Kept.alloc ?_ _ | refine Kept.ext ?_ _ | refine Kept.drew ?_ | refine Kept.drewN ?_ _))))).mono ?_; rintro e w1 ⟨rfl, x0, rfl⟩; rw [HV.out])
    refine bodyPost_ret (by simp only [results, Try.results41]; go_simp; rfl) rfl ?_
    exact MeshO.no hv (by (repeat (first | exact Kept.refl _ | assumption | refine Kept.alloc ?_ _ | refine Kept.ext ?_ _ | refine Kept.drew ?_ | refine Kept.drewN ?_ _)))
  have HV := Lib.hid hv
  cases hbad : frB k0 1 128
  case false =>
    rw [show chgE n P m F (!false) (sclP P k0) F = 1 by unfold chgE; rw [if_neg (by simpa using hv), if_pos (by simp)]]
    have HD := Lib.hid hbad
    clear hv hbad hP hF
    go_enter Try.func41, Try.ntmps41
    go_wp2_with (first | (go_at_call 31; refine (r2validate_any _ _ _ _ _ _ P F _ hn (HP.out.of (by (repeat (first | exact Kept.refl _ | assumption | refine Kept.alloc ?_ _ | refine Kept.ext ?_ _ | refine Kept.drew ?_ | refine Kept.drewN ?_ _)))) (HF.out.of (by (repeat (first | exact Kept.refl _ | assumption | refine Kept.alloc ?_ _ | refine Kept.ext ?_ _ | refine Kept.drew ?_ | refine Kept.drewN ?_ _))))).mono ?_; rintro e w1 ⟨rfl, x0, rfl⟩; rw [HV.out]) | (go_at_call 65; refine (r2within_any _ _ _ _).mono ?_; rintro e w1 ⟨rfl, rfl⟩; rw [HD.out]))
    refine bodyPost_ret (by simp only [results, Try.results41]; go_simp; rfl) rfl ?_
    exact MeshO.no (by omega) (by (repeat (first | exact Kept.refl _ | assumption | refine Kept.alloc ?_ _ | refine Kept.ext ?_ _ | refine Kept.drew ?_ | refine Kept.drewN ?_ _)))
  have HD := Lib.hid hbad
  obtain ⟨n64, m96, hb, hf, -⟩ := validE_ok hv
  obtain ⟨e, he⟩ : ∃ e, validE n (sclP P k0) m F = e := ⟨_, rfl⟩
  rw [show chgE n P m F (!true) (sclP P k0) F = e by unfold chgE; rw [if_neg (by simpa using hv), if_neg (by simp), he]]
  have HE := Lib.hid he
  have HB := Lib.hid (ptsBad_at hb)
  have HFI := Lib.hid (rows_I hF)
  have bv := frB_true hbad
  clear hv hb hf he hP hF hbad
  go_enter Try.func41, Try.ntmps41
  go_wp2_with (first | (go_at_call 31; refine (r2validate_any _ _ _ _ _ _ P F _ hn (HP.out.of (by (repeat (first | exact Kept.refl _ | assumption | refine Kept.alloc ?_ _ | refine Kept.ext ?_ _ | refine Kept.drew ?_ | refine Kept.drewN ?_ _)))) (HF.out.of (by (repeat (first | exact Kept.refl _ | assumption | refine Kept.alloc ?_ _ | refine Kept.ext ?_ _ | refine Kept.drew ?_ | refine Kept.drewN ?_ _))))).mono ?_; rintro e w1 ⟨rfl, x0, rfl⟩; rw [HV.out]) | (go_at_call 65; refine (r2within_any _ _ _ _).mono ?_; rintro e w1 ⟨rfl, rfl⟩; rw [HD.out]))
  refine (r2copy_any _ _ _ _ _ _ P F _ (by omega) (HP.out.of (by (repeat (first | exact Kept.refl _ | assumption | refine Kept.alloc ?_ _ | refine Kept.ext ?_ _ | refine Kept.drew ?_ | refine Kept.drewN ?_ _)))) (HF.out.of (by (repeat (first | exact Kept.refl _ | assumption | refine Kept.alloc ?_ _ | refine Kept.ext ?_ _ | refine Kept.drew ?_ | refine Kept.drewN ?_ _))))).mono ?_
  rintro r w1 ⟨vP, vF, rfl, ⟨x1, rfl⟩, ho1, ho2⟩
  obtain ⟨A1, c1, rfl⟩ := own_slice2 ho1
  obtain ⟨B1, c2, rfl⟩ := own_slice2 ho2
  have H1 := Lib.hid ho1
  have H2 := Lib.hid ho2
  clear ho1 ho2
  go_wp2_with fail
  go_loopw [8] (fun i wr => ∃ k : Nat, k ≤ n ∧ i = .int .i64 k ∧ Msh2 (w.alloc (.cells #[.slice A n cap, .slice B m cap2] 25)) (w.heap.size + 1) (adv (adv (w.heap.size + 1 + 1) x0.obs.size) x1.obs.size) (.slice A1 n c1) n (mixF k (sclP P k0) P) (.slice B1 m c2) m F wr) (fun i _ => n - (intOf i).toNat)
  case atStart =>
    refine ⟨0, by omega, rfl, Msh2.congr ⟨by (repeat (first | exact Kept.refl _ | assumption | refine Kept.alloc ?_ _ | refine Kept.ext ?_ _ | refine Kept.drew ?_ | refine Kept.drewN ?_ _)), ?_, ?_, own_mono (owns_kept H1.out (by (repeat (first | exact Kept.refl _ | assumption | refine Kept.alloc ?_ _ | refine Kept.ext ?_ _ | refine Kept.drew ?_ | refine Kept.drewN ?_ _)))) ?_, own_mono (owns_kept H2.out (by (repeat (first | exact Kept.refl _ | assumption | refine Kept.alloc ?_ _ | refine Kept.ext ?_ _ | refine Kept.drew ?_ | refine Kept.drewN ?_ _)))) ?_⟩ mix_none (fun _ _ _ _ => rfl)⟩
    · exact fr_kept (alloc_now (w.alloc (.cells #[.slice A n cap, .slice B m cap2] 25)) _ _) (by (repeat (first | exact Kept.refl _ | assumption | refine Kept.alloc ?_ _ | refine Kept.ext ?_ _ | refine Kept.drew ?_ | refine Kept.drewN ?_ _)))
    · exact alloc_at2 _ _ _
    · simp [adv]; omega
    · simp [adv]; omega
  case round =>
    obtain ⟨k, hk, rfl, hM⟩ := hrel
    by_cases hlt : k < n
    · obtain ⟨g, rfl, hg1, hg2⟩ := own_head hM.p (by omega)
      obtain ⟨m0, m1, -, -⟩ := cells2 hM.q
      obtain ⟨f0, f1, f2⟩ := own_cells hM.p hlt
      rw [mix_at] at f0 f1 f2
      have LM : Lower (adv (adv (w.heap.size + 1 + 1) x0.obs.size) x1.obs.size) wr.heap.size := ⟨cell_lt m0⟩
      have LG : Lower g wr.heap.size := ⟨hg2⟩
      have bp := HB.out k hlt
      have HM := Lib.hid hM
      clear hM hg1 hg2
      have q0 := mul_bd 8192 (show -128 ≤ k0 ∧ k0 ≤ 128 by omega) (show -64 ≤ P k 0 ∧ P k 0 ≤ 64 by omega) rfl
      have q1 := mul_bd 8192 (show -128 ≤ k0 ∧ k0 ≤ 128 by omega) (show -64 ≤ P k 1 ∧ P k 1 ≤ 64 by omega) rfl
      have q2 := mul_bd 8192 (show -128 ≤ k0 ∧ k0 ≤ 128 by omega) (show -64 ≤ P k 2 ∧ P k 2 ≤ 64 by omega) rfl
      go_wp2_with fail
      ((first | refine wp_region_tail 10 (by kernel_rfl) (by kernel_rfl) ?_); simp only [List.take_succ_cons, List.take_zero, List.drop_succ_cons, List.drop_zero]; (repeat (go_big_quiet_step (first | (go_at_call 24; exact Calls.kept_of (r2timesX_any _ _ _ _ _ (by omega)))))); refine wpQuiet_nil ?_; intro x)
      go_wp2_with (refine wpList_store_mid rfl 34 (.tmp 38) (.tmp 37) rfl g (k * 3) #[.int .i64 (k0 * P k 0), .int .i64 (k0 * P k 1), .int .i64 (k0 * P k 2)] (by rfl) (by rfl) (own_there (owns_kept HM.out.p (by (repeat (first | exact Kept.refl _ | assumption | refine Kept.alloc ?_ _ | refine Kept.ext ?_ _ | refine Kept.drew ?_ | refine Kept.drewN ?_ _)))) hlt) (by kernel_rfl) (by simp [Value.oneCell']) ?_)
      go_roundw
      case rel => exact ⟨k + 1, by omega, by go_num, ((HM.out.on (by (repeat (first | exact Kept.refl _ | assumption | refine Kept.alloc ?_ _ | refine Kept.ext ?_ _ | refine Kept.drew ?_ | refine Kept.drewN ?_ _)))).putP hlt _ _ _).congr (mix_put rfl rfl rfl) (fun _ _ _ _ => rfl)⟩
      case measure => simp [intOf]; omega
    · obtain rfl : k = n := by omega
      have hM := hM.congr mix_all (fun _ _ _ _ => rfl)
      obtain ⟨m0, m1, -, -⟩ := cells2 hM.q
      have LM : Lower (adv (adv (w.heap.size + 1 + 1) x0.obs.size) x1.obs.size) wr.heap.size := ⟨cell_lt m0⟩
      have HM := Lib.hid hM
      clear hM hlt
      go_wp2_with fail
      refine (r2toldK_any _ _ _ _ _ _ (sclP P k0) F _ hn (rows_of_owns HM.out.p (scl_I (by omega) HB.out)) (rows_of_owns HM.out.f HFI.out)).mono ?_
      rintro r w1 ⟨rfl, x9, rfl⟩
      rw [HE.out]
      have HR := Lib.hid (fr_kept HM.out.r (by (repeat (first | exact Kept.refl _ | assumption | refine Kept.alloc ?_ _ | refine Kept.ext ?_ _ | refine Kept.drew ?_ | refine Kept.drewN ?_ _)) : Kept wr (ext wr x9)))
      obtain ⟨q1, q2, -, -⟩ := cells2 (setRow_heap _ _ _ #[.slice (okA e A1) (okN e k) (okN e c1), .slice (okA e B1) (okN e m) (okN e c2)] _ _ HR.out)
      go_wp2_with (refine wpList_store_row rfl 25 (.tmp 4) (.tmp 41) rfl (w.heap.size + 1) _ rfl rfl _ _ HR.out (by kernel_rfl) rfl (by simp [Value.oneCell']) ?_)
      refine bodyPost_ret (by simp only [results, Try.results41]; go_simp; rfl) rfl ?_
      exact HM.out.fin (by (repeat (first | exact Kept.refl _ | assumption | refine Kept.alloc ?_ _ | refine Kept.ext ?_ _ | refine Kept.drew ?_ | refine Kept.drewN ?_ _))) e (by (repeat (first | exact Kept.refl _ | assumption | refine Kept.alloc ?_ _ | refine Kept.ext ?_ _ | refine Kept.drew ?_ | refine Kept.drewN ?_ _))) (by simp)
set_option maxRecDepth 100000 in
set_option maxHeartbeats 16000000 in
theorem r2move_any (A B : Option Addr) (n cap m cap2 : Nat) (P F : Nat → Nat → Int) (v0 v1 v2 : Int) (w : World) (hn : n ≤ 9223372036854775807 ∧ m ≤ 9223372036854775807) (hP : RowsAt w A n 3 P) (hF : RowsAt w B m 3 F) :
    Calls Try.prog 39 #[.agg #[.slice A n cap, .slice B m cap2], .agg #[.int .i64 v0, .int .i64 v1, .int .i64 v2]] w fun r w' => MeshO w w' r (chgE n P m F (!(inB v0 v1 v2 128)) (movP P v0 v1 v2) F) n (movP P v0 v1 v2) m F := by
  have HP := Lib.hid hP
  have HF := Lib.hid hF
  by_cases hv : validE n P m F = 0
  case neg =>
    obtain ⟨e, he⟩ : ∃ e, validE n P m F = e := ⟨_, rfl⟩
    rw [show chgE n P m F (!(inB v0 v1 v2 128)) (movP P v0 v1 v2) F = e by unfold chgE; rw [if_pos hv, he]]
    rw [he] at hv
    have HV := Lib.hid he
    clear he hP hF
    have hv2 : (e == 0) = false := by simpa using hv
    have hv3 : decide (e = 0) = false := by simpa using hv
    go_enter Try.func39, Try.ntmps39
    go_wp2_with (go_at_call 31; refine (r2validate_any _ _ _ _ _ _ P F _ hn (HP.out.of (by (repeat (first | exact Kept.refl _ | assumption | refine Kept.alloc ?_ _ | refine Kept.ext ?_ _ | refine Kept.drew ?_ | refine Kept.drewN ?_ _)))) (HF.out.of (by (repeat (first | exact Kept.refl _ | assumption | refine Kept.alloc ?_ _ | refine Kept.ext ?_ _ | refine Kept.drew ?_ | refine Kept.drewN ?_ _))))).mono ?_; rintro e w1 ⟨rfl, x0, rfl⟩; rw [HV.out])
    refine bodyPost_ret (by simp only [results, Try.results39]; go_simp; rfl) rfl ?_
    exact MeshO.no hv (by (repeat (first | exact Kept.refl _ | assumption | refine Kept.alloc ?_ _ | refine Kept.ext ?_ _ | refine Kept.drew ?_ | refine Kept.drewN ?_ _)))
  have HV := Lib.hid hv
  cases hbad : inB v0 v1 v2 128
  case false =>
    rw [show chgE n P m F (!false) (movP P v0 v1 v2) F = 1 by unfold chgE; rw [if_neg (by simpa using hv), if_pos (by simp)]]
    have HD := Lib.hid hbad
    clear hv hbad hP hF
    go_enter Try.func39, Try.ntmps39
    go_wp2_with (first | (go_at_call 31; refine (r2validate_any _ _ _ _ _ _ P F _ hn (HP.out.of (by (repeat (first | exact Kept.refl _ | assumption | refine Kept.alloc ?_ _ | refine Kept.ext ?_ _ | refine Kept.drew ?_ | refine Kept.drewN ?_ _)))) (HF.out.of (by (repeat (first | exact Kept.refl _ | assumption | refine Kept.alloc ?_ _ | refine Kept.ext ?_ _ | refine Kept.drew ?_ | refine Kept.drewN ?_ _))))).mono ?_; rintro e w1 ⟨rfl, x0, rfl⟩; rw [HV.out]) | (go_at_call 70; refine (r2near_any _ _ _ _ _ (by omega)).mono ?_; rintro e w1 ⟨rfl, x8, rfl⟩; rw [HD.out]))
    refine bodyPost_ret (by simp only [results, Try.results39]; go_simp; rfl) rfl ?_
    exact MeshO.no (by omega) (by (repeat (first | exact Kept.refl _ | assumption | refine Kept.alloc ?_ _ | refine Kept.ext ?_ _ | refine Kept.drew ?_ | refine Kept.drewN ?_ _)))
  have HD := Lib.hid hbad
  obtain ⟨n64, m96, hb, hf, -⟩ := validE_ok hv
  obtain ⟨e, he⟩ : ∃ e, validE n (movP P v0 v1 v2) m F = e := ⟨_, rfl⟩
  rw [show chgE n P m F (!true) (movP P v0 v1 v2) F = e by unfold chgE; rw [if_neg (by simpa using hv), if_neg (by simp), he]]
  have HE := Lib.hid he
  have HB := Lib.hid (ptsBad_at hb)
  have HFI := Lib.hid (rows_I hF)
  have bv := inB_true hbad
  clear hv hb hf he hP hF hbad
  go_enter Try.func39, Try.ntmps39
  go_wp2_with (first | (go_at_call 31; refine (r2validate_any _ _ _ _ _ _ P F _ hn (HP.out.of (by (repeat (first | exact Kept.refl _ | assumption | refine Kept.alloc ?_ _ | refine Kept.ext ?_ _ | refine Kept.drew ?_ | refine Kept.drewN ?_ _)))) (HF.out.of (by (repeat (first | exact Kept.refl _ | assumption | refine Kept.alloc ?_ _ | refine Kept.ext ?_ _ | refine Kept.drew ?_ | refine Kept.drewN ?_ _))))).mono ?_; rintro e w1 ⟨rfl, x0, rfl⟩; rw [HV.out]) | (go_at_call 70; refine (r2near_any _ _ _ _ _ (by omega)).mono ?_; rintro e w1 ⟨rfl, x8, rfl⟩; rw [HD.out]))
  refine (r2copy_any _ _ _ _ _ _ P F _ (by omega) (HP.out.of (by (repeat (first | exact Kept.refl _ | assumption | refine Kept.alloc ?_ _ | refine Kept.ext ?_ _ | refine Kept.drew ?_ | refine Kept.drewN ?_ _)))) (HF.out.of (by (repeat (first | exact Kept.refl _ | assumption | refine Kept.alloc ?_ _ | refine Kept.ext ?_ _ | refine Kept.drew ?_ | refine Kept.drewN ?_ _))))).mono ?_
  rintro r w1 ⟨vP, vF, rfl, ⟨x1, rfl⟩, ho1, ho2⟩
  obtain ⟨A1, c1, rfl⟩ := own_slice2 ho1
  obtain ⟨B1, c2, rfl⟩ := own_slice2 ho2
  have H1 := Lib.hid ho1
  have H2 := Lib.hid ho2
  clear ho1 ho2
  go_wp2_with fail
  go_loopw [8] (fun i wr => ∃ k : Nat, k ≤ n ∧ i = .int .i64 k ∧ Msh2 ((w.alloc (.cells #[.slice A n cap, .slice B m cap2] 25)).alloc (.cells #[.int .i64 v0, .int .i64 v1, .int .i64 v2] 34)) (w.heap.size + 1 + 1) (adv (adv (adv (w.heap.size + 1 + 1 + 1) x0.obs.size) x8.obs.size) x1.obs.size) (.slice A1 n c1) n (mixF k (movP P v0 v1 v2) P) (.slice B1 m c2) m F wr) (fun i _ => n - (intOf i).toNat)
  case atStart =>
    refine ⟨0, by omega, rfl, Msh2.congr ⟨by (repeat (first | exact Kept.refl _ | assumption | refine Kept.alloc ?_ _ | refine Kept.ext ?_ _ | refine Kept.drew ?_ | refine Kept.drewN ?_ _)), ?_, ?_, own_mono (owns_kept H1.out (by (repeat (first | exact Kept.refl _ | assumption | refine Kept.alloc ?_ _ | refine Kept.ext ?_ _ | refine Kept.drew ?_ | refine Kept.drewN ?_ _)))) ?_, own_mono (owns_kept H2.out (by (repeat (first | exact Kept.refl _ | assumption | refine Kept.alloc ?_ _ | refine Kept.ext ?_ _ | refine Kept.drew ?_ | refine Kept.drewN ?_ _)))) ?_⟩ mix_none (fun _ _ _ _ => rfl)⟩
    · exact fr_kept (alloc_now ((w.alloc (.cells #[.slice A n cap, .slice B m cap2] 25)).alloc (.cells #[.int .i64 v0, .int .i64 v1, .int .i64 v2] 34)) _ _) (by (repeat (first | exact Kept.refl _ | assumption | refine Kept.alloc ?_ _ | refine Kept.ext ?_ _ | refine Kept.drew ?_ | refine Kept.drewN ?_ _)))
    · exact alloc_at2 _ _ _
    · simp [adv]; omega
    · simp [adv]; omega
  case round =>
    obtain ⟨k, hk, rfl, hM⟩ := hrel
    by_cases hlt : k < n
    · obtain ⟨g, rfl, hg1, hg2⟩ := own_head hM.p (by omega)
      obtain ⟨m0, m1, -, -⟩ := cells2 hM.q
      obtain ⟨f0, f1, f2⟩ := own_cells hM.p hlt
      rw [mix_at] at f0 f1 f2
      have LM : Lower (adv (adv (adv (w.heap.size + 1 + 1 + 1) x0.obs.size) x8.obs.size) x1.obs.size) wr.heap.size := ⟨cell_lt m0⟩
      have LG : Lower g wr.heap.size := ⟨hg2⟩
      have kv0 : wr.cell? ⟨w.heap.size + 1, 0, none⟩ = some (.int .i64 v0) := kept_cell (w := ((w.alloc (.cells #[.slice A n cap, .slice B m cap2] 25)).alloc (.cells #[.int .i64 v0, .int .i64 v1, .int .i64 v2] 34))) (by go_simp) hM.kept
      have kv1 : wr.cell? ⟨w.heap.size + 1, 1, none⟩ = some (.int .i64 v1) := kept_cell (w := ((w.alloc (.cells #[.slice A n cap, .slice B m cap2] 25)).alloc (.cells #[.int .i64 v0, .int .i64 v1, .int .i64 v2] 34))) (by go_simp) hM.kept
      have kv2 : wr.cell? ⟨w.heap.size + 1, 2, none⟩ = some (.int .i64 v2) := kept_cell (w := ((w.alloc (.cells #[.slice A n cap, .slice B m cap2] 25)).alloc (.cells #[.int .i64 v0, .int .i64 v1, .int .i64 v2] 34))) (by go_simp) hM.kept
      have LV : Lower (w.heap.size + 1) wr.heap.size := ⟨cell_lt kv0⟩
      have bp := HB.out k hlt
      have HM := Lib.hid hM
      clear hM hg1 hg2
      go_wp2_with fail
      ((first | refine wp_region_tail 10 (by kernel_rfl) (by kernel_rfl) ?_); simp only [List.take_succ_cons, List.take_zero, List.drop_succ_cons, List.drop_zero]; (repeat (go_big_quiet_step (first | (go_at_call 57; exact Calls.kept_of (r2plus_any _ _ _ _ _ _ _ (by omega)))))); refine wpQuiet_nil ?_; intro x)
      go_wp2_with (refine wpList_store_mid rfl 34 (.tmp 38) (.tmp 37) rfl g (k * 3) #[.int .i64 (P k 0 + v0), .int .i64 (P k 1 + v1), .int .i64 (P k 2 + v2)] (by rfl) (by rfl) (own_there (owns_kept HM.out.p (by (repeat (first | exact Kept.refl _ | assumption | refine Kept.alloc ?_ _ | refine Kept.ext ?_ _ | refine Kept.drew ?_ | refine Kept.drewN ?_ _)))) hlt) (by kernel_rfl) (by simp [Value.oneCell']) ?_)
      go_roundw
      case rel => exact ⟨k + 1, by omega, by go_num, ((HM.out.on (by (repeat (first | exact Kept.refl _ | assumption | refine Kept.alloc ?_ _ | refine Kept.ext ?_ _ | refine Kept.drew ?_ | refine Kept.drewN ?_ _)))).putP hlt _ _ _).congr (mix_put rfl rfl rfl) (fun _ _ _ _ => rfl)⟩
      case measure => simp [intOf]; omega
    · obtain rfl : k = n := by omega
      have hM := hM.congr mix_all (fun _ _ _ _ => rfl)
      obtain ⟨m0, m1, -, -⟩ := cells2 hM.q
      have LM : Lower (adv (adv (adv (w.heap.size + 1 + 1 + 1) x0.obs.size) x8.obs.size) x1.obs.size) wr.heap.size := ⟨cell_lt m0⟩
      have HM := Lib.hid hM
      clear hM hlt
      go_wp2_with fail
      refine (r2toldK_any _ _ _ _ _ _ (movP P v0 v1 v2) F _ hn (rows_of_owns HM.out.p (mov_I (by omega) HB.out)) (rows_of_owns HM.out.f HFI.out)).mono ?_
      rintro r w1 ⟨rfl, x9, rfl⟩
      rw [HE.out]
      have HR := Lib.hid (fr_kept HM.out.r (by (repeat (first | exact Kept.refl _ | assumption | refine Kept.alloc ?_ _ | refine Kept.ext ?_ _ | refine Kept.drew ?_ | refine Kept.drewN ?_ _)) : Kept wr (ext wr x9)))
      obtain ⟨q1, q2, -, -⟩ := cells2 (setRow_heap _ _ _ #[.slice (okA e A1) (okN e k) (okN e c1), .slice (okA e B1) (okN e m) (okN e c2)] _ _ HR.out)
      go_wp2_with (refine wpList_store_row rfl 25 (.tmp 4) (.tmp 41) rfl (w.heap.size + 1 + 1) _ rfl rfl _ _ HR.out (by kernel_rfl) rfl (by simp [Value.oneCell']) ?_)
      refine bodyPost_ret (by simp only [results, Try.results39]; go_simp; rfl) rfl ?_
      exact HM.out.fin (by (repeat (first | exact Kept.refl _ | assumption | refine Kept.alloc ?_ _ | refine Kept.ext ?_ _ | refine Kept.drew ?_ | refine Kept.drewN ?_ _))) e (by (repeat (first | exact Kept.refl _ | assumption | refine Kept.alloc ?_ _ | refine Kept.ext ?_ _ | refine Kept.drew ?_ | refine Kept.drewN ?_ _))) (by simp)
end Go.Proofs.Ytoadlneneijfaaa
