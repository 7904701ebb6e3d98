/- Contract: two meshes together, of the reference. Conditions: the lists are not long. -/
import Derived.Test.YtoadlneneijfaaaUns
namespace Go.Proofs.Ytoadlneneijfaaa
set_option linter.unusedVariables false
set_option linter.unusedSimpArgs false
open Go.RowKit Go.Deep
set_option maxRecDepth 100000 in
set_option maxHeartbeats 16000000 in
theorem r2Unite_any (A B A2 B2 : Option Addr) (n cap m cap2 n2 cap3 m2 cap4 : Nat) (P F Q G : Nat → Nat → Int) (w : World) (hn : n ≤ 9223372036854775807 ∧ m ≤ 9223372036854775807) (hn2 : n2 ≤ 9223372036854775807 ∧ m2 ≤ 9223372036854775807) (hP : RowsAt w A n 3 P) (hF : RowsAt w B m 3 F) (hQ : RowsAt w A2 n2 3 Q) (hG : RowsAt w B2 m2 3 G) :
    Calls Try.prog 56 #[.agg #[.slice A n cap, .slice B m cap2], .agg #[.slice A2 n2 cap3, .slice B2 m2 cap4]] w fun r w' => MeshO w w' r (uniE n P m F n2 Q m2 G) (n + n2) (uniP n P Q) (m + m2) (uniF n m F G) := by
  have HP := Lib.hid hP
  have HF := Lib.hid hF
  have HQ := Lib.hid hQ
  have HG := Lib.hid hG
  have hv1 : ∀ w', Kept w w' → Calls Try.prog 31 #[.agg #[.slice A n cap, .slice B m cap2]] w' fun r w'' => r = .returned (.int .i64 (validE n P m F)) ∧ Kept w' w'' := fun w' hk => r2validate_any A B n cap m cap2 P F w' hn (hP.of hk) (hF.of hk)
  have hv2 : ∀ w', Kept w w' → Calls Try.prog 31 #[.agg #[.slice A2 n2 cap3, .slice B2 m2 cap4]] w' fun r w'' => r = .returned (.int .i64 (validE n2 Q m2 G)) ∧ Kept w' w'' := fun w' hk => r2validate_any A2 B2 n2 cap3 m2 cap4 Q G w' hn2 (hQ.of hk) (hG.of hk)
  clear hP hF hQ hG
  obtain ⟨i1, hi, hz0, hz1, hz2⟩ := info_parts infoFace
  have HJ := Lib.hid (And.intro hi (And.intro hz0 (And.intro hz1 hz2)))
  clear hi hz0 hz1 hz2
  obtain ⟨i0, hi, hz0, hz1, hz2⟩ := info_parts infoPoint
  have HJP := Lib.hid (And.intro hi (And.intro hz0 (And.intro hz1 hz2)))
  clear hi hz0 hz1 hz2
  unfold uniE
  obtain ⟨e1, he1⟩ : ∃ e, validE n P m F = e := ⟨_, rfl⟩
  obtain ⟨e2, he2⟩ : ∃ e, validE n2 Q m2 G = e := ⟨_, rfl⟩
  rw [he1] at hv1
  rw [he2] at hv2
  have HV1 := Lib.hid hv1
  have HV2 := Lib.hid hv2
  clear hv1 hv2
  rw [he1, he2]
  by_cases h1 : e1 = 0
  case neg =>
    have h1b : (e1 == 0) = false := by simpa using h1
    rw [if_pos h1]
    have HE1 := Lib.hid he1
    have H1 := Lib.hid h1
    clear he1 he2 h1
    go_enter Try.func56, Try.ntmps56
    go_wp2_with (go_at_call 31; ((with_reducible refine (HV1.out _ (by (repeat (first | exact Kept.refl _ | assumption | refine Kept.alloc ?_ _ | refine Kept.ext ?_ _ | refine Kept.drew ?_ | refine Kept.drewN ?_ _)))).mono ?_); rintro e w1 ⟨rfl, x1, rfl⟩))
    refine bodyPost_ret (by simp only [results, Try.results56]; go_simp; rfl) rfl ?_
    exact MeshO.no H1.out (by (repeat (first | exact Kept.refl _ | assumption | refine Kept.alloc ?_ _ | refine Kept.ext ?_ _ | refine Kept.drew ?_ | refine Kept.drewN ?_ _)))
  subst h1
  rw [if_neg (by simp)]
  by_cases h2 : e2 = 0
  case neg =>
    have h2b : (e2 == 0) = false := by simpa using h2
    rw [if_pos h2]
    have HE1 := Lib.hid he1
    have HE2 := Lib.hid he2
    have H2 := Lib.hid h2
    clear he1 he2 h2
    go_enter Try.func56, Try.ntmps56
    go_wp2_with (go_at_call 31; first | ((with_reducible refine (HV1.out _ (by (repeat (first | exact Kept.refl _ | assumption | refine Kept.alloc ?_ _ | refine Kept.ext ?_ _ | refine Kept.drew ?_ | refine Kept.drewN ?_ _)))).mono ?_); rintro e w1 ⟨rfl, x1, rfl⟩) | ((with_reducible refine (HV2.out _ (by (repeat (first | exact Kept.refl _ | assumption | refine Kept.alloc ?_ _ | refine Kept.ext ?_ _ | refine Kept.drew ?_ | refine Kept.drewN ?_ _)))).mono ?_); rintro e w1 ⟨rfl, x2, rfl⟩))
    refine bodyPost_ret (by simp only [results, Try.results56]; go_simp; rfl) rfl ?_
    exact MeshO.no H2.out (by (repeat (first | exact Kept.refl _ | assumption | refine Kept.alloc ?_ _ | refine Kept.ext ?_ _ | refine Kept.drew ?_ | refine Kept.drewN ?_ _)))
  subst h2
  rw [if_neg (by simp)]
  have s1 := valid_sz he1
  have s2 := valid_sz he2
  have hin := (clo_of he2).inn
  have hn0 : 0 < n := by have := (clo_of he1).inn 0 (by omega) 0 (by omega); omega
  obtain ⟨e3, he3⟩ : ∃ e, validE (n + n2) (uniP n P Q) (m + m2) (uniF n m F G) = e := ⟨_, rfl⟩
  rw [he3]
  have HE1 := Lib.hid he1
  have HE2 := Lib.hid he2
  have HE3 := Lib.hid he3
  have HIN := Lib.hid hin
  have IFF := Lib.hid (rows_I HF.out)
  have IPP := Lib.hid (rows_I HP.out)
  have IQQ := Lib.hid (rows_I HQ.out)
  clear he1 he2 he3 hin hn hn2
  go_enter Try.func56, Try.ntmps56
  go_wp2_with (go_at_call 31; first | ((with_reducible refine (HV1.out _ (by (repeat (first | exact Kept.refl _ | assumption | refine Kept.alloc ?_ _ | refine Kept.ext ?_ _ | refine Kept.drew ?_ | refine Kept.drewN ?_ _)))).mono ?_); rintro e w1 ⟨rfl, x1, rfl⟩) | ((with_reducible refine (HV2.out _ (by (repeat (first | exact Kept.refl _ | assumption | refine Kept.alloc ?_ _ | refine Kept.ext ?_ _ | refine Kept.drew ?_ | refine Kept.drewN ?_ _)))).mono ?_); rintro e w1 ⟨rfl, x2, rfl⟩))
  refine (r2copy_any _ _ _ _ _ _ P F _ (by omega) (HP.out.of (by (repeat (first | exact Kept.refl _ | assumption | refine Kept.alloc ?_ _ | refine Kept.ext ?_ _ | refine Kept.drew ?_ | refine Kept.drewN ?_ _)))) (HF.out.of (by (repeat (first | exact Kept.refl _ | assumption | refine Kept.alloc ?_ _ | refine Kept.ext ?_ _ | refine Kept.drew ?_ | refine Kept.drewN ?_ _))))).mono ?_
  rintro r w1 ⟨vP, vF, rfl, hkc, h5, h8⟩
  have hkc' : Kept (ext (ext (((w.alloc (.cells #[.slice A n cap, .slice B m cap2] 25)).alloc (.cells #[.slice A2 n2 cap3, .slice B2 m2 cap4] 25)).alloc (.cells #[.slice none 0 0, .slice none 0 0] 25)) x1) x2) w1 := hkc
  obtain ⟨x3, rfl⟩ := hkc'
  obtain ⟨A5, c5, rfl⟩ := own_slice2 h5
  obtain ⟨A8, c8, rfl⟩ := own_slice2 h8
  have HO5 := Lib.hid h5
  have HO8 := Lib.hid h8
  clear h5 h8 hkc
  obtain ⟨gb, hgb⟩ : ∃ gb, (ext (ext (ext (((w.alloc (.cells #[.slice A n cap, .slice B m cap2] 25)).alloc (.cells #[.slice A2 n2 cap3, .slice B2 m2 cap4] 25)).alloc (.cells #[.slice none 0 0, .slice none 0 0] 25)) x1) x2) x3).heap.size = gb := ⟨_, rfl⟩
  have hgl : (ext (ext (((w.alloc (.cells #[.slice A n cap, .slice B m cap2] 25)).alloc (.cells #[.slice A2 n2 cap3, .slice B2 m2 cap4] 25)).alloc (.cells #[.slice none 0 0, .slice none 0 0] 25)) x1) x2).heap.size ≤ gb := by rw [← hgb]; exact kept_le (by (repeat (first | exact Kept.refl _ | assumption | refine Kept.alloc ?_ _ | refine Kept.ext ?_ _ | refine Kept.drew ?_ | refine Kept.drewN ?_ _)))
  have hgs : adv (adv (adv (w.heap.size + 1 + 1 + 1) x1.obs.size) x2.obs.size) x3.obs.size = gb := by rw [← hgb]; simp
  have hgl2 := hgl
  simp only [ext_size, World.size_alloc] at hgl2
  have hrb : (w.heap.size + 1 + 1) ≠ gb := by simp only [adv] at hgl2; omega
  have hM : Msh2 (ext (ext (((w.alloc (.cells #[.slice A n cap, .slice B m cap2] 25)).alloc (.cells #[.slice A2 n2 cap3, .slice B2 m2 cap4] 25)).alloc (.cells #[.slice none 0 0, .slice none 0 0] 25)) x1) x2) (w.heap.size + 1 + 1) gb (.slice A5 n c5) n (uniP n P Q) (.slice A8 m c8) m (uniF n m F G) ((ext (ext (ext (((w.alloc (.cells #[.slice A n cap, .slice B m cap2] 25)).alloc (.cells #[.slice A2 n2 cap3, .slice B2 m2 cap4] 25)).alloc (.cells #[.slice none 0 0, .slice none 0 0] 25)) x1) x2) x3).alloc (.cells #[.slice A5 n c5, .slice A8 m c8] 25)) := by
    refine Msh2.congr (P := P) (F := F) ⟨by (repeat (first | exact Kept.refl _ | assumption | refine Kept.alloc ?_ _ | refine Kept.ext ?_ _ | refine Kept.drew ?_ | refine Kept.drewN ?_ _)), ?_, ?_, owns_kept HO5.out (by (repeat (first | exact Kept.refl _ | assumption | refine Kept.alloc ?_ _ | refine Kept.ext ?_ _ | refine Kept.drew ?_ | refine Kept.drewN ?_ _))), owns_kept HO8.out (by (repeat (first | exact Kept.refl _ | assumption | refine Kept.alloc ?_ _ | refine Kept.ext ?_ _ | refine Kept.drew ?_ | refine Kept.drewN ?_ _)))⟩ (fun i hi j _ => by unfold uniP; rw [if_pos hi]) (uni_first n F G)
    · exact fr_kept (alloc_now ((w.alloc (.cells #[.slice A n cap, .slice B m cap2] 25)).alloc (.cells #[.slice A2 n2 cap3, .slice B2 m2 cap4] 25)) _ _) (by (repeat (first | exact Kept.refl _ | assumption | refine Kept.alloc ?_ _ | refine Kept.ext ?_ _ | refine Kept.drew ?_ | refine Kept.drewN ?_ _)))
    · rw [← hgb]; exact heap_alloc_new _ _
  have HM := Lib.hid hM
  clear hM HO5 HO8
  go_wp2_with fail
  try rw [hgs]
  go_loopw [10] (fun i wr => ∃ k : Nat, k ≤ n2 ∧ i = .int .i64 k ∧ ∃ v, Msh2 (ext (ext (((w.alloc (.cells #[.slice A n cap, .slice B m cap2] 25)).alloc (.cells #[.slice A2 n2 cap3, .slice B2 m2 cap4] 25)).alloc (.cells #[.slice none 0 0, .slice none 0 0] 25)) x1) x2) (w.heap.size + 1 + 1) gb v (n + k) (uniP n P Q) (.slice A8 m c8) m (uniF n m F G) wr) (fun i _ => n2 - (intOf i).toNat)
  case atStart => exact ⟨0, by omega, rfl, _, HM.out⟩
  case round =>
    clear HM
    obtain ⟨k, hk, rfl, v, hM⟩ := hrel
    obtain ⟨A9, c9, rfl, hc9⟩ := own_sl hM.p
    obtain ⟨m0, m1, z0, z1⟩ := cells2 hM.q
    have LM : Lower gb wr.heap.size := ⟨cell_lt m0⟩
    have kb : wr.cell? ⟨w.heap.size + 1, 0, none⟩ = some (.slice A2 n2 cap3) := kept_cell (w := (ext (ext (((w.alloc (.cells #[.slice A n cap, .slice B m cap2] 25)).alloc (.cells #[.slice A2 n2 cap3, .slice B2 m2 cap4] 25)).alloc (.cells #[.slice none 0 0, .slice none 0 0] 25)) x1) x2)) (by go_simp) hM.kept
    have LKB : Lower (w.heap.size + 1) wr.heap.size := ⟨cell_lt kb⟩
    by_cases hlt : k < n2
    · have hk0 : Kept w wr := (by (repeat (first | exact Kept.refl _ | assumption | refine Kept.alloc ?_ _ | refine Kept.ext ?_ _ | refine Kept.drew ?_ | refine Kept.drewN ?_ _)) : Kept w (ext (ext (((w.alloc (.cells #[.slice A n cap, .slice B m cap2] 25)).alloc (.cells #[.slice A2 n2 cap3, .slice B2 m2 cap4] 25)).alloc (.cells #[.slice none 0 0, .slice none 0 0] 25)) x1) x2)).trans hM.kept
      obtain ⟨b, off, rfl, hb, f0, f1, f2⟩ := rows3 (HQ.out.of hk0) hlt
      have LB : Lower b wr.heap.size := ⟨hb⟩
      have gk : decide ((k : Int) < n2) = true := decide_eq_true (by omega)
      have HM := Lib.hid hM
      clear hM hk0
      have u : ∀ j, uniP n P Q (n + k) j = Q k j := fun j => by unfold uniP; rw [if_neg (by omega), Nat.add_sub_cancel_left]
      have HU := Lib.hid u
      clear u
      go_wp2_with fail
      clear m0 m1 z0 z1 LM
      refine wp_region_tellC (C := Kept (ext (ext (((w.alloc (.cells #[.slice A n cap, .slice B m cap2] 25)).alloc (.cells #[.slice (some ⟨b, off, none⟩) n2 cap3, .slice B2 m2 cap4] 25)).alloc (.cells #[.slice none 0 0, .slice none 0 0] 25)) x1) x2)) [.q, .k (.slice A9 (n + k) c9), .q, .q, .q, .q, .q, .s, .s, .q, .k undef] (AppX 1 7 8 10 (ext (ext (((w.alloc (.cells #[.slice A n cap, .slice B m cap2] 25)).alloc (.cells #[.slice (some ⟨b, off, none⟩) n2 cap3, .slice B2 m2 cap4] 25)).alloc (.cells #[.slice none 0 0, .slice none 0 0] 25)) x1) x2) (w.heap.size + 1 + 1) gb [] (.slice A9 (n + k) c9) (n + k) (uniP n P Q) (.slice A8 m c8) m (uniF n m F G)) (by kernel_rfl) (by kernel_rfl) (fun b => by kernel_rfl) ?_ ?_ ?_ ?_
      · exact fun bb => AppX.start HM.out (by (repeat (first | exact Kept.refl _ | assumption | refine Kept.alloc ?_ _ | refine Kept.ext ?_ _ | refine Kept.drew ?_ | refine Kept.drewN ?_ _))) (fun x hx => by cases hx) (fun x hx => by cases hx)
      · intro i L b w' w'' hs hI hk
        exact (hI.on hk).other (by rintro rfl; cases hs) (by rintro rfl; cases hs) (by rintro rfl; cases hs) (by rintro rfl; cases hs)
      · exact fun L b w' h => h.kept
      apply Exists.intro
      refine ⟨?_, ?_, ?_, ?_⟩
      · rintro bb W ⟨y, rfl⟩
        obtain ⟨b', off', eb, hb', f0, f1, f2⟩ := rows3 (HQ.out.of (by (repeat (first | exact Kept.refl _ | assumption | refine Kept.alloc ?_ _ | refine Kept.ext ?_ _ | refine Kept.drew ?_ | refine Kept.drewN ?_ _)) : Kept w (ext (ext (ext (((w.alloc (.cells #[.slice A n cap, .slice B m cap2] 25)).alloc (.cells #[.slice (some ⟨b, off, none⟩) n2 cap3, .slice B2 m2 cap4] 25)).alloc (.cells #[.slice none 0 0, .slice none 0 0] 25)) x1) x2) y))) hlt
        cases eb
        have LB' : Lower b w.heap.size := by
          obtain ⟨b', off', eb, hb', -⟩ := rows3 HQ.out hlt
          cases eb
          exact ⟨hb'⟩

        simp only [swapL, Nat.reduceAdd]
        repeat (go_big_quiet_step (fail))
        refine wpQuiet_nil ?_
        rfl
      · simp only [EachS, and_true]
        refine ⟨?_, ?_, ?_, ?_⟩
        · intro L b w' hd hL hI
          have h0 := hI.v0 hL
          have LQ : Lower gb w'.heap.size := ⟨cell_lt h0⟩
          go_simp
          exact ⟨rfl, hI.op1 (by omega) hL⟩
        · intro L b w' hd hL hI
          have h5 := hI.op5 (by omega)
          rw [HU.out 0, HU.out 1, HU.out 2] at h5
          go_simp
          exact ⟨rfl, h5⟩
        · intro L b w' hd hL hI
          have d5 : L 7 = true := hd { on := 7, ground := .data } (by simp) rfl
          obtain ⟨g5, e5, e6⟩ := hI.n5 d5
          have hs := hI.s hL
          refine tells_append (.tmp 38) (.tmp 44) 22 (by rfl) _ 34 i0 _ 3 24 Try.underlying22 HJP.out.1 HJP.out.2.1 HJP.out.2.2.1 HJP.out.2.2.2 (by rfl) (by omega) (kept_le hI.kept) _ (n + k) (rowC 3 (uniP n P Q) (n + k)) (by rfl) hs (some ⟨g5, 0, none⟩) 1 1 _ e5 (one_rows (e6 hL) ⟨by rw [HU.out 0]; exact IQQ.out k hlt 0 (by omega), by rw [HU.out 1]; exact IQQ.out k hlt 1 (by omega), by rw [HU.out 2]; exact IQQ.out k hlt 2 (by omega)⟩) (by unfold maxLen; omega) (by omega) ?_
          intro v' w'' k1 k2 k3
          rw [rowC_one3, ← rowC_succ3] at k1
          exact ⟨rfl, hI.op6 (by omega) hL k1 k2⟩
        · intro L b w' hd hL hI
          have d1 : L 1 = true := hd { on := 1, ground := .phase } (by simp) rfl
          have d6 : L 8 = true := hd { on := 8, ground := .phase } (by simp) rfl
          have h8 := hI.op8 (u := undef) (by omega) d1 d6 hL hrb hgl
          obtain ⟨q0, -, q1, -⟩ := cells2 hI.q
          obtain ⟨A6, c6, e6⟩ := own_slice2 (hI.t d6)
          rw [e6] at h8
          have LQ : Lower gb w'.heap.size := ⟨cell_lt q0⟩
          go_simp
          exact ⟨rfl, h8⟩
      · intro b b' d hd
        simp [callSlots, dullOp] at hd
      · intro L b w' hL hI
        have hM := hI.done (hL 8 (by decide)) (hL 10 (by decide))
        have HM2 := Lib.hid hM
        clear hM hL hI
        go_wp2_with fail
        go_roundw
        case rel => exact ⟨k + 1, by omega, by go_num, _, HM2.out⟩
        case measure => simp [intOf]; omega
    · obtain rfl : k = n2 := by omega
      have gk : decide ((k : Int) < k) = false := decide_eq_false (by omega)
      have HM := Lib.hid hM
      clear hM
      go_wp2_with fail
      clear kb LKB m0 m1 z0 z1 LM
      go_loopw [11] (fun i wr => ∃ q : Nat, q ≤ m2 ∧ i = .int .i64 q ∧ ∃ v, Msh2 (ext (ext (((w.alloc (.cells #[.slice A n cap, .slice B m cap2] 25)).alloc (.cells #[.slice A2 k cap3, .slice B2 m2 cap4] 25)).alloc (.cells #[.slice none 0 0, .slice none 0 0] 25)) x1) x2) (w.heap.size + 1 + 1) gb (.slice A9 (n + k) c9) (n + k) (uniP n P Q) v (m + q) (uniF n m F G) wr) (fun i _ => m2 - (intOf i).toNat)
      case atStart => exact ⟨0, by omega, rfl, _, HM.out⟩
      case round =>
        clear HM
        obtain ⟨q, hq, rfl, v, hM⟩ := hrel
        obtain ⟨A7, c7, rfl, hc7⟩ := own_sl hM.f
        obtain ⟨m0, m1, z0, z1⟩ := cells2 hM.q
        have LM : Lower gb wr.heap.size := ⟨cell_lt m0⟩
        have kb : wr.cell? ⟨w.heap.size + 1, 1, none⟩ = some (.slice B2 m2 cap4) := kept_cell (w := (ext (ext (((w.alloc (.cells #[.slice A n cap, .slice B m cap2] 25)).alloc (.cells #[.slice A2 k cap3, .slice B2 m2 cap4] 25)).alloc (.cells #[.slice none 0 0, .slice none 0 0] 25)) x1) x2)) (by go_simp) hM.kept
        have LKB : Lower (w.heap.size + 1) wr.heap.size := ⟨cell_lt kb⟩
        by_cases hlt2 : q < m2
        · have hk0 : Kept w wr := (by (repeat (first | exact Kept.refl _ | assumption | refine Kept.alloc ?_ _ | refine Kept.ext ?_ _ | refine Kept.drew ?_ | refine Kept.drewN ?_ _)) : Kept w (ext (ext (((w.alloc (.cells #[.slice A n cap, .slice B m cap2] 25)).alloc (.cells #[.slice A2 k cap3, .slice B2 m2 cap4] 25)).alloc (.cells #[.slice none 0 0, .slice none 0 0] 25)) x1) x2)).trans hM.kept
          obtain ⟨fb, off, rfl, hb, f0, f1, f2⟩ := rows3 (HG.out.of hk0) hlt2
          have LB : Lower fb wr.heap.size := ⟨hb⟩
          have gq : decide ((q : Int) < m2) = true := decide_eq_true (by omega)
          have n0 := HIN.out q hlt2 0 (by omega)
          have n1 := HIN.out q hlt2 1 (by omega)
          have n2' := HIN.out q hlt2 2 (by omega)
          have HM := Lib.hid hM
          clear hM hb hk0
          have b0 : -9223372036854775808 ≤ G q 0 + n ∧ G q 0 + n ≤ 9223372036854775807 := by omega
          have b1 : -9223372036854775808 ≤ G q 1 + n ∧ G q 1 + n ≤ 9223372036854775807 := by omega
          have b2 : -9223372036854775808 ≤ G q 2 + n ∧ G q 2 + n ≤ 9223372036854775807 := by omega
          go_wp2_with (at_builtin; refine wpList_append_lies _ rfl _ _ _ rfl _ 54 i1 _ 3 24 Try.underlying23 HJ.out.1 HJ.out.2.1 HJ.out.2.2.1 HJ.out.2.2.2 rfl (by omega) (.slice A7 (m + q) c7) (m + q) (rowC 3 (uniF n m F G) (m + q)) rfl (owns_kept HM.out.f (by (repeat (first | exact Kept.refl _ | assumption | refine Kept.alloc ?_ _ | refine Kept.ext ?_ _ | refine Kept.drew ?_ | refine Kept.drewN ?_ _)))) _ 1 1 [.int .i64 (G q 0 + n), .int .i64 (G q 1 + n), .int .i64 (G q 2 + n)] rfl rfl (World.news_of_block (alloc_now _ _ _)) (by simp [Value.oneCell']) (by omega) (by unfold maxLen; omega) (by omega) (kept_le (HM.out.kept.trans (by (repeat (first | exact Kept.refl _ | assumption | refine Kept.alloc ?_ _ | refine Kept.ext ?_ _ | refine Kept.drew ?_ | refine Kept.drewN ?_ _))))) _ rfl ?_; intro g cp w2 hown2 hg2 hat hlt3; have hm2 := own_keepsB (owns_kept HM.out.f (by (repeat (first | exact Kept.refl _ | assumption | refine Kept.alloc ?_ _ | refine Kept.ext ?_ _ | refine Kept.drew ?_ | refine Kept.drewN ?_ _)))) hg2 (fr_kept HM.out.q (by (repeat (first | exact Kept.refl _ | assumption | refine Kept.alloc ?_ _ | refine Kept.ext ?_ _ | refine Kept.drew ?_ | refine Kept.drewN ?_ _)))) (by decide); obtain ⟨m0, m1, z0, z1⟩ := cells2 hm2; have LM : Lower gb w2.heap.size := ⟨cell_lt m0⟩; have hg3 : World.grownBy _ w2 (Value.ownBlock (.slice A7 (m + q) c7)) := hg2; have HO2 := Lib.hid (And.intro hown2 hg3); clear hown2 hg2 hg3 hat hlt3 hm2)
          go_roundw
          case rel =>
            refine ⟨q + 1, by omega, by go_num, .slice (some ⟨g, 0, none⟩) (m + q + 1) cp, ?_⟩
            refine Msh2.appF (m := m + q) (d := 1) HM.out (by (repeat (first | exact Kept.refl _ | assumption | refine Kept.alloc ?_ _ | refine Kept.ext ?_ _ | refine Kept.drew ?_ | refine Kept.drewN ?_ _))) ?_ HO2.out.2 hrb hgl
            have e : rowC 3 (uniF n m F G) (m + q + 1) = rowC 3 (uniF n m F G) (m + q) ++ [.int .i64 (G q 0 + n), .int .i64 (G q 1 + n), .int .i64 (G q 2 + n)] := by
              rw [rowC_succ3]
              unfold uniF
              simp only [show ¬ m + q < m by omega, if_false, Nat.add_sub_cancel_left]
            rw [e]
            exact HO2.out.1
          case measure => simp [intOf]; omega
        · obtain rfl : q = m2 := by omega
          have gq : decide ((q : Int) < q) = false := decide_eq_false (by omega)
          have hP3 := rows_of_owns hM.p (fun i hi j hj => by
            unfold uniP
            split
            · exact IPP.out i (by omega) j hj
            · exact IQQ.out (i - n) (by omega) j hj)
          have hF3 := rows_of_owns hM.f (fun i hi j hj => by
            unfold uniF
            split
            · exact IFF.out i (by omega) j hj
            · have := HIN.out (i - m) (by omega) j hj
              unfold I64
              omega)
          have HP3 := Lib.hid hP3
          have HF3 := Lib.hid hF3
          have HM := Lib.hid hM
          clear hM hP3 hF3
          go_wp2_with fail
          refine (r2toldK_any _ _ _ _ _ _ (uniP n P Q) (uniF n m F G) _ (by omega) (HP3.out.of (by (repeat (first | exact Kept.refl _ | assumption | refine Kept.alloc ?_ _ | refine Kept.ext ?_ _ | refine Kept.drew ?_ | refine Kept.drewN ?_ _)))) (HF3.out.of (by (repeat (first | exact Kept.refl _ | assumption | refine Kept.alloc ?_ _ | refine Kept.ext ?_ _ | refine Kept.drew ?_ | refine Kept.drewN ?_ _))))).mono ?_
          rintro r w1 ⟨rfl, x9, rfl⟩
          have HR := Lib.hid (fr_kept HM.out.r (by (repeat (first | exact Kept.refl _ | assumption | refine Kept.alloc ?_ _ | refine Kept.ext ?_ _ | refine Kept.drew ?_ | refine Kept.drewN ?_ _)) : Kept wr (ext wr x9)))
          rw [HE3.out]
          obtain ⟨q1, q2, -, -⟩ := cells2 (setRow_heap _ _ _ #[.slice (okA e3 A9) (okN e3 (n + k)) (okN e3 c9), .slice (okA e3 A7) (okN e3 (m + q)) (okN e3 c7)] _ _ HR.out)
          go_wp2_with (refine wpList_store_row rfl 25 (.tmp 4) (.tmp 79) rfl (w.heap.size + 1 + 1) _ rfl rfl _ _ HR.out (by kernel_rfl) rfl (by simp [Value.oneCell']) ?_)
          refine bodyPost_ret (by simp only [results, Try.results56]; go_simp; rfl) rfl ?_
          exact HM.out.fin2 (by (repeat (first | exact Kept.refl _ | assumption | refine Kept.alloc ?_ _ | refine Kept.ext ?_ _ | refine Kept.drew ?_ | refine Kept.drewN ?_ _))) e3 (by (repeat (first | exact Kept.refl _ | assumption | refine Kept.alloc ?_ _ | refine Kept.ext ?_ _ | refine Kept.drew ?_ | refine Kept.drewN ?_ _))) (by omega)
end Go.Proofs.Ytoadlneneijfaaa
