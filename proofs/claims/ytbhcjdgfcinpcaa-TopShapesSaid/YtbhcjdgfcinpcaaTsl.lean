/- For every input the statement TopShapes returns true and leaves its arguments as they were. No conditions. -/
import Derived.Test.YtbhcjdgfcinpcaaTse
namespace Go.Proofs.Ytbhcjdgfcinpcaa
set_option linter.unusedVariables false
set_option linter.unusedSimpArgs false
open Go.ChangeShapes Go.WideShapes Go.ChangeAt Go.RowKit Go.Deep
set_option maxRecDepth 100000 in
set_option maxHeartbeats 32000000 in
theorem shapes_main (A : Option Addr) (n cap : Nat) (P : Nat → Nat → Int) (B : Option Addr) (m cap2 : Nat) (F : Nat → Nat → Int) (A2 : Option Addr) (n2 cap3 : Nat) (Q : Nat → Nat → Int) (B2 : Option Addr) (m2 cap4 : Nat) (G : Nat → Nat → Int) (v0 v1 v2 p0 p1 p2 k : Int) (w : World) (h : (n ≤ cap ∧ cap ≤ maxLen ∧ RowsAt w A n 3 P) ∧ (m ≤ cap2 ∧ cap2 ≤ maxLen ∧ RowsAt w B m 3 F)) (h' : (n2 ≤ cap3 ∧ cap3 ≤ maxLen ∧ RowsAt w A2 n2 3 Q) ∧ (m2 ≤ cap4 ∧ cap4 ≤ maxLen ∧ RowsAt w B2 m2 3 G)) (hl : ¬ (200 < n ∨ 300 < m)) (hk : ¬ (200 < n2 ∨ 300 < m2)) (hv : validE n P m F = 0) (hae : (areaS n P m F).e = 0) :
    Calls Try.prog 3 #[.agg #[.slice A n cap, .slice B m cap2], .agg #[.slice A2 n2 cap3, .slice B2 m2 cap4], .agg #[.int .i64 v0, .int .i64 v1, .int .i64 v2, .int .i64 p0, .int .i64 p1, .int .i64 p2, .int .i64 k]] w fun r w' => r = .returned (.bool true) ∧ Kept w w' := by
  obtain ⟨⟨a1, a2, hP⟩, b1, b2, hF⟩ := h
  obtain ⟨⟨a3, a4, hQ⟩, b3, b4, hG⟩ := h'
  unfold maxLen at a2 b2 a4 b4
  have HP := Lib.hid hP
  have HF := Lib.hid hF
  have HQ := Lib.hid hQ
  have HG := Lib.hid hG
  have HFI := Lib.hid (rows_I hF)
  have HGI := Lib.hid (rows_I hG)
  clear hP hF hQ hG
  have hn : n ≤ 9223372036854775807 ∧ m ≤ 9223372036854775807 := by omega
  have hn2 : n2 ≤ 9223372036854775807 ∧ m2 ≤ 9223372036854775807 := by omega
  have hl2 : (decide (200 < n) || decide (300 < m)) = false := by simpa using hl
  have HL := Lib.hid hl2
  clear hl hl2
  have hl2 : (decide (200 < n2) || decide (300 < m2)) = false := by simpa using hk
  have HL2 := Lib.hid hl2
  clear hk hl2
  obtain ⟨R, hR⟩ : ∃ R, areaS n P m F = R := ⟨_, rfl⟩
  obtain ⟨al', ah', ae⟩ := R
  have HAR := Lib.hid hR
  rw [hR] at hae
  obtain rfl : ae = 0 := hae
  obtain ⟨z, hz⟩ : ∃ z, vol P F m = z := ⟨_, rfl⟩
  obtain ⟨c0, hc0⟩ : ∃ c, cen P F 0 m = c := ⟨_, rfl⟩
  obtain ⟨c1, hc1⟩ : ∃ c, cen P F 1 m = c := ⟨_, rfl⟩
  obtain ⟨c2, hc2⟩ : ∃ c, cen P F 2 m = c := ⟨_, rfl⟩
  have vc := VC.mk' hv
  rw [hz, hc0, hc1, hc2] at vc
  have VA := Lib.hid vc
  have bz := vol_b hv
  have bc0 := cen_b hv (c := 0) (by omega)
  have bc1 := cen_b hv (c := 1) (by omega)
  have bc2 := cen_b hv (c := 2) (by omega)
  rw [hz] at bz
  rw [hc0] at bc0
  rw [hc1] at bc1
  rw [hc2] at bc2
  obtain ⟨al, hal⟩ := al_ext n P m F
  have hO := hal hv
  have HAL := Lib.hid hal
  obtain ⟨em, hem⟩ : ∃ e, chgE n P m F (!(inB v0 v1 v2 128)) (movP P v0 v1 v2) F = e := ⟨_, rfl⟩
  obtain ⟨es, hes⟩ : ∃ e, chgE n P m F (!(frB k 1 128)) (sclP P k) F = e := ⟨_, rfl⟩
  obtain ⟨et, het⟩ : ∃ e, chgE n P m F false (turnP P) F = e := ⟨_, rfl⟩
  obtain ⟨er, her⟩ : ∃ e, chgE n P m F false (mirP P) (mirF F) = e := ⟨_, rfl⟩
  obtain ⟨ef, hef⟩ : ∃ e, finE n P m F al = e := ⟨_, rfl⟩
  obtain ⟨eu, heu⟩ : ∃ e, uniE n P m F n2 Q m2 G = e := ⟨_, rfl⟩
  have XM := Lib.hid (fun (h0 : em = 0) => show ((-128 ≤ v0 ∧ v0 ≤ 128 ∧ -128 ≤ v1 ∧ v1 ≤ 128 ∧ -128 ≤ v2 ∧ v2 ≤ 128) ∧ (∀ k, k < n → ∀ j, j < 3 → I64 (movP P v0 v1 v2 k j)) ∧ VC n (movP P v0 v1 v2) m F z (c0 + 4 * z * v0) (c1 + 4 * z * v1) (c2 + 4 * z * v2) ∧ areaS n (movP P v0 v1 v2) m F = ⟨al', ah', 0⟩) by
    obtain ⟨-, hb, h2⟩ := chgE_0t (hem.trans h0)
    refine ⟨inB_true (by simpa using hb), pts_It h2, ?_, by rw [area_V v0 v1 v2 hv h2, hR]⟩
    have e := VC.mk' h2
    rw [vol_V hO, cen_V hO v0 v1 v2 (c := 0) (by omega), cen_V hO v0 v1 v2 (c := 1) (by omega), cen_V hO v0 v1 v2 (c := 2) (by omega), hz, hc0, hc1, hc2] at e
    exact e)
  have XS := Lib.hid (fun (h0 : es = 0) => show ((1 ≤ k ∧ k ≤ 128) ∧ (∀ j, j < n → ∀ i, i < 3 → I64 (sclP P k j i)) ∧ VC n (sclP P k) m F (z * k * k * k) (k * k * k * k * c0) (k * k * k * k * c1) (k * k * k * k * c2) ∧ ((areaS n (sclP P k) m F).e = 0 → (scaleS al' ah' (k * k)).e = 0 → (meetS (areaS n (sclP P k) m F).lo (areaS n (sclP P k) m F).hi (scaleS al' ah' (k * k)).lo (scaleS al' ah' (k * k)).hi).ok = true ∧ (meetS (areaS n (sclP P k) m F).lo (areaS n (sclP P k) m F).hi (scaleS al' ah' (k * k)).lo (scaleS al' ah' (k * k)).hi).e = 0) ∧
      (-28991029248 ≤ k * k * k * k * c0 ∧ k * k * k * k * c0 ≤ 28991029248) ∧ (-28991029248 ≤ k * k * k * k * c1 ∧ k * k * k * k * c1 ≤ 28991029248) ∧ (-28991029248 ≤ k * k * k * k * c2 ∧ k * k * k * k * c2 ≤ 28991029248)) by
    obtain ⟨-, hb, h2⟩ := chgE_0t (hes.trans h0)
    have hk1 := frB_true (show frB k 1 128 = true by simpa using hb)
    have q0 := cen_b h2 (c := 0) (by omega)
    have q1 := cen_b h2 (c := 1) (by omega)
    have q2 := cen_b h2 (c := 2) (by omega)
    rw [cen_S, hc0] at q0
    rw [cen_S, hc1] at q1
    rw [cen_S, hc2] at q2
    refine ⟨hk1, pts_It h2, ?_, fun h3 h4 => ?_, q0, q1, q2⟩
    · have e := VC.mk' h2
      rw [vol_S, cen_S, cen_S, cen_S, hz, hc0, hc1, hc2, show k * k * k * z = z * k * k * k by grind] at e
      exact e
    · have := area_S (P := P) (F := F) (n := n) (m := m) hk1.1 (by rw [hR]) h3 (by rw [hR]; exact h4)
      rw [hR] at this
      exact this)
  have XT := Lib.hid (fun (h0 : et = 0) => show ((∀ k, k < n → ∀ j, j < 3 → I64 (turnP P k j)) ∧ VC n (turnP P) m F z (-c1) c0 c2) by
    obtain ⟨-, -, h2⟩ := chgE_0t (het.trans h0)
    refine ⟨pts_It h2, ?_⟩
    have e := VC.mk' h2
    obtain ⟨e1, e2, e3, e4⟩ := vol_T (P := P) (F := F) (m := m)
    rw [e1, e2, e3, e4, hz, hc0, hc1, hc2] at e
    exact e)
  have XR := Lib.hid (fun (h0 : er = 0) => show ((∀ k, k < n → ∀ j, j < 3 → I64 (mirP P k j)) ∧ VC n (mirP P) m (mirF F) z (-c0) c1 c2) by
    obtain ⟨-, -, h2⟩ := chgE_0t (her.trans h0)
    refine ⟨pts_It h2, ?_⟩
    have e := VC.mk' h2
    obtain ⟨e1, e2, e3, e4⟩ := vol_M (P := P) (F := F) (m := m)
    rw [e1, e2, e3, e4, hz, hc0, hc1, hc2] at e
    exact e)
  have XF := Lib.hid (fun (h0 : ef = 0) => show ((∀ k, k < npt n al (3 * m) → ∀ j, j < 3 → I64 (finP n m P F al k j)) ∧ VC (npt n al (3 * m)) (finP n m P F al) (4 * m) (finF n F al) (8 * z) (16 * c0) (16 * c1) (16 * c2) ∧ ((areaS (npt n al (3 * m)) (finP n m P F al) (4 * m) (finF n F al)).e = 0 → (scaleS al' ah' 4).e = 0 → (meetS (areaS (npt n al (3 * m)) (finP n m P F al) (4 * m) (finF n F al)).lo (areaS (npt n al (3 * m)) (finP n m P F al) (4 * m) (finF n F al)).hi (scaleS al' ah' 4).lo (scaleS al' ah' 4).hi).ok = true ∧ (meetS (areaS (npt n al (3 * m)) (finP n m P F al) (4 * m) (finF n F al)).lo (areaS (npt n al (3 * m)) (finP n m P F al) (4 * m) (finF n F al)).hi (scaleS al' ah' 4).lo (scaleS al' ah' 4).hi).e = 0)) by
    have h2 := finE_0t (hef.trans h0)
    refine ⟨pts_It h2, ?_, fun h3 h4 => ?_⟩
    · have e := VC.mk' h2
      rw [fin_vol hO (clo_of hv).inn, fin_cen hO (clo_of hv).inn, fin_cen hO (clo_of hv).inn, fin_cen hO (clo_of hv).inn, hz, hc0, hc1, hc2] at e
      exact e
    · have := area_F (P := P) hO (by rw [hR]) h3 (by rw [hR]; exact h4)
      rw [hR] at this
      exact this)
  have XU := Lib.hid (fun (h0 : eu = 0) => show ((∀ k, k < n + n2 → ∀ j, j < 3 → I64 (uniP n P Q k j)) ∧ (m + m2 ≤ 9223372036854775807 ∧ n + n2 ≤ 9223372036854775807) ∧ (∀ k, k < m + m2 → ∀ j, j < 3 → I64 (uniF n m F G k j)) ∧ _) by
    obtain ⟨h1, h2, h3⟩ := uniE_0 (heu.trans h0)
    have s1 := valid_sz h1
    have s2 := valid_sz h2
    refine ⟨pts_It h3, by omega, fun i hi j hj => ?_, uni_win (q0 := p0) (q1 := p1) (q2 := p2) h1 h2 h3⟩
    have := (clo_of h3).inn i hi j hj
    unfold I64
    omega)
  have HIF := Lib.hid (finF_I (F := F) (al := al) (n := n) (m := m) (by have := valid_sz hv; omega) hO (clo_of hv).inn)
  have HEM := Lib.hid hem
  have HES := Lib.hid hes
  have HET := Lib.hid het
  have HER := Lib.hid her
  have HEF := Lib.hid hef
  have HEU := Lib.hid heu
  have hsz := valid_sz hv
  have hnp : npt n al (3 * m) ≤ n + 3 * m := by unfold npt; have := cnB_le (newB al) (3 * m); omega
  clear hz hc0 hc1 hc2 hem hes het her hef heu hal hO hR hv vc
  go_enter Try.func3, Try.ntmps3
  go_upto_region 1 with fail
  go_cut [7, 8, 9] from 60 to 65 (fun s7 s8 s9 wx => s9 = .int .i64 k ∧ ∃ y i j, wx = ext (((w.alloc (.cells #[.slice A n cap, .slice B m cap2] 25)).alloc (.cells #[.slice A2 n2 cap3, .slice B2 m2 cap4] 25)).alloc (.cells #[.int .i64 v0, .int .i64 v1, .int .i64 v2, .int .i64 p0, .int .i64 p1, .int .i64 p2, .int .i64 k] 29)) y ∧ s7 = .pointer (some ⟨adv (w.heap.size + 1 + 1 + 1) i, 0, none⟩) ∧ s8 = .pointer (some ⟨adv (w.heap.size + 1 + 1 + 1) j, 0, none⟩) ∧ i < y.obs.size ∧ j < y.obs.size ∧
    y.cell i 0 = some (.int .i64 v0) ∧ y.cell i 1 = some (.int .i64 v1) ∧ y.cell i 2 = some (.int .i64 v2) ∧ y.cell j 0 = some (.int .i64 p0) ∧ y.cell j 1 = some (.int .i64 p1) ∧ y.cell j 2 = some (.int .i64 p2))
  case first =>
    go_region_held3 (fun w' => w'.cell? ⟨w.heap.size + 1 + 1, 0, none⟩ = some (.int .i64 v0) ∧ w'.cell? ⟨w.heap.size + 1 + 1, 1, none⟩ = some (.int .i64 v1) ∧ w'.cell? ⟨w.heap.size + 1 + 1, 2, none⟩ = some (.int .i64 v2) ∧ w'.cell? ⟨w.heap.size + 1 + 1, 3, none⟩ = some (.int .i64 p0) ∧ w'.cell? ⟨w.heap.size + 1 + 1, 4, none⟩ = some (.int .i64 p1) ∧ w'.cell? ⟨w.heap.size + 1 + 1, 5, none⟩ = some (.int .i64 p2) ∧ w'.cell? ⟨w.heap.size + 1 + 1, 6, none⟩ = some (.int .i64 k)) ((refine ⟨?_, ?_, ?_, ?_, ?_, ?_, ?_⟩ <;> go_simp)) ((first | fail))
    all_goals (go_wp2_with fail; go_meet)
    all_goals
      refine ⟨rfl, cutT (show Kept _ _ by (repeat (first | exact Kept.refl _ | assumption | refine Kept.alloc ?_ _ | refine Kept.ext ?_ _ | refine Kept.drew ?_ | refine Kept.drewN ?_ _))) ⟨?_, ?_⟩ ⟨?_, ?_⟩ ?_ ?_ ?_ ?_ ?_ ?_⟩
      all_goals first | (go_simp; done) | (simp [adv]; done) | (simp [adv]; omega)
  case rest =>
  obtain ⟨rfl, yb, ib, jb, rfl, rfl, rfl, li, lj, f0, f1, f2, g0, g1, g2⟩ := hcut
  have Li : Lower ib yb.obs.size := ⟨li⟩
  have Lj : Lower jb yb.obs.size := ⟨lj⟩
  clear li lj
  go_wp2_with fail
  refine (socta_any _ _).mono ?_
  rintro r w1 ⟨A9, c9, B9, d9, rfl, ⟨x9, rfl⟩, -, -⟩
  rw [octaE1]
  simp only [okN_0t]
  go_wp2_with fail
  refine (long_any _ _ _ _ _ _ _).mono ?_
  rintro r w1 ⟨rfl, x0, rfl⟩
  rw [HL.out]
  go_wp2_with fail
  refine (long_any _ _ _ _ _ _ _).mono ?_
  rintro r w1 ⟨rfl, x1, rfl⟩
  rw [HL2.out]
  go_wp2_with fail
  refine (svol6_any _ _ _ _ _ _ P F _ hn (HP.out.of (by (repeat (first | exact Kept.refl _ | assumption | refine Kept.alloc ?_ _ | refine Kept.ext ?_ _ | refine Kept.drew ?_ | refine Kept.drewN ?_ _)))) (HF.out.of (by (repeat (first | exact Kept.refl _ | assumption | refine Kept.alloc ?_ _ | refine Kept.ext ?_ _ | refine Kept.drew ?_ | refine Kept.drewN ?_ _))))).mono ?_
  rintro r w1 ⟨rfl, x2, rfl⟩
  rw [VA.out.fz, VA.out.fv]
  go_wp2_with fail
  refine (scenter_any _ _ _ _ _ _ P F _ hn (HP.out.of (by (repeat (first | exact Kept.refl _ | assumption | refine Kept.alloc ?_ _ | refine Kept.ext ?_ _ | refine Kept.drew ?_ | refine Kept.drewN ?_ _)))) (HF.out.of (by (repeat (first | exact Kept.refl _ | assumption | refine Kept.alloc ?_ _ | refine Kept.ext ?_ _ | refine Kept.drew ?_ | refine Kept.drewN ?_ _))))).mono ?_
  rintro r w1 ⟨rfl, x3, rfl⟩
  rw [VA.out.f0, VA.out.f1, VA.out.f2, VA.out.fv]
  go_wp2_with fail
  refine (sarea_any _ _ _ _ _ _ P F _ hn (HP.out.of (by (repeat (first | exact Kept.refl _ | assumption | refine Kept.alloc ?_ _ | refine Kept.ext ?_ _ | refine Kept.drew ?_ | refine Kept.drewN ?_ _)))) (HF.out.of (by (repeat (first | exact Kept.refl _ | assumption | refine Kept.alloc ?_ _ | refine Kept.ext ?_ _ | refine Kept.drew ?_ | refine Kept.drewN ?_ _))))).mono ?_
  rintro r w1 ⟨rfl, x4, rfl⟩
  rw [HAR.out]
  go_wp2_with fail
  refine (smove_any _ _ _ _ _ _ P F _ _ _ _ hn (HP.out.of (by (repeat (first | exact Kept.refl _ | assumption | refine Kept.alloc ?_ _ | refine Kept.ext ?_ _ | refine Kept.drew ?_ | refine Kept.drewN ?_ _)))) (HF.out.of (by (repeat (first | exact Kept.refl _ | assumption | refine Kept.alloc ?_ _ | refine Kept.ext ?_ _ | refine Kept.drew ?_ | refine Kept.drewN ?_ _))))).mono ?_
  rw [HEM.out]
  rintro r w1 ⟨A3, c3, B3, d3, rfl, ⟨x5, rfl⟩, ho1, ho2⟩
  have H3 := Lib.hid ho1
  have H4 := Lib.hid ho2
  clear ho1 ho2
  go_upto_if 116 with fail
  refine wp_genA (fun W hW => ?_)
  have HW := Lib.hid hW
  clear hW
  go_cut [6, 20, 21, 22, 23, 24, 25] from 117 to 161 (fun _ _ _ _ _ _ _ wx => ∃ x, wx = ext W x)
  case first =>
    have hW := HW.out
    clear HW
    subst hW
    by_cases h0 : em = 0
    · have y := XM.out h0
      subst h0
      obtain ⟨yb, yp, yv, ya⟩ := y
      have K3 := Lib.hid (rowsT H3.out rfl yp)
      have K4 := Lib.hid (rowsT H4.out rfl HFI.out)
      clear yp
      simp only [okN_0t]
      have Y := Lib.hid yv
      have YA := Lib.hid ya
      clear yv ya
      have r0 := mul_bd 77309411328 (show -603979776 ≤ 4 * z ∧ 4 * z ≤ 603979776 by omega) (show -128 ≤ v0 ∧ v0 ≤ 128 by omega) rfl
      have r1 := mul_bd 77309411328 (show -603979776 ≤ 4 * z ∧ 4 * z ≤ 603979776 by omega) (show -128 ≤ v1 ∧ v1 ≤ 128 by omega) rfl
      have r2 := mul_bd 77309411328 (show -603979776 ≤ 4 * z ∧ 4 * z ≤ 603979776 by omega) (show -128 ≤ v2 ∧ v2 ≤ 128 by omega) rfl
      go_wp2_with fail
      refine (svol6_any _ _ _ _ _ _ (movP P v0 v1 v2) F _ (by omega) (K3.out.of (by (repeat (first | exact Kept.refl _ | assumption | refine Kept.alloc ?_ _ | refine Kept.ext ?_ _ | refine Kept.drew ?_ | refine Kept.drewN ?_ _)))) (K4.out.of (by (repeat (first | exact Kept.refl _ | assumption | refine Kept.alloc ?_ _ | refine Kept.ext ?_ _ | refine Kept.drew ?_ | refine Kept.drewN ?_ _))))).mono ?_
      rintro r w1 ⟨rfl, x7, rfl⟩
      rw [Y.out.fz, Y.out.fv]
      go_wp2_with fail
      refine (scenter_any _ _ _ _ _ _ (movP P v0 v1 v2) F _ (by omega) (K3.out.of (by (repeat (first | exact Kept.refl _ | assumption | refine Kept.alloc ?_ _ | refine Kept.ext ?_ _ | refine Kept.drew ?_ | refine Kept.drewN ?_ _)))) (K4.out.of (by (repeat (first | exact Kept.refl _ | assumption | refine Kept.alloc ?_ _ | refine Kept.ext ?_ _ | refine Kept.drew ?_ | refine Kept.drewN ?_ _))))).mono ?_
      rintro r w1 ⟨rfl, x8, rfl⟩
      rw [Y.out.f0, Y.out.f1, Y.out.f2, Y.out.fv]
      go_wp2_with fail
      refine (sarea_any _ _ _ _ _ _ (movP P v0 v1 v2) F _ (by omega) (K3.out.of (by (repeat (first | exact Kept.refl _ | assumption | refine Kept.alloc ?_ _ | refine Kept.ext ?_ _ | refine Kept.drew ?_ | refine Kept.drewN ?_ _)))) (K4.out.of (by (repeat (first | exact Kept.refl _ | assumption | refine Kept.alloc ?_ _ | refine Kept.ext ?_ _ | refine Kept.drew ?_ | refine Kept.drewN ?_ _))))).mono ?_
      rintro r w1 ⟨rfl, x10, rfl⟩
      rw [YA.out]
      go_wp2_with fail
      ((first | (with_reducible refine wp_region_kept2 (by kernel_rfl) (by kernel_rfl) ?_) | refine wp_region_kept (by kernel_rfl) (by kernel_rfl) ?_); (repeat (go_big_quiet_step (first | (go_at_call 12; exact Calls.kept_of (r2times_any v0 v1 v2 (4 * z) _ (by omega))) | (go_at_call 11; exact Calls.kept_of (r2plus_any c0 c1 c2 (4 * z * v0) (4 * z * v1) (4 * z * v2) _ (by omega)))))); refine wpQuiet_nil ?_; intro x16)
      go_wp2_with fail
      go_meet
      exact (show Kept _ _ by (repeat (first | exact Kept.refl _ | assumption | refine Kept.alloc ?_ _ | refine Kept.ext ?_ _ | refine Kept.drew ?_ | refine Kept.drewN ?_ _)))
    · have g1 : (em == 0) = false := by simpa using h0
      have g2 : decide (em = 0) = false := by simpa using h0
      clear h0
      go_wp2_with fail
      go_meet
      exact (show Kept _ _ by (repeat (first | exact Kept.refl _ | assumption | refine Kept.alloc ?_ _ | refine Kept.ext ?_ _ | refine Kept.drew ?_ | refine Kept.drewN ?_ _)))
  case rest =>
  obtain ⟨x6, rfl⟩ := hcut
  have hW := HW.out
  clear HW H3 H4
  subst hW
  go_wp2_with fail
  refine (sscale2_any _ _ _ _ _ _ P F _ _ hn (HP.out.of (by (repeat (first | exact Kept.refl _ | assumption | refine Kept.alloc ?_ _ | refine Kept.ext ?_ _ | refine Kept.drew ?_ | refine Kept.drewN ?_ _)))) (HF.out.of (by (repeat (first | exact Kept.refl _ | assumption | refine Kept.alloc ?_ _ | refine Kept.ext ?_ _ | refine Kept.drew ?_ | refine Kept.drewN ?_ _))))).mono ?_
  rw [HES.out]
  rintro r w1 ⟨A3, c3, B3, d3, rfl, ⟨x5, rfl⟩, ho1, ho2⟩
  have H3 := Lib.hid ho1
  have H4 := Lib.hid ho2
  clear ho1 ho2
  go_upto_if 169 with fail
  refine wp_genB (fun W hW => ?_)
  have HW := Lib.hid hW
  clear hW
  go_cut [6, 28, 29, 30, 31, 32, 33, 34, 35] from 170 to 230 (fun _ _ _ _ _ _ _ _ _ wx => ∃ x, wx = ext W x)
  case first =>
    have hW := HW.out
    clear HW
    subst hW
    by_cases h0 : es = 0
    · have y := XS.out h0
      subst h0
      obtain ⟨yb, yp, yv, ym, q0, q1, q2⟩ := y
      have K3 := Lib.hid (rowsT H3.out rfl yp)
      have K4 := Lib.hid (rowsT H4.out rfl HFI.out)
      clear yp
      simp only [okN_0t]
      have Y := Lib.hid yv
      have YM := Lib.hid ym
      clear yv ym
      have e1 := mul_bd 16384 (show -128 ≤ k ∧ k ≤ 128 by omega) (show -128 ≤ k ∧ k ≤ 128 by omega) rfl
      have e2 := mul_bd 2097152 e1 (show -128 ≤ k ∧ k ≤ 128 by omega) rfl
      have e3 := mul_bd 268435456 e2 (show -128 ≤ k ∧ k ≤ 128 by omega) rfl
      have t1 := mul_bd 19327352832 (show -150994944 ≤ z ∧ z ≤ 150994944 by omega) (show -128 ≤ k ∧ k ≤ 128 by omega) rfl
      have t2 := mul_bd 2473901162496 t1 (show -128 ≤ k ∧ k ≤ 128 by omega) rfl
      have t3 := mul_bd 316659348799488 t2 (show -128 ≤ k ∧ k ≤ 128 by omega) rfl
      go_wp2_with fail
      refine (svol6_any _ _ _ _ _ _ (sclP P k) F _ (by omega) (K3.out.of (by (repeat (first | exact Kept.refl _ | assumption | refine Kept.alloc ?_ _ | refine Kept.ext ?_ _ | refine Kept.drew ?_ | refine Kept.drewN ?_ _)))) (K4.out.of (by (repeat (first | exact Kept.refl _ | assumption | refine Kept.alloc ?_ _ | refine Kept.ext ?_ _ | refine Kept.drew ?_ | refine Kept.drewN ?_ _))))).mono ?_
      rintro r w1 ⟨rfl, x7, rfl⟩
      rw [Y.out.fz, Y.out.fv]
      go_wp2_with fail
      refine (scenter_any _ _ _ _ _ _ (sclP P k) F _ (by omega) (K3.out.of (by (repeat (first | exact Kept.refl _ | assumption | refine Kept.alloc ?_ _ | refine Kept.ext ?_ _ | refine Kept.drew ?_ | refine Kept.drewN ?_ _)))) (K4.out.of (by (repeat (first | exact Kept.refl _ | assumption | refine Kept.alloc ?_ _ | refine Kept.ext ?_ _ | refine Kept.drew ?_ | refine Kept.drewN ?_ _))))).mono ?_
      rintro r w1 ⟨rfl, x8, rfl⟩
      rw [Y.out.f0, Y.out.f1, Y.out.f2, Y.out.fv]
      go_wp2_with fail
      refine (sarea_any _ _ _ _ _ _ (sclP P k) F _ (by omega) (K3.out.of (by (repeat (first | exact Kept.refl _ | assumption | refine Kept.alloc ?_ _ | refine Kept.ext ?_ _ | refine Kept.drew ?_ | refine Kept.drewN ?_ _)))) (K4.out.of (by (repeat (first | exact Kept.refl _ | assumption | refine Kept.alloc ?_ _ | refine Kept.ext ?_ _ | refine Kept.drew ?_ | refine Kept.drewN ?_ _))))).mono ?_
      rintro r w1 ⟨rfl, x10, rfl⟩
      go_wp2_with fail
      refine (scale_any _ _ _ _).mono ?_
      rintro r w1 ⟨rfl, x11, rfl⟩
      go_wp2_with fail
      ((first | (with_reducible refine wp_region_kept2 (by kernel_rfl) (by kernel_rfl) ?_) | refine wp_region_kept (by kernel_rfl) (by kernel_rfl) ?_); (repeat (go_big_quiet_step (first | (go_at_call 12; exact Calls.kept_of (r2timesX_any c0 c1 c2 (k * k * k * k) _ (by omega))) | (go_at_call 15; exact Calls.kept_of (tmeets_any _ _ _ _ _ _ _ YM.out))))); refine wpQuiet_nil ?_; intro x16)
      go_wp2_with fail
      go_meet
      exact (show Kept _ _ by (repeat (first | exact Kept.refl _ | assumption | refine Kept.alloc ?_ _ | refine Kept.ext ?_ _ | refine Kept.drew ?_ | refine Kept.drewN ?_ _)))
    · have g1 : (es == 0) = false := by simpa using h0
      have g2 : decide (es = 0) = false := by simpa using h0
      clear h0
      go_wp2_with fail
      go_meet
      exact (show Kept _ _ by (repeat (first | exact Kept.refl _ | assumption | refine Kept.alloc ?_ _ | refine Kept.ext ?_ _ | refine Kept.drew ?_ | refine Kept.drewN ?_ _)))
  case rest =>
  obtain ⟨x6, rfl⟩ := hcut
  have hW := HW.out
  clear HW H3 H4
  subst hW
  go_wp2_with fail
  refine (sturn_any _ _ _ _ _ _ P F _ hn (HP.out.of (by (repeat (first | exact Kept.refl _ | assumption | refine Kept.alloc ?_ _ | refine Kept.ext ?_ _ | refine Kept.drew ?_ | refine Kept.drewN ?_ _)))) (HF.out.of (by (repeat (first | exact Kept.refl _ | assumption | refine Kept.alloc ?_ _ | refine Kept.ext ?_ _ | refine Kept.drew ?_ | refine Kept.drewN ?_ _))))).mono ?_
  rw [HET.out]
  rintro r w1 ⟨A3, c3, B3, d3, rfl, ⟨x5, rfl⟩, ho1, ho2⟩
  have H3 := Lib.hid ho1
  have H4 := Lib.hid ho2
  clear ho1 ho2
  go_upto_if 237 with fail
  refine wp_genB (fun W hW => ?_)
  have HW := Lib.hid hW
  clear hW
  go_cut [6, 38, 39, 40, 41] from 238 to 280 (fun _ _ _ _ _ wx => ∃ x, wx = ext W x)
  case first =>
    have hW := HW.out
    clear HW
    subst hW
    by_cases h0 : et = 0
    · have y := XT.out h0
      subst h0
      obtain ⟨yp, yv⟩ := y
      have K3 := Lib.hid (rowsT H3.out rfl yp)
      have K4 := Lib.hid (rowsT H4.out rfl HFI.out)
      clear yp
      simp only [okN_0t]
      have Y := Lib.hid yv
      clear yv
      go_wp2_with fail
      refine (svol6_any _ _ _ _ _ _ (turnP P) F _ (by omega) (K3.out.of (by (repeat (first | exact Kept.refl _ | assumption | refine Kept.alloc ?_ _ | refine Kept.ext ?_ _ | refine Kept.drew ?_ | refine Kept.drewN ?_ _)))) (K4.out.of (by (repeat (first | exact Kept.refl _ | assumption | refine Kept.alloc ?_ _ | refine Kept.ext ?_ _ | refine Kept.drew ?_ | refine Kept.drewN ?_ _))))).mono ?_
      rintro r w1 ⟨rfl, x7, rfl⟩
      rw [Y.out.fz, Y.out.fv]
      go_wp2_with fail
      refine (scenter_any _ _ _ _ _ _ (turnP P) F _ (by omega) (K3.out.of (by (repeat (first | exact Kept.refl _ | assumption | refine Kept.alloc ?_ _ | refine Kept.ext ?_ _ | refine Kept.drew ?_ | refine Kept.drewN ?_ _)))) (K4.out.of (by (repeat (first | exact Kept.refl _ | assumption | refine Kept.alloc ?_ _ | refine Kept.ext ?_ _ | refine Kept.drew ?_ | refine Kept.drewN ?_ _))))).mono ?_
      rintro r w1 ⟨rfl, x8, rfl⟩
      rw [Y.out.f0, Y.out.f1, Y.out.f2, Y.out.fv]
      go_wp2_with fail
      go_meet
      exact (show Kept _ _ by (repeat (first | exact Kept.refl _ | assumption | refine Kept.alloc ?_ _ | refine Kept.ext ?_ _ | refine Kept.drew ?_ | refine Kept.drewN ?_ _)))
    · have g1 : (et == 0) = false := by simpa using h0
      have g2 : decide (et = 0) = false := by simpa using h0
      clear h0
      go_wp2_with fail
      go_meet
      exact (show Kept _ _ by (repeat (first | exact Kept.refl _ | assumption | refine Kept.alloc ?_ _ | refine Kept.ext ?_ _ | refine Kept.drew ?_ | refine Kept.drewN ?_ _)))
  case rest =>
  obtain ⟨x6, rfl⟩ := hcut
  have hW := HW.out
  clear HW H3 H4
  subst hW
  go_wp2_with fail
  refine (smirror_any _ _ _ _ _ _ P F _ hn (HP.out.of (by (repeat (first | exact Kept.refl _ | assumption | refine Kept.alloc ?_ _ | refine Kept.ext ?_ _ | refine Kept.drew ?_ | refine Kept.drewN ?_ _)))) (HF.out.of (by (repeat (first | exact Kept.refl _ | assumption | refine Kept.alloc ?_ _ | refine Kept.ext ?_ _ | refine Kept.drew ?_ | refine Kept.drewN ?_ _))))).mono ?_
  rw [HER.out]
  rintro r w1 ⟨A3, c3, B3, d3, rfl, ⟨x5, rfl⟩, ho1, ho2⟩
  have H3 := Lib.hid ho1
  have H4 := Lib.hid ho2
  clear ho1 ho2
  go_upto_if 287 with fail
  refine wp_genB (fun W hW => ?_)
  have HW := Lib.hid hW
  clear hW
  go_cut [6, 44, 45, 46, 47] from 288 to 330 (fun _ _ _ _ _ wx => ∃ x, wx = ext W x)
  case first =>
    have hW := HW.out
    clear HW
    subst hW
    by_cases h0 : er = 0
    · have y := XR.out h0
      subst h0
      obtain ⟨yp, yv⟩ := y
      have K3 := Lib.hid (rowsT H3.out rfl yp)
      have K4 := Lib.hid (rowsT H4.out rfl (mirF_I HFI.out))
      clear yp
      simp only [okN_0t]
      have Y := Lib.hid yv
      clear yv
      go_wp2_with fail
      refine (svol6_any _ _ _ _ _ _ (mirP P) (mirF F) _ (by omega) (K3.out.of (by (repeat (first | exact Kept.refl _ | assumption | refine Kept.alloc ?_ _ | refine Kept.ext ?_ _ | refine Kept.drew ?_ | refine Kept.drewN ?_ _)))) (K4.out.of (by (repeat (first | exact Kept.refl _ | assumption | refine Kept.alloc ?_ _ | refine Kept.ext ?_ _ | refine Kept.drew ?_ | refine Kept.drewN ?_ _))))).mono ?_
      rintro r w1 ⟨rfl, x7, rfl⟩
      rw [Y.out.fz, Y.out.fv]
      go_wp2_with fail
      refine (scenter_any _ _ _ _ _ _ (mirP P) (mirF F) _ (by omega) (K3.out.of (by (repeat (first | exact Kept.refl _ | assumption | refine Kept.alloc ?_ _ | refine Kept.ext ?_ _ | refine Kept.drew ?_ | refine Kept.drewN ?_ _)))) (K4.out.of (by (repeat (first | exact Kept.refl _ | assumption | refine Kept.alloc ?_ _ | refine Kept.ext ?_ _ | refine Kept.drew ?_ | refine Kept.drewN ?_ _))))).mono ?_
      rintro r w1 ⟨rfl, x8, rfl⟩
      rw [Y.out.f0, Y.out.f1, Y.out.f2, Y.out.fv]
      go_wp2_with fail
      go_meet
      exact (show Kept _ _ by (repeat (first | exact Kept.refl _ | assumption | refine Kept.alloc ?_ _ | refine Kept.ext ?_ _ | refine Kept.drew ?_ | refine Kept.drewN ?_ _)))
    · have g1 : (er == 0) = false := by simpa using h0
      have g2 : decide (er = 0) = false := by simpa using h0
      clear h0
      go_wp2_with fail
      go_meet
      exact (show Kept _ _ by (repeat (first | exact Kept.refl _ | assumption | refine Kept.alloc ?_ _ | refine Kept.ext ?_ _ | refine Kept.drew ?_ | refine Kept.drewN ?_ _)))
  case rest =>
  obtain ⟨x6, rfl⟩ := hcut
  have hW := HW.out
  clear HW H3 H4
  subst hW
  go_wp2_with fail
  refine (sFiner_any _ _ _ _ _ _ P F al _ hn (HP.out.of (by (repeat (first | exact Kept.refl _ | assumption | refine Kept.alloc ?_ _ | refine Kept.ext ?_ _ | refine Kept.drew ?_ | refine Kept.drewN ?_ _)))) (HF.out.of (by (repeat (first | exact Kept.refl _ | assumption | refine Kept.alloc ?_ _ | refine Kept.ext ?_ _ | refine Kept.drew ?_ | refine Kept.drewN ?_ _)))) HAL.out).mono ?_
  rw [HEF.out]
  rintro r w1 ⟨A3, c3, B3, d3, rfl, ⟨x5, rfl⟩, ho1, ho2⟩
  have H3 := Lib.hid ho1
  have H4 := Lib.hid ho2
  clear ho1 ho2
  go_upto_if 337 with fail
  refine wp_genB (fun W hW => ?_)
  have HW := Lib.hid hW
  clear hW
  go_cut [6, 50, 51, 52, 53, 54, 55] from 338 to 368 (fun _ _ _ _ _ _ _ wx => ∃ x, wx = ext W x)
  case first =>
    have hW := HW.out
    clear HW
    subst hW
    by_cases h0 : ef = 0
    · have y := XF.out h0
      subst h0
      obtain ⟨yp, yv, ym⟩ := y
      have K3 := Lib.hid (rowsT H3.out rfl yp)
      have K4 := Lib.hid (rowsT H4.out rfl HIF.out)
      clear yp
      simp only [okN_0t]
      have Y := Lib.hid yv
      have YM := Lib.hid ym
      clear yv ym
      go_wp2_with fail
      refine (scenter_any _ _ _ _ _ _ (finP n m P F al) (finF n F al) _ (by omega) (K3.out.of (by (repeat (first | exact Kept.refl _ | assumption | refine Kept.alloc ?_ _ | refine Kept.ext ?_ _ | refine Kept.drew ?_ | refine Kept.drewN ?_ _)))) (K4.out.of (by (repeat (first | exact Kept.refl _ | assumption | refine Kept.alloc ?_ _ | refine Kept.ext ?_ _ | refine Kept.drew ?_ | refine Kept.drewN ?_ _))))).mono ?_
      rintro r w1 ⟨rfl, x8, rfl⟩
      rw [Y.out.f0, Y.out.f1, Y.out.f2, Y.out.fv]
      go_wp2_with fail
      refine (sarea_any _ _ _ _ _ _ (finP n m P F al) (finF n F al) _ (by omega) (K3.out.of (by (repeat (first | exact Kept.refl _ | assumption | refine Kept.alloc ?_ _ | refine Kept.ext ?_ _ | refine Kept.drew ?_ | refine Kept.drewN ?_ _)))) (K4.out.of (by (repeat (first | exact Kept.refl _ | assumption | refine Kept.alloc ?_ _ | refine Kept.ext ?_ _ | refine Kept.drew ?_ | refine Kept.drewN ?_ _))))).mono ?_
      rintro r w1 ⟨rfl, x10, rfl⟩
      go_wp2_with fail
      refine (scale_any _ _ _ _).mono ?_
      rintro r w1 ⟨rfl, x11, rfl⟩
      go_wp2_with fail
      ((first | (with_reducible refine wp_region_kept2 (by kernel_rfl) (by kernel_rfl) ?_) | refine wp_region_kept (by kernel_rfl) (by kernel_rfl) ?_); (repeat (go_big_quiet_step (first | (go_at_call 12; exact Calls.kept_of (r2timesX_any c0 c1 c2 16 _ (by omega))) | (go_at_call 15; exact Calls.kept_of (tmeets_any _ _ _ _ _ _ _ YM.out))))); refine wpQuiet_nil ?_; intro x16)
      go_wp2_with fail
      go_meet
      exact (show Kept _ _ by (repeat (first | exact Kept.refl _ | assumption | refine Kept.alloc ?_ _ | refine Kept.ext ?_ _ | refine Kept.drew ?_ | refine Kept.drewN ?_ _)))
    · have g1 : (ef == 0) = false := by simpa using h0
      have g2 : decide (ef = 0) = false := by simpa using h0
      clear h0
      go_wp2_with fail
      go_meet
      exact (show Kept _ _ by (repeat (first | exact Kept.refl _ | assumption | refine Kept.alloc ?_ _ | refine Kept.ext ?_ _ | refine Kept.drew ?_ | refine Kept.drewN ?_ _)))
  case rest =>
  obtain ⟨x6, rfl⟩ := hcut
  have hW := HW.out
  clear HW H3 H4
  subst hW
  go_wp2_with fail
  refine (sUnite_any _ _ _ _ _ _ _ _ _ _ _ _ P F Q G _ hn hn2 (HP.out.of (by (repeat (first | exact Kept.refl _ | assumption | refine Kept.alloc ?_ _ | refine Kept.ext ?_ _ | refine Kept.drew ?_ | refine Kept.drewN ?_ _)))) (HF.out.of (by (repeat (first | exact Kept.refl _ | assumption | refine Kept.alloc ?_ _ | refine Kept.ext ?_ _ | refine Kept.drew ?_ | refine Kept.drewN ?_ _)))) (HQ.out.of (by (repeat (first | exact Kept.refl _ | assumption | refine Kept.alloc ?_ _ | refine Kept.ext ?_ _ | refine Kept.drew ?_ | refine Kept.drewN ?_ _)))) (HG.out.of (by (repeat (first | exact Kept.refl _ | assumption | refine Kept.alloc ?_ _ | refine Kept.ext ?_ _ | refine Kept.drew ?_ | refine Kept.drewN ?_ _))))).mono ?_
  rw [HEU.out]
  rintro r w1 ⟨A3, c3, B3, d3, rfl, ⟨x5, rfl⟩, ho1, ho2⟩
  have H3 := Lib.hid ho1
  have H4 := Lib.hid ho2
  clear ho1 ho2
  by_cases h0 : eu = 0
  case neg =>
    have g1 : (eu == 0) = false := by simpa using h0
    have g2 : (eu != 0) = true := by simpa using h0
    clear h0
    go_wp2_with fail
    go_ret
    exact ⟨rfl, by (repeat (first | exact Kept.refl _ | assumption | refine Kept.alloc ?_ _ | refine Kept.ext ?_ _ | refine Kept.drew ?_ | refine Kept.drewN ?_ _))⟩
  obtain ⟨yp, ys, yf, yw⟩ := XU.out h0
  subst h0
  have K3 := Lib.hid (rowsT H3.out rfl yp)
  have K4 := Lib.hid (rowsT H4.out rfl yf)
  have YW := Lib.hid yw
  clear yp yf yw
  simp only [okN_0t]
  go_wp2_with fail
  refine (sWinding_any _ _ _ _ _ _ P F _ _ _ _ hn (HP.out.of (by (repeat (first | exact Kept.refl _ | assumption | refine Kept.alloc ?_ _ | refine Kept.ext ?_ _ | refine Kept.drew ?_ | refine Kept.drewN ?_ _)))) (HF.out.of (by (repeat (first | exact Kept.refl _ | assumption | refine Kept.alloc ?_ _ | refine Kept.ext ?_ _ | refine Kept.drew ?_ | refine Kept.drewN ?_ _))))).mono ?_
  rintro r w1 ⟨rfl, x7, rfl⟩
  go_wp2_with fail
  refine (sWinding_any _ _ _ _ _ _ Q G _ _ _ _ hn2 (HQ.out.of (by (repeat (first | exact Kept.refl _ | assumption | refine Kept.alloc ?_ _ | refine Kept.ext ?_ _ | refine Kept.drew ?_ | refine Kept.drewN ?_ _)))) (HG.out.of (by (repeat (first | exact Kept.refl _ | assumption | refine Kept.alloc ?_ _ | refine Kept.ext ?_ _ | refine Kept.drew ?_ | refine Kept.drewN ?_ _))))).mono ?_
  rintro r w1 ⟨rfl, x8, rfl⟩
  go_wp2_with fail
  refine (sWinding_any _ _ _ _ _ _ (uniP n P Q) (uniF n m F G) _ _ _ _ (by omega) (K3.out.of (by (repeat (first | exact Kept.refl _ | assumption | refine Kept.alloc ?_ _ | refine Kept.ext ?_ _ | refine Kept.drew ?_ | refine Kept.drewN ?_ _)))) (K4.out.of (by (repeat (first | exact Kept.refl _ | assumption | refine Kept.alloc ?_ _ | refine Kept.ext ?_ _ | refine Kept.drew ?_ | refine Kept.drewN ?_ _))))).mono ?_
  rintro r w1 ⟨rfl, x10, rfl⟩
  have ta := win_b n P m F p0 p1 p2
  have tb := win_b n2 Q m2 G p0 p1 p2
  rcases YW.out with ⟨y1, y2, y3⟩ | ⟨y1, y3⟩ | ⟨y1, y2, y3⟩ | ⟨y1, y2, y3, y4⟩
  · rw [y1, y2, y3]
    clear y1 y2 y3
    go_wp2_with fail
    go_ret
    exact ⟨rfl, by (repeat (first | exact Kept.refl _ | assumption | refine Kept.alloc ?_ _ | refine Kept.ext ?_ _ | refine Kept.drew ?_ | refine Kept.drewN ?_ _))⟩
  · rw [y1, y3]
    clear y1 y3
    go_wp2_with fail
    go_ret
    exact ⟨rfl, by (repeat (first | exact Kept.refl _ | assumption | refine Kept.alloc ?_ _ | refine Kept.ext ?_ _ | refine Kept.drew ?_ | refine Kept.drewN ?_ _))⟩
  · rw [y1, y2, y3]
    clear y1 y2 y3
    go_wp2_with fail
    go_ret
    exact ⟨rfl, by (repeat (first | exact Kept.refl _ | assumption | refine Kept.alloc ?_ _ | refine Kept.ext ?_ _ | refine Kept.drew ?_ | refine Kept.drewN ?_ _))⟩
  · rw [y1, y2, y3, y4]
    clear y1 y2 y3 y4
    revert ta tb
    generalize winV n P m F p0 p1 p2 = s1, winV n2 Q m2 G p0 p1 p2 = s2
    intro ta tb
    go_wp2_with fail
    go_ret
    exact ⟨rfl, by (repeat (first | exact Kept.refl _ | assumption | refine Kept.alloc ?_ _ | refine Kept.ext ?_ _ | refine Kept.drew ?_ | refine Kept.drewN ?_ _))⟩
set_option maxRecDepth 100000 in
set_option maxHeartbeats 32000000 in
theorem shapes_law (A : Option Addr) (n cap : Nat) (P : Nat → Nat → Int) (B : Option Addr) (m cap2 : Nat) (F : Nat → Nat → Int) (A2 : Option Addr) (n2 cap3 : Nat) (Q : Nat → Nat → Int) (B2 : Option Addr) (m2 cap4 : Nat) (G : Nat → Nat → Int) (v0 v1 v2 p0 p1 p2 k : Int) (w : World) (h : (n ≤ cap ∧ cap ≤ maxLen ∧ RowsAt w A n 3 P) ∧ (m ≤ cap2 ∧ cap2 ≤ maxLen ∧ RowsAt w B m 3 F)) (h' : (n2 ≤ cap3 ∧ cap3 ≤ maxLen ∧ RowsAt w A2 n2 3 Q) ∧ (m2 ≤ cap4 ∧ cap4 ≤ maxLen ∧ RowsAt w B2 m2 3 G)) :
    Calls Try.prog 3 #[.agg #[.slice A n cap, .slice B m cap2], .agg #[.slice A2 n2 cap3, .slice B2 m2 cap4], .agg #[.int .i64 v0, .int .i64 v1, .int .i64 v2, .int .i64 p0, .int .i64 p1, .int .i64 p2, .int .i64 k]] w fun r w' => r = .returned (.bool true) ∧ Kept w w' := by
  by_cases hl : 200 < n ∨ 300 < m
  · exact shapes_long1 A n cap P B m cap2 F A2 n2 cap3 Q B2 m2 cap4 G v0 v1 v2 p0 p1 p2 k w h h' hl
  by_cases hk : 200 < n2 ∨ 300 < m2
  · exact shapes_long2 A n cap P B m cap2 F A2 n2 cap3 Q B2 m2 cap4 G v0 v1 v2 p0 p1 p2 k w h h' hl hk
  by_cases hv : validE n P m F = 0
  case neg => exact shapes_bad1 A n cap P B m cap2 F A2 n2 cap3 Q B2 m2 cap4 G v0 v1 v2 p0 p1 p2 k w h h' hl hk hv
  by_cases hae : (areaS n P m F).e = 0
  case neg => exact shapes_bad2 A n cap P B m cap2 F A2 n2 cap3 Q B2 m2 cap4 G v0 v1 v2 p0 p1 p2 k w h h' hl hk hv hae
  exact shapes_main A n cap P B m cap2 F A2 n2 cap3 Q B2 m2 cap4 G v0 v1 v2 p0 p1 p2 k w h h' hl hk hv hae
theorem ownTopShapes : ownKnob Try.prog.godebug = none := by kernel_rfl
theorem laidOutTopShapes : laidOutB Try.prog = true := by kernel_rfl
set_option linter.unusedVariables false in
set_option maxRecDepth 100000 in
theorem liftedTopShapes (os : Os) (started : os.Started) (H : Type) (enc : TypeId × Value → H) :
    ReturnsInHanded {} Try.checked os 3 .any (Rows.topShapesSpec.pre6 enc Try.prog Try.f3 Rows.topShapesRow.domain false) (Rows.topShapesSpec.post enc Try.prog Try.f3 false true false false) := by
  refine returnsInHanded_of_change (C := Try.checked) ownTopShapes started (by kernel_rfl) Try.func3
    (ChangeSpec.witness6 (enc := enc) (C := Try.checked) false ⟨#[], #[.agg #[.slice none 0 0, .slice none 0 0], .agg #[.slice none 0 0, .slice none 0 0], .agg #[.int .i64 0, .int .i64 0, .int .i64 0, .int .i64 0, .int .i64 0, .int .i64 0, .int .i64 0]], []⟩ 8 (by kernel_rfl) (by kernel_rfl) (by kernel_rfl) (by kernel_rfl)) ?_
  intro W base args ds gs before hval0 hW hcnd _
  have hval : ∀ (j : Nat) t v, Try.f3.params[j]? = some t → args[j]? = some v → Value.okWide Try.prog W .any base t v := hval0
  have hW' := hW
  obtain ⟨p, q, hA0, hV, rfl, hfz, hnd⟩ := hW
  have hA : DataW.TrodAll enc Try.prog W 0 (fun _ => true) true Try.f3.params.toList args.toList ds p := hA0
  rw [Try.params3] at hA hval
  obtain ⟨v0, vs0, d0, ds0, p0, q0, hargs, rfl, rfl, h0, r0⟩ := trodAll_cons hA
  obtain ⟨v1, vs1, d1, ds1, p1, q1, rfl, rfl, rfl, h1, r1⟩ := trodAll_cons r0
  obtain ⟨v2, vs2, d2, ds2, p2, q2, rfl, rfl, rfl, h2, r2⟩ := trodAll_cons r1
  obtain ⟨rfl, rfl, rfl⟩ := trodAll_nil r2
  obtain rfl : args = #[v0, v1, v2] := by cases args; simp_all
  obtain ⟨rfl, rfl⟩ := trodVars_none hV
  have lt0 : ∀ x ∈ p0, x.block < W.heap.size := by obtain ⟨m, hm⟩ := h0; exact DataW.trod_lt m _ _ _ hm
  obtain ⟨A0, n0, cap0, f0, B0, m0, capb0, g0, rfl, hpa0, hpb0⟩ := open_mesh _ _ 25 27 55 3 3 Try.underlying25 ⟨rfl, rfl, by kernel_rfl, by kernel_rfl, by kernel_rfl⟩ Try.underlying22 (by kernel_rfl) (by decide) (by kernel_rfl) Try.underlying23 (by kernel_rfl) (by decide) (by kernel_rfl) (hval 0 25 v0 rfl rfl) h0 lt0
  have lt1 : ∀ x ∈ p1, x.block < W.heap.size := by obtain ⟨m, hm⟩ := h1; exact DataW.trod_lt m _ _ _ hm
  obtain ⟨A1, n1, cap1, f1, B1, m1, capb1, g1, rfl, hpa1, hpb1⟩ := open_mesh _ _ 25 27 55 3 3 Try.underlying25 ⟨rfl, rfl, by kernel_rfl, by kernel_rfl, by kernel_rfl⟩ Try.underlying22 (by kernel_rfl) (by decide) (by kernel_rfl) Try.underlying23 (by kernel_rfl) (by decide) (by kernel_rfl) (hval 1 25 v1 rfl rfl) h1 lt1
  have lt2 : ∀ x ∈ p2, x.block < W.heap.size := by obtain ⟨m, hm⟩ := h2; exact DataW.trod_lt m _ _ _ hm
  obtain ⟨l2, rfl, e2, b2⟩ := open_agg_ints 7 (by kernel_rfl) (by kernel_rfl) (ts := [3, 3, 3, 3, 3, 3, 3]) (by kernel_rfl) (by intro u hu; simp at hu; subst hu; exact Try.underlying3) (hval 2 29 v2 rfl rfl)
  obtain ⟨z2_0, z2_1, z2_2, z2_3, z2_4, z2_5, z2_6, rfl⟩ := len7 e2
  simp only [List.map_cons, List.map_nil] at *
  simp only [List.mem_cons, List.not_mem_nil, or_false, forall_eq_or_imp, forall_eq] at b2
  clear hA0 hval0
  refine (shapes_law A0 n0 cap0 f0 B0 m0 capb0 g0 A1 n1 cap1 f1 B1 m1 capb1 g1 z2_0 z2_1 z2_2 z2_3 z2_4 z2_5 z2_6 W ⟨hpa0, hpb0⟩ ⟨hpa1, hpb1⟩).mono fun e W' ⟨he, hk⟩ => ?_
  subst he
  have bel := hk.below
  exact ⟨_, rfl, _, _, _, [], _, [], hW', trodAll_mk1 (shut_bool Try.underlying4 _), (trodAll_cons_mk (Below.trod laidOutTopShapes (by kernel_rfl) (of_decide_eq_true (by kernel_rfl)) h0 bel lt0) (trodAll_cons_mk (Below.trod laidOutTopShapes (by kernel_rfl) (of_decide_eq_true (by kernel_rfl)) h1 bel lt1) (trodAll_cons_mk (Below.trod laidOutTopShapes (by kernel_rfl) (of_decide_eq_true (by kernel_rfl)) h2 bel lt2) trodAll_mk0))), rfl, bel.frame _, fun h => by cases h⟩
/-- For every input the statement TopShapes returns true, and each argument reads afterwards as it read before. -/
theorem topShapes_holds : Rows.TopShapesSaid :=
  OpenClaim.holds_of_wide 3 Try.f3 rfl rfl rfl rfl rfl rfl rfl ⟨rfl, rfl, rfl, rfl, rfl⟩ rfl rfl rfl rfl rfl (by kernel_rfl) Try.func3 (by kernel_rfl)
    (of_decide_eq_true (by kernel_rfl)) (by unfold Func.isWrapper; first | (rw [if_pos (by decide +kernel)]; kernel_rfl) | (rw [if_neg (by decide +kernel)]; exact ⟨rfl, rfl⟩))
    (fun os started H enc _ => liftedTopShapes os started H enc)
#print axioms topShapes_holds

end Go.Proofs.Ytbhcjdgfcinpcaa
