/- The ways through the statement TopShapes that end early. Conditions: those of each theorem. -/
import Derived.Test.YtbhcjdgfcinpcaaTsf
import Derived.Test.YtbhcjdgfcinpcaaGcm
import Derived.Test.YtbhcjdgfcinpcaaGwt
import Derived.Test.YtbhcjdgfcinpcaaFns
import Derived.Test.YtbhcjdgfcinpcaaGoc
import Derived.Test.YtbhcjdgfcinpcaaGmr
import Derived.Test.YtbhcjdgfcinpcaaMef
import Derived.Deep.DeepCutAuto
import Derived.Deep.RegionHeld3
namespace Go.Proofs.Ytbhcjdgfcinpcaa
set_option linter.unusedVariables false
set_option linter.unusedSimpArgs false
open Go.ChangeShapes Go.WideShapes Go.ChangeAt Go.RowKit Go.Deep
theorem wp_genA {P : Program} {c : Code} {Q : Exit → Act → World → Prop} {a : Act} {w : World} {x : More} {o : Obj} (h : ∀ W, W = w → c.wp P Q a ((ext W x).alloc o)) : c.wp P Q a ((ext w x).alloc o) := h w rfl
theorem wp_genB {P : Program} {c : Code} {Q : Exit → Act → World → Prop} {a : Act} {w : World} {x y : More} {o : Obj} (h : ∀ W, W = w → c.wp P Q a ((ext (ext W y) x).alloc o)) : c.wp P Q a ((ext (ext w y) x).alloc o) := h w rfl
theorem tmeets_any (al ah e bl bh f : Int) (w : World) (h : e = 0 → f = 0 → (meetS al ah bl bh).ok = true ∧ (meetS al ah bl bh).e = 0) :
    Calls Try.prog 15 #[.agg #[.int .i64 al, .int .i64 ah], .int .i64 e, .agg #[.int .i64 bl, .int .i64 bh], .int .i64 f] w fun r w' => r = .returned (.bool true) ∧ Kept w w' := by
  by_cases he : e = 0
  case neg =>
    have g1 : (e != 0) = true := by simpa using he
    have g2 : (e == 0) = false := by simpa using he
    clear h he
    go_enter Try.func15, Try.ntmps15
    go_wp2_with fail
    go_ret
    exact ⟨rfl, by (repeat (first | exact Kept.refl _ | assumption | refine Kept.alloc ?_ _ | refine Kept.ext ?_ _ | refine Kept.drew ?_ | refine Kept.drewN ?_ _))⟩
  subst he
  by_cases hf : f = 0
  case neg =>
    have g1 : (f != 0) = true := by simpa using hf
    have g2 : (f == 0) = false := by simpa using hf
    clear h hf
    go_enter Try.func15, Try.ntmps15
    go_wp2_with fail
    go_ret
    exact ⟨rfl, by (repeat (first | exact Kept.refl _ | assumption | refine Kept.alloc ?_ _ | refine Kept.ext ?_ _ | refine Kept.drew ?_ | refine Kept.drewN ?_ _))⟩
  subst hf
  have H := Lib.hid (h rfl rfl)
  clear h
  go_enter Try.func15, Try.ntmps15
  go_wp2_with fail
  refine (meet_any _ _ _ _ _).mono ?_
  rintro r w1 ⟨rfl, x0, rfl⟩
  rw [H.out.1, H.out.2]
  go_wp2_with fail
  go_ret
  exact ⟨rfl, by (repeat (first | exact Kept.refl _ | assumption | refine Kept.alloc ?_ _ | refine Kept.ext ?_ _ | refine Kept.drew ?_ | refine Kept.drewN ?_ _))⟩
theorem cutT {W w' : World} {n b1 b2 : Nat} {x0 x1 x2 y0 y1 y2 : Value} [hs : SizeIs W n] (h : Kept W w') (h1 : n ≤ b1 ∧ b1 < w'.heap.size) (h2 : n ≤ b2 ∧ b2 < w'.heap.size)
    (c0 : w'.cell? ⟨b1, 0, none⟩ = some x0) (c1 : w'.cell? ⟨b1, 1, none⟩ = some x1) (c2 : w'.cell? ⟨b1, 2, none⟩ = some x2) (d0 : w'.cell? ⟨b2, 0, none⟩ = some y0) (d1 : w'.cell? ⟨b2, 1, none⟩ = some y1) (d2 : w'.cell? ⟨b2, 2, none⟩ = some y2) :
    ∃ y i j, w' = ext W y ∧ Value.pointer (some ⟨b1, 0, none⟩) = .pointer (some ⟨adv n i, 0, none⟩) ∧ Value.pointer (some ⟨b2, 0, none⟩) = .pointer (some ⟨adv n j, 0, none⟩) ∧ i < y.obs.size ∧ j < y.obs.size ∧
      y.cell i 0 = some x0 ∧ y.cell i 1 = some x1 ∧ y.cell i 2 = some x2 ∧ y.cell j 0 = some y0 ∧ y.cell j 1 = some y1 ∧ y.cell j 2 = some y2 := by
  obtain ⟨y, i, j, e0, e1, e2, l1, l2, k1, k2⟩ := kept_at2 h h1 h2
  exact ⟨y, i, j, e0, by rw [e1], by rw [e2], l1, l2, by rw [k1, c0], by rw [k1, c1], by rw [k1, c2], by rw [k2, d0], by rw [k2, d1], by rw [k2, d2]⟩
theorem len7 {zs : List Int} (h : zs.length = 7) : ∃ a0 a1 a2 a3 a4 a5 a6, zs = [a0, a1, a2, a3, a4, a5, a6] :=
  match zs, h with
  | [a0, a1, a2, a3, a4, a5, a6], _ => ⟨a0, a1, a2, a3, a4, a5, a6, rfl⟩
theorem octaE1 : octaE 1 = 0 := by kernel_rfl
theorem chgE_0t {n m : Nat} {P F P' F' : Nat → Nat → Int} {bad : Bool} (h : chgE n P m F bad P' F' = 0) : validE n P m F = 0 ∧ bad = false ∧ validE n P' m F' = 0 := by
  unfold chgE at h
  split at h
  · rename_i q; exact absurd h q
  · rename_i q
    split at h
    · cases h
    · rename_i q2
      exact ⟨by simpa using q, by simpa using q2, h⟩
theorem pts_It {n m : Nat} {P F : Nat → Nat → Int} (h : validE n P m F = 0) : ∀ k, k < n → ∀ j, j < 3 → I64 (P k j) := by
  intro k hk j hj
  obtain ⟨-, -, hb, -⟩ := validE_ok h
  have := ptsBad_at hb k hk
  unfold I64
  rcases (show j = 0 ∨ j = 1 ∨ j = 2 by omega) with rfl | rfl | rfl <;> omega
theorem rowsT {w : World} {base n cap : Nat} {t : TypeId} {A : Option Addr} {f : Nat → Nat → Int} {e : Int} (h : w.ownsRow base t 3 (.slice A (okN e n) cap) (okN e n) (rowC 3 f (okN e n))) (h0 : e = 0) (hI : ∀ k, k < n → ∀ j, j < 3 → I64 (f k j)) : RowsAt w A n 3 f := by
  subst h0
  exact rows_of_owns h hI
theorem okN_0t (n : Nat) : okN 0 n = n := rfl
theorem al_ext (n : Nat) (P : Nat → Nat → Int) (m : Nat) (F : Nat → Nat → Int) : ∃ al, validE n P m F = 0 → Oth F al m := by
  by_cases h : validE n P m F = 0
  · obtain ⟨al, ha⟩ := (clo_of h).oth
    exact ⟨al, fun _ => ha⟩
  · exact ⟨fun a => a, fun h' => absurd h' h⟩
theorem finE_0t {n m : Nat} {P F : Nat → Nat → Int} {al : Nat → Nat} (h : finE n P m F al = 0) : validE (npt n al (3 * m)) (finP n m P F al) (4 * m) (finF n F al) = 0 := by
  unfold finE at h
  split at h
  · omega
  · exact h
theorem corn_all {n m : Nat} {P F : Nat → Nat → Int} (h : validE n P m F = 0) : ∀ i, i < m → cornB n F i = true := fun i hi => by
  obtain ⟨-, -, -, hf, -⟩ := validE_ok h
  exact (faceE_0 (facesE_at hf i hi)).1
theorem cen_b {n m : Nat} {P F : Nat → Nat → Int} (h : validE n P m F = 0) {c : Nat} (hc : c < 3) : -28991029248 ≤ cen P F c m ∧ cen P F c m ≤ 28991029248 := by
  obtain ⟨-, s, hb, -⟩ := validE_ok h
  have := cen_bd hb (corn_all h) hc m (Nat.le_refl _)
  omega
theorem vol_b {n m : Nat} {P F : Nat → Nat → Int} (h : validE n P m F = 0) : 0 < vol P F m ∧ vol P F m ≤ 150994944 := by
  obtain ⟨-, s, hb, -, -, -, h7⟩ := validE_ok h
  have := vol_bd hb (corn_all h) m (Nat.le_refl _)
  omega
theorem win_b (n : Nat) (P : Nat → Nat → Int) (m : Nat) (F : Nat → Nat → Int) (q0 q1 q2 : Int) : -96 ≤ winV n P m F q0 q1 q2 ∧ winV n P m F q0 q1 q2 ≤ 96 := by
  unfold winV
  split
  · rename_i h
    have hv : validE n P m F = 0 := by
      by_cases q : validE n P m F = 0
      · exact q
      · unfold winE askE at h
        rw [if_neg q, if_neg q] at h
        exact absurd h q
    have s := valid_sz hv
    have := wsum_bd P F q0 q1 q2 m
    omega
  · omega
/-- What is said of the mesh that comes: volume, center. -/
structure VC (n : Nat) (P : Nat → Nat → Int) (m : Nat) (F : Nat → Nat → Int) (z c0 c1 c2 : Int) : Prop where
  fv : validE n P m F = 0
  fz : volV n P m F = z
  f0 : cenV n P m F 0 = c0
  f1 : cenV n P m F 1 = c1
  f2 : cenV n P m F 2 = c2
theorem VC.mk' {n m : Nat} {P F : Nat → Nat → Int} (h : validE n P m F = 0) : VC n P m F (vol P F m) (cen P F 0 m) (cen P F 1 m) (cen P F 2 m) := ⟨h, if_pos h, if_pos h, if_pos h, if_pos h⟩

set_option maxRecDepth 100000 in
set_option maxHeartbeats 32000000 in
theorem shapes_long1 (A : Option Addr) (n cap : Nat) (P : Nat → Nat → Int) (B : Option Addr) (m cap2 : Nat) (F : Nat → Nat → Int) (A2 : Option Addr) (n2 cap3 : Nat) (Q : Nat → Nat → Int) (B2 : Option Addr) (m2 cap4 : Nat) (G : Nat → Nat → Int) (v0 v1 v2 p0 p1 p2 k : Int) (w : World) (h : (n ≤ cap ∧ cap ≤ maxLen ∧ RowsAt w A n 3 P) ∧ (m ≤ cap2 ∧ cap2 ≤ maxLen ∧ RowsAt w B m 3 F)) (h' : (n2 ≤ cap3 ∧ cap3 ≤ maxLen ∧ RowsAt w A2 n2 3 Q) ∧ (m2 ≤ cap4 ∧ cap4 ≤ maxLen ∧ RowsAt w B2 m2 3 G)) (hl : 200 < n ∨ 300 < m) :
    Calls Try.prog 3 #[.agg #[.slice A n cap, .slice B m cap2], .agg #[.slice A2 n2 cap3, .slice B2 m2 cap4], .agg #[.int .i64 v0, .int .i64 v1, .int .i64 v2, .int .i64 p0, .int .i64 p1, .int .i64 p2, .int .i64 k]] w fun r w' => r = .returned (.bool true) ∧ Kept w w' := by
  obtain ⟨⟨a1, a2, hP⟩, b1, b2, hF⟩ := h
  obtain ⟨⟨a3, a4, hQ⟩, b3, b4, hG⟩ := h'
  unfold maxLen at a2 b2 a4 b4
  have HP := Lib.hid hP
  have HF := Lib.hid hF
  have HQ := Lib.hid hQ
  have HG := Lib.hid hG
  have HFI := Lib.hid (rows_I hF)
  have HGI := Lib.hid (rows_I hG)
  clear hP hF hQ hG
  have hn : n ≤ 9223372036854775807 ∧ m ≤ 9223372036854775807 := by omega
  have hn2 : n2 ≤ 9223372036854775807 ∧ m2 ≤ 9223372036854775807 := by omega
  have hl2 : (decide (200 < n) || decide (300 < m)) = true := by simpa using hl
  have HL := Lib.hid hl2
  clear hl hl2
  go_enter Try.func3, Try.ntmps3
  go_upto_region 1 with fail
  go_cut [7, 8, 9] from 60 to 65 (fun s7 s8 s9 wx => s9 = .int .i64 k ∧ ∃ y i j, wx = ext (((w.alloc (.cells #[.slice A n cap, .slice B m cap2] 25)).alloc (.cells #[.slice A2 n2 cap3, .slice B2 m2 cap4] 25)).alloc (.cells #[.int .i64 v0, .int .i64 v1, .int .i64 v2, .int .i64 p0, .int .i64 p1, .int .i64 p2, .int .i64 k] 29)) y ∧ s7 = .pointer (some ⟨adv (w.heap.size + 1 + 1 + 1) i, 0, none⟩) ∧ s8 = .pointer (some ⟨adv (w.heap.size + 1 + 1 + 1) j, 0, none⟩) ∧ i < y.obs.size ∧ j < y.obs.size ∧
    y.cell i 0 = some (.int .i64 v0) ∧ y.cell i 1 = some (.int .i64 v1) ∧ y.cell i 2 = some (.int .i64 v2) ∧ y.cell j 0 = some (.int .i64 p0) ∧ y.cell j 1 = some (.int .i64 p1) ∧ y.cell j 2 = some (.int .i64 p2))
  case first =>
    go_region_held3 (fun w' => w'.cell? ⟨w.heap.size + 1 + 1, 0, none⟩ = some (.int .i64 v0) ∧ w'.cell? ⟨w.heap.size + 1 + 1, 1, none⟩ = some (.int .i64 v1) ∧ w'.cell? ⟨w.heap.size + 1 + 1, 2, none⟩ = some (.int .i64 v2) ∧ w'.cell? ⟨w.heap.size + 1 + 1, 3, none⟩ = some (.int .i64 p0) ∧ w'.cell? ⟨w.heap.size + 1 + 1, 4, none⟩ = some (.int .i64 p1) ∧ w'.cell? ⟨w.heap.size + 1 + 1, 5, none⟩ = some (.int .i64 p2) ∧ w'.cell? ⟨w.heap.size + 1 + 1, 6, none⟩ = some (.int .i64 k)) ((refine ⟨?_, ?_, ?_, ?_, ?_, ?_, ?_⟩ <;> go_simp)) ((first | fail))
    all_goals (go_wp2_with fail; go_meet)
    all_goals
      refine ⟨rfl, cutT (show Kept _ _ by (repeat (first | exact Kept.refl _ | assumption | refine Kept.alloc ?_ _ | refine Kept.ext ?_ _ | refine Kept.drew ?_ | refine Kept.drewN ?_ _))) ⟨?_, ?_⟩ ⟨?_, ?_⟩ ?_ ?_ ?_ ?_ ?_ ?_⟩
      all_goals first | (go_simp; done) | (simp [adv]; done) | (simp [adv]; omega)
  case rest =>
  obtain ⟨rfl, yb, ib, jb, rfl, rfl, rfl, li, lj, f0, f1, f2, g0, g1, g2⟩ := hcut
  have Li : Lower ib yb.obs.size := ⟨li⟩
  have Lj : Lower jb yb.obs.size := ⟨lj⟩
  clear li lj
  go_wp2_with fail
  refine (socta_any _ _).mono ?_
  rintro r w1 ⟨A9, c9, B9, d9, rfl, ⟨x9, rfl⟩, -, -⟩
  rw [octaE1]
  simp only [okN_0t]
  go_wp2_with fail
  refine (long_any _ _ _ _ _ _ _).mono ?_
  rintro r w1 ⟨rfl, x0, rfl⟩
  rw [HL.out]
  go_wp2_with fail
  go_ret
  exact ⟨rfl, by (repeat (first | exact Kept.refl _ | assumption | refine Kept.alloc ?_ _ | refine Kept.ext ?_ _ | refine Kept.drew ?_ | refine Kept.drewN ?_ _))⟩
set_option maxRecDepth 100000 in
set_option maxHeartbeats 32000000 in
theorem shapes_long2 (A : Option Addr) (n cap : Nat) (P : Nat → Nat → Int) (B : Option Addr) (m cap2 : Nat) (F : Nat → Nat → Int) (A2 : Option Addr) (n2 cap3 : Nat) (Q : Nat → Nat → Int) (B2 : Option Addr) (m2 cap4 : Nat) (G : Nat → Nat → Int) (v0 v1 v2 p0 p1 p2 k : Int) (w : World) (h : (n ≤ cap ∧ cap ≤ maxLen ∧ RowsAt w A n 3 P) ∧ (m ≤ cap2 ∧ cap2 ≤ maxLen ∧ RowsAt w B m 3 F)) (h' : (n2 ≤ cap3 ∧ cap3 ≤ maxLen ∧ RowsAt w A2 n2 3 Q) ∧ (m2 ≤ cap4 ∧ cap4 ≤ maxLen ∧ RowsAt w B2 m2 3 G)) (hl : ¬ (200 < n ∨ 300 < m)) (hk : 200 < n2 ∨ 300 < m2) :
    Calls Try.prog 3 #[.agg #[.slice A n cap, .slice B m cap2], .agg #[.slice A2 n2 cap3, .slice B2 m2 cap4], .agg #[.int .i64 v0, .int .i64 v1, .int .i64 v2, .int .i64 p0, .int .i64 p1, .int .i64 p2, .int .i64 k]] w fun r w' => r = .returned (.bool true) ∧ Kept w w' := by
  obtain ⟨⟨a1, a2, hP⟩, b1, b2, hF⟩ := h
  obtain ⟨⟨a3, a4, hQ⟩, b3, b4, hG⟩ := h'
  unfold maxLen at a2 b2 a4 b4
  have HP := Lib.hid hP
  have HF := Lib.hid hF
  have HQ := Lib.hid hQ
  have HG := Lib.hid hG
  have HFI := Lib.hid (rows_I hF)
  have HGI := Lib.hid (rows_I hG)
  clear hP hF hQ hG
  have hn : n ≤ 9223372036854775807 ∧ m ≤ 9223372036854775807 := by omega
  have hn2 : n2 ≤ 9223372036854775807 ∧ m2 ≤ 9223372036854775807 := by omega
  have hl2 : (decide (200 < n) || decide (300 < m)) = false := by simpa using hl
  have HL := Lib.hid hl2
  clear hl hl2
  have hl2 : (decide (200 < n2) || decide (300 < m2)) = true := by simpa using hk
  have HL2 := Lib.hid hl2
  clear hk hl2
  go_enter Try.func3, Try.ntmps3
  go_upto_region 1 with fail
  go_cut [7, 8, 9] from 60 to 65 (fun s7 s8 s9 wx => s9 = .int .i64 k ∧ ∃ y i j, wx = ext (((w.alloc (.cells #[.slice A n cap, .slice B m cap2] 25)).alloc (.cells #[.slice A2 n2 cap3, .slice B2 m2 cap4] 25)).alloc (.cells #[.int .i64 v0, .int .i64 v1, .int .i64 v2, .int .i64 p0, .int .i64 p1, .int .i64 p2, .int .i64 k] 29)) y ∧ s7 = .pointer (some ⟨adv (w.heap.size + 1 + 1 + 1) i, 0, none⟩) ∧ s8 = .pointer (some ⟨adv (w.heap.size + 1 + 1 + 1) j, 0, none⟩) ∧ i < y.obs.size ∧ j < y.obs.size ∧
    y.cell i 0 = some (.int .i64 v0) ∧ y.cell i 1 = some (.int .i64 v1) ∧ y.cell i 2 = some (.int .i64 v2) ∧ y.cell j 0 = some (.int .i64 p0) ∧ y.cell j 1 = some (.int .i64 p1) ∧ y.cell j 2 = some (.int .i64 p2))
  case first =>
    go_region_held3 (fun w' => w'.cell? ⟨w.heap.size + 1 + 1, 0, none⟩ = some (.int .i64 v0) ∧ w'.cell? ⟨w.heap.size + 1 + 1, 1, none⟩ = some (.int .i64 v1) ∧ w'.cell? ⟨w.heap.size + 1 + 1, 2, none⟩ = some (.int .i64 v2) ∧ w'.cell? ⟨w.heap.size + 1 + 1, 3, none⟩ = some (.int .i64 p0) ∧ w'.cell? ⟨w.heap.size + 1 + 1, 4, none⟩ = some (.int .i64 p1) ∧ w'.cell? ⟨w.heap.size + 1 + 1, 5, none⟩ = some (.int .i64 p2) ∧ w'.cell? ⟨w.heap.size + 1 + 1, 6, none⟩ = some (.int .i64 k)) ((refine ⟨?_, ?_, ?_, ?_, ?_, ?_, ?_⟩ <;> go_simp)) ((first | fail))
    all_goals (go_wp2_with fail; go_meet)
    all_goals
      refine ⟨rfl, cutT (show Kept _ _ by (repeat (first | exact Kept.refl _ | assumption | refine Kept.alloc ?_ _ | refine Kept.ext ?_ _ | refine Kept.drew ?_ | refine Kept.drewN ?_ _))) ⟨?_, ?_⟩ ⟨?_, ?_⟩ ?_ ?_ ?_ ?_ ?_ ?_⟩
      all_goals first | (go_simp; done) | (simp [adv]; done) | (simp [adv]; omega)
  case rest =>
  obtain ⟨rfl, yb, ib, jb, rfl, rfl, rfl, li, lj, f0, f1, f2, g0, g1, g2⟩ := hcut
  have Li : Lower ib yb.obs.size := ⟨li⟩
  have Lj : Lower jb yb.obs.size := ⟨lj⟩
  clear li lj
  go_wp2_with fail
  refine (socta_any _ _).mono ?_
  rintro r w1 ⟨A9, c9, B9, d9, rfl, ⟨x9, rfl⟩, -, -⟩
  rw [octaE1]
  simp only [okN_0t]
  go_wp2_with fail
  refine (long_any _ _ _ _ _ _ _).mono ?_
  rintro r w1 ⟨rfl, x0, rfl⟩
  rw [HL.out]
  go_wp2_with fail
  refine (long_any _ _ _ _ _ _ _).mono ?_
  rintro r w1 ⟨rfl, x1, rfl⟩
  rw [HL2.out]
  go_wp2_with fail
  go_ret
  exact ⟨rfl, by (repeat (first | exact Kept.refl _ | assumption | refine Kept.alloc ?_ _ | refine Kept.ext ?_ _ | refine Kept.drew ?_ | refine Kept.drewN ?_ _))⟩
set_option maxRecDepth 100000 in
set_option maxHeartbeats 32000000 in
theorem shapes_bad1 (A : Option Addr) (n cap : Nat) (P : Nat → Nat → Int) (B : Option Addr) (m cap2 : Nat) (F : Nat → Nat → Int) (A2 : Option Addr) (n2 cap3 : Nat) (Q : Nat → Nat → Int) (B2 : Option Addr) (m2 cap4 : Nat) (G : Nat → Nat → Int) (v0 v1 v2 p0 p1 p2 k : Int) (w : World) (h : (n ≤ cap ∧ cap ≤ maxLen ∧ RowsAt w A n 3 P) ∧ (m ≤ cap2 ∧ cap2 ≤ maxLen ∧ RowsAt w B m 3 F)) (h' : (n2 ≤ cap3 ∧ cap3 ≤ maxLen ∧ RowsAt w A2 n2 3 Q) ∧ (m2 ≤ cap4 ∧ cap4 ≤ maxLen ∧ RowsAt w B2 m2 3 G)) (hl : ¬ (200 < n ∨ 300 < m)) (hk : ¬ (200 < n2 ∨ 300 < m2)) (hv : validE n P m F ≠ 0) :
    Calls Try.prog 3 #[.agg #[.slice A n cap, .slice B m cap2], .agg #[.slice A2 n2 cap3, .slice B2 m2 cap4], .agg #[.int .i64 v0, .int .i64 v1, .int .i64 v2, .int .i64 p0, .int .i64 p1, .int .i64 p2, .int .i64 k]] w fun r w' => r = .returned (.bool true) ∧ Kept w w' := by
  obtain ⟨⟨a1, a2, hP⟩, b1, b2, hF⟩ := h
  obtain ⟨⟨a3, a4, hQ⟩, b3, b4, hG⟩ := h'
  unfold maxLen at a2 b2 a4 b4
  have HP := Lib.hid hP
  have HF := Lib.hid hF
  have HQ := Lib.hid hQ
  have HG := Lib.hid hG
  have HFI := Lib.hid (rows_I hF)
  have HGI := Lib.hid (rows_I hG)
  clear hP hF hQ hG
  have hn : n ≤ 9223372036854775807 ∧ m ≤ 9223372036854775807 := by omega
  have hn2 : n2 ≤ 9223372036854775807 ∧ m2 ≤ 9223372036854775807 := by omega
  have hl2 : (decide (200 < n) || decide (300 < m)) = false := by simpa using hl
  have HL := Lib.hid hl2
  clear hl hl2
  have hl2 : (decide (200 < n2) || decide (300 < m2)) = false := by simpa using hk
  have HL2 := Lib.hid hl2
  clear hk hl2
  obtain ⟨R, hR⟩ : ∃ R, areaS n P m F = R := ⟨_, rfl⟩
  obtain ⟨al', ah', ae⟩ := R
  have HAR := Lib.hid hR
  obtain ⟨e, he⟩ : ∃ e, validE n P m F = e := ⟨_, rfl⟩
  rw [he] at hv
  have HE := Lib.hid he
  have g1 : (e != 0) = true := by simpa using hv
  have g2 : (e == 0) = false := by simpa using hv
  clear hv he hR
  go_enter Try.func3, Try.ntmps3
  go_upto_region 1 with fail
  go_cut [7, 8, 9] from 60 to 65 (fun s7 s8 s9 wx => s9 = .int .i64 k ∧ ∃ y i j, wx = ext (((w.alloc (.cells #[.slice A n cap, .slice B m cap2] 25)).alloc (.cells #[.slice A2 n2 cap3, .slice B2 m2 cap4] 25)).alloc (.cells #[.int .i64 v0, .int .i64 v1, .int .i64 v2, .int .i64 p0, .int .i64 p1, .int .i64 p2, .int .i64 k] 29)) y ∧ s7 = .pointer (some ⟨adv (w.heap.size + 1 + 1 + 1) i, 0, none⟩) ∧ s8 = .pointer (some ⟨adv (w.heap.size + 1 + 1 + 1) j, 0, none⟩) ∧ i < y.obs.size ∧ j < y.obs.size ∧
    y.cell i 0 = some (.int .i64 v0) ∧ y.cell i 1 = some (.int .i64 v1) ∧ y.cell i 2 = some (.int .i64 v2) ∧ y.cell j 0 = some (.int .i64 p0) ∧ y.cell j 1 = some (.int .i64 p1) ∧ y.cell j 2 = some (.int .i64 p2))
  case first =>
    go_region_held3 (fun w' => w'.cell? ⟨w.heap.size + 1 + 1, 0, none⟩ = some (.int .i64 v0) ∧ w'.cell? ⟨w.heap.size + 1 + 1, 1, none⟩ = some (.int .i64 v1) ∧ w'.cell? ⟨w.heap.size + 1 + 1, 2, none⟩ = some (.int .i64 v2) ∧ w'.cell? ⟨w.heap.size + 1 + 1, 3, none⟩ = some (.int .i64 p0) ∧ w'.cell? ⟨w.heap.size + 1 + 1, 4, none⟩ = some (.int .i64 p1) ∧ w'.cell? ⟨w.heap.size + 1 + 1, 5, none⟩ = some (.int .i64 p2) ∧ w'.cell? ⟨w.heap.size + 1 + 1, 6, none⟩ = some (.int .i64 k)) ((refine ⟨?_, ?_, ?_, ?_, ?_, ?_, ?_⟩ <;> go_simp)) ((first | fail))
    all_goals (go_wp2_with fail; go_meet)
    all_goals
      refine ⟨rfl, cutT (show Kept _ _ by (repeat (first | exact Kept.refl _ | assumption | refine Kept.alloc ?_ _ | refine Kept.ext ?_ _ | refine Kept.drew ?_ | refine Kept.drewN ?_ _))) ⟨?_, ?_⟩ ⟨?_, ?_⟩ ?_ ?_ ?_ ?_ ?_ ?_⟩
      all_goals first | (go_simp; done) | (simp [adv]; done) | (simp [adv]; omega)
  case rest =>
  obtain ⟨rfl, yb, ib, jb, rfl, rfl, rfl, li, lj, f0, f1, f2, g0, g1, g2⟩ := hcut
  have Li : Lower ib yb.obs.size := ⟨li⟩
  have Lj : Lower jb yb.obs.size := ⟨lj⟩
  clear li lj
  go_wp2_with fail
  refine (socta_any _ _).mono ?_
  rintro r w1 ⟨A9, c9, B9, d9, rfl, ⟨x9, rfl⟩, -, -⟩
  rw [octaE1]
  simp only [okN_0t]
  go_wp2_with fail
  refine (long_any _ _ _ _ _ _ _).mono ?_
  rintro r w1 ⟨rfl, x0, rfl⟩
  rw [HL.out]
  go_wp2_with fail
  refine (long_any _ _ _ _ _ _ _).mono ?_
  rintro r w1 ⟨rfl, x1, rfl⟩
  rw [HL2.out]
  go_wp2_with fail
  refine (svol6_any _ _ _ _ _ _ P F _ hn (HP.out.of (by (repeat (first | exact Kept.refl _ | assumption | refine Kept.alloc ?_ _ | refine Kept.ext ?_ _ | refine Kept.drew ?_ | refine Kept.drewN ?_ _)))) (HF.out.of (by (repeat (first | exact Kept.refl _ | assumption | refine Kept.alloc ?_ _ | refine Kept.ext ?_ _ | refine Kept.drew ?_ | refine Kept.drewN ?_ _))))).mono ?_
  rintro r w1 ⟨rfl, x2, rfl⟩
  rw [HE.out]
  go_wp2_with fail
  refine (scenter_any _ _ _ _ _ _ P F _ hn (HP.out.of (by (repeat (first | exact Kept.refl _ | assumption | refine Kept.alloc ?_ _ | refine Kept.ext ?_ _ | refine Kept.drew ?_ | refine Kept.drewN ?_ _)))) (HF.out.of (by (repeat (first | exact Kept.refl _ | assumption | refine Kept.alloc ?_ _ | refine Kept.ext ?_ _ | refine Kept.drew ?_ | refine Kept.drewN ?_ _))))).mono ?_
  rintro r w1 ⟨rfl, x3, rfl⟩
  rw [HE.out]
  go_wp2_with fail
  refine (sarea_any _ _ _ _ _ _ P F _ hn (HP.out.of (by (repeat (first | exact Kept.refl _ | assumption | refine Kept.alloc ?_ _ | refine Kept.ext ?_ _ | refine Kept.drew ?_ | refine Kept.drewN ?_ _)))) (HF.out.of (by (repeat (first | exact Kept.refl _ | assumption | refine Kept.alloc ?_ _ | refine Kept.ext ?_ _ | refine Kept.drew ?_ | refine Kept.drewN ?_ _))))).mono ?_
  rintro r w1 ⟨rfl, x4, rfl⟩
  rw [HAR.out]
  go_wp2_with fail
  go_ret
  exact ⟨rfl, by (repeat (first | exact Kept.refl _ | assumption | refine Kept.alloc ?_ _ | refine Kept.ext ?_ _ | refine Kept.drew ?_ | refine Kept.drewN ?_ _))⟩
set_option maxRecDepth 100000 in
set_option maxHeartbeats 32000000 in
theorem shapes_bad2 (A : Option Addr) (n cap : Nat) (P : Nat → Nat → Int) (B : Option Addr) (m cap2 : Nat) (F : Nat → Nat → Int) (A2 : Option Addr) (n2 cap3 : Nat) (Q : Nat → Nat → Int) (B2 : Option Addr) (m2 cap4 : Nat) (G : Nat → Nat → Int) (v0 v1 v2 p0 p1 p2 k : Int) (w : World) (h : (n ≤ cap ∧ cap ≤ maxLen ∧ RowsAt w A n 3 P) ∧ (m ≤ cap2 ∧ cap2 ≤ maxLen ∧ RowsAt w B m 3 F)) (h' : (n2 ≤ cap3 ∧ cap3 ≤ maxLen ∧ RowsAt w A2 n2 3 Q) ∧ (m2 ≤ cap4 ∧ cap4 ≤ maxLen ∧ RowsAt w B2 m2 3 G)) (hl : ¬ (200 < n ∨ 300 < m)) (hk : ¬ (200 < n2 ∨ 300 < m2)) (hv : validE n P m F = 0) (hae : (areaS n P m F).e ≠ 0) :
    Calls Try.prog 3 #[.agg #[.slice A n cap, .slice B m cap2], .agg #[.slice A2 n2 cap3, .slice B2 m2 cap4], .agg #[.int .i64 v0, .int .i64 v1, .int .i64 v2, .int .i64 p0, .int .i64 p1, .int .i64 p2, .int .i64 k]] w fun r w' => r = .returned (.bool true) ∧ Kept w w' := by
  obtain ⟨⟨a1, a2, hP⟩, b1, b2, hF⟩ := h
  obtain ⟨⟨a3, a4, hQ⟩, b3, b4, hG⟩ := h'
  unfold maxLen at a2 b2 a4 b4
  have HP := Lib.hid hP
  have HF := Lib.hid hF
  have HQ := Lib.hid hQ
  have HG := Lib.hid hG
  have HFI := Lib.hid (rows_I hF)
  have HGI := Lib.hid (rows_I hG)
  clear hP hF hQ hG
  have hn : n ≤ 9223372036854775807 ∧ m ≤ 9223372036854775807 := by omega
  have hn2 : n2 ≤ 9223372036854775807 ∧ m2 ≤ 9223372036854775807 := by omega
  have hl2 : (decide (200 < n) || decide (300 < m)) = false := by simpa using hl
  have HL := Lib.hid hl2
  clear hl hl2
  have hl2 : (decide (200 < n2) || decide (300 < m2)) = false := by simpa using hk
  have HL2 := Lib.hid hl2
  clear hk hl2
  obtain ⟨R, hR⟩ : ∃ R, areaS n P m F = R := ⟨_, rfl⟩
  obtain ⟨al', ah', ae⟩ := R
  have HAR := Lib.hid hR
  have HE := Lib.hid hv
  rw [hR] at hae
  have g1 : (ae != 0) = true := by simpa using hae
  have g2 : (ae == 0) = false := by simpa using hae
  clear hv hae hR
  go_enter Try.func3, Try.ntmps3
  go_upto_region 1 with fail
  go_cut [7, 8, 9] from 60 to 65 (fun s7 s8 s9 wx => s9 = .int .i64 k ∧ ∃ y i j, wx = ext (((w.alloc (.cells #[.slice A n cap, .slice B m cap2] 25)).alloc (.cells #[.slice A2 n2 cap3, .slice B2 m2 cap4] 25)).alloc (.cells #[.int .i64 v0, .int .i64 v1, .int .i64 v2, .int .i64 p0, .int .i64 p1, .int .i64 p2, .int .i64 k] 29)) y ∧ s7 = .pointer (some ⟨adv (w.heap.size + 1 + 1 + 1) i, 0, none⟩) ∧ s8 = .pointer (some ⟨adv (w.heap.size + 1 + 1 + 1) j, 0, none⟩) ∧ i < y.obs.size ∧ j < y.obs.size ∧
    y.cell i 0 = some (.int .i64 v0) ∧ y.cell i 1 = some (.int .i64 v1) ∧ y.cell i 2 = some (.int .i64 v2) ∧ y.cell j 0 = some (.int .i64 p0) ∧ y.cell j 1 = some (.int .i64 p1) ∧ y.cell j 2 = some (.int .i64 p2))
  case first =>
    go_region_held3 (fun w' => w'.cell? ⟨w.heap.size + 1 + 1, 0, none⟩ = some (.int .i64 v0) ∧ w'.cell? ⟨w.heap.size + 1 + 1, 1, none⟩ = some (.int .i64 v1) ∧ w'.cell? ⟨w.heap.size + 1 + 1, 2, none⟩ = some (.int .i64 v2) ∧ w'.cell? ⟨w.heap.size + 1 + 1, 3, none⟩ = some (.int .i64 p0) ∧ w'.cell? ⟨w.heap.size + 1 + 1, 4, none⟩ = some (.int .i64 p1) ∧ w'.cell? ⟨w.heap.size + 1 + 1, 5, none⟩ = some (.int .i64 p2) ∧ w'.cell? ⟨w.heap.size + 1 + 1, 6, none⟩ = some (.int .i64 k)) ((refine ⟨?_, ?_, ?_, ?_, ?_, ?_, ?_⟩ <;> go_simp)) ((first | fail))
    all_goals (go_wp2_with fail; go_meet)
    all_goals
      refine ⟨rfl, cutT (show Kept _ _ by (repeat (first | exact Kept.refl _ | assumption | refine Kept.alloc ?_ _ | refine Kept.ext ?_ _ | refine Kept.drew ?_ | refine Kept.drewN ?_ _))) ⟨?_, ?_⟩ ⟨?_, ?_⟩ ?_ ?_ ?_ ?_ ?_ ?_⟩
      all_goals first | (go_simp; done) | (simp [adv]; done) | (simp [adv]; omega)
  case rest =>
  obtain ⟨rfl, yb, ib, jb, rfl, rfl, rfl, li, lj, f0, f1, f2, g0, g1, g2⟩ := hcut
  have Li : Lower ib yb.obs.size := ⟨li⟩
  have Lj : Lower jb yb.obs.size := ⟨lj⟩
  clear li lj
  go_wp2_with fail
  refine (socta_any _ _).mono ?_
  rintro r w1 ⟨A9, c9, B9, d9, rfl, ⟨x9, rfl⟩, -, -⟩
  rw [octaE1]
  simp only [okN_0t]
  go_wp2_with fail
  refine (long_any _ _ _ _ _ _ _).mono ?_
  rintro r w1 ⟨rfl, x0, rfl⟩
  rw [HL.out]
  go_wp2_with fail
  refine (long_any _ _ _ _ _ _ _).mono ?_
  rintro r w1 ⟨rfl, x1, rfl⟩
  rw [HL2.out]
  go_wp2_with fail
  refine (svol6_any _ _ _ _ _ _ P F _ hn (HP.out.of (by (repeat (first | exact Kept.refl _ | assumption | refine Kept.alloc ?_ _ | refine Kept.ext ?_ _ | refine Kept.drew ?_ | refine Kept.drewN ?_ _)))) (HF.out.of (by (repeat (first | exact Kept.refl _ | assumption | refine Kept.alloc ?_ _ | refine Kept.ext ?_ _ | refine Kept.drew ?_ | refine Kept.drewN ?_ _))))).mono ?_
  rintro r w1 ⟨rfl, x2, rfl⟩
  rw [HE.out]
  go_wp2_with fail
  refine (scenter_any _ _ _ _ _ _ P F _ hn (HP.out.of (by (repeat (first | exact Kept.refl _ | assumption | refine Kept.alloc ?_ _ | refine Kept.ext ?_ _ | refine Kept.drew ?_ | refine Kept.drewN ?_ _)))) (HF.out.of (by (repeat (first | exact Kept.refl _ | assumption | refine Kept.alloc ?_ _ | refine Kept.ext ?_ _ | refine Kept.drew ?_ | refine Kept.drewN ?_ _))))).mono ?_
  rintro r w1 ⟨rfl, x3, rfl⟩
  rw [HE.out]
  go_wp2_with fail
  refine (sarea_any _ _ _ _ _ _ P F _ hn (HP.out.of (by (repeat (first | exact Kept.refl _ | assumption | refine Kept.alloc ?_ _ | refine Kept.ext ?_ _ | refine Kept.drew ?_ | refine Kept.drewN ?_ _)))) (HF.out.of (by (repeat (first | exact Kept.refl _ | assumption | refine Kept.alloc ?_ _ | refine Kept.ext ?_ _ | refine Kept.drew ?_ | refine Kept.drewN ?_ _))))).mono ?_
  rintro r w1 ⟨rfl, x4, rfl⟩
  rw [HAR.out]
  go_wp2_with fail
  go_ret
  exact ⟨rfl, by (repeat (first | exact Kept.refl _ | assumption | refine Kept.alloc ?_ _ | refine Kept.ext ?_ _ | refine Kept.drew ?_ | refine Kept.drewN ?_ _))⟩
end Go.Proofs.Ytbhcjdgfcinpcaa
