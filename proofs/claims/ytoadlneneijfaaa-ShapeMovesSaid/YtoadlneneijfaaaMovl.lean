/- For every input the statement ShapeMoves returns true and leaves its arguments as they were. No conditions. -/
import Derived.Test.YtoadlneneijfaaaGcm
import Derived.Test.YtoadlneneijfaaaGsm
import Derived.Test.YtoadlneneijfaaaGkn
import Derived.Test.YtoadlneneijfaaaOpm
namespace Go.Proofs.Ytoadlneneijfaaa
set_option linter.unusedVariables false
set_option linter.unusedSimpArgs false
open Go.ChangeShapes Go.WideShapes Go.ChangeAt Go.RowKit Go.Deep
theorem chgE_0 {n m : Nat} {P F P' F' : Nat → Nat → Int} {bad : Bool} (h : chgE n P m F bad P' F' = 0) : validE n P m F = 0 ∧ bad = false ∧ validE n P' m F' = 0 := by
  unfold chgE at h
  split at h
  · rename_i q; exact absurd h q
  · rename_i q
    split at h
    · cases h
    · rename_i q2
      exact ⟨by simpa using q, by simpa using q2, h⟩
theorem pts_I {n m : Nat} {P F : Nat → Nat → Int} (h : validE n P m F = 0) : ∀ k, k < n → ∀ j, j < 3 → I64 (P k j) := by
  intro k hk j hj
  obtain ⟨-, -, hb, -⟩ := validE_ok h
  have := ptsBad_at hb k hk
  unfold I64
  rcases (show j = 0 ∨ j = 1 ∨ j = 2 by omega) with rfl | rfl | rfl <;> omega
theorem rowsO {w : World} {base n cap : Nat} {t : TypeId} {e : Int} {A : Option Addr} {P : Nat → Nat → Int} (h : w.ownsRow base t 3 (.slice A (okN e n) cap) (okN e n) (rowC 3 P (okN e n))) (hI : e = 0 → ∀ k, k < n → ∀ j, j < 3 → I64 (P k j)) : RowsAt w A (okN e n) 3 P := by
  refine rows_of_owns h fun k hk j hj => ?_
  by_cases he : e = 0
  · rw [show okN e n = n from if_pos he] at hk
    exact hI he k hk j hj
  · rw [show okN e n = 0 from if_neg he] at hk
    omega
/-- The two loops that spoil what was returned. -/
structure MovI (W : World) (g8 g12 : Nat) (cs8 cs12 : Array Value) (A : Option Addr) (n c : Nat) (B : Option Addr) (m d : Nat) (wr : World) : Prop where
  kept : Kept W wr
  q8 : wr.heap[g8]? = some (.cells cs8 25 (0, 0))
  q12 : wr.heap[g12]? = some (.cells cs12 25 (0, 0))
  p : ∃ P, wr.ownsRow W.heap.size 34 3 (.slice A n c) n (rowC 3 P n)
  f : ∃ F, wr.ownsRow W.heap.size 54 3 (.slice B m d) m (rowC 3 F m)
section
variable {W wr : World} {g8 g12 n c m d k g : Nat} {cs8 cs12 : Array Value} {A B : Option Addr}
theorem MovI.setP (h : MovI W g8 g12 cs8 cs12 (some ⟨g, 0, none⟩) n c B m d wr) (hk : k < n) (z : Int) : MovI W g8 g12 cs8 cs12 (some ⟨g, 0, none⟩) n c B m d (wr.setCell ⟨g, k * 3, none⟩ (.int .i64 z)) := by
  obtain ⟨P, hp⟩ := h.p
  obtain ⟨F, hf⟩ := h.f
  have hs := own_set hp hk (show 0 < 3 by omega) z
  rw [Nat.add_zero] at hs
  exact ⟨h.kept.map_store (hp.lt g rfl).1 hs.2, own_keepsB hp hs.2 h.q8 (by decide), own_keepsB hp hs.2 h.q12 (by decide), ⟨_, hs.1⟩, ⟨F, hf.kept hs.2 (own_ne2 hp hf (by decide))⟩⟩
theorem MovI.setF (h : MovI W g8 g12 cs8 cs12 A n c (some ⟨g, 0, none⟩) m d wr) (hk : k < m) (z : Int) : MovI W g8 g12 cs8 cs12 A n c (some ⟨g, 0, none⟩) m d (wr.setCell ⟨g, k * 3, none⟩ (.int .i64 z)) := by
  obtain ⟨P, hp⟩ := h.p
  obtain ⟨F, hf⟩ := h.f
  have hs := own_set hf hk (show 0 < 3 by omega) z
  rw [Nat.add_zero] at hs
  exact ⟨h.kept.map_store (hf.lt g rfl).1 hs.2, own_keepsB hf hs.2 h.q8 (by decide), own_keepsB hf hs.2 h.q12 (by decide), ⟨P, hp.kept hs.2 (own_ne2 hf hp (by decide))⟩, ⟨_, hs.1⟩⟩
end
set_option maxRecDepth 100000 in
set_option maxHeartbeats 16000000 in
theorem moves_law (A : Option Addr) (n cap : Nat) (P : Nat → Nat → Int) (B : Option Addr) (m cap2 : Nat) (F : Nat → Nat → Int) (v0 v1 v2 k0 : Int) (w : World) (h : (n ≤ cap ∧ cap ≤ maxLen ∧ RowsAt w A n 3 P) ∧ (m ≤ cap2 ∧ cap2 ≤ maxLen ∧ RowsAt w B m 3 F)) :
    Calls Try.prog 7 #[.agg #[.slice A n cap, .slice B m cap2], .agg #[.int .i64 v0, .int .i64 v1, .int .i64 v2], .int .i64 k0] w fun r w' => r = .returned (.bool true) ∧ Kept w w' := by
  obtain ⟨⟨a1, a2, hP⟩, b1, b2, hF⟩ := h
  unfold maxLen at a2 b2
  have HP := Lib.hid hP
  have HF := Lib.hid hF
  have HPI := Lib.hid (rows_I hP)
  have HFI := Lib.hid (rows_I hF)
  clear hP hF
  have hn : n ≤ 9223372036854775807 ∧ m ≤ 9223372036854775807 := by omega
  by_cases hl : 200 < n ∨ 300 < m
  · have hl2 : (decide (200 < n) || decide (300 < m)) = true := by simpa using hl
    have HL := Lib.hid hl2
    clear hl hl2
    go_enter Try.func7, Try.ntmps7
    go_wp2_with fail
    refine (long_any _ _ _ _ _ _ _).mono ?_
    rintro r w1 ⟨rfl, x0, rfl⟩
    rw [HL.out]
    go_wp2_with (first | (go_at_call 19; refine (known_any _).mono ?_; rintro e w1 ⟨rfl, x, rfl⟩))
    go_ret
    exact ⟨rfl, by (repeat (first | exact Kept.refl _ | assumption | refine Kept.alloc ?_ _ | refine Kept.ext ?_ _ | refine Kept.drew ?_ | refine Kept.drewN ?_ _))⟩
  have hl2 : (decide (200 < n) || decide (300 < m)) = false := by simpa using hl
  have HL := Lib.hid hl2
  clear hl2
  obtain ⟨e, he⟩ : ∃ e, chgE n P m F (!(inB v0 v1 v2 128)) (movP P v0 v1 v2) F = e := ⟨_, rfl⟩
  have HE := Lib.hid he
  have HEI := Lib.hid (fun (h0 : e = 0) => pts_I (chgE_0 (he.trans h0)).2.2)
  obtain ⟨e', he'⟩ : ∃ e, chgE n P m F (!(frB k0 1 128)) (sclP P k0) F = e := ⟨_, rfl⟩
  have HE' := Lib.hid he'
  have HEI' := Lib.hid (fun (h0 : e' = 0) => pts_I (chgE_0 (he'.trans h0)).2.2)
  have le1 := okN_le e n
  have le2 := okN_le e m
  have le3 := okN_le e' n
  have le4 := okN_le e' m
  clear he he'
  go_enter Try.func7, Try.ntmps7
  go_wp2_with fail
  refine (long_any _ _ _ _ _ _ _).mono ?_
  rintro r w1 ⟨rfl, x0, rfl⟩
  rw [HL.out]
  go_wp2_with fail
  refine (r2copy_any _ _ _ _ _ _ P F _ (by omega) (HP.out.of (by (repeat (first | exact Kept.refl _ | assumption | refine Kept.alloc ?_ _ | refine Kept.ext ?_ _ | refine Kept.drew ?_ | refine Kept.drewN ?_ _)))) (HF.out.of (by (repeat (first | exact Kept.refl _ | assumption | refine Kept.alloc ?_ _ | refine Kept.ext ?_ _ | refine Kept.drew ?_ | refine Kept.drewN ?_ _))))).mono ?_
  rintro r w1 ⟨vP, vF, rfl, ⟨x1, rfl⟩, ho1, ho2⟩
  obtain ⟨A1, c1, rfl⟩ := own_slice2 ho1
  obtain ⟨B1, c2, rfl⟩ := own_slice2 ho2
  have H1 := Lib.hid (rows_of_owns ho1 HPI.out)
  have H2 := Lib.hid (rows_of_owns ho2 HFI.out)
  clear ho1 ho2
  go_wp2_with fail
  refine (smove_any _ _ _ _ _ _ P F _ _ _ _ hn (H1.out.of (by (repeat (first | exact Kept.refl _ | assumption | refine Kept.alloc ?_ _ | refine Kept.ext ?_ _ | refine Kept.drew ?_ | refine Kept.drewN ?_ _)))) (H2.out.of (by (repeat (first | exact Kept.refl _ | assumption | refine Kept.alloc ?_ _ | refine Kept.ext ?_ _ | refine Kept.drew ?_ | refine Kept.drewN ?_ _))))).mono ?_
  rw [HE.out]
  rintro r w1 ⟨A3, c3, B3, d3, rfl, ⟨x3, rfl⟩, ho1, ho2⟩
  have H3 := Lib.hid ho1
  have H4 := Lib.hid ho2
  clear ho1 ho2
  go_wp2_with fail
  refine (r2move_any _ _ _ _ _ _ P F _ _ _ _ hn (HP.out.of (by (repeat (first | exact Kept.refl _ | assumption | refine Kept.alloc ?_ _ | refine Kept.ext ?_ _ | refine Kept.drew ?_ | refine Kept.drewN ?_ _)))) (HF.out.of (by (repeat (first | exact Kept.refl _ | assumption | refine Kept.alloc ?_ _ | refine Kept.ext ?_ _ | refine Kept.drew ?_ | refine Kept.drewN ?_ _))))).mono ?_
  rw [HE.out]
  rintro r w1 ⟨A4, c4, B4, d4, rfl, ⟨x4, rfl⟩, ho1, ho2⟩
  have H5 := Lib.hid ho1
  have H6 := Lib.hid ho2
  clear ho1 ho2
  go_wp2_with fail
  refine (sscale2_any _ _ _ _ _ _ P F _ _ hn (H1.out.of (by (repeat (first | exact Kept.refl _ | assumption | refine Kept.alloc ?_ _ | refine Kept.ext ?_ _ | refine Kept.drew ?_ | refine Kept.drewN ?_ _)))) (H2.out.of (by (repeat (first | exact Kept.refl _ | assumption | refine Kept.alloc ?_ _ | refine Kept.ext ?_ _ | refine Kept.drew ?_ | refine Kept.drewN ?_ _))))).mono ?_
  rw [HE'.out]
  rintro r w1 ⟨A5, c5, B5, d5, rfl, ⟨x5, rfl⟩, ho1, ho2⟩
  have H7 := Lib.hid ho1
  have H8 := Lib.hid ho2
  clear ho1 ho2
  go_wp2_with fail
  refine (r2scale2_any _ _ _ _ _ _ P F _ _ hn (HP.out.of (by (repeat (first | exact Kept.refl _ | assumption | refine Kept.alloc ?_ _ | refine Kept.ext ?_ _ | refine Kept.drew ?_ | refine Kept.drewN ?_ _)))) (HF.out.of (by (repeat (first | exact Kept.refl _ | assumption | refine Kept.alloc ?_ _ | refine Kept.ext ?_ _ | refine Kept.drew ?_ | refine Kept.drewN ?_ _))))).mono ?_
  rw [HE'.out]
  rintro r w1 ⟨A6, c6, B6, d6, rfl, ⟨x6, rfl⟩, ho1, ho2⟩
  have H9 := Lib.hid ho1
  have H10 := Lib.hid ho2
  clear ho1 ho2
  go_wp2_with fail
  refine (same_any _ _ _ _ _ _ _ _ _ _ (movP P v0 v1 v2) F _ (by omega) ((rowsO H3.out HEI.out).of (by (repeat (first | exact Kept.refl _ | assumption | refine Kept.alloc ?_ _ | refine Kept.ext ?_ _ | refine Kept.drew ?_ | refine Kept.drewN ?_ _)))) ((rowsO H4.out (fun _ => HFI.out)).of (by (repeat (first | exact Kept.refl _ | assumption | refine Kept.alloc ?_ _ | refine Kept.ext ?_ _ | refine Kept.drew ?_ | refine Kept.drewN ?_ _)))) ((rowsO H5.out HEI.out).of (by (repeat (first | exact Kept.refl _ | assumption | refine Kept.alloc ?_ _ | refine Kept.ext ?_ _ | refine Kept.drew ?_ | refine Kept.drewN ?_ _)))) ((rowsO H6.out (fun _ => HFI.out)).of (by (repeat (first | exact Kept.refl _ | assumption | refine Kept.alloc ?_ _ | refine Kept.ext ?_ _ | refine Kept.drew ?_ | refine Kept.drewN ?_ _))))).mono ?_
  rintro r w1 ⟨rfl, x7, rfl⟩
  go_wp2_with fail
  refine (same_any _ _ _ _ _ _ _ _ _ _ (sclP P k0) F _ (by omega) ((rowsO H7.out HEI'.out).of (by (repeat (first | exact Kept.refl _ | assumption | refine Kept.alloc ?_ _ | refine Kept.ext ?_ _ | refine Kept.drew ?_ | refine Kept.drewN ?_ _)))) ((rowsO H8.out (fun _ => HFI.out)).of (by (repeat (first | exact Kept.refl _ | assumption | refine Kept.alloc ?_ _ | refine Kept.ext ?_ _ | refine Kept.drew ?_ | refine Kept.drewN ?_ _)))) ((rowsO H9.out HEI'.out).of (by (repeat (first | exact Kept.refl _ | assumption | refine Kept.alloc ?_ _ | refine Kept.ext ?_ _ | refine Kept.drew ?_ | refine Kept.drewN ?_ _)))) ((rowsO H10.out (fun _ => HFI.out)).of (by (repeat (first | exact Kept.refl _ | assumption | refine Kept.alloc ?_ _ | refine Kept.ext ?_ _ | refine Kept.drew ?_ | refine Kept.drewN ?_ _))))).mono ?_
  rintro r w1 ⟨rfl, x8, rfl⟩
  go_wp2_with fail
  go_loopw [17] (fun i wr => ∃ k : Nat, k ≤ okN e n ∧ i = .int .i64 k ∧ MovI ((ext (ext ((w.alloc (.cells #[.slice A n cap, .slice B m cap2] 25)).alloc (.cells #[.int .i64 v0, .int .i64 v1, .int .i64 v2] 34)) x0) x1).alloc (.cells #[.slice A1 n c1, .slice B1 m c2] 25)) (adv (adv (adv (w.heap.size + 1 + 1) x0.obs.size) x1.obs.size + 1) x3.obs.size) (adv (adv (adv (adv (adv (w.heap.size + 1 + 1) x0.obs.size) x1.obs.size + 1) x3.obs.size + 1) x4.obs.size + 1) x5.obs.size) #[.slice A3 (okN e n) c3, .slice B3 (okN e m) d3] #[.slice A5 (okN e' n) c5, .slice B5 (okN e' m) d5] A3 (okN e n) c3 B5 (okN e' m) d5 wr) (fun i _ => okN e n - (intOf i).toNat)
  case atStart =>
    refine ⟨0, by omega, rfl, by (repeat (first | exact Kept.refl _ | assumption | refine Kept.alloc ?_ _ | refine Kept.ext ?_ _ | refine Kept.drew ?_ | refine Kept.drewN ?_ _)), ?_, ?_, ⟨_, owns_kept H3.out (by (repeat (first | exact Kept.refl _ | assumption | refine Kept.alloc ?_ _ | refine Kept.ext ?_ _ | refine Kept.drew ?_ | refine Kept.drewN ?_ _)))⟩, ⟨_, own_mono (owns_kept H8.out (by (repeat (first | exact Kept.refl _ | assumption | refine Kept.alloc ?_ _ | refine Kept.ext ?_ _ | refine Kept.drew ?_ | refine Kept.drewN ?_ _)))) ?_⟩⟩
    · exact fr_kept (alloc_now (ext ((ext (ext ((w.alloc (.cells #[.slice A n cap, .slice B m cap2] 25)).alloc (.cells #[.int .i64 v0, .int .i64 v1, .int .i64 v2] 34)) x0) x1).alloc (.cells #[.slice A1 n c1, .slice B1 m c2] 25)) x3) (.cells #[.slice A3 (okN e n) c3, .slice B3 (okN e m) d3] 25) _) (by (repeat (first | exact Kept.refl _ | assumption | refine Kept.alloc ?_ _ | refine Kept.ext ?_ _ | refine Kept.drew ?_ | refine Kept.drewN ?_ _)))
    · exact fr_kept (alloc_now (ext ((ext ((ext ((ext (ext ((w.alloc (.cells #[.slice A n cap, .slice B m cap2] 25)).alloc (.cells #[.int .i64 v0, .int .i64 v1, .int .i64 v2] 34)) x0) x1).alloc (.cells #[.slice A1 n c1, .slice B1 m c2] 25)) x3).alloc (.cells #[.slice A3 (okN e n) c3, .slice B3 (okN e m) d3] 25)) x4).alloc (.cells #[.slice A4 (okN e n) c4, .slice B4 (okN e m) d4] 25)) x5) (.cells #[.slice A5 (okN e' n) c5, .slice B5 (okN e' m) d5] 25) _) (by (repeat (first | exact Kept.refl _ | assumption | refine Kept.alloc ?_ _ | refine Kept.ext ?_ _ | refine Kept.drew ?_ | refine Kept.drewN ?_ _)))
    · simp [adv]; omega
  case round =>
    obtain ⟨k, hk, rfl, hM⟩ := hrel
    by_cases hlt : k < okN e n
    · obtain ⟨P1, hp1⟩ := hM.p
      obtain ⟨g, rfl, hg1, hg2⟩ := own_head hp1 (by omega)
      obtain ⟨m0, m1, -, -⟩ := cells2 hM.q8
      have LM : Lower (adv (adv (adv (w.heap.size + 1 + 1) x0.obs.size) x1.obs.size + 1) x3.obs.size) wr.heap.size := ⟨cell_lt m0⟩
      have LG : Lower g wr.heap.size := ⟨hg2⟩
      obtain ⟨f0, -, -⟩ := own_cells hp1 hlt
      have fz : wr.frozen? ⟨g, k * 3, none⟩ = false := hp1.frozenAt (k * 3)
      have HM := Lib.hid hM
      clear hM hg1 hg2 hp1
      go_wp2_with fail
      go_roundw
      case rel => exact ⟨k + 1, by omega, by go_num, HM.out.setP hlt 999⟩
      case measure => simp [intOf]; omega
    have HM := Lib.hid hM
    obtain ⟨m0, m1, -, -⟩ := cells2 hM.q8
    have LM : Lower (adv (adv (adv (w.heap.size + 1 + 1) x0.obs.size) x1.obs.size + 1) x3.obs.size) wr.heap.size := ⟨cell_lt m0⟩
    clear hM
    go_wp2_with fail
    clear m0 m1 LM
    go_loopw [18] (fun i wr => ∃ k : Nat, k ≤ okN e' m ∧ i = .int .i64 k ∧ MovI ((ext (ext ((w.alloc (.cells #[.slice A n cap, .slice B m cap2] 25)).alloc (.cells #[.int .i64 v0, .int .i64 v1, .int .i64 v2] 34)) x0) x1).alloc (.cells #[.slice A1 n c1, .slice B1 m c2] 25)) (adv (adv (adv (w.heap.size + 1 + 1) x0.obs.size) x1.obs.size + 1) x3.obs.size) (adv (adv (adv (adv (adv (w.heap.size + 1 + 1) x0.obs.size) x1.obs.size + 1) x3.obs.size + 1) x4.obs.size + 1) x5.obs.size) #[.slice A3 (okN e n) c3, .slice B3 (okN e m) d3] #[.slice A5 (okN e' n) c5, .slice B5 (okN e' m) d5] A3 (okN e n) c3 B5 (okN e' m) d5 wr) (fun i _ => okN e' m - (intOf i).toNat)
    case atStart => exact ⟨0, by omega, rfl, HM.out⟩
    clear HM
    case round =>
      obtain ⟨q, hq, rfl, hM⟩ := hrel
      by_cases hlt : q < okN e' m
      · obtain ⟨F1, hp1⟩ := hM.f
        obtain ⟨g, rfl, hg1, hg2⟩ := own_head hp1 (by omega)
        obtain ⟨m0, m1, -, -⟩ := cells2 hM.q12
        have LM : Lower (adv (adv (adv (adv (adv (w.heap.size + 1 + 1) x0.obs.size) x1.obs.size + 1) x3.obs.size + 1) x4.obs.size + 1) x5.obs.size) wr.heap.size := ⟨cell_lt m0⟩
        have LG : Lower g wr.heap.size := ⟨hg2⟩
        obtain ⟨f0, -, -⟩ := own_cells hp1 hlt
        have fz : wr.frozen? ⟨g, q * 3, none⟩ = false := hp1.frozenAt (q * 3)
        have HM := Lib.hid hM
        clear hM hg1 hg2 hp1
        go_wp2_with fail
        go_roundw
        case rel => exact ⟨q + 1, by omega, by go_num, HM.out.setF hlt (-1)⟩
        case measure => simp [intOf]; omega
      have HK := Lib.hid hM.kept
      obtain ⟨m0, m1, -, -⟩ := cells2 hM.q12
      have LM : Lower (adv (adv (adv (adv (adv (w.heap.size + 1 + 1) x0.obs.size) x1.obs.size + 1) x3.obs.size + 1) x4.obs.size + 1) x5.obs.size) wr.heap.size := ⟨cell_lt m0⟩
      have e0 : wr.cell? ⟨(adv (adv (w.heap.size + 1 + 1) x0.obs.size) x1.obs.size), 0, none⟩ = some (.slice A1 n c1) := kept_cell (w := ((ext (ext ((w.alloc (.cells #[.slice A n cap, .slice B m cap2] 25)).alloc (.cells #[.int .i64 v0, .int .i64 v1, .int .i64 v2] 34)) x0) x1).alloc (.cells #[.slice A1 n c1, .slice B1 m c2] 25))) (by go_simp) hM.kept
      have e1 : wr.cell? ⟨(adv (adv (w.heap.size + 1 + 1) x0.obs.size) x1.obs.size), 1, none⟩ = some (.slice B1 m c2) := kept_cell (w := ((ext (ext ((w.alloc (.cells #[.slice A n cap, .slice B m cap2] 25)).alloc (.cells #[.int .i64 v0, .int .i64 v1, .int .i64 v2] 34)) x0) x1).alloc (.cells #[.slice A1 n c1, .slice B1 m c2] 25))) (by go_simp) hM.kept
      have e2 : wr.cell? ⟨w.heap.size, 0, none⟩ = some (.slice A n cap) := kept_cell (w := ((ext (ext ((w.alloc (.cells #[.slice A n cap, .slice B m cap2] 25)).alloc (.cells #[.int .i64 v0, .int .i64 v1, .int .i64 v2] 34)) x0) x1).alloc (.cells #[.slice A1 n c1, .slice B1 m c2] 25))) (by go_simp) hM.kept
      have e3 : wr.cell? ⟨w.heap.size, 1, none⟩ = some (.slice B m cap2) := kept_cell (w := ((ext (ext ((w.alloc (.cells #[.slice A n cap, .slice B m cap2] 25)).alloc (.cells #[.int .i64 v0, .int .i64 v1, .int .i64 v2] 34)) x0) x1).alloc (.cells #[.slice A1 n c1, .slice B1 m c2] 25))) (by go_simp) hM.kept
      have L7 : Lower (adv (adv (w.heap.size + 1 + 1) x0.obs.size) x1.obs.size) wr.heap.size := ⟨cell_lt e0⟩
      have L3 : Lower w.heap.size wr.heap.size := ⟨cell_lt e2⟩
      clear hM
      go_wp2_with fail
      refine (same_any _ _ _ _ _ _ _ _ _ _ P F _ hn ((H1.out.of (by (repeat (first | exact Kept.refl _ | assumption | refine Kept.alloc ?_ _ | refine Kept.ext ?_ _ | refine Kept.drew ?_ | refine Kept.drewN ?_ _)) : Kept _ ((ext (ext ((w.alloc (.cells #[.slice A n cap, .slice B m cap2] 25)).alloc (.cells #[.int .i64 v0, .int .i64 v1, .int .i64 v2] 34)) x0) x1).alloc (.cells #[.slice A1 n c1, .slice B1 m c2] 25)))).of HK.out) ((H2.out.of (by (repeat (first | exact Kept.refl _ | assumption | refine Kept.alloc ?_ _ | refine Kept.ext ?_ _ | refine Kept.drew ?_ | refine Kept.drewN ?_ _)) : Kept _ ((ext (ext ((w.alloc (.cells #[.slice A n cap, .slice B m cap2] 25)).alloc (.cells #[.int .i64 v0, .int .i64 v1, .int .i64 v2] 34)) x0) x1).alloc (.cells #[.slice A1 n c1, .slice B1 m c2] 25)))).of HK.out) ((HP.out.of (by (repeat (first | exact Kept.refl _ | assumption | refine Kept.alloc ?_ _ | refine Kept.ext ?_ _ | refine Kept.drew ?_ | refine Kept.drewN ?_ _)) : Kept w ((ext (ext ((w.alloc (.cells #[.slice A n cap, .slice B m cap2] 25)).alloc (.cells #[.int .i64 v0, .int .i64 v1, .int .i64 v2] 34)) x0) x1).alloc (.cells #[.slice A1 n c1, .slice B1 m c2] 25)))).of HK.out) ((HF.out.of (by (repeat (first | exact Kept.refl _ | assumption | refine Kept.alloc ?_ _ | refine Kept.ext ?_ _ | refine Kept.drew ?_ | refine Kept.drewN ?_ _)) : Kept w ((ext (ext ((w.alloc (.cells #[.slice A n cap, .slice B m cap2] 25)).alloc (.cells #[.int .i64 v0, .int .i64 v1, .int .i64 v2] 34)) x0) x1).alloc (.cells #[.slice A1 n c1, .slice B1 m c2] 25)))).of HK.out)).mono ?_
      rintro r w1 ⟨rfl, x9, rfl⟩
      go_wp2_with (first | (go_at_call 19; refine (known_any _).mono ?_; rintro e w1 ⟨rfl, x, rfl⟩))
      go_ret
      exact ⟨rfl, ((by (repeat (first | exact Kept.refl _ | assumption | refine Kept.alloc ?_ _ | refine Kept.ext ?_ _ | refine Kept.drew ?_ | refine Kept.drewN ?_ _)) : Kept w ((ext (ext ((w.alloc (.cells #[.slice A n cap, .slice B m cap2] 25)).alloc (.cells #[.int .i64 v0, .int .i64 v1, .int .i64 v2] 34)) x0) x1).alloc (.cells #[.slice A1 n c1, .slice B1 m c2] 25))).trans HK.out).trans (by (repeat (first | exact Kept.refl _ | assumption | refine Kept.alloc ?_ _ | refine Kept.ext ?_ _ | refine Kept.drew ?_ | refine Kept.drewN ?_ _)))⟩
theorem ownShapeMoves : ownKnob Try.prog.godebug = none := by kernel_rfl
theorem laidOutShapeMoves : laidOutB Try.prog = true := by kernel_rfl
set_option linter.unusedVariables false in
set_option maxRecDepth 100000 in
theorem liftedShapeMoves (os : Os) (started : os.Started) (H : Type) (enc : TypeId × Value → H) :
    ReturnsInHanded {} Try.checked os 7 .any (Rows.shapeMovesSpec.pre6 enc Try.prog Try.f7 Rows.shapeMovesRow.domain false) (Rows.shapeMovesSpec.post enc Try.prog Try.f7 false true false false) := by
  refine returnsInHanded_of_change (C := Try.checked) ownShapeMoves started (by kernel_rfl) Try.func7
    (ChangeSpec.witness6 (enc := enc) (C := Try.checked) false ⟨#[], #[.agg #[.slice none 0 0, .slice none 0 0], .agg #[.int .i64 0, .int .i64 0, .int .i64 0], .int .i64 0], []⟩ 8 (by kernel_rfl) (by kernel_rfl) (by kernel_rfl) (by kernel_rfl)) ?_
  intro W base args ds gs before hval0 hW hcnd _
  have hval : ∀ (j : Nat) t v, Try.f7.params[j]? = some t → args[j]? = some v → Value.okWide Try.prog W .any base t v := hval0
  have hW' := hW
  obtain ⟨p, q, hA0, hV, rfl, hfz, hnd⟩ := hW
  have hA : DataW.TrodAll enc Try.prog W 0 (fun _ => true) true Try.f7.params.toList args.toList ds p := hA0
  rw [Try.params7] at hA hval
  obtain ⟨v0, vs0, d0, ds0, p0, q0, hargs, rfl, rfl, h0, r0⟩ := trodAll_cons hA
  obtain ⟨v1, vs1, d1, ds1, p1, q1, rfl, rfl, rfl, h1, r1⟩ := trodAll_cons r0
  obtain ⟨v2, vs2, d2, ds2, p2, q2, rfl, rfl, rfl, h2, r2⟩ := trodAll_cons r1
  obtain ⟨rfl, rfl, rfl⟩ := trodAll_nil r2
  obtain rfl : args = #[v0, v1, v2] := by cases args; simp_all
  obtain ⟨rfl, rfl⟩ := trodVars_none hV
  have lt0 : ∀ x ∈ p0, x.block < W.heap.size := by obtain ⟨m, hm⟩ := h0; exact DataW.trod_lt m _ _ _ hm
  obtain ⟨A0, n0, cap0, f0, B0, m0, capb0, g0, rfl, hpa0, hpb0⟩ := open_mesh _ _ 25 34 54 3 3 Try.underlying25 ⟨rfl, rfl, by kernel_rfl, by kernel_rfl, by kernel_rfl⟩ Try.underlying22 (by kernel_rfl) (by decide) (by kernel_rfl) Try.underlying23 (by kernel_rfl) (by decide) (by kernel_rfl) (hval 0 25 v0 rfl rfl) h0 lt0
  have lt1 : ∀ x ∈ p1, x.block < W.heap.size := by obtain ⟨m, hm⟩ := h1; exact DataW.trod_lt m _ _ _ hm
  obtain ⟨l1, rfl, e1, b1⟩ := open_agg_ints 3 (by kernel_rfl) (by kernel_rfl) (ts := [3, 3, 3]) (by kernel_rfl) (by intro u hu; simp at hu; subst hu; exact Try.underlying3) (hval 1 34 v1 rfl rfl)
  obtain ⟨z1_0, z1_1, z1_2, rfl⟩ := len3 e1
  simp only [List.map_cons, List.map_nil] at *
  simp only [List.mem_cons, List.not_mem_nil, or_false, forall_eq_or_imp, forall_eq] at b1
  have lt2 : ∀ x ∈ p2, x.block < W.heap.size := by obtain ⟨m, hm⟩ := h2; exact DataW.trod_lt m _ _ _ hm
  obtain ⟨z2, rfl, b2⟩ := okWide_int_bd Try.underlying3 (hval 2 3 v2 rfl rfl)
  clear hA0 hval0
  refine (moves_law A0 n0 cap0 f0 B0 m0 capb0 g0 z1_0 z1_1 z1_2 z2 W ⟨hpa0, hpb0⟩).mono fun e W' ⟨he, hk⟩ => ?_
  subst he
  have bel := hk.below
  exact ⟨_, rfl, _, _, _, [], _, [], hW', trodAll_mk1 (shut_bool Try.underlying4 _), (trodAll_cons_mk (Below.trod laidOutShapeMoves (by kernel_rfl) (of_decide_eq_true (by kernel_rfl)) h0 bel lt0) (trodAll_cons_mk (Below.trod laidOutShapeMoves (by kernel_rfl) (of_decide_eq_true (by kernel_rfl)) h1 bel lt1) (trodAll_cons_mk (Below.trod laidOutShapeMoves (by kernel_rfl) (of_decide_eq_true (by kernel_rfl)) h2 bel lt2) trodAll_mk0))), rfl, bel.frame _, fun h => by cases h⟩
/-- For every input the statement ShapeMoves returns true, and each argument reads afterwards as it read before. -/
theorem shapeMoves_holds : Rows.ShapeMovesSaid :=
  OpenClaim.holds_of_wide 7 Try.f7 rfl rfl rfl rfl rfl rfl rfl ⟨rfl, rfl, rfl, rfl, rfl⟩ rfl rfl rfl rfl rfl (by kernel_rfl) Try.func7 (by kernel_rfl)
    (of_decide_eq_true (by kernel_rfl)) (by unfold Func.isWrapper; first | (rw [if_pos (by decide +kernel)]; kernel_rfl) | (rw [if_neg (by decide +kernel)]; exact ⟨rfl, rfl⟩))
    (fun os started H enc _ => liftedShapeMoves os started H enc)
#print axioms shapeMoves_holds

end Go.Proofs.Ytoadlneneijfaaa
