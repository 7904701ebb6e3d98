/- Contract: the sum of scaled spans, of the program. Conditions: the lists are not long. Contract: the tables of a mesh, of the program. Conditions: the mesh is right and the depth is small. Contracts: potentials and the energy of charges, of the program. Conditions: the tables are those of a mesh, the charges are right. Contract: the energy of charges, of the program. Conditions: the table is that of a mesh, the charges are right. Contracts: the bounds that potentials, energies and a ball give, of the program. Conditions: bounds on numbers. Contract: the ball about a mesh, of the program. Conditions: the mesh is right, the center is near. Contracts: the tables and the bounds of charges, of the program. Conditions: the mesh is right, the depth is small, the charges are right. Contract: the bounds of charges from the tables, of the program. Conditions: the mesh is right, the depth is small, the charges are right. Contracts: which charges and depths are right, the bounds of a capacity, the work, of the program. Conditions: the lists are not long. -/
import Derived.Test.YtnbjealpcjfllaaGreatDoorZe
import Derived.Test.YtnbjealpcjfllaaGreatDoorZh
import Derived.Test.YtnbjealpcjfllaaGreatDoorZa
import Derived.Test.YtnbjealpcjfllaaGreatDoorZg
namespace Go.Proofs.YtnbjealpcjfllaaGreatDoor
set_option linter.unusedVariables false
set_option linter.unusedSimpArgs false
open Go.RowKit Go.Deep
theorem addL_stop {t : Nat → R} {c : Nat → Int} {k : Nat} {e : Int} (h0 : addL t c k = 0) (he : (scaleS (t k).lo (t k).hi (c k)).e = e) (hne : e ≠ 0) : ∀ {n : Nat}, k < n → addL t c n = e
  | 0, h => absurd h (by omega)
  | n + 1, h => by
    by_cases q : n = k
    · subst q
      unfold addL
      rw [h0, if_neg (by omega), he]
    · have := addL_stop h0 he hne (n := n) (by omega)
      unfold addL
      rw [this, if_pos hne]
theorem addL_next {t : Nat → R} {c : Nat → Int} {k : Nat} (h0 : addL t c k = 0) (he : (scaleS (t k).lo (t k).hi (c k)).e = 0) : addL t c (k + 1) = 0 := by
  unfold addL
  rw [h0, if_neg (by omega), he]
theorem scale_I {lo hi n : Int} (h : (scaleS lo hi n).e = 0) : I64 (scaleS lo hi n).lo ∧ I64 (scaleS lo hi n).hi := by
  have hv : validB (scaleS lo hi n).lo (scaleS lo hi n).hi = true := by
    unfold scaleS at h ⊢
    split
    · rename_i q
      rw [if_pos q] at h
      unfold resultS at h ⊢
      split
      · rename_i q2
        exact q2
      · rename_i q2
        rw [if_neg q2] at h
        cases h
    · rename_i q
      rw [if_neg q] at h
      cases h
  have := of_decide_eq_true hv
  unfold I64
  omega
/-- The scaled spans. -/
def sclF (t : Nat → R) (c : Nat → Int) (k j : Nat) : Int := if j = 0 then (scaleS (t k).lo (t k).hi (c k)).lo else (scaleS (t k).lo (t k).hi (c k)).hi
theorem sclF_I {t : Nat → R} {c : Nat → Int} {n : Nat} (h : addL t c n = 0) : ∀ k, k < n → ∀ j, j < 2 → I64 (sclF t c k j) := fun k hk j hj => by
  have := scale_I (addL_e h k hk)
  unfold sclF
  split
  · exact this.1
  · exact this.2
set_option maxRecDepth 100000 in
set_option maxHeartbeats 8000000 in
theorem hadd_any (A : Option Addr) (n cap : Nat) (t : Nat → R) (g : Nat → Nat → Int) (C : Option Addr) (l cap3 : Nat) (f : Nat → Nat → Int) (w : World) (hn : n ≤ 9216 ∧ n ≤ l) (hA : RowsAt w A n 2 g) (hC : RowsAt w C l 1 f) (hg : ∀ k, g k 0 = (t k).lo ∧ g k 1 = (t k).hi) :
    Calls Tryz.prog 261 #[.slice A n cap, .slice C l cap3] w fun e w' => e = .returned (.tuple #[.agg #[.int .i64 (addR t (fun k => f k 0) n).lo, .int .i64 (addR t (fun k => f k 0) n).hi], .int .i64 (addR t (fun k => f k 0) n).e]) ∧ Kept w w' := by
  have HA := Lib.hid hA
  have HC := Lib.hid hC
  have HG := Lib.hid hg
  obtain ⟨c, hc⟩ : ∃ c : Nat → Int, (fun k => f k 0) = c := ⟨_, rfl⟩
  have hck : ∀ k, f k 0 = c k := fun k => by rw [← hc]
  have HCK := Lib.hid hck
  rw [hc]
  obtain ⟨r, hr⟩ : ∃ r, addR t c n = r := ⟨_, rfl⟩
  rw [hr]
  have HR := Lib.hid hr
  obtain ⟨i0, hi, hz0, hz1, hz2⟩ := info_parts info_spn
  have HI := Lib.hid (And.intro hi (And.intro hz0 (And.intro hz1 hz2)))
  obtain ⟨n1, n2⟩ := hn
  clear hA hC hg hc hck hr hi hz0 hz1 hz2
  go_enter Tryz.func261, Tryz.ntmps261
  go_wp2_with fail
  go_loopw [6, 13] (fun v i wr => ∃ k : Nat, k ≤ n ∧ i = .int .i64 k ∧ addL t c k = 0 ∧ Kept (w.alloc (.cells #[.int .i64 0, .int .i64 0] 44)) wr ∧ wr.ownsRow (w.heap.size + 1) 44 2 v k (rowC 2 (sclF t c) k)) (fun _ i _ => n - (intOf i).toNat)
  case atStart => exact ⟨0, by omega, rfl, rfl, by (repeat (first | exact Kept.refl _ | assumption | refine Kept.alloc ?_ _ | refine Kept.ext ?_ _ | refine Kept.drew ?_ | refine Kept.drewN ?_ _)), World.ownsRow_nil _ _ _ _⟩
  case round =>
    obtain ⟨k, hk, rfl, h0, hkp, hown⟩ := hrel
    obtain ⟨A2, cp2, rfl, hcp⟩ := own_sl hown
    have kw : Kept w wr := (show Kept w (w.alloc (.cells #[.int .i64 0, .int .i64 0] 44)) by (repeat (first | exact Kept.refl _ | assumption | refine Kept.alloc ?_ _ | refine Kept.ext ?_ _ | refine Kept.drew ?_ | refine Kept.drewN ?_ _))).trans hkp
    have zb : wr.heap[w.heap.size]? = some (.cells #[.int .i64 0, .int .i64 0] 44 (0, 0)) := heap_kp (alloc_now w _ _) hkp
    have z0 : wr.cell? ⟨w.heap.size, 0, none⟩ = some (.int .i64 0) := cell_blk zb rfl
    have z1 : wr.cell? ⟨w.heap.size, 1, none⟩ = some (.int .i64 0) := cell_blk zb rfl
    have z2 : wr.frozen? ⟨w.heap.size, 0, none⟩ = false := frozen_blk zb
    have z3 : wr.frozen? ⟨w.heap.size, 1, none⟩ = false := frozen_blk zb
    have LZ : Lower w.heap.size wr.heap.size := ⟨cell_lt z0⟩
    have ZB := Lib.hid zb
    have H0 := Lib.hid h0
    have HO := Lib.hid hown
    have HK := Lib.hid hkp
    have KW := Lib.hid kw
    clear h0 hown hkp kw zb
    by_cases hlt : k < n
    · obtain ⟨gb, og, rfl, lg, g0, g1⟩ := hrow2 HA.out hlt
      rw [(HG.out k).1] at g0
      rw [(HG.out k).2] at g1
      have g0' := kp_cell g0 KW.out
      have g1' := kp_cell g1 KW.out
      have LG : Lower gb wr.heap.size := ⟨cell_lt g0'⟩
      obtain ⟨fb, off, rfl, lf, f0⟩ := hrow1 HC.out (show k < l by omega)
      rw [HCK.out] at f0
      have f0' := kp_cell f0 KW.out
      have LF : Lower fb wr.heap.size := ⟨cell_lt f0'⟩
      have hsc : ∀ w', _ := fun w' => scale_any (t k).lo (t k).hi (c k) w'
      obtain ⟨vlo, e1⟩ : ∃ y, (scaleS (t k).lo (t k).hi (c k)).lo = y := ⟨_, rfl⟩
      obtain ⟨vhi, e2⟩ : ∃ y, (scaleS (t k).lo (t k).hi (c k)).hi = y := ⟨_, rfl⟩
      obtain ⟨ve, e3⟩ : ∃ y, (scaleS (t k).lo (t k).hi (c k)).e = y := ⟨_, rfl⟩
      rw [e1, e2, e3] at hsc
      have HSC := Lib.hid hsc
      have E1 := Lib.hid e1
      have E2 := Lib.hid e2
      have E3 := Lib.hid e3
      have hkl : (k : Int) < l := by omega
      clear hsc e1 e2 e3 lg lf g0 g1 f0
      go_wp2_with fail
      have hF : frsB [.q, .q, .q, .q, .q, .q, .q, .q, .q, .s, .s, .q] [⟨9, 10, 44, #[.int .i64 0, .int .i64 0], #[.int .i64 vlo, .int .i64 vhi]⟩] = true := by kernel_rfl
      refine wp_region_frs _ _ (by kernel_rfl) (by kernel_rfl) hF (fun b => by kernel_rfl) ?_
      apply Exists.intro
      refine ⟨?_, ?_, ?_, ?_⟩
      · rintro b' W9 ⟨yy, rfl⟩
        simp only [swapL, Nat.reduceAdd]
        repeat (go_big_quiet_step (first | (go_at_call 302; exact Calls.kept_of (HSC.out _))))
        refine wpQuiet_nil ?_
        rfl
      · simp only [EachS, and_true]
        refine ⟨?_, ?_⟩
        · exact fun L b' w' hd hL hI => FI.tells_alloc hF 0 rfl hI hL (by go_simp)
        · exact fun L b' w' hd hL hI => FI.tells_store hF 0 rfl hI hL (hd { on := 9, ground := .data } (by simp) rfl) 44 (.tmp 9) (.tmp 25) rfl rfl rfl (by kernel_rfl) rfl (by kernel_rfl)
      · intro b1 b2 d9 hd
        simp [callSlots, dullOp] at hd
        all_goals (first | (rcases hd with rfl <;> rfl) | (subst hd; rfl))
      intro L b' w1 hL hI
      obtain ⟨kl, ekl, lkl, hk1x⟩ := hI.ends 0 rfl (hL 9 (by decide)) (hL 10 (by decide))
      have ekl' : b' 9 = _ := ekl
      clear hF
      have hk1 := hI.kept
      clear hI hL ekl
      simp only [ekl']
      clear ekl'
      have hk2 : Kept wr w1 := (show Kept wr (wr.alloc (.cells #[.int .i64 (t k).lo, .int .i64 (t k).hi] 44)) by (repeat (first | exact Kept.refl _ | assumption | refine Kept.alloc ?_ _ | refine Kept.ext ?_ _ | refine Kept.drew ?_ | refine Kept.drewN ?_ _))).trans hk1
      have c5 : w1.cell? ⟨kl, 0, none⟩ = some (.int .i64 vlo) := cell_blk hk1x rfl
      have c6 : w1.cell? ⟨kl, 1, none⟩ = some (.int .i64 vhi) := cell_blk hk1x rfl
      have LK : Lower kl w1.heap.size := ⟨cell_lt c5⟩
      have y0 := kp_cell z0 hk2
      have y1 := kp_cell z1 hk2
      have y2 : w1.frozen? ⟨w.heap.size, 0, none⟩ = false := frozen_blk (heap_kp ZB.out hk2)
      have y3 : w1.frozen? ⟨w.heap.size, 1, none⟩ = false := frozen_blk (heap_kp ZB.out hk2)
      have LZ1 : Lower w.heap.size w1.heap.size := ⟨cell_lt y0⟩
      have ly : w.heap.size + 1 ≤ w1.heap.size := cell_lt y0
      have K2 := Lib.hid (HK.out.trans hk2)
      have O2 := Lib.hid (owns_kept HO.out hk2)
      clear hk1 hk2 hk1x HO z0 z1 z2 z3
      by_cases hve : ve = 0
      · subst hve
        have hv2 : (( 0 : Int) == 0) = true := rfl
        have hI2 := scale_I E3.out
        rw [E1.out, E2.out] at hI2
        go_wp2_with (at_builtin; refine wpList_append_lies _ rfl _ _ _ rfl (w.heap.size + 1) 44 i0 _ 2 16 Tryz.underlying257 HI.out.1 HI.out.2.1 HI.out.2.2.1 HI.out.2.2.2 rfl (by omega) _ k (rowC 2 (sclF t c) k) rfl (owns_kept O2.out (by (repeat (first | exact Kept.refl _ | assumption | refine Kept.alloc ?_ _ | refine Kept.ext ?_ _ | refine Kept.drew ?_ | refine Kept.drewN ?_ _)))) _ 1 1 [.int .i64 vlo, .int .i64 vhi] rfl rfl (World.news_of_block (alloc_now _ _ _)) (by simp [Value.oneCell']) (by omega) (by unfold maxLen; omega) (by omega) (by simp [adv]; omega) _ rfl ?_; intro g7 cp7 w2 hown2 hg2 hat hlt2)
        have hk3 : Kept (w.alloc (.cells #[.int .i64 0, .int .i64 0] 44)) w2 := kept_grown (base := w.heap.size + 1) (K2.out.trans (by (repeat (first | exact Kept.refl _ | assumption | refine Kept.alloc ?_ _ | refine Kept.ext ?_ _ | refine Kept.drew ?_ | refine Kept.drewN ?_ _)))) (owns_kept O2.out (by (repeat (first | exact Kept.refl _ | assumption | refine Kept.alloc ?_ _ | refine Kept.ext ?_ _ | refine Kept.drew ?_ | refine Kept.drewN ?_ _)))) (by simp) hg2
        have e9 : rowC 2 (sclF t c) (k + 1) = rowC 2 (sclF t c) k ++ [.int .i64 vlo, .int .i64 vhi] := by
          have q0 : sclF t c k 0 = vlo := E1.out
          have q1 : sclF t c k 1 = vhi := E2.out
          show rowC 2 (sclF t c) k ++ [.int .i64 (sclF t c k 0), .int .i64 (sclF t c k 1)] = _
          rw [q0, q1]
        go_roundw
        case rel => exact ⟨k + 1, by omega, by go_num, addL_next H0.out E3.out, hk3, by rw [e9]; exact hown2⟩
        case measure =>
          simp [intOf]
          omega
      · have hv2 : (ve == 0) = false := by simpa using hve
        have hv3 : (ve != 0) = true := by simpa using hve
        have hst := addL_stop H0.out E3.out hve hlt
        have er : r = ⟨0, 0, ve⟩ := by rw [← HR.out]; unfold addR; rw [hst, if_pos hve]
        subst er
        clear hst
        go_wp2_with fail
        refine bodyPost_ret (by simp only [results, Tryz.results261]; go_simp; rfl) rfl ?_
        exact ⟨rfl, (((show Kept w (w.alloc (.cells #[.int .i64 0, .int .i64 0] 44)) by (repeat (first | exact Kept.refl _ | assumption | refine Kept.alloc ?_ _ | refine Kept.ext ?_ _ | refine Kept.drew ?_ | refine Kept.drewN ?_ _))).trans K2.out).setCell (p := ⟨w.heap.size, 0, none⟩) (Nat.le_refl _) _).setCell (p := ⟨w.heap.size, 1, none⟩) (Nat.le_refl _) _⟩
    · obtain rfl : k = n := by omega
      have hr : RowsAt wr A2 k 2 (sclF t c) := rows_of_owns HO.out (sclF_I H0.out)
      have hsum : ∀ w', Kept wr w' → _ := fun w' hk => ssum_any A2 k cp2 (fun i => sclF t c i 0) (fun i => sclF t c i 1) w' (by omega) (spans_rows (hr.of hk))
      have er : sumsS k (fun i => sclF t c i 0) (fun i => sclF t c i 1) = r := by
        rw [← HR.out]
        unfold addR
        rw [H0.out, if_neg (by omega)]
        rfl
      rw [er] at hsum
      have HS := Lib.hid hsum
      clear hr hsum er
      go_wp2_with (go_at_call 303; refine (HS.out _ (by (repeat (first | exact Kept.refl _ | assumption | refine Kept.alloc ?_ _ | refine Kept.ext ?_ _ | refine Kept.drew ?_ | refine Kept.drewN ?_ _)))).mono ?_; rintro e w5 ⟨rfl, x5, rfl⟩)
      refine bodyPost_ret (by simp only [results, Tryz.results261]; go_simp; rfl) rfl ?_
      exact ⟨rfl, ((KW.out.setCell (p := ⟨w.heap.size, 0, none⟩) (Nat.le_refl _) _).setCell (p := ⟨w.heap.size, 1, none⟩) (Nat.le_refl _) _).trans (by (repeat (first | exact Kept.refl _ | assumption | refine Kept.alloc ?_ _ | refine Kept.ext ?_ _ | refine Kept.drew ?_ | refine Kept.drewN ?_ _)))⟩
end Go.Proofs.YtnbjealpcjfllaaGreatDoor

namespace Go.Proofs.YtnbjealpcjfllaaGreatDoor
set_option linter.unusedVariables false
set_option linter.unusedSimpArgs false
open Go.RowKit Go.Deep
theorem info_spsl : (Tryz.prog.info? 257).map (fun i => (i.zero, i.size, i.bytes)) = some (some (.slice none 0 0), 1, 24) := by kernel_rfl
theorem hpanels_any (A B : Option Addr) (n cap m cap2 : Nat) (P F : Nat → Nat → Int) (w : World) (hn : n ≤ 9223372036854775807 ∧ m ≤ 9223372036854775807) (hv : validE n P m F = 0) (hP : RowsAt w A n 3 P) (hF : RowsAt w B m 3 F) :
    Calls Tryz.prog 254 #[.agg #[.slice A n cap, .slice B m cap2]] w fun r w' => ∃ C cap3, r = .returned (.tuple #[.slice C m cap3, .int .i64 0]) ∧ Kept w w' ∧ RowsAt w' C m 9 (pnF P F) := by
  have HP := Lib.hid hP
  have HF := Lib.hid hF
  have HV := Lib.hid hv
  obtain ⟨n64, m96, hb, hf, -⟩ := validE_ok hv
  have HC := Lib.hid (corn_of hf)
  clear hv hb hf hP hF
  go_enter Tryz.func254, Tryz.ntmps254
  go_wp2_with (first | (go_at_call 71; refine (svalidate_any _ _ _ _ _ _ P F _ hn (HP.out.of (by (repeat (first | exact Kept.refl _ | assumption | refine Kept.alloc ?_ _ | refine Kept.ext ?_ _ | refine Kept.drew ?_ | refine Kept.drewN ?_ _)))) (HF.out.of (by (repeat (first | exact Kept.refl _ | assumption | refine Kept.alloc ?_ _ | refine Kept.ext ?_ _ | refine Kept.drew ?_ | refine Kept.drewN ?_ _))))).mono ?_; rintro e w1 ⟨rfl, x0, rfl⟩; rw [HV.out]) | fail)
  refine (spanels_any _ _ _ _ _ _ P F _ (by omega) (by omega) HC.out (HP.out.of (by (repeat (first | exact Kept.refl _ | assumption | refine Kept.alloc ?_ _ | refine Kept.ext ?_ _ | refine Kept.drew ?_ | refine Kept.drewN ?_ _)))) (HF.out.of (by (repeat (first | exact Kept.refl _ | assumption | refine Kept.alloc ?_ _ | refine Kept.ext ?_ _ | refine Kept.drew ?_ | refine Kept.drewN ?_ _))))).mono ?_
  rintro r w1 ⟨v, rfl, ⟨x1, rfl⟩, hown⟩
  obtain ⟨A2, cp, rfl, hcp⟩ := own_sl hown
  have HR := Lib.hid (rows_of_owns hown (pnF_I (rows_I HP.out) HC.out))
  clear hown
  go_wp2_with fail
  refine bodyPost_ret (by simp only [results, Tryz.results254]; go_simp; rfl) rfl ?_
  exact ⟨A2, cp, rfl, by (repeat (first | exact Kept.refl _ | assumption | refine Kept.alloc ?_ _ | refine Kept.ext ?_ _ | refine Kept.drew ?_ | refine Kept.drewN ?_ _)), HR.out.of (by (repeat (first | exact Kept.refl _ | assumption | refine Kept.alloc ?_ _ | refine Kept.ext ?_ _ | refine Kept.drew ?_ | refine Kept.drewN ?_ _)))⟩
theorem rows9 {w : World} {A : Option Addr} {n k : Nat} {f : Nat → Nat → Int} (h : RowsAt w A n 9 f) (hk : k < n) : ∃ b off, A = some ⟨b, off, none⟩ ∧ b < w.heap.size ∧ w.cell? ⟨b, off + k * 9, none⟩ = some (.int .i64 (f k 0)) ∧ w.cell? ⟨b, off + k * 9 + 1, none⟩ = some (.int .i64 (f k 1)) ∧ w.cell? ⟨b, off + k * 9 + 2, none⟩ = some (.int .i64 (f k 2)) ∧ w.cell? ⟨b, off + k * 9 + 3, none⟩ = some (.int .i64 (f k 3)) ∧ w.cell? ⟨b, off + k * 9 + 4, none⟩ = some (.int .i64 (f k 4)) ∧ w.cell? ⟨b, off + k * 9 + 5, none⟩ = some (.int .i64 (f k 5)) ∧ w.cell? ⟨b, off + k * 9 + 6, none⟩ = some (.int .i64 (f k 6)) ∧ w.cell? ⟨b, off + k * 9 + 7, none⟩ = some (.int .i64 (f k 7)) ∧ w.cell? ⟨b, off + k * 9 + 8, none⟩ = some (.int .i64 (f k 8)) := by
  obtain ⟨b, off, hA, hb, hc⟩ := h (by omega)
  exact ⟨b, off, hA, hb, by have := (hc k hk 0 (by omega)).1; simpa using this, (hc k hk 1 (by omega)).1, (hc k hk 2 (by omega)).1, (hc k hk 3 (by omega)).1, (hc k hk 4 (by omega)).1, (hc k hk 5 (by omega)).1, (hc k hk 6 (by omega)).1, (hc k hk 7 (by omega)).1, (hc k hk 8 (by omega)).1⟩
def tabF (T : Pn → Pn → R) (P F : Nat → Nat → Int) (j i c : Nat) : Int := if c = 0 then (T (pnlF P F i) (pnlF P F j)).lo else (T (pnlF P F i) (pnlF P F j)).hi

set_option maxRecDepth 100000 in
set_option maxHeartbeats 8000000 in
theorem htab_bet (A B : Option Addr) (n cap m cap2 : Nat) (P F : Nat → Nat → Int) (d : Nat) (w : World) (hn : n ≤ 9223372036854775807 ∧ m ≤ 9223372036854775807) (hd : d ≤ 2) (hv : validE n P m F = 0) (hP : RowsAt w A n 3 P) (hF : RowsAt w B m 3 F) :
    Calls Tryz.prog 221 #[.agg #[.slice A n cap, .slice B m cap2], .int .i64 d, .func (.func 222) #[] #[]] w fun e w' => ∃ C cap3, e = .returned (.tuple #[.slice C m cap3, .int .i64 0]) ∧ Kept w w' ∧ TabA w.heap.size w' C m m 2 (tabF (betP d) P F) := by
  have hpa : ∀ w', Kept w w' → _ := fun w' hk => hpanels_any A B n cap m cap2 P F w' hn hv (hP.of hk) (hF.of hk)
  have hI : ∀ j, j < m → ∀ i, i < m → ∀ c, c < 2 → I64 (tabF (betP d) P F j i c) := fun j hj i hi c hc => by
    have := bet_ok hv hd hi hj
    unfold tabF I64
    split <;> omega
  have hcal : ∀ i j w', i < m → j < m → Calls Tryz.prog 222 #[.agg #[.int .i64 (pnF P F i 0), .int .i64 (pnF P F i 1), .int .i64 (pnF P F i 2), .int .i64 (pnF P F i 3), .int .i64 (pnF P F i 4), .int .i64 (pnF P F i 5), .int .i64 (pnF P F i 6), .int .i64 (pnF P F i 7), .int .i64 (pnF P F i 8)], .agg #[.int .i64 (pnF P F j 0), .int .i64 (pnF P F j 1), .int .i64 (pnF P F j 2), .int .i64 (pnF P F j 3), .int .i64 (pnF P F j 4), .int .i64 (pnF P F j 5), .int .i64 (pnF P F j 6), .int .i64 (pnF P F j 7), .int .i64 (pnF P F j 8)], .int .i64 d] w' fun e w'' => e = .returned (.tuple #[.agg #[.int .i64 (tabF (betP d) P F j i 0), .int .i64 (tabF (betP d) P F j i 1)], .int .i64 0]) ∧ Kept w' w'' := fun i j w' hi hj => by
    have := fBetween_any (pnlF P F i) (pnlF P F j) d w' hd ⟨pn_bd hv hi, pn_nn hv hi⟩ ⟨pn_bd hv hj, pn_nn hv hj⟩
    exact this
  obtain ⟨-, m96, -⟩ := validE_ok hv
  obtain ⟨i0, hi, hz0, hz1, hz2⟩ := info_parts info_spn
  have HI := Lib.hid (And.intro hi (And.intro hz0 (And.intro hz1 hz2)))
  obtain ⟨j0, hj, hy0, hy1, hy2⟩ := info_parts info_spsl
  have HJ := Lib.hid (And.intro hj (And.intro hy0 (And.intro hy1 hy2)))
  have HPA := Lib.hid hpa
  have HCAL := Lib.hid hcal
  have HII := Lib.hid hI
  clear hP hF hpa hcal hI hi hz0 hz1 hz2 hj hy0 hy1 hy2
  go_enter Tryz.func221, Tryz.ntmps221
  go_wp2_with (go_at_call 254; refine (HPA.out _ (by (repeat (first | exact Kept.refl _ | assumption | refine Kept.alloc ?_ _ | refine Kept.ext ?_ _ | refine Kept.drew ?_ | refine Kept.drewN ?_ _)))).mono ?_; rintro e w1 ⟨C, cap3, rfl, ⟨x1, rfl⟩, hrows⟩; have HR := Lib.hid hrows; clear hrows)
  refine wp_gen (fun W1 hW1 => ?_)
  have hk1 : Kept w W1 := by rw [hW1]; (repeat (first | exact Kept.refl _ | assumption | refine Kept.alloc ?_ _ | refine Kept.ext ?_ _ | refine Kept.drew ?_ | refine Kept.drewN ?_ _))
  rw [← hW1] at HR
  have K1 := Lib.hid hk1
  clear hW1 hk1
  go_loopw [10, 28] (fun o i wr => ∃ j : Nat, j ≤ m ∧ i = .int .i64 j ∧ Kept W1 wr ∧ TabL W1.heap.size 257 44 2 j m (tabF (betP d) P F) o wr) (fun _ i _ => m - (intOf i).toNat)
  case atStart => exact ⟨0, by omega, rfl, Kept.refl _, TabL.nil _ _ _ _ _ _ _⟩
  case round =>
    obtain ⟨wo, rfl⟩ : ∃ wo, wo = wr := ⟨_, rfl⟩
    obtain ⟨j, hj, rfl, hkw, htab⟩ := hrel
    have HKW := Lib.hid hkw
    have HT := Lib.hid htab
    have HRW := Lib.hid (HR.out.of hkw)
    clear hkw htab
    by_cases hlt : j < m
    · obtain ⟨pb, po, ec, lp, g0, g1, g2, g3, g4, g5, g6, g7, g8⟩ := rows9 HRW.out hlt
      subst ec
      have LP : Lower pb wo.heap.size := ⟨lp⟩
      clear lp
      go_wp2_with fail
      refine wp_gen (fun W2 hW2 => ?_)
      have hk2 : Kept wo W2 := by rw [hW2]; (repeat (first | exact Kept.refl _ | assumption | refine Kept.alloc ?_ _ | refine Kept.ext ?_ _ | refine Kept.drew ?_ | refine Kept.drewN ?_ _))
      have hq2 : W2.heap[wo.heap.size]? = some (.cells #[.int .i64 (pnF P F j 0), .int .i64 (pnF P F j 1), .int .i64 (pnF P F j 2), .int .i64 (pnF P F j 3), .int .i64 (pnF P F j 4), .int .i64 (pnF P F j 5), .int .i64 (pnF P F j 6), .int .i64 (pnF P F j 7), .int .i64 (pnF P F j 8)] 207 (0, 0)) := by rw [hW2]; exact alloc_now _ _ _
      have K2 := Lib.hid hk2
      have Q2 := Lib.hid hq2
      clear hW2 hk2 hq2 g0 g1 g2 g3 g4 g5 g6 g7 g8
      go_loopw [13, 34] (fun o i wr => ∃ i' : Nat, i' ≤ m ∧ i = .int .i64 i' ∧ Kept W2 wr ∧ wr.ownsRow W2.heap.size 44 2 o i' (rowC 2 (tabF (betP d) P F j) i')) (fun _ i _ => m - (intOf i).toNat)
      case atStart => exact ⟨0, by omega, rfl, Kept.refl _, World.ownsRow_nil _ _ _ _⟩
      case round =>
        obtain ⟨i, hi, rfl, hkv, hown⟩ := hrel
        obtain ⟨A2, cp2, rfl, hcp⟩ := own_sl hown
        have HKV := Lib.hid hkv
        have HO := Lib.hid hown
        have hq3 := heap_kp Q2.out hkv
        have q0 : wr.cell? ⟨wo.heap.size, 0, none⟩ = some (.int .i64 (pnF P F j 0)) := cell_blk hq3 rfl
        have q1 : wr.cell? ⟨wo.heap.size, 1, none⟩ = some (.int .i64 (pnF P F j 1)) := cell_blk hq3 rfl
        have q2 : wr.cell? ⟨wo.heap.size, 2, none⟩ = some (.int .i64 (pnF P F j 2)) := cell_blk hq3 rfl
        have q3 : wr.cell? ⟨wo.heap.size, 3, none⟩ = some (.int .i64 (pnF P F j 3)) := cell_blk hq3 rfl
        have q4 : wr.cell? ⟨wo.heap.size, 4, none⟩ = some (.int .i64 (pnF P F j 4)) := cell_blk hq3 rfl
        have q5 : wr.cell? ⟨wo.heap.size, 5, none⟩ = some (.int .i64 (pnF P F j 5)) := cell_blk hq3 rfl
        have q6 : wr.cell? ⟨wo.heap.size, 6, none⟩ = some (.int .i64 (pnF P F j 6)) := cell_blk hq3 rfl
        have q7 : wr.cell? ⟨wo.heap.size, 7, none⟩ = some (.int .i64 (pnF P F j 7)) := cell_blk hq3 rfl
        have q8 : wr.cell? ⟨wo.heap.size, 8, none⟩ = some (.int .i64 (pnF P F j 8)) := cell_blk hq3 rfl
        have LQ : Lower wo.heap.size wr.heap.size := ⟨cell_lt q0⟩
        have lv := hkv.below.size
        clear hkv hown hq3
        by_cases hli : i < m
        · obtain ⟨pb', po', ec, lp', g0, g1, g2, g3, g4, g5, g6, g7, g8⟩ := rows9 (HRW.out.of (K2.out.trans HKV.out)) hli
          cases ec
          have LP2 : Lower pb wr.heap.size := ⟨lp'⟩
          clear lp'
          go_wp2_with (first | (go_at_call 222; refine (HCAL.out i j _ hli hlt).mono ?_; rintro e w3 ⟨rfl, x3, rfl⟩) | (at_builtin; refine wpList_append_lies _ rfl _ _ _ rfl W2.heap.size 44 i0 _ 2 16 Tryz.underlying257 HI.out.1 HI.out.2.1 HI.out.2.2.1 HI.out.2.2.2 rfl (by omega) _ i (rowC 2 (tabF (betP d) P F j) i) rfl (owns_kept HO.out (by (repeat (first | exact Kept.refl _ | assumption | refine Kept.alloc ?_ _ | refine Kept.ext ?_ _ | refine Kept.drew ?_ | refine Kept.drewN ?_ _)))) _ 1 1 [.int .i64 (tabF (betP d) P F j i 0), .int .i64 (tabF (betP d) P F j i 1)] rfl rfl (World.news_of_block (alloc_now _ _ _)) (by simp [Value.oneCell']) (by omega) (by unfold maxLen; omega) (by omega) (by simp [adv]; omega) _ rfl ?_; intro g9 cp9 w4 hown2 hg2 hat hlt2))
          have hk3 : Kept W2 w4 := kept_grown (base := W2.heap.size) (HKV.out.trans (by (repeat (first | exact Kept.refl _ | assumption | refine Kept.alloc ?_ _ | refine Kept.ext ?_ _ | refine Kept.drew ?_ | refine Kept.drewN ?_ _)))) (owns_kept HO.out (by (repeat (first | exact Kept.refl _ | assumption | refine Kept.alloc ?_ _ | refine Kept.ext ?_ _ | refine Kept.drew ?_ | refine Kept.drewN ?_ _)))) (Nat.le_refl _) hg2
          go_roundw
          case rel => exact ⟨i + 1, by omega, by go_num, hk3, hown2⟩
          case measure =>
            simp [intOf]
            omega
        · obtain rfl : i = m := by omega
          obtain ⟨V, hV1, hV2⟩ := HT.out
          obtain ⟨A5, cp5, e5⟩ := own_slice2 hV1
          subst e5
          have kk := K2.out.trans HKV.out
          have hV1' := owns_kept hV1 kk
          have hV2' : ∀ i', i' < j → _ := fun i' hi' => owns_kept (hV2 i' hi') kk
          have V1 := Lib.hid hV1'
          have V2 := Lib.hid hV2'
          have lw := HKW.out.below.size
          have lw2 := K2.out.below.size
          have KK := Lib.hid kk
          clear hV1 hV2 hV1' hV2' kk HT
          go_wp2_with (at_builtin; refine wpList_append_lies _ rfl _ _ _ rfl W1.heap.size 257 j0 _ 1 24 Tryz.underlying251 HJ.out.1 HJ.out.2.1 HJ.out.2.2.1 HJ.out.2.2.2 rfl (by omega) _ j _ rfl (owns_kept V1.out (by (repeat (first | exact Kept.refl _ | assumption | refine Kept.alloc ?_ _ | refine Kept.ext ?_ _ | refine Kept.drew ?_ | refine Kept.drewN ?_ _)))) _ 1 1 [.slice A2 i cp2] rfl rfl (World.news_of_block (alloc_now _ _ _)) (by simp [Value.oneCell']) (by omega) (by unfold maxLen; omega) (by omega) (by simp [adv]; omega) _ rfl ?_; intro g9 cp9 w4 hown2 hg2 hat hlt2)
          have hk3 : Kept W1 w4 := kept_grown (base := W1.heap.size) (HKW.out.trans (KK.out.trans (by (repeat (first | exact Kept.refl _ | assumption | refine Kept.alloc ?_ _ | refine Kept.ext ?_ _ | refine Kept.drew ?_ | refine Kept.drewN ?_ _))))) (owns_kept V1.out (by (repeat (first | exact Kept.refl _ | assumption | refine Kept.alloc ?_ _ | refine Kept.ext ?_ _ | refine Kept.drew ?_ | refine Kept.drewN ?_ _)))) (Nat.le_refl _) hg2
          go_roundw
          case rel =>
            refine ⟨j + 1, by omega, by go_num, hk3, ?_⟩
            exact TabL.push (V := V) (u := .slice A2 i cp2) (owns_kept V1.out (by (repeat (first | exact Kept.refl _ | assumption | refine Kept.alloc ?_ _ | refine Kept.ext ?_ _ | refine Kept.drew ?_ | refine Kept.drewN ?_ _)))) (fun i' hi' => owns_kept (V2.out i' hi') (by (repeat (first | exact Kept.refl _ | assumption | refine Kept.alloc ?_ _ | refine Kept.ext ?_ _ | refine Kept.drew ?_ | refine Kept.drewN ?_ _)))) (by decide) (owns_kept (own_lower HO.out (by omega)) (by (repeat (first | exact Kept.refl _ | assumption | refine Kept.alloc ?_ _ | refine Kept.ext ?_ _ | refine Kept.drew ?_ | refine Kept.drewN ?_ _)))) hg2 hown2
          case measure =>
            simp [intOf]
            omega
    · obtain rfl : j = m := by omega
      obtain ⟨A5, cp5, rfl⟩ := HT.out.slice
      have ht := HT.out.read HII.out
      have HTA := Lib.hid ht
      clear ht HT
      go_wp2_with fail
      refine bodyPost_ret (by simp only [results, Tryz.results221]; go_simp; rfl) rfl ?_
      exact ⟨A5, cp5, rfl, K1.out.trans (HKW.out.trans (by (repeat (first | exact Kept.refl _ | assumption | refine Kept.alloc ?_ _ | refine Kept.ext ?_ _ | refine Kept.drew ?_ | refine Kept.drewN ?_ _)))), (HTA.out.on (by (repeat (first | exact Kept.refl _ | assumption | refine Kept.alloc ?_ _ | refine Kept.ext ?_ _ | refine Kept.drew ?_ | refine Kept.drewN ?_ _)))).low K1.out.below.size⟩
set_option maxRecDepth 100000 in
set_option maxHeartbeats 8000000 in
theorem htab_mut (A B : Option Addr) (n cap m cap2 : Nat) (P F : Nat → Nat → Int) (d : Nat) (w : World) (hn : n ≤ 9223372036854775807 ∧ m ≤ 9223372036854775807) (hd : d ≤ 2) (hv : validE n P m F = 0) (hP : RowsAt w A n 3 P) (hF : RowsAt w B m 3 F) :
    Calls Tryz.prog 221 #[.agg #[.slice A n cap, .slice B m cap2], .int .i64 d, .func (.func 223) #[] #[]] w fun e w' => ∃ C cap3, e = .returned (.tuple #[.slice C m cap3, .int .i64 0]) ∧ Kept w w' ∧ TabA w.heap.size w' C m m 2 (tabF (mutP d) P F) := by
  have hpa : ∀ w', Kept w w' → _ := fun w' hk => hpanels_any A B n cap m cap2 P F w' hn hv (hP.of hk) (hF.of hk)
  have hI : ∀ j, j < m → ∀ i, i < m → ∀ c, c < 2 → I64 (tabF (mutP d) P F j i c) := fun j hj i hi c hc => by
    have := mut_ok hv hd hi hj
    unfold tabF I64
    split <;> omega
  have hcal : ∀ i j w', i < m → j < m → Calls Tryz.prog 223 #[.agg #[.int .i64 (pnF P F i 0), .int .i64 (pnF P F i 1), .int .i64 (pnF P F i 2), .int .i64 (pnF P F i 3), .int .i64 (pnF P F i 4), .int .i64 (pnF P F i 5), .int .i64 (pnF P F i 6), .int .i64 (pnF P F i 7), .int .i64 (pnF P F i 8)], .agg #[.int .i64 (pnF P F j 0), .int .i64 (pnF P F j 1), .int .i64 (pnF P F j 2), .int .i64 (pnF P F j 3), .int .i64 (pnF P F j 4), .int .i64 (pnF P F j 5), .int .i64 (pnF P F j 6), .int .i64 (pnF P F j 7), .int .i64 (pnF P F j 8)], .int .i64 d] w' fun e w'' => e = .returned (.tuple #[.agg #[.int .i64 (tabF (mutP d) P F j i 0), .int .i64 (tabF (mutP d) P F j i 1)], .int .i64 0]) ∧ Kept w' w'' := fun i j w' hi hj => by
    have := fMutual_any (pnlF P F i) (pnlF P F j) d w' hd ⟨pn_bd hv hi, pn_nn hv hi⟩ ⟨pn_bd hv hj, pn_nn hv hj⟩
    rw [(mut_ok hv hd hi hj).1] at this
    exact this
  obtain ⟨-, m96, -⟩ := validE_ok hv
  obtain ⟨i0, hi, hz0, hz1, hz2⟩ := info_parts info_spn
  have HI := Lib.hid (And.intro hi (And.intro hz0 (And.intro hz1 hz2)))
  obtain ⟨j0, hj, hy0, hy1, hy2⟩ := info_parts info_spsl
  have HJ := Lib.hid (And.intro hj (And.intro hy0 (And.intro hy1 hy2)))
  have HPA := Lib.hid hpa
  have HCAL := Lib.hid hcal
  have HII := Lib.hid hI
  clear hP hF hpa hcal hI hi hz0 hz1 hz2 hj hy0 hy1 hy2
  go_enter Tryz.func221, Tryz.ntmps221
  go_wp2_with (go_at_call 254; refine (HPA.out _ (by (repeat (first | exact Kept.refl _ | assumption | refine Kept.alloc ?_ _ | refine Kept.ext ?_ _ | refine Kept.drew ?_ | refine Kept.drewN ?_ _)))).mono ?_; rintro e w1 ⟨C, cap3, rfl, ⟨x1, rfl⟩, hrows⟩; have HR := Lib.hid hrows; clear hrows)
  refine wp_gen (fun W1 hW1 => ?_)
  have hk1 : Kept w W1 := by rw [hW1]; (repeat (first | exact Kept.refl _ | assumption | refine Kept.alloc ?_ _ | refine Kept.ext ?_ _ | refine Kept.drew ?_ | refine Kept.drewN ?_ _))
  rw [← hW1] at HR
  have K1 := Lib.hid hk1
  clear hW1 hk1
  go_loopw [10, 28] (fun o i wr => ∃ j : Nat, j ≤ m ∧ i = .int .i64 j ∧ Kept W1 wr ∧ TabL W1.heap.size 257 44 2 j m (tabF (mutP d) P F) o wr) (fun _ i _ => m - (intOf i).toNat)
  case atStart => exact ⟨0, by omega, rfl, Kept.refl _, TabL.nil _ _ _ _ _ _ _⟩
  case round =>
    obtain ⟨wo, rfl⟩ : ∃ wo, wo = wr := ⟨_, rfl⟩
    obtain ⟨j, hj, rfl, hkw, htab⟩ := hrel
    have HKW := Lib.hid hkw
    have HT := Lib.hid htab
    have HRW := Lib.hid (HR.out.of hkw)
    clear hkw htab
    by_cases hlt : j < m
    · obtain ⟨pb, po, ec, lp, g0, g1, g2, g3, g4, g5, g6, g7, g8⟩ := rows9 HRW.out hlt
      subst ec
      have LP : Lower pb wo.heap.size := ⟨lp⟩
      clear lp
      go_wp2_with fail
      refine wp_gen (fun W2 hW2 => ?_)
      have hk2 : Kept wo W2 := by rw [hW2]; (repeat (first | exact Kept.refl _ | assumption | refine Kept.alloc ?_ _ | refine Kept.ext ?_ _ | refine Kept.drew ?_ | refine Kept.drewN ?_ _))
      have hq2 : W2.heap[wo.heap.size]? = some (.cells #[.int .i64 (pnF P F j 0), .int .i64 (pnF P F j 1), .int .i64 (pnF P F j 2), .int .i64 (pnF P F j 3), .int .i64 (pnF P F j 4), .int .i64 (pnF P F j 5), .int .i64 (pnF P F j 6), .int .i64 (pnF P F j 7), .int .i64 (pnF P F j 8)] 207 (0, 0)) := by rw [hW2]; exact alloc_now _ _ _
      have K2 := Lib.hid hk2
      have Q2 := Lib.hid hq2
      clear hW2 hk2 hq2 g0 g1 g2 g3 g4 g5 g6 g7 g8
      go_loopw [13, 34] (fun o i wr => ∃ i' : Nat, i' ≤ m ∧ i = .int .i64 i' ∧ Kept W2 wr ∧ wr.ownsRow W2.heap.size 44 2 o i' (rowC 2 (tabF (mutP d) P F j) i')) (fun _ i _ => m - (intOf i).toNat)
      case atStart => exact ⟨0, by omega, rfl, Kept.refl _, World.ownsRow_nil _ _ _ _⟩
      case round =>
        obtain ⟨i, hi, rfl, hkv, hown⟩ := hrel
        obtain ⟨A2, cp2, rfl, hcp⟩ := own_sl hown
        have HKV := Lib.hid hkv
        have HO := Lib.hid hown
        have hq3 := heap_kp Q2.out hkv
        have q0 : wr.cell? ⟨wo.heap.size, 0, none⟩ = some (.int .i64 (pnF P F j 0)) := cell_blk hq3 rfl
        have q1 : wr.cell? ⟨wo.heap.size, 1, none⟩ = some (.int .i64 (pnF P F j 1)) := cell_blk hq3 rfl
        have q2 : wr.cell? ⟨wo.heap.size, 2, none⟩ = some (.int .i64 (pnF P F j 2)) := cell_blk hq3 rfl
        have q3 : wr.cell? ⟨wo.heap.size, 3, none⟩ = some (.int .i64 (pnF P F j 3)) := cell_blk hq3 rfl
        have q4 : wr.cell? ⟨wo.heap.size, 4, none⟩ = some (.int .i64 (pnF P F j 4)) := cell_blk hq3 rfl
        have q5 : wr.cell? ⟨wo.heap.size, 5, none⟩ = some (.int .i64 (pnF P F j 5)) := cell_blk hq3 rfl
        have q6 : wr.cell? ⟨wo.heap.size, 6, none⟩ = some (.int .i64 (pnF P F j 6)) := cell_blk hq3 rfl
        have q7 : wr.cell? ⟨wo.heap.size, 7, none⟩ = some (.int .i64 (pnF P F j 7)) := cell_blk hq3 rfl
        have q8 : wr.cell? ⟨wo.heap.size, 8, none⟩ = some (.int .i64 (pnF P F j 8)) := cell_blk hq3 rfl
        have LQ : Lower wo.heap.size wr.heap.size := ⟨cell_lt q0⟩
        have lv := hkv.below.size
        clear hkv hown hq3
        by_cases hli : i < m
        · obtain ⟨pb', po', ec, lp', g0, g1, g2, g3, g4, g5, g6, g7, g8⟩ := rows9 (HRW.out.of (K2.out.trans HKV.out)) hli
          cases ec
          have LP2 : Lower pb wr.heap.size := ⟨lp'⟩
          clear lp'
          go_wp2_with (first | (go_at_call 223; refine (HCAL.out i j _ hli hlt).mono ?_; rintro e w3 ⟨rfl, x3, rfl⟩) | (at_builtin; refine wpList_append_lies _ rfl _ _ _ rfl W2.heap.size 44 i0 _ 2 16 Tryz.underlying257 HI.out.1 HI.out.2.1 HI.out.2.2.1 HI.out.2.2.2 rfl (by omega) _ i (rowC 2 (tabF (mutP d) P F j) i) rfl (owns_kept HO.out (by (repeat (first | exact Kept.refl _ | assumption | refine Kept.alloc ?_ _ | refine Kept.ext ?_ _ | refine Kept.drew ?_ | refine Kept.drewN ?_ _)))) _ 1 1 [.int .i64 (tabF (mutP d) P F j i 0), .int .i64 (tabF (mutP d) P F j i 1)] rfl rfl (World.news_of_block (alloc_now _ _ _)) (by simp [Value.oneCell']) (by omega) (by unfold maxLen; omega) (by omega) (by simp [adv]; omega) _ rfl ?_; intro g9 cp9 w4 hown2 hg2 hat hlt2))
          have hk3 : Kept W2 w4 := kept_grown (base := W2.heap.size) (HKV.out.trans (by (repeat (first | exact Kept.refl _ | assumption | refine Kept.alloc ?_ _ | refine Kept.ext ?_ _ | refine Kept.drew ?_ | refine Kept.drewN ?_ _)))) (owns_kept HO.out (by (repeat (first | exact Kept.refl _ | assumption | refine Kept.alloc ?_ _ | refine Kept.ext ?_ _ | refine Kept.drew ?_ | refine Kept.drewN ?_ _)))) (Nat.le_refl _) hg2
          go_roundw
          case rel => exact ⟨i + 1, by omega, by go_num, hk3, hown2⟩
          case measure =>
            simp [intOf]
            omega
        · obtain rfl : i = m := by omega
          obtain ⟨V, hV1, hV2⟩ := HT.out
          obtain ⟨A5, cp5, e5⟩ := own_slice2 hV1
          subst e5
          have kk := K2.out.trans HKV.out
          have hV1' := owns_kept hV1 kk
          have hV2' : ∀ i', i' < j → _ := fun i' hi' => owns_kept (hV2 i' hi') kk
          have V1 := Lib.hid hV1'
          have V2 := Lib.hid hV2'
          have lw := HKW.out.below.size
          have lw2 := K2.out.below.size
          have KK := Lib.hid kk
          clear hV1 hV2 hV1' hV2' kk HT
          go_wp2_with (at_builtin; refine wpList_append_lies _ rfl _ _ _ rfl W1.heap.size 257 j0 _ 1 24 Tryz.underlying251 HJ.out.1 HJ.out.2.1 HJ.out.2.2.1 HJ.out.2.2.2 rfl (by omega) _ j _ rfl (owns_kept V1.out (by (repeat (first | exact Kept.refl _ | assumption | refine Kept.alloc ?_ _ | refine Kept.ext ?_ _ | refine Kept.drew ?_ | refine Kept.drewN ?_ _)))) _ 1 1 [.slice A2 i cp2] rfl rfl (World.news_of_block (alloc_now _ _ _)) (by simp [Value.oneCell']) (by omega) (by unfold maxLen; omega) (by omega) (by simp [adv]; omega) _ rfl ?_; intro g9 cp9 w4 hown2 hg2 hat hlt2)
          have hk3 : Kept W1 w4 := kept_grown (base := W1.heap.size) (HKW.out.trans (KK.out.trans (by (repeat (first | exact Kept.refl _ | assumption | refine Kept.alloc ?_ _ | refine Kept.ext ?_ _ | refine Kept.drew ?_ | refine Kept.drewN ?_ _))))) (owns_kept V1.out (by (repeat (first | exact Kept.refl _ | assumption | refine Kept.alloc ?_ _ | refine Kept.ext ?_ _ | refine Kept.drew ?_ | refine Kept.drewN ?_ _)))) (Nat.le_refl _) hg2
          go_roundw
          case rel =>
            refine ⟨j + 1, by omega, by go_num, hk3, ?_⟩
            exact TabL.push (V := V) (u := .slice A2 i cp2) (owns_kept V1.out (by (repeat (first | exact Kept.refl _ | assumption | refine Kept.alloc ?_ _ | refine Kept.ext ?_ _ | refine Kept.drew ?_ | refine Kept.drewN ?_ _)))) (fun i' hi' => owns_kept (V2.out i' hi') (by (repeat (first | exact Kept.refl _ | assumption | refine Kept.alloc ?_ _ | refine Kept.ext ?_ _ | refine Kept.drew ?_ | refine Kept.drewN ?_ _)))) (by decide) (owns_kept (own_lower HO.out (by omega)) (by (repeat (first | exact Kept.refl _ | assumption | refine Kept.alloc ?_ _ | refine Kept.ext ?_ _ | refine Kept.drew ?_ | refine Kept.drewN ?_ _)))) hg2 hown2
          case measure =>
            simp [intOf]
            omega
    · obtain rfl : j = m := by omega
      obtain ⟨A5, cp5, rfl⟩ := HT.out.slice
      have ht := HT.out.read HII.out
      have HTA := Lib.hid ht
      clear ht HT
      go_wp2_with fail
      refine bodyPost_ret (by simp only [results, Tryz.results221]; go_simp; rfl) rfl ?_
      exact ⟨A5, cp5, rfl, K1.out.trans (HKW.out.trans (by (repeat (first | exact Kept.refl _ | assumption | refine Kept.alloc ?_ _ | refine Kept.ext ?_ _ | refine Kept.drew ?_ | refine Kept.drewN ?_ _)))), (HTA.out.on (by (repeat (first | exact Kept.refl _ | assumption | refine Kept.alloc ?_ _ | refine Kept.ext ?_ _ | refine Kept.drew ?_ | refine Kept.drewN ?_ _)))).low K1.out.below.size⟩
end Go.Proofs.YtnbjealpcjfllaaGreatDoor

namespace Go.Proofs.YtnbjealpcjfllaaGreatDoor
set_option linter.unusedVariables false
set_option linter.unusedSimpArgs false
open Go.RowKit Go.Deep
theorem potL_stop {P F : Nat → Nat → Int} {d m : Nat} {c : Nat → Int} {k : Nat} {e : Int} (h0 : potL P F d m c k = 0) (he : (potR P F d m c k).e = e) (hne : e ≠ 0) : ∀ {n : Nat}, k < n → potL P F d m c n = e
  | 0, h => absurd h (by omega)
  | n + 1, h => by
    by_cases q : n = k
    · subst q
      unfold potL
      rw [h0, if_neg (by omega), he]
    · have := potL_stop h0 he hne (n := n) (by omega)
      unfold potL
      rw [this, if_pos hne]
theorem potL_next {P F : Nat → Nat → Int} {d m : Nat} {c : Nat → Int} {k : Nat} (h0 : potL P F d m c k = 0) (he : (potR P F d m c k).e = 0) : potL P F d m c (k + 1) = 0 := by
  unfold potL
  rw [h0, if_neg (by omega), he]
def potF (P F : Nat → Nat → Int) (d m : Nat) (c : Nat → Int) (j i : Nat) : Int := if i = 0 then (potR P F d m c j).lo else (potR P F d m c j).hi
theorem addR_I {t : Nat → R} {c : Nat → Int} {k : Nat} (h : (addR t c k).e = 0) : I64 (addR t c k).lo ∧ I64 (addR t c k).hi := by
  have := of_decide_eq_true (addR_ok h).2.2.2
  unfold I64
  omega
theorem potF_I {P F : Nat → Nat → Int} {d m n : Nat} {c : Nat → Int} (h : potL P F d m c n = 0) : ∀ k, k < n → ∀ j, j < 2 → I64 (potF P F d m c k j) := fun k hk j hj => by
  have := addR_I (potL_at h k hk)
  unfold potF
  split
  · exact this.1
  · exact this.2
set_option maxRecDepth 100000 in
set_option maxHeartbeats 8000000 in
theorem hpot_any (T : Option Addr) (m cap : Nat) (P F : Nat → Nat → Int) (d : Nat) (C : Option Addr) (cap3 : Nat) (f : Nat → Nat → Int) (w : World) (hm : m ≤ 96) (lo : Nat) (hT : TabA lo w T m m 2 (tabF (betP d) P F)) (hC : RowsAt w C m 1 f) :
    Calls Tryz.prog 226 #[.slice T m cap, .slice C m cap3] w fun e w' => ∃ A cap4, e = .returned (.tuple #[.slice A (okN (potL P F d m (fun k => f k 0) m) m) cap4, .int .i64 (potL P F d m (fun k => f k 0) m)]) ∧ Kept w w' ∧ RowsAt w' A (okN (potL P F d m (fun k => f k 0) m) m) 2 (potF P F d m fun k => f k 0) := by
  have hadd : ∀ (j : Nat) (Bk : Option Addr) (cp : Nat) w', Kept w w' → RowsAt w' Bk m 2 (tabF (betP d) P F j) → Calls Tryz.prog 261 #[.slice Bk m cp, .slice C m cap3] w' fun e w'' => e = .returned (.tuple #[.agg #[.int .i64 (potR P F d m (fun k => f k 0) j).lo, .int .i64 (potR P F d m (fun k => f k 0) j).hi], .int .i64 (potR P F d m (fun k => f k 0) j).e]) ∧ Kept w' w'' := fun j Bk cp w' hk hr =>
    hadd_any Bk m cp (fun i => betP d (pnlF P F i) (pnlF P F j)) (tabF (betP d) P F j) C m cap3 f w' (by omega) hr (hC.of hk) (fun k => ⟨rfl, rfl⟩)
  obtain ⟨c, hc⟩ : ∃ c : Nat → Int, (fun k => f k 0) = c := ⟨_, rfl⟩
  rw [hc] at hadd ⊢
  have HADD := Lib.hid hadd
  have HT := Lib.hid hT
  obtain ⟨r, hr⟩ : ∃ r, potL P F d m c m = r := ⟨_, rfl⟩
  rw [hr]
  have HR := Lib.hid hr
  obtain ⟨i0, hi, hz0, hz1, hz2⟩ := info_parts info_spn
  have HI := Lib.hid (And.intro hi (And.intro hz0 (And.intro hz1 hz2)))
  clear hadd hT hC hc hr hi hz0 hz1 hz2
  go_enter Tryz.func226, Tryz.ntmps226
  go_wp2_with fail
  go_loopw [6, 13] (fun v i wr => ∃ j : Nat, j ≤ m ∧ i = .int .i64 j ∧ potL P F d m c j = 0 ∧ Kept w wr ∧ wr.ownsRow w.heap.size 44 2 v j (rowC 2 (potF P F d m c) j)) (fun _ i _ => m - (intOf i).toNat)
  case atStart => exact ⟨0, by omega, rfl, rfl, Kept.refl _, World.ownsRow_nil _ _ _ _⟩
  case round =>
    obtain ⟨j, hj, rfl, h0, hkp, hown⟩ := hrel
    obtain ⟨A2, cp2, rfl, hcp⟩ := own_sl hown
    have H0 := Lib.hid h0
    have HO := Lib.hid hown
    have HK := Lib.hid hkp
    have lw := hkp.below.size
    clear h0 hown hkp
    by_cases hlt : j < m
    · obtain ⟨gb, Bk, cp, rfl, lg, g0, hrow, -⟩ := (HT.out.on HK.out) j hlt
      have LG : Lower gb wr.heap.size := ⟨lg⟩
      have hcl : ∀ w', Kept wr w' → _ := fun w' hk => HADD.out j Bk cp w' (HK.out.trans hk) (hrow.of hk)
      obtain ⟨vlo, e1⟩ : ∃ y, (potR P F d m c j).lo = y := ⟨_, rfl⟩
      obtain ⟨vhi, e2⟩ : ∃ y, (potR P F d m c j).hi = y := ⟨_, rfl⟩
      obtain ⟨ve, e3⟩ : ∃ y, (potR P F d m c j).e = y := ⟨_, rfl⟩
      rw [e1, e2, e3] at hcl
      have HCL := Lib.hid hcl
      have E1 := Lib.hid e1
      have E2 := Lib.hid e2
      have E3 := Lib.hid e3
      clear hcl e1 e2 e3 lg hrow
      by_cases hve : ve = 0
      · subst hve
        have hI2 := addR_I (show (potR P F d m c j).e = 0 from E3.out)
        go_wp2_with (first | (go_at_call 261; refine (HCL.out _ (by (repeat (first | exact Kept.refl _ | assumption | refine Kept.alloc ?_ _ | refine Kept.ext ?_ _ | refine Kept.drew ?_ | refine Kept.drewN ?_ _)))).mono ?_; rintro e w3 ⟨rfl, x3, rfl⟩) | (at_builtin; refine wpList_append_lies _ rfl _ _ _ rfl w.heap.size 44 i0 _ 2 16 Tryz.underlying257 HI.out.1 HI.out.2.1 HI.out.2.2.1 HI.out.2.2.2 rfl (by omega) _ j (rowC 2 (potF P F d m c) j) rfl (owns_kept HO.out (by (repeat (first | exact Kept.refl _ | assumption | refine Kept.alloc ?_ _ | refine Kept.ext ?_ _ | refine Kept.drew ?_ | refine Kept.drewN ?_ _)))) _ 1 1 [.int .i64 vlo, .int .i64 vhi] rfl rfl (World.news_of_block (alloc_now _ _ _)) (by simp [Value.oneCell']) (by omega) (by unfold maxLen; omega) (by omega) (by simp [adv]; omega) _ rfl ?_; intro g7 cp7 w2 hown2 hg2 hat hlt2))
        have hk3 : Kept w w2 := kept_grown (base := w.heap.size) (HK.out.trans (by (repeat (first | exact Kept.refl _ | assumption | refine Kept.alloc ?_ _ | refine Kept.ext ?_ _ | refine Kept.drew ?_ | refine Kept.drewN ?_ _)))) (owns_kept HO.out (by (repeat (first | exact Kept.refl _ | assumption | refine Kept.alloc ?_ _ | refine Kept.ext ?_ _ | refine Kept.drew ?_ | refine Kept.drewN ?_ _)))) (Nat.le_refl _) hg2
        have e9 : rowC 2 (potF P F d m c) (j + 1) = rowC 2 (potF P F d m c) j ++ [.int .i64 vlo, .int .i64 vhi] := by
          have q0 : potF P F d m c j 0 = vlo := E1.out
          have q1 : potF P F d m c j 1 = vhi := E2.out
          show rowC 2 (potF P F d m c) j ++ [.int .i64 (potF P F d m c j 0), .int .i64 (potF P F d m c j 1)] = _
          rw [q0, q1]
        go_roundw
        case rel => exact ⟨j + 1, by omega, by go_num, potL_next H0.out E3.out, hk3, by rw [e9]; exact hown2⟩
        case measure =>
          simp [intOf]
          omega
      · have hv2 : (ve == 0) = false := by simpa using hve
        have hv3 : (ve != 0) = true := by simpa using hve
        have hst := potL_stop H0.out E3.out hve hlt
        have er : r = ve := by rw [← HR.out]; exact hst
        subst er
        clear hst
        go_wp2_with (go_at_call 261; refine (HCL.out _ (by (repeat (first | exact Kept.refl _ | assumption | refine Kept.alloc ?_ _ | refine Kept.ext ?_ _ | refine Kept.drew ?_ | refine Kept.drewN ?_ _)))).mono ?_; rintro e w3 ⟨rfl, x3, rfl⟩)
        refine bodyPost_ret (by simp only [results, Tryz.results226]; go_simp; rfl) rfl ?_
        have ek : okN r m = 0 := if_neg hve
        rw [ek]
        exact ⟨none, 0, rfl, HK.out.trans (by (repeat (first | exact Kept.refl _ | assumption | refine Kept.alloc ?_ _ | refine Kept.ext ?_ _ | refine Kept.drew ?_ | refine Kept.drewN ?_ _))), RowsAt.nil0⟩
    · obtain rfl : j = m := by omega
      have er : r = 0 := by rw [← HR.out]; exact H0.out
      subst er
      have hr : RowsAt wr A2 j 2 (potF P F d j c) := rows_of_owns HO.out (potF_I H0.out)
      have HRR := Lib.hid hr
      clear hr
      go_wp2_with fail
      refine bodyPost_ret (by simp only [results, Tryz.results226]; go_simp; rfl) rfl ?_
      have ek : okN 0 j = j := if_pos rfl
      rw [ek]
      exact ⟨A2, cp2, rfl, HK.out.trans (by (repeat (first | exact Kept.refl _ | assumption | refine Kept.alloc ?_ _ | refine Kept.ext ?_ _ | refine Kept.drew ?_ | refine Kept.drewN ?_ _))), HRR.out.of (by (repeat (first | exact Kept.refl _ | assumption | refine Kept.alloc ?_ _ | refine Kept.ext ?_ _ | refine Kept.drew ?_ | refine Kept.drewN ?_ _)))⟩
def enF (P F : Nat → Nat → Int) (d m : Nat) (k i : Nat) : Int := if i = 0 then (mutP d (pnlF P F (k / m)) (pnlF P F (k % m))).lo else (mutP d (pnlF P F (k / m)) (pnlF P F (k % m))).hi
def facF (c : Nat → Int) (m k : Nat) (_ : Nat) : Int := c (k / m) * c (k % m)
theorem div_at {m i j : Nat} (hj : j < m) : (i * m + j) / m = i ∧ (i * m + j) % m = j := by
  rw [Nat.mul_comm]
  exact ⟨by rw [Nat.mul_add_div (by omega), Nat.div_eq_of_lt hj, Nat.add_zero], by rw [Nat.mul_add_mod, Nat.mod_eq_of_lt hj]⟩
end Go.Proofs.YtnbjealpcjfllaaGreatDoor

namespace Go.Proofs.YtnbjealpcjfllaaGreatDoor
set_option linter.unusedVariables false
set_option linter.unusedSimpArgs false
open Go.RowKit Go.Deep
theorem info_inh : (Tryz.prog.info? 3).map (fun i => (i.zero, i.size, i.bytes)) = some (some (.int .i64 0), 1, 8) := by kernel_rfl
set_option maxRecDepth 100000 in
set_option maxHeartbeats 16000000 in
theorem hen_any (T : Option Addr) (m cap : Nat) (P F : Nat → Nat → Int) (d : Nat) (C : Option Addr) (cap3 : Nat) (f : Nat → Nat → Int) (w : World) (hm : m ≤ 96) (lo : Nat) (hT : TabA lo w T m m 2 (tabF (mutP d) P F)) (hC : RowsAt w C m 1 f) (hc : ∀ k, k < m → 0 ≤ f k 0 ∧ f k 0 ≤ 100)
    (hb : ∀ j, j < m → ∀ i, i < m → ∀ c, c < 2 → I64 (tabF (mutP d) P F j i c)) :
    Calls Tryz.prog 228 #[.slice T m cap, .slice C m cap3] w fun e w' => e = .returned (.tuple #[.agg #[.int .i64 (enR P F d m fun k => f k 0).lo, .int .i64 (enR P F d m fun k => f k 0).hi], .int .i64 (enR P F d m fun k => f k 0).e]) ∧ Kept w w' := by
  obtain ⟨c, hcc⟩ : ∃ c : Nat → Int, (fun k => f k 0) = c := ⟨_, rfl⟩
  have hck : ∀ k, f k 0 = c k := fun k => by rw [← hcc]
  rw [hcc]
  have hcb : ∀ k, k < m → 0 ≤ c k ∧ c k ≤ 100 := fun k hk => by rw [← hck]; exact hc k hk
  have HCK := Lib.hid hck
  have HT := Lib.hid hT
  have HC := Lib.hid hC
  have HB := Lib.hid hcb
  have HTI := Lib.hid hb
  obtain ⟨r, hr⟩ : ∃ r, enR P F d m c = r := ⟨_, rfl⟩
  rw [hr]
  have HR := Lib.hid hr
  obtain ⟨i0, hi, hz0, hz1, hz2⟩ := info_parts info_spn
  have HI := Lib.hid (And.intro hi (And.intro hz0 (And.intro hz1 hz2)))
  obtain ⟨j0, hj, hy0, hy1, hy2⟩ := info_parts info_inh
  have HJ := Lib.hid (And.intro hj (And.intro hy0 (And.intro hy1 hy2)))
  clear hT hC hc hb hcb hcc hck hr hi hz0 hz1 hz2 hj hy0 hy1 hy2
  go_enter Tryz.func228, Tryz.ntmps228
  go_wp2_with fail
  go_loopw [6, 7, 14] (fun v u i wr => ∃ a : Nat, a ≤ m ∧ i = .int .i64 a ∧ Kept (w.alloc (.cells #[.int .i64 0, .int .i64 0] 44)) wr ∧ wr.ownsRow (w.heap.size + 1) 44 2 v (a * m) (rowC 2 (enF P F d m) (a * m)) ∧ wr.ownsRow (w.heap.size + 1) 3 1 u (a * m) (rowC 1 (facF c m) (a * m))) (fun _ _ i _ => m - (intOf i).toNat)
  case atStart => exact ⟨0, by omega, rfl, by (repeat (first | exact Kept.refl _ | assumption | refine Kept.alloc ?_ _ | refine Kept.ext ?_ _ | refine Kept.drew ?_ | refine Kept.drewN ?_ _)), by rw [Nat.zero_mul]; exact World.ownsRow_nil _ _ _ _, by rw [Nat.zero_mul]; exact World.ownsRow_nil _ _ _ _⟩
  case round =>
    obtain ⟨wo, rfl⟩ : ∃ wo, wo = wr := ⟨_, rfl⟩
    obtain ⟨a, ha, rfl, hkp, hown, hfac⟩ := hrel
    obtain ⟨A2, cp2, e2⟩ := own_slice2 hown
    subst e2
    obtain ⟨A3, cp3, e3⟩ := own_slice2 hfac
    subst e3
    have HO := Lib.hid hown
    have HF := Lib.hid hfac
    have HK := Lib.hid hkp
    have kw : Kept w wo := (show Kept w (w.alloc (.cells #[.int .i64 0, .int .i64 0] 44)) by (repeat (first | exact Kept.refl _ | assumption | refine Kept.alloc ?_ _ | refine Kept.ext ?_ _ | refine Kept.drew ?_ | refine Kept.drewN ?_ _))).trans hkp
    have KW := Lib.hid kw
    have zb : wo.heap[w.heap.size]? = some (.cells #[.int .i64 0, .int .i64 0] 44 (0, 0)) := heap_kp (alloc_now w _ _) hkp
    have ZB := Lib.hid zb
    have am : a * m ≤ 9216 := by
      have := Nat.mul_le_mul (show a ≤ 96 by omega) hm
      omega
    clear hown hfac hkp kw zb
    by_cases hlt : a < m
    · obtain ⟨fb, off, ec, lf, f0⟩ := hrow1 (HC.out.of KW.out) hlt
      subst ec
      rw [HCK.out] at f0
      have LF : Lower fb wo.heap.size := ⟨lf⟩
      have ba := HB.out a hlt
      clear lf
      go_wp2_with fail
      go_loopw [6, 7, 21] (fun v u i wr => ∃ b : Nat, b ≤ m ∧ i = .int .i64 b ∧ Kept (w.alloc (.cells #[.int .i64 0, .int .i64 0] 44)) wr ∧ Kept wo wo ∧ wr.ownsRow (w.heap.size + 1) 44 2 v (a * m + b) (rowC 2 (enF P F d m) (a * m + b)) ∧ wr.ownsRow (w.heap.size + 1) 3 1 u (a * m + b) (rowC 1 (facF c m) (a * m + b))) (fun _ _ i _ => m - (intOf i).toNat)
      case atStart => exact ⟨0, by omega, rfl, HK.out, Kept.refl _, HO.out, HF.out⟩
      case round =>
        clear f0 LF
        obtain ⟨b, hb, rfl, hkp, -, hown, hfac⟩ := hrel
        obtain ⟨A4, cp4, e4⟩ := own_slice2 hown
        subst e4
        obtain ⟨A5, cp5, e5⟩ := own_slice2 hfac
        subst e5
        have O2 := Lib.hid hown
        have F2 := Lib.hid hfac
        have K2 := Lib.hid hkp
        have lw := hkp.below.size
        rw [World.size_alloc] at lw
        have kw2 : Kept w wr := (show Kept w (w.alloc (.cells #[.int .i64 0, .int .i64 0] 44)) by (repeat (first | exact Kept.refl _ | assumption | refine Kept.alloc ?_ _ | refine Kept.ext ?_ _ | refine Kept.drew ?_ | refine Kept.drewN ?_ _))).trans hkp
        have KW2 := Lib.hid kw2
        clear hown hfac hkp kw2
        by_cases hlb : b < m
        · obtain ⟨fb', off', ec, lf, f1⟩ := hrow1 (HC.out.of KW2.out) hlb
          cases ec
          rw [HCK.out] at f1
          have LF : Lower fb wr.heap.size := ⟨lf⟩
          have bb := HB.out b hlb
          obtain ⟨tb, Bk, cpk, et, lt, t0, hrow, -⟩ := (HT.out.on KW2.out) b hlb
          have LT : Lower tb wr.heap.size := ⟨lt⟩
          subst et
          obtain ⟨sb, so, es, ls, s0, s1⟩ := hrow2 hrow hlt
          have LS : Lower sb wr.heap.size := ⟨ls⟩
          subst es
          have mm := mul_sq 100 10000 (show -100 ≤ c a ∧ c a ≤ 100 by omega) (show -100 ≤ c b ∧ c b ≤ 100 by omega) rfl
          have tI := HTI.out b hlb a hlt
          clear lf lt ls hrow
          go_wp2_with (first | (at_builtin; refine wpList_append_lies _ rfl _ _ _ rfl (w.heap.size + 1) 44 i0 _ 2 16 Tryz.underlying257 HI.out.1 HI.out.2.1 HI.out.2.2.1 HI.out.2.2.2 rfl (by omega) _ (a * m + b) (rowC 2 (enF P F d m) (a * m + b)) rfl (owns_kept O2.out (by (repeat (first | exact Kept.refl _ | assumption | refine Kept.alloc ?_ _ | refine Kept.ext ?_ _ | refine Kept.drew ?_ | refine Kept.drewN ?_ _)))) _ 1 1 [.int .i64 (tabF (mutP d) P F b a 0), .int .i64 (tabF (mutP d) P F b a 1)] rfl rfl (World.news_of_block (alloc_now _ _ _)) (by simp [Value.oneCell']) (by omega) (by unfold maxLen; omega) (by omega) (by simp [adv]; omega) _ rfl ?_; intro g7 cp7 w2 hown2 hg2 hat hlt2; have hf2 := own_grown (owns_kept O2.out (by (repeat (first | exact Kept.refl _ | assumption | refine Kept.alloc ?_ _ | refine Kept.ext ?_ _ | refine Kept.drew ?_ | refine Kept.drewN ?_ _)))) hg2 (owns_kept F2.out (by (repeat (first | exact Kept.refl _ | assumption | refine Kept.alloc ?_ _ | refine Kept.ext ?_ _ | refine Kept.drew ?_ | refine Kept.drewN ?_ _)))) (by decide); have hk2 : Kept (w.alloc (.cells #[.int .i64 0, .int .i64 0] 44)) w2 := kept_grown (base := w.heap.size + 1) (K2.out.trans (by (repeat (first | exact Kept.refl _ | assumption | refine Kept.alloc ?_ _ | refine Kept.ext ?_ _ | refine Kept.drew ?_ | refine Kept.drewN ?_ _)))) (owns_kept O2.out (by (repeat (first | exact Kept.refl _ | assumption | refine Kept.alloc ?_ _ | refine Kept.ext ?_ _ | refine Kept.drew ?_ | refine Kept.drewN ?_ _)))) (by simp) hg2; have HF2 := Lib.hid hf2; have HK2 := Lib.hid hk2; have HO2 := Lib.hid hown2; clear hf2 hk2 hown2 hg2 hat hlt2) | (at_builtin; refine wpList_append_lies _ rfl _ _ _ rfl (w.heap.size + 1) 3 j0 _ 1 8 Tryz.underlying90 HJ.out.1 HJ.out.2.1 HJ.out.2.2.1 HJ.out.2.2.2 rfl (by omega) _ (a * m + b) (rowC 1 (facF c m) (a * m + b)) rfl (owns_kept HF2.out (by (repeat (first | exact Kept.refl _ | assumption | refine Kept.alloc ?_ _ | refine Kept.ext ?_ _ | refine Kept.drew ?_ | refine Kept.drewN ?_ _)))) _ 1 1 [.int .i64 (c a * c b)] rfl rfl (World.news_of_block (alloc_now _ _ _)) (by simp [Value.oneCell']) (by omega) (by unfold maxLen; omega) (by omega) (by have := HK2.out.below.size; rw [World.size_alloc] at this; simp; omega) _ rfl ?_; intro g8 cp8 w5 hown5 hg5 hat5 hlt5))
          have hs5 := own_grown (owns_kept HF2.out (by (repeat (first | exact Kept.refl _ | assumption | refine Kept.alloc ?_ _ | refine Kept.ext ?_ _ | refine Kept.drew ?_ | refine Kept.drewN ?_ _)))) hg5 (owns_kept HO2.out (by (repeat (first | exact Kept.refl _ | assumption | refine Kept.alloc ?_ _ | refine Kept.ext ?_ _ | refine Kept.drew ?_ | refine Kept.drewN ?_ _)))) (by decide)
          have hk5 : Kept (w.alloc (.cells #[.int .i64 0, .int .i64 0] 44)) w5 := kept_grown (base := w.heap.size + 1) (HK2.out.trans (by (repeat (first | exact Kept.refl _ | assumption | refine Kept.alloc ?_ _ | refine Kept.ext ?_ _ | refine Kept.drew ?_ | refine Kept.drewN ?_ _)))) (owns_kept HF2.out (by (repeat (first | exact Kept.refl _ | assumption | refine Kept.alloc ?_ _ | refine Kept.ext ?_ _ | refine Kept.drew ?_ | refine Kept.drewN ?_ _)))) (by simp) hg5
          obtain ⟨q1, q2⟩ := div_at (i := a) hlb
          have e9 : rowC 2 (enF P F d m) (a * m + (b + 1)) = rowC 2 (enF P F d m) (a * m + b) ++ [.int .i64 (tabF (mutP d) P F b a 0), .int .i64 (tabF (mutP d) P F b a 1)] := by
            show rowC 2 (enF P F d m) (a * m + b) ++ [.int .i64 (enF P F d m (a * m + b) 0), .int .i64 (enF P F d m (a * m + b) 1)] = _
            unfold enF tabF
            rw [q1, q2]
          have e8 : rowC 1 (facF c m) (a * m + (b + 1)) = rowC 1 (facF c m) (a * m + b) ++ [.int .i64 (c a * c b)] := by
            show rowC 1 (facF c m) (a * m + b) ++ [.int .i64 (facF c m (a * m + b) 0)] = _
            unfold facF
            rw [q1, q2]
          go_roundw
          case rel => exact ⟨b + 1, by omega, by go_num, hk5, Kept.refl _, by rw [e9]; exact hs5, by rw [e8]; exact hown5⟩
          case measure =>
            simp [intOf]
            omega
        · obtain rfl : b = m := by omega
          go_wp2_with fail
          go_roundw
          case rel =>
            have e : (a + 1) * b = a * b + b := Nat.succ_mul a b
            exact ⟨a + 1, by omega, by go_num, K2.out, by rw [e]; exact O2.out, by rw [e]; exact F2.out⟩
          case measure =>
            simp [intOf]
            omega
    · obtain rfl : a = m := by omega
      have hrs : RowsAt wo A2 (a * a) 2 (enF P F d a) := rows_of_owns HO.out fun k hk j hj => by
        have h1 : k / a < a := Nat.div_lt_of_lt_mul hk
        have h2 : k % a < a := Nat.mod_lt _ (by
          rcases Nat.eq_zero_or_pos a with e | e
          · subst e; simp at hk
          · exact e)
        exact HTI.out _ h2 _ h1 j hj
      have hrf : RowsAt wo A3 (a * a) 1 (facF c a) := rows_of_owns HF.out fun k hk j hj => by
        have h1 : k / a < a := Nat.div_lt_of_lt_mul hk
        have h2 : k % a < a := Nat.mod_lt _ (by
          rcases Nat.eq_zero_or_pos a with e | e
          · subst e; simp at hk
          · exact e)
        have := mul_sq 100 10000 (show -100 ≤ c (k / a) ∧ c (k / a) ≤ 100 by have := HB.out _ h1; omega) (show -100 ≤ c (k % a) ∧ c (k % a) ≤ 100 by have := HB.out _ h2; omega) rfl
        unfold facF I64
        omega
      have hadd : ∀ w', Kept wo w' → _ := fun w' hk => hadd_any A2 (a * a) cp2 (fun k => mutP d (pnlF P F (k / a)) (pnlF P F (k % a))) (enF P F d a) A3 (a * a) cp3 (facF c a) w' (by omega) (hrs.of hk) (hrf.of hk) (fun k => ⟨rfl, rfl⟩)
      have er : addR (fun k => mutP d (pnlF P F (k / a)) (pnlF P F (k % a))) (fun k => facF c a k 0) (a * a) = r := HR.out
      rw [er] at hadd
      have HADD := Lib.hid hadd
      have z0 : wo.cell? ⟨w.heap.size, 0, none⟩ = some (.int .i64 0) := cell_blk ZB.out rfl
      have z1 : wo.cell? ⟨w.heap.size, 1, none⟩ = some (.int .i64 0) := cell_blk ZB.out rfl
      have z2 : wo.frozen? ⟨w.heap.size, 0, none⟩ = false := frozen_blk ZB.out
      have z3 : wo.frozen? ⟨w.heap.size, 1, none⟩ = false := frozen_blk ZB.out
      have LZ : Lower w.heap.size wo.heap.size := ⟨cell_lt z0⟩
      clear hrs hrf hadd er
      go_wp2_with (go_at_call 261; refine (HADD.out _ (by (repeat (first | exact Kept.refl _ | assumption | refine Kept.alloc ?_ _ | refine Kept.ext ?_ _ | refine Kept.drew ?_ | refine Kept.drewN ?_ _)))).mono ?_; rintro e w5 ⟨rfl, x5, rfl⟩)
      refine bodyPost_ret (by simp only [results, Tryz.results228]; go_simp; rfl) rfl ?_
      exact ⟨rfl, ((KW.out.setCell (p := ⟨w.heap.size, 0, none⟩) (Nat.le_refl _) _).setCell (p := ⟨w.heap.size, 1, none⟩) (Nat.le_refl _) _).trans (by (repeat (first | exact Kept.refl _ | assumption | refine Kept.alloc ?_ _ | refine Kept.ext ?_ _ | refine Kept.drew ?_ | refine Kept.drewN ?_ _)))⟩
end Go.Proofs.YtnbjealpcjfllaaGreatDoor

namespace Go.Proofs.YtnbjealpcjfllaaGreatDoor
set_option linter.unusedVariables false
set_option linter.unusedSimpArgs false
open Go.RowKit Go.Deep
theorem hbelow_any (A : Option Addr) (m cap : Nat) (g : Nat → Nat → Int) (C : Option Addr) (cap3 : Nat) (f : Nat → Nat → Int) (w : World) (hm : 1 ≤ m ∧ m ≤ 96) (hA : RowsAt w A m 2 g) (hC : RowsAt w C m 1 f) (hc : ∀ k, k < m → 0 ≤ f k 0 ∧ f k 0 ≤ 100) (hg : 1 ≤ mostF (fun j => g j 1) m) :
    Calls Tryz.prog 227 #[.slice A m cap, .slice C m cap3] w fun e w' => e = .returned (.tuple #[.int .i64 (limV (sumC (fun k => f k 0) m * 1048576 * 1048576 / mostF (fun j => g j 1) m)), .int .i64 (limE (sumC (fun k => f k 0) m * 1048576 * 1048576 / mostF (fun j => g j 1) m))]) ∧ Kept w w' := by
  have htot : ∀ w', Kept w w' → _ := fun w' hk => htotal_any C m cap3 f w' hm.2 (hC.of hk) hc
  have hsb := sumC_bd (c := fun k => f k 0) (k := m) hc
  obtain ⟨s, es⟩ : ∃ s, sumC (fun k => f k 0) m = s := ⟨_, rfl⟩
  rw [es] at htot hsb ⊢
  have HTOT := Lib.hid htot
  have HA := Lib.hid hA
  obtain ⟨m1, m2⟩ := hm
  obtain ⟨M, eM⟩ : ∃ M, mostF (fun j => g j 1) m = M := ⟨_, rfl⟩
  rw [eM] at hg ⊢
  have EM := Lib.hid eM
  clear htot hA hC hc es eM
  obtain ⟨fb, off, ec, lf, f0, f1⟩ := hrow2 HA.out m1
  subst ec
  have LF : Lower fb w.heap.size := ⟨lf⟩
  simp only [Nat.zero_mul, Nat.add_zero] at f0 f1
  clear lf
  go_enter Tryz.func227, Tryz.ntmps227
  go_wp2_with fail
  go_loopw [6, 15] (fun v i wr => ∃ k : Nat, k ≤ m ∧ i = .int .i64 k ∧ v = .int .i64 (mostF (fun j => g j 1) k) ∧ Kept w wr) (fun _ i _ => m - (intOf i).toNat)
  case atStart => exact ⟨0, by omega, rfl, rfl, Kept.refl _⟩
  case round =>
    obtain ⟨k, hk, rfl, rfl, y, rfl⟩ := hrel
    by_cases hlt : k < m
    · obtain ⟨fb', off', ec, lf, g0, g1⟩ := hrow2 HA.out hlt
      cases ec
      go_wp2_with fail
      go_roundw
      case rel => exact ⟨k + 1, by omega, by go_num, rfl, by (repeat (first | exact Kept.refl _ | assumption | refine Kept.alloc ?_ _ | refine Kept.ext ?_ _ | refine Kept.drew ?_ | refine Kept.drewN ?_ _))⟩
      case measure =>
        simp [intOf]
        omega
    · obtain rfl : k = m := by omega
      rw [EM.out]
      have q0 : (s * 1048576 * 1048576).tdiv M = s * 1048576 * 1048576 / M := Int.tdiv_eq_ediv_of_nonneg (by omega)
      have q1 : 0 ≤ s * 1048576 * 1048576 / M := Int.ediv_nonneg (by omega) (by omega)
      have q2 : s * 1048576 * 1048576 / M ≤ s * 1048576 * 1048576 := Int.ediv_le_self _ (by omega)
      have hM : (M == 0) = false := by simp; omega
      have hM0 : ¬ M = 0 := by omega
      go_wp2_with (first | (go_at_call 263; refine (HTOT.out _ (by (repeat (first | exact Kept.refl _ | assumption | refine Kept.alloc ?_ _ | refine Kept.ext ?_ _ | refine Kept.drew ?_ | refine Kept.drewN ?_ _)))).mono ?_; rintro e w5 ⟨rfl, rfl⟩) | (go_at_call 262; refine (hlim_any _ _).mono ?_; rintro e w5 ⟨rfl, rfl⟩))
      refine bodyPost_ret (by simp only [results, Tryz.results227]; go_simp; rfl) rfl ?_
      exact ⟨rfl, by (repeat (first | exact Kept.refl _ | assumption | refine Kept.alloc ?_ _ | refine Kept.ext ?_ _ | refine Kept.drew ?_ | refine Kept.drewN ?_ _))⟩
theorem habove_any (A : Option Addr) (m cap : Nat) (g : Nat → Nat → Int) (C : Option Addr) (cap3 : Nat) (f : Nat → Nat → Int) (w : World) (hm : 1 ≤ m ∧ m ≤ 96) (hA : RowsAt w A m 2 g) (hC : RowsAt w C m 1 f) (hc : ∀ k, k < m → 0 ≤ f k 0 ∧ f k 0 ≤ 100) (hg : 1 ≤ leastF (fun j => g j 0) m ∧ leastF (fun j => g j 0) m ≤ 1099511627776) :
    Calls Tryz.prog 230 #[.slice A m cap, .slice C m cap3] w fun e w' => e = .returned (.tuple #[.int .i64 (limV ((sumC (fun k => f k 0) m * 1048576 * 1048576 + leastF (fun j => g j 0) m - 1) / leastF (fun j => g j 0) m)), .int .i64 (limE ((sumC (fun k => f k 0) m * 1048576 * 1048576 + leastF (fun j => g j 0) m - 1) / leastF (fun j => g j 0) m))]) ∧ Kept w w' := by
  have htot : ∀ w', Kept w w' → _ := fun w' hk => htotal_any C m cap3 f w' hm.2 (hC.of hk) hc
  have hsb := sumC_bd (c := fun k => f k 0) (k := m) hc
  obtain ⟨s, es⟩ : ∃ s, sumC (fun k => f k 0) m = s := ⟨_, rfl⟩
  rw [es] at htot hsb ⊢
  have HTOT := Lib.hid htot
  have HA := Lib.hid hA
  obtain ⟨m1, m2⟩ := hm
  obtain ⟨M, eM⟩ : ∃ M, leastF (fun j => g j 0) m = M := ⟨_, rfl⟩
  rw [eM] at hg ⊢
  have EM := Lib.hid eM
  clear htot hA hC hc es eM
  obtain ⟨fb, off, ec, lf, f0, f1⟩ := hrow2 HA.out m1
  subst ec
  have LF : Lower fb w.heap.size := ⟨lf⟩
  simp only [Nat.zero_mul, Nat.add_zero] at f0 f1
  clear lf
  go_enter Tryz.func230, Tryz.ntmps230
  go_wp2_with fail
  go_loopw [6, 15] (fun v i wr => ∃ k : Nat, k ≤ m ∧ i = .int .i64 k ∧ v = .int .i64 (leastF (fun j => g j 0) k) ∧ Kept w wr) (fun _ i _ => m - (intOf i).toNat)
  case atStart => exact ⟨0, by omega, rfl, rfl, Kept.refl _⟩
  case round =>
    obtain ⟨k, hk, rfl, rfl, y, rfl⟩ := hrel
    by_cases hlt : k < m
    · obtain ⟨fb', off', ec, lf, g0, g1⟩ := hrow2 HA.out hlt
      cases ec
      go_wp2_with fail
      go_roundw
      case rel => exact ⟨k + 1, by omega, by go_num, rfl, by (repeat (first | exact Kept.refl _ | assumption | refine Kept.alloc ?_ _ | refine Kept.ext ?_ _ | refine Kept.drew ?_ | refine Kept.drewN ?_ _))⟩
      case measure =>
        simp [intOf]
        omega
    · obtain rfl : k = m := by omega
      rw [EM.out]
      go_wp2_with (first | (go_at_call 263; refine (HTOT.out _ (by (repeat (first | exact Kept.refl _ | assumption | refine Kept.alloc ?_ _ | refine Kept.ext ?_ _ | refine Kept.drew ?_ | refine Kept.drewN ?_ _)))).mono ?_; rintro e w5 ⟨rfl, rfl⟩) | (go_at_call 264; refine (hdup_any _ _ _ (by omega)).mono ?_; rintro e w5 ⟨rfl, rfl⟩) | (go_at_call 262; refine (hlim_any _ _).mono ?_; rintro e w5 ⟨rfl, rfl⟩))
      refine bodyPost_ret (by simp only [results, Tryz.results230]; go_simp; rfl) rfl ?_
      exact ⟨rfl, by (repeat (first | exact Kept.refl _ | assumption | refine Kept.alloc ?_ _ | refine Kept.ext ?_ _ | refine Kept.drew ?_ | refine Kept.drewN ?_ _))⟩
theorem hthom_any (lo hi : Int) (C : Option Addr) (m cap3 : Nat) (f : Nat → Nat → Int) (w : World) (hm : m ≤ 96) (hC : RowsAt w C m 1 f) (hc : ∀ k, k < m → 0 ≤ f k 0 ∧ f k 0 ≤ 100) (hs : 1 ≤ sumC (fun k => f k 0) m) (hh : 1 ≤ hi ∧ hi ≤ 1099511627776) :
    Calls Tryz.prog 229 #[.agg #[.int .i64 lo, .int .i64 hi], .slice C m cap3] w fun e w' => e = .returned (.tuple #[.int .i64 (limV (sumC (fun k => f k 0) m * 1048576 * 1048576 / ((hi + sumC (fun k => f k 0) m - 1) / sumC (fun k => f k 0) m))), .int .i64 (limE (sumC (fun k => f k 0) m * 1048576 * 1048576 / ((hi + sumC (fun k => f k 0) m - 1) / sumC (fun k => f k 0) m)))]) ∧ Kept w w' := by
  have htot : ∀ w', Kept w w' → _ := fun w' hk => htotal_any C m cap3 f w' hm (hC.of hk) hc
  have hsb := sumC_bd (c := fun k => f k 0) (k := m) hc
  obtain ⟨s, es⟩ : ∃ s, sumC (fun k => f k 0) m = s := ⟨_, rfl⟩
  rw [es] at htot hsb hs ⊢
  have HTOT := Lib.hid htot
  have d0 : (s * 1048576 * 1048576).tdiv 1048576 = s * 1048576 := by rw [Int.tdiv_eq_ediv_of_nonneg (by omega)]; omega
  have d1 : (s * 1048576).tdiv 1048576 = s := by rw [Int.tdiv_eq_ediv_of_nonneg (by omega)]; omega
  have w1 : 1 ≤ (hi + s - 1) / s := by
    have : 1 * s ≤ hi + s - 1 := by omega
    exact Int.le_ediv_of_mul_le (by omega) this
  obtain ⟨W, eW⟩ : ∃ W, (hi + s - 1) / s = W := ⟨_, rfl⟩
  have hdu : ∀ w', _ := fun w' => hdup_any hi s w' (by omega)
  rw [eW] at w1 hdu ⊢
  have HDU := Lib.hid hdu
  have q0 : (s * 1048576 * 1048576).tdiv W = s * 1048576 * 1048576 / W := Int.tdiv_eq_ediv_of_nonneg (by omega)
  have q1 : 0 ≤ s * 1048576 * 1048576 / W := Int.ediv_nonneg (by omega) (by omega)
  have q2 : s * 1048576 * 1048576 / W ≤ s * 1048576 * 1048576 := Int.ediv_le_self _ (by omega)
  have hM : (W == 0) = false := by simp; omega
  have hM0 : ¬ W = 0 := by omega
  clear htot hdu hC hc es eW
  go_enter Tryz.func229, Tryz.ntmps229
  go_wp2_with (first | (go_at_call 263; refine (HTOT.out _ (by (repeat (first | exact Kept.refl _ | assumption | refine Kept.alloc ?_ _ | refine Kept.ext ?_ _ | refine Kept.drew ?_ | refine Kept.drewN ?_ _)))).mono ?_; rintro e w5 ⟨rfl, rfl⟩) | (go_at_call 264; refine (HDU.out _).mono ?_; rintro e w5 ⟨rfl, rfl⟩) | (go_at_call 262; refine (hlim_any _ _).mono ?_; rintro e w5 ⟨rfl, rfl⟩))
  refine bodyPost_ret (by simp only [results, Tryz.results229]; go_simp; rfl) rfl ?_
  exact ⟨rfl, by (repeat (first | exact Kept.refl _ | assumption | refine Kept.alloc ?_ _ | refine Kept.ext ?_ _ | refine Kept.drew ?_ | refine Kept.drewN ?_ _))⟩
theorem farB_bd {P : Nat → Nat → Int} {x0 x1 x2 : Int} {n : Nat} (hP : ∀ k, k < n → (-64 ≤ P k 0 ∧ P k 0 ≤ 64) ∧ (-64 ≤ P k 1 ∧ P k 1 ≤ 64) ∧ (-64 ≤ P k 2 ∧ P k 2 ≤ 64)) (hx : (-256 ≤ x0 ∧ x0 ≤ 256) ∧ (-256 ≤ x1 ∧ x1 ≤ 256) ∧ (-256 ≤ x2 ∧ x2 ≤ 256)) : ∀ k, k ≤ n → 0 ≤ farB P x0 x1 x2 k ∧ farB P x0 x1 x2 k ≤ 201326592
  | 0, _ => by simp [farB]
  | k + 1, hk => by
    have a := farB_bd hP hx k (by omega)
    have p := hP k (by omega)
    have b := sq3_bd (x0 := P k 0) (x1 := P k 1) (x2 := P k 2) (y0 := x0) (y1 := x1) (y2 := x2) (by omega) (by omega)
    unfold farB
    omega
theorem len_0 {n : Int} (h : 0 ≤ n ∧ n ≤ 201326592) : (lenS n).e = 0 := by
  unfold lenS
  rw [if_pos (by omega)]
  obtain ⟨s0, s1, s2⟩ := sqrtS_spec (show 0 ≤ n * 1099511627776 by omega)
  have sb : sqrtS (n * 1099511627776) ≤ 17179869184 := of_sq_le (by decide) (by omega)
  split
  · unfold resultS validB
    rw [if_pos (decide_eq_true (by omega))]
  · unfold resultS validB
    rw [if_pos (decide_eq_true (by omega))]
end Go.Proofs.YtnbjealpcjfllaaGreatDoor

namespace Go.Proofs.YtnbjealpcjfllaaGreatDoor
set_option linter.unusedVariables false
set_option linter.unusedSimpArgs false
open Go.RowKit Go.Deep
theorem pts_64 {n m : Nat} {P F : Nat → Nat → Int} (h : validE n P m F = 0) : ∀ k, k < n → (-64 ≤ P k 0 ∧ P k 0 ≤ 64) ∧ (-64 ≤ P k 1 ∧ P k 1 ≤ 64) ∧ (-64 ≤ P k 2 ∧ P k 2 ≤ 64) := fun k hk => by
  obtain ⟨-, -, hb, -⟩ := validE_ok h
  have := ptsBad_at hb k hk
  omega
set_option maxRecDepth 100000 in
set_option maxHeartbeats 8000000 in
theorem hball_any (A B : Option Addr) (n cap m cap2 : Nat) (P F : Nat → Nat → Int) (x0 x1 x2 : Int) (w : World) (hn : n ≤ 9223372036854775807 ∧ m ≤ 9223372036854775807) (hv : validE n P m F = 0) (hP : RowsAt w A n 3 P) (hF : RowsAt w B m 3 F) (hx : (-256 ≤ x0 ∧ x0 ≤ 256) ∧ (-256 ≤ x1 ∧ x1 ≤ 256) ∧ (-256 ≤ x2 ∧ x2 ≤ 256)) :
    Calls Tryz.prog 225 #[.agg #[.slice A n cap, .slice B m cap2], .agg #[.int .i64 x0, .int .i64 x1, .int .i64 x2]] w fun e w' => e = .returned (.tuple #[.int .i64 (lenS (farB P x0 x1 x2 n)).hi, .int .i64 0]) ∧ Kept w w' := by
  have hva : ∀ w', Kept w w' → _ := fun w' hk => svalidate_any A B n cap m cap2 P F w' hn (hP.of hk) (hF.of hk)
  rw [hv] at hva
  have HVA := Lib.hid hva
  have hp := pts_64 hv
  have hfb := farB_bd hp hx
  have h0 := len_0 (hfb n (Nat.le_refl _))
  have hw : ∀ z w', (-256 ≤ z ∧ z ≤ 256) → Calls Tryz.prog 123 #[.int .i64 z, .int .i64 (-256), .int .i64 256] w' fun e w'' => e = .returned (.bool true) ∧ w' = w'' := fun z w' hz => by
    have := hwithin_any z (-256) 256 w'
    rw [show frB z (-256) 256 = true by unfold frB; exact decide_eq_true hz] at this
    exact this
  have hlen : ∀ w', _ := fun w' => len_any (farB P x0 x1 x2 n) w'
  rw [h0] at hlen
  obtain ⟨L, eL⟩ : ∃ L, farB P x0 x1 x2 n = L := ⟨_, rfl⟩
  rw [eL] at hlen ⊢
  have HW := Lib.hid hw
  have HLEN := Lib.hid hlen
  have HP := Lib.hid hP
  have HPB := Lib.hid hp
  have HFB := Lib.hid hfb
  have EL := Lib.hid eL
  clear hva hw hlen hP hF hp hfb h0 hv eL
  obtain ⟨⟨a0, a1⟩, ⟨b0, b1⟩, c0, c1⟩ := hx
  go_enter Tryz.func225, Tryz.ntmps225
  go_wp2_with (go_at_call 71; refine (HVA.out _ (by (repeat (first | exact Kept.refl _ | assumption | refine Kept.alloc ?_ _ | refine Kept.ext ?_ _ | refine Kept.drew ?_ | refine Kept.drewN ?_ _)))).mono ?_; rintro e w1 ⟨rfl, y9, rfl⟩)
  refine wp_loop_rounds 4 ?_
  rw [rounds_succ]
  go_wp2_with (go_at_call 123; refine (HW.out _ _ (by omega)).mono ?_; rintro e w1 ⟨rfl, rfl⟩)
  rw [rounds_succ]
  go_wp2_with (go_at_call 123; refine (HW.out _ _ (by omega)).mono ?_; rintro e w1 ⟨rfl, rfl⟩)
  rw [rounds_succ]
  go_wp2_with (go_at_call 123; refine (HW.out _ _ (by omega)).mono ?_; rintro e w1 ⟨rfl, rfl⟩)
  rw [rounds_succ]
  go_wp2_with fail
  refine wp_gen (fun W1 hW1 => ?_)
  have hk1 : Kept w W1 := by rw [hW1]; (repeat (first | exact Kept.refl _ | assumption | refine Kept.alloc ?_ _ | refine Kept.ext ?_ _ | refine Kept.drew ?_ | refine Kept.drewN ?_ _))
  have hcb : W1.heap[w.heap.size + 1]? = some (.cells #[.int .i64 x0, .int .i64 x1, .int .i64 x2] 136 (0, 0)) := by rw [hW1]; exact heap_kp (alloc_now (w.alloc (.cells #[.slice A n cap, .slice B m cap2] 42)) _ (w.heap.size + 1)) (by (repeat (first | exact Kept.refl _ | assumption | refine Kept.alloc ?_ _ | refine Kept.ext ?_ _ | refine Kept.drew ?_ | refine Kept.drewN ?_ _)))
  have HK1 := Lib.hid hk1
  have HCB := Lib.hid hcb
  clear hW1 hk1 hcb
  go_loopw [9, 41] (fun v i wr => ∃ k : Nat, k ≤ n ∧ i = .int .i64 k ∧ v = .int .i64 (farB P x0 x1 x2 k) ∧ Kept W1 wr) (fun _ i _ => n - (intOf i).toNat)
  case atStart => exact ⟨0, by omega, rfl, rfl, Kept.refl _⟩
  case round =>
    obtain ⟨k, hk, rfl, rfl, hkp⟩ := hrel
    have kw := HK1.out.trans hkp
    have cb := heap_kp HCB.out hkp
    have d0 := cell_blk (o := 0) cb rfl
    have d1 := cell_blk (o := 1) cb rfl
    have d2 := cell_blk (o := 2) cb rfl
    have LC : Lower (w.heap.size + 1) wr.heap.size := ⟨cell_lt d0⟩
    have HKP := Lib.hid hkp
    have fb := HFB.out k hk
    clear hkp cb
    by_cases hlt : k < n
    · obtain ⟨gb, go, ec, lg, f0, f1, f2⟩ := rows3 (HP.out.of kw) hlt
      subst ec
      have LG : Lower gb wr.heap.size := ⟨lg⟩
      have pk := HPB.out k hlt
      have m0 := mul_sq 320 102400 (show -320 ≤ P k 0 - x0 ∧ P k 0 - x0 ≤ 320 by omega) (show -320 ≤ P k 0 - x0 ∧ P k 0 - x0 ≤ 320 by omega) rfl
      have m1 := mul_sq 320 102400 (show -320 ≤ P k 1 - x1 ∧ P k 1 - x1 ≤ 320 by omega) (show -320 ≤ P k 1 - x1 ∧ P k 1 - x1 ≤ 320 by omega) rfl
      have m2 := mul_sq 320 102400 (show -320 ≤ P k 2 - x2 ∧ P k 2 - x2 ≤ 320 by omega) (show -320 ≤ P k 2 - x2 ∧ P k 2 - x2 ≤ 320 by omega) rfl
      clear lg kw
      go_wp2_with fail
      ((first | (with_reducible refine wp_region_kept2 (by kernel_rfl) (by kernel_rfl) ?_) | refine wp_region_kept (by kernel_rfl) (by kernel_rfl) ?_); (repeat (go_big_quiet_step (first | fail))); refine wpQuiet_nil ?_; intro x)
      go_wp2_with fail
      go_roundw
      case rel => exact ⟨k + 1, by omega, by go_num, rfl, HKP.out.trans (by (repeat (first | exact Kept.refl _ | assumption | refine Kept.alloc ?_ _ | refine Kept.ext ?_ _ | refine Kept.drew ?_ | refine Kept.drewN ?_ _)))⟩
      case measure =>
        simp [intOf]
        omega
    · obtain rfl : k = n := by omega
      rw [EL.out]
      go_wp2_with (go_at_call 260; refine (HLEN.out _).mono ?_; rintro e w5 ⟨rfl, x5, rfl⟩)
      refine bodyPost_ret (by simp only [results, Tryz.results225]; go_simp; rfl) rfl ?_
      exact ⟨rfl, kw.trans (by (repeat (first | exact Kept.refl _ | assumption | refine Kept.alloc ?_ _ | refine Kept.ext ?_ _ | refine Kept.drew ?_ | refine Kept.drewN ?_ _)))⟩
end Go.Proofs.YtnbjealpcjfllaaGreatDoor

namespace Go.Proofs.YtnbjealpcjfllaaGreatDoor
set_option linter.unusedVariables false
set_option linter.unusedSimpArgs false
open Go.RowKit Go.Deep
theorem box_64 {n m : Nat} {P F : Nat → Nat → Int} (h : validE n P m F = 0) (c : Nat) (hc : c < 3) : (-64 ≤ boxLo P c n ∧ boxLo P c n ≤ 64) ∧ (-64 ≤ boxHi P c n ∧ boxHi P c n ≤ 64) := by
  obtain ⟨-, m1, -, hf, -⟩ := validE_ok h
  have n1 : 0 < n := by
    have := cornB_true (corn_of hf 0 (by omega))
    omega
  have p := pts_64 h
  rw [loB_box, hiB_box]
  exact loB_bd (t := 64) n1 (fun i hi => by have := p i hi; rcases (show c = 0 ∨ c = 1 ∨ c = 2 by omega) with rfl | rfl | rfl <;> omega) n (Nat.le_refl _)
set_option maxRecDepth 100000 in
set_option maxHeartbeats 8000000 in
theorem hprep_any (A B : Option Addr) (n cap m cap2 : Nat) (P F : Nat → Nat → Int) (d : Nat) (w : World) (hn : n ≤ 9223372036854775807 ∧ m ≤ 9223372036854775807) (hd : d ≤ 2) (hv : validE n P m F = 0) (hP : RowsAt w A n 3 P) (hF : RowsAt w B m 3 F) :
    Calls Tryz.prog 180 #[.agg #[.slice A n cap, .slice B m cap2], .int .i64 d] w fun e w' => ∃ T1 c1 T2 c2, e = .returned (.tuple #[.agg #[.slice A n cap, .slice B m cap2, .slice T1 m c1, .slice T2 m c2, .int .i64 (ballV n P)], .int .i64 0]) ∧ Kept w w' ∧ TabA w.heap.size w' T1 m m 2 (tabF (betP d) P F) ∧ TabA w.heap.size w' T2 m m 2 (tabF (mutP d) P F) := by
  have h1 : ∀ w', Kept w w' → _ := fun w' hk => htab_bet A B n cap m cap2 P F d w' hn hd hv (hP.of hk) (hF.of hk)
  have h2 : ∀ w', Kept w w' → _ := fun w' hk => htab_mut A B n cap m cap2 P F d w' hn hd hv (hP.of hk) (hF.of hk)
  have h3 : ∀ w', Kept w w' → _ := fun w' hk => sbox_any A B n cap m cap2 P F w' hn (hP.of hk) (hF.of hk)
  have b0 := box_64 hv 0 (by omega)
  have b1 := box_64 hv 1 (by omega)
  have b2 := box_64 hv 2 (by omega)
  have h4 : ∀ w', Kept w w' → _ := fun w' hk => hball_any A B n cap m cap2 P F ((boxLo P 0 n + boxHi P 0 n) / 2) ((boxLo P 1 n + boxHi P 1 n) / 2) ((boxLo P 2 n + boxHi P 2 n) / 2) w' hn hv (hP.of hk) (hF.of hk) (by omega)
  have ev : (lenS (farB P ((boxLo P 0 n + boxHi P 0 n) / 2) ((boxLo P 1 n + boxHi P 1 n) / 2) ((boxLo P 2 n + boxHi P 2 n) / 2) n)).hi = ballV n P := rfl
  rw [ev] at h4
  simp only [show ∀ c, blo n P m F c = boxLo P c n from fun c => if_pos hv, show ∀ c, bhi n P m F c = boxHi P c n from fun c => if_pos hv, hv] at h3
  obtain ⟨l0, el0⟩ : ∃ x, boxLo P 0 n = x := ⟨_, rfl⟩
  obtain ⟨l1, el1⟩ : ∃ x, boxLo P 1 n = x := ⟨_, rfl⟩
  obtain ⟨l2, el2⟩ : ∃ x, boxLo P 2 n = x := ⟨_, rfl⟩
  obtain ⟨u0, eu0⟩ : ∃ x, boxHi P 0 n = x := ⟨_, rfl⟩
  obtain ⟨u1, eu1⟩ : ∃ x, boxHi P 1 n = x := ⟨_, rfl⟩
  obtain ⟨u2, eu2⟩ : ∃ x, boxHi P 2 n = x := ⟨_, rfl⟩
  rw [el0, eu0] at b0
  rw [el1, eu1] at b1
  rw [el2, eu2] at b2
  rw [el0, el1, el2, eu0, eu1, eu2] at h3 h4
  have H1 := Lib.hid h1
  have H2 := Lib.hid h2
  have H3 := Lib.hid h3
  have H4 := Lib.hid h4
  clear h1 h2 h3 h4 ev el0 el1 el2 eu0 eu1 eu2 hP hF hv
  go_enter Tryz.func180, Tryz.ntmps180
  go_wp2_with (first | (go_at_call 221; (with_reducible refine (H1.out _ (by (repeat (first | exact Kept.refl _ | assumption | refine Kept.alloc ?_ _ | refine Kept.ext ?_ _ | refine Kept.drew ?_ | refine Kept.drewN ?_ _)))).mono ?_); rintro e w1 ⟨T1, c1, rfl, ⟨y1, rfl⟩, ht1⟩; have HT1 := Lib.hid ht1; clear ht1) | (go_at_call 221; (with_reducible refine (H2.out _ (by (repeat (first | exact Kept.refl _ | assumption | refine Kept.alloc ?_ _ | refine Kept.ext ?_ _ | refine Kept.drew ?_ | refine Kept.drewN ?_ _)))).mono ?_); rintro e w2 ⟨T2, c2, rfl, ⟨y2, rfl⟩, ht2⟩; have HT2 := Lib.hid ht2; clear ht2) | (go_at_call 224; refine (H3.out _ (by (repeat (first | exact Kept.refl _ | assumption | refine Kept.alloc ?_ _ | refine Kept.ext ?_ _ | refine Kept.drew ?_ | refine Kept.drewN ?_ _)))).mono ?_; rintro e w3 ⟨rfl, y3, rfl⟩))
  refine (H4.out _ (by (repeat (first | exact Kept.refl _ | assumption | refine Kept.alloc ?_ _ | refine Kept.ext ?_ _ | refine Kept.drew ?_ | refine Kept.drewN ?_ _)))).mono ?_
  rintro e w4 ⟨rfl, y4, rfl⟩
  go_wp2_with fail
  refine bodyPost_ret (by simp only [results, Tryz.results180]; go_simp; rfl) rfl ?_
  have hl : Late (w.heap.size + 1 + 1) ((w.alloc (.cells #[.slice A n cap, .slice B m cap2] 42)).alloc (.cells #[.slice none 0 0, .slice none 0 0, .slice none 0 0, .slice none 0 0, .int .i64 0] 253)) ((w.alloc (.cells #[.slice A n cap, .slice B m cap2] 42)).alloc (.cells #[.slice A n cap, .slice B m cap2, .slice T1 m c1, .slice T2 m c2, .int .i64 (ballV n P)] 253)) := by
    have := Late.base (W := ((w.alloc (.cells #[.slice A n cap, .slice B m cap2] 42)).alloc (.cells #[.slice none 0 0, .slice none 0 0, .slice none 0 0, .slice none 0 0, .int .i64 0] 253))) (W' := ((w.alloc (.cells #[.slice A n cap, .slice B m cap2] 42)).alloc (.cells #[.slice A n cap, .slice B m cap2, .slice T1 m c1, .slice T2 m c2, .int .i64 (ballV n P)] 253))) (by simp)
    simpa using this
  have q1 := (HT1.out.low (lo' := w.heap.size + 1 + 1) (by simp)).late (hl.ext y1)
  have q2 := (HT2.out.low (lo' := w.heap.size + 1 + 1) (by simp; exact adv_le _ _)).late ((hl.ext y1).ext y2)
  exact ⟨T1, c1, T2, c2, rfl, by (repeat (first | exact Kept.refl _ | assumption | refine Kept.alloc ?_ _ | refine Kept.ext ?_ _ | refine Kept.drew ?_ | refine Kept.drewN ?_ _)), (q1.on (by (repeat (first | exact Kept.refl _ | assumption | refine Kept.alloc ?_ _ | refine Kept.ext ?_ _ | refine Kept.drew ?_ | refine Kept.drewN ?_ _)))).low (by omega), (q2.on (by (repeat (first | exact Kept.refl _ | assumption | refine Kept.alloc ?_ _ | refine Kept.ext ?_ _ | refine Kept.drew ?_ | refine Kept.drewN ?_ _)))).low (by omega)⟩

end Go.Proofs.YtnbjealpcjfllaaGreatDoor

namespace Go.Proofs.YtnbjealpcjfllaaGreatDoor
set_option linter.unusedVariables false
set_option linter.unusedSimpArgs false
open Go.RowKit Go.Deep
theorem limV_0 {n : Int} (h : limE n = 0) : limV n = n := by
  unfold limE at h
  unfold limV
  by_cases hn : 1099511627776 < n
  · rw [if_pos hn] at h; cases h
  · rw [if_neg hn]
theorem ne_facts {x : Int} (h : ¬ x = 0) : (x == 0) = false ∧ (x != 0) = true := by simpa using h
set_option maxRecDepth 100000 in
set_option maxHeartbeats 16000000 in
theorem hbnd_any (A B T1 T2 : Option Addr) (n cap m cap2 c1 c2 : Nat) (P F : Nat → Nat → Int) (d lo : Nat) (C : Option Addr) (cap3 : Nat) (f : Nat → Nat → Int) (w : World) (hd : d ≤ 2) (hv : validE n P m F = 0) (h1 : TabA lo w T1 m m 2 (tabF (betP d) P F)) (h2 : TabA lo w T2 m m 2 (tabF (mutP d) P F)) (hC : RowsAt w C m 1 f) (hc : ∀ k, k < m → 0 ≤ f k 0 ∧ f k 0 ≤ 100) (hs : 1 ≤ sumC (fun k => f k 0) m) :
    Calls Tryz.prog 181 #[.agg #[.slice A n cap, .slice B m cap2, .slice T1 m c1, .slice T2 m c2, .int .i64 (ballV n P)], .slice C m cap3] w fun e w' => e = .returned (.tuple #[.agg #[.int .i64 (bndR n P m F d fun k => f k 0).lo, .int .i64 (bndR n P m F d fun k => f k 0).hi], .int .i64 (bndR n P m F d fun k => f k 0).e]) ∧ Kept w w' := by
  have hm := (validE_ok hv).2.1
  obtain ⟨c, hcc⟩ : ∃ c : Nat → Int, (fun k => f k 0) = c := ⟨_, rfl⟩
  have hcb : ∀ k, k < m → 0 ≤ c k ∧ c k ≤ 100 := fun k hk => by rw [← hcc]; exact hc k hk
  have hs' : 1 ≤ sumC c m := hcc ▸ hs
  have hI : ∀ j, j < m → ∀ i, i < m → ∀ x, x < 2 → I64 (tabF (mutP d) P F j i x) := fun j hj i hi x _ => by
    have := mut_ok hv hd hi hj
    unfold tabF I64
    split <;> omega
  have q1 : ∀ w', Kept w w' → _ := fun w' hk => hpot_any T1 m c1 P F d C cap3 f w' hm.2 lo (h1.on hk) (hC.of hk)
  have q3 : ∀ w', Kept w w' → _ := fun w' hk => hen_any T2 m c2 P F d C cap3 f w' hm.2 lo (h2.on hk) (hC.of hk) hc hI
  have q2 : ∀ L cl w', Kept w w' → RowsAt w' L m 2 (potF P F d m c) → 1 ≤ mostF (fun j => potF P F d m c j 1) m → _ := fun L cl w' hk hr hg => hbelow_any L m cl (potF P F d m c) C cap3 f w' hm hr (hC.of hk) hc hg
  have q5 : ∀ L cl w', Kept w w' → RowsAt w' L m 2 (potF P F d m c) → 1 ≤ leastF (fun j => potF P F d m c j 0) m ∧ leastF (fun j => potF P F d m c j 0) m ≤ 1099511627776 → _ := fun L cl w' hk hr hg => habove_any L m cl (potF P F d m c) C cap3 f w' hm hr (hC.of hk) hc hg
  have q4 : ∀ (lo hi : Int) w', Kept w w' → 1 ≤ hi ∧ hi ≤ 1099511627776 → _ := fun lo hi w' hk hh => hthom_any lo hi C m cap3 f w' hm.2 (hC.of hk) hc hs hh
  have mb := most_bd hv hd hcb hs'
  have eo := en_ok hv hd hcb hs'
  rw [hcc] at q1 q2 q3 q4 q5 ⊢
  have em : (fun j => potF P F d m c j 1) = fun j => (potR P F d m c j).hi := rfl
  have el : (fun j => potF P F d m c j 0) = fun j => (potR P F d m c j).lo := rfl
  have e2 : sumC c m * 1048576 * 1048576 / mostF (fun j => (potR P F d m c j).hi) m = belN P F d m c := by unfold belN; rfl
  have e5 : (sumC c m * 1048576 * 1048576 + leastF (fun j => (potR P F d m c j).lo) m - 1) / leastF (fun j => (potR P F d m c j).lo) m = aboN P F d m c := by unfold aboN; rfl
  have e4 : sumC c m * 1048576 * 1048576 / (((enR P F d m c).hi + sumC c m - 1) / sumC c m) = thoN P F d m c := by unfold thoN; rfl
  rw [em] at q2
  rw [el] at q5
  rw [e2] at q2
  rw [e5] at q5
  have q4' : ∀ w', Kept w w' → (1 : Int) ≤ (enR P F d m c).hi ∧ (enR P F d m c).hi ≤ 1099511627776 → _ := fun w' hk hh => q4 (enR P F d m c).lo (enR P F d m c).hi w' hk hh
  rw [e4] at q4'
  clear q4 h1 h2 hC hc hs hcb hI em el e2 e4 e5 hs' hcc
  obtain ⟨pe, hpe⟩ : ∃ x, potL P F d m c m = x := ⟨_, rfl⟩
  obtain ⟨bd, hbd⟩ : ∃ x, bndR n P m F d c = x := ⟨_, rfl⟩
  have eb := hbd
  unfold bndR at eb
  rw [hpe] at q1 mb eb
  rw [hbd]
  obtain ⟨ball, hball⟩ : ∃ x, ballV n P = x := ⟨_, rfl⟩
  obtain ⟨en, hen⟩ : ∃ x, enR P F d m c = x := ⟨_, rfl⟩
  obtain ⟨bn, hbn⟩ : ∃ x, belN P F d m c = x := ⟨_, rfl⟩
  obtain ⟨an, han⟩ : ∃ x, aboN P F d m c = x := ⟨_, rfl⟩
  obtain ⟨tn, htn⟩ : ∃ x, thoN P F d m c = x := ⟨_, rfl⟩
  rw [hball, hen, hbn, han, htn] at eb
  rw [hball]
  rw [hen] at q3 q4' eo
  rw [hbn] at q2
  rw [han] at q5
  rw [htn] at q4'
  clear hball hen hbn han htn hbd hpe
  have H1 := Lib.hid q1
  have H2 := Lib.hid q2
  have H3 := Lib.hid q3
  have H4 := Lib.hid q4'
  have H5 := Lib.hid q5
  have MB := Lib.hid mb
  have EO := Lib.hid eo
  have EB := Lib.hid eb
  clear q1 q2 q3 q4' q5 mb eo eb hm hv hd
  by_cases g1 : pe = 0
  case neg =>
    have ev : bd = ⟨0, 0, pe⟩ := by
      rw [← EB.out, if_pos g1]
    subst ev
    obtain ⟨gf, gt⟩ := ne_facts g1
    clear EB
    go_enter Tryz.func181, Tryz.ntmps181
    go_wp2_with (first | (go_at_call 226; (with_reducible refine (H1.out _ (by (repeat (first | exact Kept.refl _ | assumption | refine Kept.alloc ?_ _ | refine Kept.ext ?_ _ | refine Kept.drew ?_ | refine Kept.drewN ?_ _)))).mono ?_); rintro e w1 ⟨LA, lc, rfl, ⟨y1, rfl⟩, hl1⟩; have HL1 := Lib.hid hl1; clear hl1))
    refine bodyPost_ret (by simp only [results, Tryz.results181]; go_simp; rfl) rfl ?_
    exact ⟨rfl, by (repeat (first | exact Kept.refl _ | assumption | refine Kept.alloc ?_ _ | refine Kept.ext ?_ _ | refine Kept.drew ?_ | refine Kept.drewN ?_ _))⟩
  case pos =>
    subst g1
    have MB1 := Lib.hid (MB.out rfl).1.1
    have MB2 := Lib.hid (MB.out rfl).2
    clear MB
    by_cases g2 : limE bn = 0
    case neg =>
      have ev : bd = ⟨0, 0, limE bn⟩ := by
        rw [← EB.out, if_neg (show ¬ (0 : Int) ≠ 0 by simp), if_pos g2]
      subst ev
      obtain ⟨xe, hxe⟩ : ∃ x, limE bn = x := ⟨_, rfl⟩
      obtain ⟨xv, hxv⟩ : ∃ x, limV bn = x := ⟨_, rfl⟩
      rw [hxe] at g2 ⊢
      obtain ⟨gf, gt⟩ := ne_facts g2
      clear EB
      have k2 := H2.out
      clear H2
      rw [hxe, hxv] at k2
      have H2 := Lib.hid k2
      clear k2
      have hok : okN 0 m = m := rfl
      have k1 := H1.out
      clear H1
      rw [hok] at k1
      have H1 := Lib.hid k1
      clear k1 hok
      clear hxe hxv
      go_enter Tryz.func181, Tryz.ntmps181
      go_wp2_with (first | (go_at_call 226; (with_reducible refine (H1.out _ (by (repeat (first | exact Kept.refl _ | assumption | refine Kept.alloc ?_ _ | refine Kept.ext ?_ _ | refine Kept.drew ?_ | refine Kept.drewN ?_ _)))).mono ?_); rintro e w1 ⟨LA, lc, rfl, ⟨y1, rfl⟩, hl1⟩; have HL1 := Lib.hid hl1; clear hl1) | (go_at_call 227; (with_reducible refine (H2.out LA lc _ (by (repeat (first | exact Kept.refl _ | assumption | refine Kept.alloc ?_ _ | refine Kept.ext ?_ _ | refine Kept.drew ?_ | refine Kept.drewN ?_ _))) (HL1.out.of (by (repeat (first | exact Kept.refl _ | assumption | refine Kept.alloc ?_ _ | refine Kept.ext ?_ _ | refine Kept.drew ?_ | refine Kept.drewN ?_ _)))) MB1.out).mono ?_); rintro e w2 ⟨rfl, y2, rfl⟩))
      refine bodyPost_ret (by simp only [results, Tryz.results181]; go_simp; rfl) rfl ?_
      exact ⟨rfl, by (repeat (first | exact Kept.refl _ | assumption | refine Kept.alloc ?_ _ | refine Kept.ext ?_ _ | refine Kept.drew ?_ | refine Kept.drewN ?_ _))⟩
    case pos =>
      by_cases g3 : en.e = 0
      case neg =>
        have ev : bd = ⟨0, 0, en.e⟩ := by
          rw [← EB.out, if_neg (show ¬ (0 : Int) ≠ 0 by simp), if_neg (show ¬ limE bn ≠ 0 by simp [g2]), if_pos g3]
        subst ev
        obtain ⟨gl, gh, ge⟩ := en
        change ¬ ge = 0 at g3
        obtain ⟨gf, gt⟩ := ne_facts g3
        clear EB
        have k2 := H2.out
        clear H2
        rw [g2, limV_0 g2] at k2
        have H2 := Lib.hid k2
        clear k2
        have hok : okN 0 m = m := rfl
        have k1 := H1.out
        clear H1
        rw [hok] at k1
        have H1 := Lib.hid k1
        clear k1 hok
        go_enter Tryz.func181, Tryz.ntmps181
        go_wp2_with (first | (go_at_call 226; (with_reducible refine (H1.out _ (by (repeat (first | exact Kept.refl _ | assumption | refine Kept.alloc ?_ _ | refine Kept.ext ?_ _ | refine Kept.drew ?_ | refine Kept.drewN ?_ _)))).mono ?_); rintro e w1 ⟨LA, lc, rfl, ⟨y1, rfl⟩, hl1⟩; have HL1 := Lib.hid hl1; clear hl1) | (go_at_call 227; (with_reducible refine (H2.out LA lc _ (by (repeat (first | exact Kept.refl _ | assumption | refine Kept.alloc ?_ _ | refine Kept.ext ?_ _ | refine Kept.drew ?_ | refine Kept.drewN ?_ _))) (HL1.out.of (by (repeat (first | exact Kept.refl _ | assumption | refine Kept.alloc ?_ _ | refine Kept.ext ?_ _ | refine Kept.drew ?_ | refine Kept.drewN ?_ _)))) MB1.out).mono ?_); rintro e w2 ⟨rfl, y2, rfl⟩) | (go_at_call 228; (with_reducible refine (H3.out _ (by (repeat (first | exact Kept.refl _ | assumption | refine Kept.alloc ?_ _ | refine Kept.ext ?_ _ | refine Kept.drew ?_ | refine Kept.drewN ?_ _)))).mono ?_); rintro e w3 ⟨rfl, y3, rfl⟩))
        refine bodyPost_ret (by simp only [results, Tryz.results181]; go_simp; rfl) rfl ?_
        exact ⟨rfl, by (repeat (first | exact Kept.refl _ | assumption | refine Kept.alloc ?_ _ | refine Kept.ext ?_ _ | refine Kept.drew ?_ | refine Kept.drewN ?_ _))⟩
      case pos =>
        have HE2 := Lib.hid (show 1 ≤ en.hi ∧ en.hi ≤ 1099511627776 from ⟨Int.le_trans (EO.out g3).1 (EO.out g3).2.1, (EO.out g3).2.2⟩)
        by_cases g4 : limE tn = 0
        case neg =>
          have ev : bd = ⟨0, 0, limE tn⟩ := by
            rw [← EB.out, if_neg (show ¬ (0 : Int) ≠ 0 by simp), if_neg (show ¬ limE bn ≠ 0 by simp [g2]), if_neg (show ¬ en.e ≠ 0 by simp [g3]), if_pos g4]
          subst ev
          obtain ⟨xe, hxe⟩ : ∃ x, limE tn = x := ⟨_, rfl⟩
          obtain ⟨xv, hxv⟩ : ∃ x, limV tn = x := ⟨_, rfl⟩
          rw [hxe] at g4 ⊢
          obtain ⟨gf, gt⟩ := ne_facts g4
          clear EB
          have k2 := H2.out
          clear H2
          rw [g2, limV_0 g2] at k2
          have H2 := Lib.hid k2
          clear k2
          have k3 := H3.out
          clear H3
          rw [g3] at k3
          have H3 := Lib.hid k3
          clear k3
          have k4 := H4.out
          clear H4
          rw [hxe, hxv] at k4
          have H4 := Lib.hid k4
          clear k4
          have hok : okN 0 m = m := rfl
          have k1 := H1.out
          clear H1
          rw [hok] at k1
          have H1 := Lib.hid k1
          clear k1 hok
          clear hxe hxv
          go_enter Tryz.func181, Tryz.ntmps181
          go_wp2_with (first | (go_at_call 226; (with_reducible refine (H1.out _ (by (repeat (first | exact Kept.refl _ | assumption | refine Kept.alloc ?_ _ | refine Kept.ext ?_ _ | refine Kept.drew ?_ | refine Kept.drewN ?_ _)))).mono ?_); rintro e w1 ⟨LA, lc, rfl, ⟨y1, rfl⟩, hl1⟩; have HL1 := Lib.hid hl1; clear hl1) | (go_at_call 227; (with_reducible refine (H2.out LA lc _ (by (repeat (first | exact Kept.refl _ | assumption | refine Kept.alloc ?_ _ | refine Kept.ext ?_ _ | refine Kept.drew ?_ | refine Kept.drewN ?_ _))) (HL1.out.of (by (repeat (first | exact Kept.refl _ | assumption | refine Kept.alloc ?_ _ | refine Kept.ext ?_ _ | refine Kept.drew ?_ | refine Kept.drewN ?_ _)))) MB1.out).mono ?_); rintro e w2 ⟨rfl, y2, rfl⟩) | (go_at_call 228; (with_reducible refine (H3.out _ (by (repeat (first | exact Kept.refl _ | assumption | refine Kept.alloc ?_ _ | refine Kept.ext ?_ _ | refine Kept.drew ?_ | refine Kept.drewN ?_ _)))).mono ?_); rintro e w3 ⟨rfl, y3, rfl⟩) | (go_at_call 229; (with_reducible refine (H4.out _ (by (repeat (first | exact Kept.refl _ | assumption | refine Kept.alloc ?_ _ | refine Kept.ext ?_ _ | refine Kept.drew ?_ | refine Kept.drewN ?_ _))) HE2.out).mono ?_); rintro e w4 ⟨rfl, y4, rfl⟩))
          refine bodyPost_ret (by simp only [results, Tryz.results181]; go_simp; rfl) rfl ?_
          exact ⟨rfl, by (repeat (first | exact Kept.refl _ | assumption | refine Kept.alloc ?_ _ | refine Kept.ext ?_ _ | refine Kept.drew ?_ | refine Kept.drewN ?_ _))⟩
        case pos =>
          by_cases g5 : limE an = 0
          case neg =>
            have ev : bd = ⟨0, 0, limE an⟩ := by
              rw [← EB.out, if_neg (show ¬ (0 : Int) ≠ 0 by simp), if_neg (show ¬ limE bn ≠ 0 by simp [g2]), if_neg (show ¬ en.e ≠ 0 by simp [g3]), if_neg (show ¬ limE tn ≠ 0 by simp [g4]), if_pos g5]
            subst ev
            obtain ⟨xe, hxe⟩ : ∃ x, limE an = x := ⟨_, rfl⟩
            obtain ⟨xv, hxv⟩ : ∃ x, limV an = x := ⟨_, rfl⟩
            rw [hxe] at g5 ⊢
            obtain ⟨gf, gt⟩ := ne_facts g5
            clear EB
            have k2 := H2.out
            clear H2
            rw [g2, limV_0 g2] at k2
            have H2 := Lib.hid k2
            clear k2
            have k3 := H3.out
            clear H3
            rw [g3] at k3
            have H3 := Lib.hid k3
            clear k3
            have k4 := H4.out
            clear H4
            rw [g4, limV_0 g4] at k4
            have H4 := Lib.hid k4
            clear k4
            have k5 := H5.out
            clear H5
            rw [hxe, hxv] at k5
            have H5 := Lib.hid k5
            clear k5
            have hok : okN 0 m = m := rfl
            have k1 := H1.out
            clear H1
            rw [hok] at k1
            have H1 := Lib.hid k1
            clear k1 hok
            clear hxe hxv
            go_enter Tryz.func181, Tryz.ntmps181
            go_wp2_with (first | (go_at_call 226; (with_reducible refine (H1.out _ (by (repeat (first | exact Kept.refl _ | assumption | refine Kept.alloc ?_ _ | refine Kept.ext ?_ _ | refine Kept.drew ?_ | refine Kept.drewN ?_ _)))).mono ?_); rintro e w1 ⟨LA, lc, rfl, ⟨y1, rfl⟩, hl1⟩; have HL1 := Lib.hid hl1; clear hl1) | (go_at_call 227; (with_reducible refine (H2.out LA lc _ (by (repeat (first | exact Kept.refl _ | assumption | refine Kept.alloc ?_ _ | refine Kept.ext ?_ _ | refine Kept.drew ?_ | refine Kept.drewN ?_ _))) (HL1.out.of (by (repeat (first | exact Kept.refl _ | assumption | refine Kept.alloc ?_ _ | refine Kept.ext ?_ _ | refine Kept.drew ?_ | refine Kept.drewN ?_ _)))) MB1.out).mono ?_); rintro e w2 ⟨rfl, y2, rfl⟩) | (go_at_call 228; (with_reducible refine (H3.out _ (by (repeat (first | exact Kept.refl _ | assumption | refine Kept.alloc ?_ _ | refine Kept.ext ?_ _ | refine Kept.drew ?_ | refine Kept.drewN ?_ _)))).mono ?_); rintro e w3 ⟨rfl, y3, rfl⟩) | (go_at_call 229; (with_reducible refine (H4.out _ (by (repeat (first | exact Kept.refl _ | assumption | refine Kept.alloc ?_ _ | refine Kept.ext ?_ _ | refine Kept.drew ?_ | refine Kept.drewN ?_ _))) HE2.out).mono ?_); rintro e w4 ⟨rfl, y4, rfl⟩) | (go_at_call 230; (with_reducible refine (H5.out LA lc _ (by (repeat (first | exact Kept.refl _ | assumption | refine Kept.alloc ?_ _ | refine Kept.ext ?_ _ | refine Kept.drew ?_ | refine Kept.drewN ?_ _))) (HL1.out.of (by (repeat (first | exact Kept.refl _ | assumption | refine Kept.alloc ?_ _ | refine Kept.ext ?_ _ | refine Kept.drew ?_ | refine Kept.drewN ?_ _)))) MB2.out).mono ?_); rintro e w5 ⟨rfl, y5, rfl⟩))
            refine bodyPost_ret (by simp only [results, Tryz.results181]; go_simp; rfl) rfl ?_
            exact ⟨rfl, by (repeat (first | exact Kept.refl _ | assumption | refine Kept.alloc ?_ _ | refine Kept.ext ?_ _ | refine Kept.drew ?_ | refine Kept.drewN ?_ _))⟩
          case pos =>
            have ev : bd = ⟨max bn tn, min an ball, 0⟩ := by
              rw [← EB.out, if_neg (show ¬ (0 : Int) ≠ 0 by simp), if_neg (show ¬ limE bn ≠ 0 by simp [g2]), if_neg (show ¬ en.e ≠ 0 by simp [g3]), if_neg (show ¬ limE tn ≠ 0 by simp [g4]), if_neg (show ¬ limE an ≠ 0 by simp [g5])]
            subst ev
            clear EB
            have k2 := H2.out
            clear H2
            rw [g2, limV_0 g2] at k2
            have H2 := Lib.hid k2
            clear k2
            have k3 := H3.out
            clear H3
            rw [g3] at k3
            have H3 := Lib.hid k3
            clear k3
            have k4 := H4.out
            clear H4
            rw [g4, limV_0 g4] at k4
            have H4 := Lib.hid k4
            clear k4
            have k5 := H5.out
            clear H5
            rw [g5, limV_0 g5] at k5
            have H5 := Lib.hid k5
            clear k5
            have hok : okN 0 m = m := rfl
            have k1 := H1.out
            clear H1
            rw [hok] at k1
            have H1 := Lib.hid k1
            clear k1 hok
            go_enter Tryz.func181, Tryz.ntmps181
            go_wp2_with (first | (go_at_call 226; (with_reducible refine (H1.out _ (by (repeat (first | exact Kept.refl _ | assumption | refine Kept.alloc ?_ _ | refine Kept.ext ?_ _ | refine Kept.drew ?_ | refine Kept.drewN ?_ _)))).mono ?_); rintro e w1 ⟨LA, lc, rfl, ⟨y1, rfl⟩, hl1⟩; have HL1 := Lib.hid hl1; clear hl1) | (go_at_call 227; (with_reducible refine (H2.out LA lc _ (by (repeat (first | exact Kept.refl _ | assumption | refine Kept.alloc ?_ _ | refine Kept.ext ?_ _ | refine Kept.drew ?_ | refine Kept.drewN ?_ _))) (HL1.out.of (by (repeat (first | exact Kept.refl _ | assumption | refine Kept.alloc ?_ _ | refine Kept.ext ?_ _ | refine Kept.drew ?_ | refine Kept.drewN ?_ _)))) MB1.out).mono ?_); rintro e w2 ⟨rfl, y2, rfl⟩) | (go_at_call 228; (with_reducible refine (H3.out _ (by (repeat (first | exact Kept.refl _ | assumption | refine Kept.alloc ?_ _ | refine Kept.ext ?_ _ | refine Kept.drew ?_ | refine Kept.drewN ?_ _)))).mono ?_); rintro e w3 ⟨rfl, y3, rfl⟩) | (go_at_call 229; (with_reducible refine (H4.out _ (by (repeat (first | exact Kept.refl _ | assumption | refine Kept.alloc ?_ _ | refine Kept.ext ?_ _ | refine Kept.drew ?_ | refine Kept.drewN ?_ _))) HE2.out).mono ?_); rintro e w4 ⟨rfl, y4, rfl⟩) | (go_at_call 230; (with_reducible refine (H5.out LA lc _ (by (repeat (first | exact Kept.refl _ | assumption | refine Kept.alloc ?_ _ | refine Kept.ext ?_ _ | refine Kept.drew ?_ | refine Kept.drewN ?_ _))) (HL1.out.of (by (repeat (first | exact Kept.refl _ | assumption | refine Kept.alloc ?_ _ | refine Kept.ext ?_ _ | refine Kept.drew ?_ | refine Kept.drewN ?_ _)))) MB2.out).mono ?_); rintro e w5 ⟨rfl, y5, rfl⟩))
            all_goals (refine bodyPost_ret (by simp only [results, Tryz.results181]; go_simp; rfl) rfl ?_; exact ⟨rfl, by (repeat (first | exact Kept.refl _ | assumption | refine Kept.alloc ?_ _ | refine Kept.ext ?_ _ | refine Kept.drew ?_ | refine Kept.drewN ?_ _))⟩)
end Go.Proofs.YtnbjealpcjfllaaGreatDoor

namespace Go.Proofs.YtnbjealpcjfllaaGreatDoor
set_option linter.unusedVariables false
set_option linter.unusedSimpArgs false
open Go.RowKit Go.Deep
theorem chB_no {c : Nat → Int} {l : Nat} (h : ¬ chBad c l = true) : ∀ k, k < l → 0 ≤ c k ∧ c k ≤ 100 := fun k hk => by
  cases hb : frB (c k) 0 100
  · exact absurd (chBad_at hk hb) h
  · exact frB_true hb
theorem chE_ok {n m l : Nat} {P F : Nat → Nat → Int} {c : Nat → Int} (h : chE n P m F l c = 0) : validE n P m F = 0 ∧ l = m ∧ (∀ k, k < l → 0 ≤ c k ∧ c k ≤ 100) ∧ 1 ≤ sumC c l := by
  unfold chE at h
  by_cases h1 : validE n P m F = 0
  case neg => rw [if_pos h1] at h; exact absurd h h1
  case pos =>
    rw [if_neg (by rw [h1]; simp)] at h
    by_cases h2 : l = m
    case neg => rw [if_pos h2] at h; cases h
    case pos =>
      rw [if_neg (by rw [h2]; simp)] at h
      by_cases h3 : chBad c l = true
      case pos => rw [if_pos h3] at h; cases h
      case neg =>
        rw [if_neg h3] at h
        by_cases h4 : sumC c l = 0
        case pos => rw [if_pos h4] at h; cases h
        case neg =>
          have := sumC_bd (c := c) (k := l) (chB_no h3)
          exact ⟨h1, h2, chB_no h3, by omega⟩
theorem givE_ok {n m l : Nat} {P F : Nat → Nat → Int} {c : Nat → Int} {d : Int} (h : givE n P m F l c d = 0) : chE n P m F l c = 0 ∧ 0 ≤ d ∧ d ≤ 2 := by
  unfold givE at h
  by_cases h1 : chE n P m F l c = 0
  case neg => rw [if_pos h1] at h; exact absurd h h1
  case pos =>
    rw [if_neg (by rw [h1]; simp)] at h
    cases hb : frB d 0 2
    · rw [hb] at h; cases h
    · exact ⟨h1, frB_true hb⟩
set_option maxRecDepth 100000 in
set_option maxHeartbeats 4000000 in
theorem hcheck_any (A B : Option Addr) (n cap m cap2 : Nat) (P F : Nat → Nat → Int) (C : Option Addr) (l cap3 : Nat) (f : Nat → Nat → Int) (d : Int) (w : World) (hn : n ≤ 9223372036854775807 ∧ m ≤ 9223372036854775807) (hl : l ≤ 9223372036854775807) (hP : RowsAt w A n 3 P) (hF : RowsAt w B m 3 F) (hC : RowsAt w C l 1 f) :
    Calls Tryz.prog 179 #[.agg #[.slice A n cap, .slice B m cap2], .slice C l cap3, .int .i64 d] w fun e w' => e = .returned (.int .i64 (givE n P m F l (fun k => f k 0) d)) ∧ Kept w w' := by
  have q : ∀ w', Kept w w' → _ := fun w' hk => hvch_any A B n cap m cap2 P F C l cap3 f w' hn hl (hP.of hk) (hF.of hk) (hC.of hk)
  obtain ⟨ce, hce⟩ : ∃ x, chE n P m F l (fun k => f k 0) = x := ⟨_, rfl⟩
  have ev : givE n P m F l (fun k => f k 0) d = if ce ≠ 0 then ce else if frB d 0 2 = true then 0 else 1 := by unfold givE; rw [hce]
  rw [hce] at q
  rw [ev]
  have H := Lib.hid q
  clear q ev hce hP hF hC hn hl
  by_cases g : ce = 0
  · subst g
    rw [if_neg (by simp)]
    cases hb : frB d 0 2
    · rw [if_neg (by decide)]
      go_enter Tryz.func179, Tryz.ntmps179
      go_wp2_with (first | (go_at_call 220; (with_reducible refine (H.out _ (by (repeat (first | exact Kept.refl _ | assumption | refine Kept.alloc ?_ _ | refine Kept.ext ?_ _ | refine Kept.drew ?_ | refine Kept.drewN ?_ _)))).mono ?_); rintro e w1 ⟨rfl, y1, rfl⟩) | (first | (go_at_call 123; refine (hwithin_any _ _ _ _).mono ?_; rintro e w1 ⟨rfl, rfl⟩)))
      go_ret
      exact ⟨rfl, by (repeat (first | exact Kept.refl _ | assumption | refine Kept.alloc ?_ _ | refine Kept.ext ?_ _ | refine Kept.drew ?_ | refine Kept.drewN ?_ _))⟩
    · rw [if_pos rfl]
      go_enter Tryz.func179, Tryz.ntmps179
      go_wp2_with (first | (go_at_call 220; (with_reducible refine (H.out _ (by (repeat (first | exact Kept.refl _ | assumption | refine Kept.alloc ?_ _ | refine Kept.ext ?_ _ | refine Kept.drew ?_ | refine Kept.drewN ?_ _)))).mono ?_); rintro e w1 ⟨rfl, y1, rfl⟩) | (first | (go_at_call 123; refine (hwithin_any _ _ _ _).mono ?_; rintro e w1 ⟨rfl, rfl⟩)))
      go_ret
      exact ⟨rfl, by (repeat (first | exact Kept.refl _ | assumption | refine Kept.alloc ?_ _ | refine Kept.ext ?_ _ | refine Kept.drew ?_ | refine Kept.drewN ?_ _))⟩
  · rw [if_pos g]
    obtain ⟨gf, gt⟩ := ne_facts g
    go_enter Tryz.func179, Tryz.ntmps179
    go_wp2_with (first | (go_at_call 220; (with_reducible refine (H.out _ (by (repeat (first | exact Kept.refl _ | assumption | refine Kept.alloc ?_ _ | refine Kept.ext ?_ _ | refine Kept.drew ?_ | refine Kept.drewN ?_ _)))).mono ?_); rintro e w1 ⟨rfl, y1, rfl⟩) | (first | (go_at_call 123; refine (hwithin_any _ _ _ _).mono ?_; rintro e w1 ⟨rfl, rfl⟩)))
    go_ret
    exact ⟨rfl, by (repeat (first | exact Kept.refl _ | assumption | refine Kept.alloc ?_ _ | refine Kept.ext ?_ _ | refine Kept.drew ?_ | refine Kept.drewN ?_ _))⟩
set_option maxRecDepth 100000 in
set_option maxHeartbeats 4000000 in
theorem hBounds_any (A B : Option Addr) (n cap m cap2 : Nat) (P F : Nat → Nat → Int) (C : Option Addr) (l cap3 : Nat) (f : Nat → Nat → Int) (d : Int) (w : World) (hn : n ≤ 9223372036854775807 ∧ m ≤ 9223372036854775807) (hl : l ≤ 9223372036854775807) (hP : RowsAt w A n 3 P) (hF : RowsAt w B m 3 F) (hC : RowsAt w C l 1 f) :
    Calls Tryz.prog 124 #[.agg #[.slice A n cap, .slice B m cap2], .slice C l cap3, .int .i64 d] w fun e w' => e = .returned (.tuple #[.agg #[.int .i64 (bndS n P m F l (fun k => f k 0) d).lo, .int .i64 (bndS n P m F l (fun k => f k 0) d).hi], .int .i64 (bndS n P m F l (fun k => f k 0) d).e]) ∧ Kept w w' := by
  have q : ∀ w', Kept w w' → _ := fun w' hk => hcheck_any A B n cap m cap2 P F C l cap3 f d w' hn hl (hP.of hk) (hF.of hk) (hC.of hk)
  by_cases g : givE n P m F l (fun k => f k 0) d = 0
  · obtain ⟨g1, g2, g3⟩ := givE_ok g
    obtain ⟨v1, rfl, v3, v4⟩ := chE_ok g1
    obtain ⟨k, rfl⟩ : ∃ k : Nat, d = k := ⟨d.toNat, by omega⟩
    have ev : bndS n P l F l (fun k => f k 0) (k : Int) = bndR n P l F k fun k => f k 0 := by unfold bndS; rw [if_neg (by rw [g]; simp)]; rfl
    rw [ev]
    rw [g] at q
    have q2 : ∀ w', Kept w w' → _ := fun w' hk => hprep_any A B n cap l cap2 P F k w' hn (by omega) v1 (hP.of hk) (hF.of hk)
    have q3 : ∀ T1 c1 T2 c2 lo w', Kept w w' → TabA lo w' T1 l l 2 (tabF (betP k) P F) → TabA lo w' T2 l l 2 (tabF (mutP k) P F) → _ := fun T1 c1 T2 c2 lo w' hk t1 t2 => hbnd_any A B T1 T2 n cap l cap2 c1 c2 P F k lo C cap3 f w' (by omega) v1 t1 t2 (hC.of hk) v3 v4
    obtain ⟨b, hb⟩ : ∃ x, (bndR n P l F k fun k => f k 0) = x := ⟨_, rfl⟩
    obtain ⟨ball, hbl⟩ : ∃ x, ballV n P = x := ⟨_, rfl⟩
    rw [hb] at q3 ⊢
    rw [hbl] at q2 q3
    have H := Lib.hid q
    have H2 := Lib.hid q2
    have H3 := Lib.hid q3
    clear q q2 q3 hb hbl ev g g1 g2 g3 v1 v3 v4 hP hF hC hn hl
    go_enter Tryz.func124, Tryz.ntmps124
    go_wp2_with (first | (go_at_call 179; (with_reducible refine (H.out _ (by (repeat (first | exact Kept.refl _ | assumption | refine Kept.alloc ?_ _ | refine Kept.ext ?_ _ | refine Kept.drew ?_ | refine Kept.drewN ?_ _)))).mono ?_); rintro e w1 ⟨rfl, y1, rfl⟩) | (go_at_call 180; (with_reducible refine (H2.out _ (by (repeat (first | exact Kept.refl _ | assumption | refine Kept.alloc ?_ _ | refine Kept.ext ?_ _ | refine Kept.drew ?_ | refine Kept.drewN ?_ _)))).mono ?_); rintro e w2 ⟨T1, c1, T2, c2, rfl, ⟨y2, rfl⟩, t1, t2⟩; have HT1 := Lib.hid t1; have HT2 := Lib.hid t2; clear t1 t2) | (go_at_call 181; (with_reducible refine (H3.out T1 c1 T2 c2 _ _ (by (repeat (first | exact Kept.refl _ | assumption | refine Kept.alloc ?_ _ | refine Kept.ext ?_ _ | refine Kept.drew ?_ | refine Kept.drewN ?_ _))) (HT1.out.on (by (repeat (first | exact Kept.refl _ | assumption | refine Kept.alloc ?_ _ | refine Kept.ext ?_ _ | refine Kept.drew ?_ | refine Kept.drewN ?_ _)))) (HT2.out.on (by (repeat (first | exact Kept.refl _ | assumption | refine Kept.alloc ?_ _ | refine Kept.ext ?_ _ | refine Kept.drew ?_ | refine Kept.drewN ?_ _))))).mono ?_); rintro e w3 ⟨rfl, y3, rfl⟩))
    refine bodyPost_ret (by simp only [results, Tryz.results124]; go_simp; rfl) rfl ?_
    exact ⟨rfl, by (repeat (first | exact Kept.refl _ | assumption | refine Kept.alloc ?_ _ | refine Kept.ext ?_ _ | refine Kept.drew ?_ | refine Kept.drewN ?_ _))⟩
  · have ev : bndS n P m F l (fun k => f k 0) d = ⟨0, 0, givE n P m F l (fun k => f k 0) d⟩ := by unfold bndS; rw [if_pos g]
    rw [ev]
    clear ev
    obtain ⟨ge, hge⟩ : ∃ x, givE n P m F l (fun k => f k 0) d = x := ⟨_, rfl⟩
    rw [hge] at q g ⊢
    obtain ⟨gf, gt⟩ := ne_facts g
    have H := Lib.hid q
    clear q hge hP hF hC hn hl
    go_enter Tryz.func124, Tryz.ntmps124
    go_wp2_with (first | (go_at_call 179; (with_reducible refine (H.out _ (by (repeat (first | exact Kept.refl _ | assumption | refine Kept.alloc ?_ _ | refine Kept.ext ?_ _ | refine Kept.drew ?_ | refine Kept.drewN ?_ _)))).mono ?_); rintro e w1 ⟨rfl, y1, rfl⟩))
    refine bodyPost_ret (by simp only [results, Tryz.results124]; go_simp; rfl) rfl ?_
    exact ⟨rfl, by (repeat (first | exact Kept.refl _ | assumption | refine Kept.alloc ?_ _ | refine Kept.ext ?_ _ | refine Kept.drew ?_ | refine Kept.drewN ?_ _))⟩
set_option maxRecDepth 100000 in
set_option maxHeartbeats 4000000 in
theorem hWork_any (A B : Option Addr) (n cap m cap2 : Nat) (P F : Nat → Nat → Int) (d : Int) (w : World) (hn : n ≤ 9223372036854775807 ∧ m ≤ 9223372036854775807) (hP : RowsAt w A n 3 P) (hF : RowsAt w B m 3 F) :
    Calls Tryz.prog 170 #[.agg #[.slice A n cap, .slice B m cap2], .int .i64 d] w fun e w' => e = .returned (.tuple #[.int .i64 (workS n P m F d), .int .i64 (workE n P m F d)]) ∧ Kept w w' := by
  have q : ∀ w', Kept w w' → _ := fun w' hk => svalidate_any A B n cap m cap2 P F w' hn (hP.of hk) (hF.of hk)
  by_cases g : validE n P m F = 0
  · have hm := (validE_ok g).2.1
    cases hb : frB d 0 2
    · have ew : workS n P m F d = 0 := by unfold workS; rw [if_neg (by rw [hb]; simp)]
      have ee : workE n P m F d = 1 := by unfold workE; rw [if_neg (by rw [g]; simp), if_neg (by rw [hb]; simp)]
      rw [ew, ee]
      rw [g] at q
      have H := Lib.hid q
      clear q ew ee g hP hF hn
      go_enter Tryz.func170, Tryz.ntmps170
      go_wp2_with (first | (go_at_call 71; (with_reducible refine (H.out _ (by (repeat (first | exact Kept.refl _ | assumption | refine Kept.alloc ?_ _ | refine Kept.ext ?_ _ | refine Kept.drew ?_ | refine Kept.drewN ?_ _)))).mono ?_); rintro e w1 ⟨rfl, y1, rfl⟩) | (first | (go_at_call 123; refine (hwithin_any _ _ _ _).mono ?_; rintro e w1 ⟨rfl, rfl⟩)))
      refine bodyPost_ret (by simp only [results, Tryz.results170]; go_simp; rfl) rfl ?_
      exact ⟨rfl, by (repeat (first | exact Kept.refl _ | assumption | refine Kept.alloc ?_ _ | refine Kept.ext ?_ _ | refine Kept.drew ?_ | refine Kept.drewN ?_ _))⟩
    · have hd := frB_true hb
      have ee : workE n P m F d = 0 := by unfold workE; rw [if_neg (by rw [g]; simp), if_pos hb]
      have ew : workS n P m F d = (m : Int) * m * (4 ^ d.toNat + 16 ^ d.toNat) := by unfold workS; rw [if_pos ⟨g, hb⟩]
      rw [ew, ee]
      rw [g] at q
      have H := Lib.hid q
      have mm : (0 : Int) ≤ (m : Int) * m ∧ (m : Int) * m ≤ 9216 := by
        have := Nat.mul_le_mul hm.2 hm.2
        constructor
        · exact Int.mul_nonneg (by omega) (by omega)
        · rw [← Int.natCast_mul]; omega
      clear q ew ee g hP hF hn
      rcases (show d = 0 ∨ d = 1 ∨ d = 2 by omega) with rfl | rfl | rfl
      all_goals (
        go_enter Tryz.func170, Tryz.ntmps170
        go_wp2_with (first | (go_at_call 71; (with_reducible refine (H.out _ (by (repeat (first | exact Kept.refl _ | assumption | refine Kept.alloc ?_ _ | refine Kept.ext ?_ _ | refine Kept.drew ?_ | refine Kept.drewN ?_ _)))).mono ?_); rintro e w1 ⟨rfl, y1, rfl⟩) | (first | (go_at_call 123; refine (hwithin_any _ _ _ _).mono ?_; rintro e w1 ⟨rfl, rfl⟩)))
        refine bodyPost_ret (by simp only [results, Tryz.results170]; go_simp; rfl) rfl ?_
        refine ⟨?_, by (repeat (first | exact Kept.refl _ | assumption | refine Kept.alloc ?_ _ | refine Kept.ext ?_ _ | refine Kept.drew ?_ | refine Kept.drewN ?_ _))⟩)
      all_goals rfl
  · have ew : workS n P m F d = 0 := by unfold workS; rw [if_neg (fun h => g h.1)]
    have ee : workE n P m F d = validE n P m F := by unfold workE; rw [if_pos g]
    rw [ew, ee]
    clear ew ee
    obtain ⟨ge, hge⟩ : ∃ x, validE n P m F = x := ⟨_, rfl⟩
    rw [hge] at q g ⊢
    obtain ⟨gf, gt⟩ := ne_facts g
    have H := Lib.hid q
    clear q hge hP hF hn
    go_enter Tryz.func170, Tryz.ntmps170
    go_wp2_with (first | (go_at_call 71; (with_reducible refine (H.out _ (by (repeat (first | exact Kept.refl _ | assumption | refine Kept.alloc ?_ _ | refine Kept.ext ?_ _ | refine Kept.drew ?_ | refine Kept.drewN ?_ _)))).mono ?_); rintro e w1 ⟨rfl, y1, rfl⟩) | (first | (go_at_call 123; refine (hwithin_any _ _ _ _).mono ?_; rintro e w1 ⟨rfl, rfl⟩)))
    refine bodyPost_ret (by simp only [results, Tryz.results170]; go_simp; rfl) rfl ?_
    exact ⟨rfl, by (repeat (first | exact Kept.refl _ | assumption | refine Kept.alloc ?_ _ | refine Kept.ext ?_ _ | refine Kept.drew ?_ | refine Kept.drewN ?_ _))⟩
end Go.Proofs.YtnbjealpcjfllaaGreatDoor

