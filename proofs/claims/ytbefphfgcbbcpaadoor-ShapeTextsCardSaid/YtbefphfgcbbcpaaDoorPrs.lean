/- Contract: meshes of texts, of the program. Conditions: the library's variables hold what start-up lays; the text is short. -/
import Derived.Test.YtbefphfgcbbcpaaDoorSf4
import Derived.Test.YtbefphfgcbbcpaaDoorLna
namespace Go.Proofs.YtbefphfgcbbcpaaDoor
set_option linter.unusedVariables false
set_option linter.unusedSimpArgs false
open Go.ChangeShapes Go.WideShapes Go.ChangeAt Go.RowKit Go.Deep
theorem grown_sc (w : World) (g o : Nat) (u : Value) : w.grownBy (w.setCell ⟨g, o, none⟩ u) (some g) := ⟨rfl, rfl, rfl, by simp, fun i _ hi => heap_setCell_other w ⟨g, o, none⟩ i _ (fun e => hi (by simp [e]))⟩
theorem own_sc2 {w : World} {base n c g : Nat} {e T : TypeId} {v a b a' b' : Value} {xs : List Value} (h : w.ownsRow base e c v n xs) (hr : w.heap[g]? = some (.cells #[a, b] T (0, 0))) (hT : T ≠ e) : ((w.setCell ⟨g, 0, none⟩ a').setCell ⟨g, 1, none⟩ b').ownsRow base e c v n xs := by
  have h1 := h.kept (grown_sc w g 0 a') (.inr fun q => own_ne h hr hT q.symm)
  have hr1 : (w.setCell ⟨g, 0, none⟩ a').heap[g]? = some (.cells #[a', b] T (0, 0)) := by
    rw [heap_setCell_same _ _ _ _ _ _ hr]
    rfl
  exact h1.kept (grown_sc _ g 1 b') (.inr fun q => own_ne h1 hr1 hT q.symm)
set_option maxRecDepth 100000 in
set_option maxHeartbeats 32000000 in
theorem sPar_any (l : List UInt8) (w : World) (hl : l.length ≤ 9000) (h : Ld w) :
    Calls Tryd.prog 9 #[.string ⟨l.toArray⟩] w fun e w' => ParseG l e w' ∧ Kept w w' := by
  have HL := Lib.hid h
  clear h
  obtain ⟨i0, hi, hz0, hz1, hz2⟩ := info_parts infoPoint
  have HJ := Lib.hid (And.intro hi (And.intro hz0 (And.intro hz1 hz2)))
  clear hi hz0 hz1 hz2
  obtain ⟨i1, hi, hz0, hz1, hz2⟩ := info_parts infoFace
  have HJ2 := Lib.hid (And.intro hi (And.intro hz0 (And.intro hz1 hz2)))
  clear hi hz0 hz1 hz2
  by_cases h8 : 8000 < l.length
  · have g0 : decide ((8000 : Int) < l.length) = true := decide_eq_true (by omega)
    have bad : ∀ w', ParseG l (.returned (.tuple #[.agg #[.slice none 0 0, .slice none 0 0], .int .i64 4])) w' := fun w' => .inr ⟨fun n P m F hv e => by
      have := gfmt_len hv
      rw [← e] at this
      omega, by rw [if_pos h8]⟩
    have HBD := Lib.hid bad
    clear bad
    go_enter Tryd.func9, Tryd.ntmps9
    go_wp2_with fail
    refine bodyPost_ret (by simp only [results, Tryd.results9]; go_simp; rfl) rfl ?_
    exact ⟨HBD.out _, by (repeat (first | exact Kept.refl _ | assumption | refine Kept.alloc ?_ _ | refine Kept.ext ?_ _ | refine Kept.drew ?_ | refine Kept.drewN ?_ _))⟩
  · have g0 : decide ((8000 : Int) < l.length) = false := decide_eq_false (by omega)
    have bad : (∀ n P m F, validE n P m F = 0 → l ≠ gfmt n P m F) → ∀ w', ParseG l (.returned (.tuple #[.agg #[.slice none 0 0, .slice none 0 0], .int .i64 3])) w' := fun hb w' => .inr ⟨hb, by rw [if_neg h8]⟩
    have good : ∀ n P m F A cp B cq (w' : World), validE n P m F = 0 → l = gfmt n P m F → RowsAt w' A n 3 P → RowsAt w' B m 3 F → ParseG l (.returned (.tuple #[.agg #[.slice A n cp, .slice B m cq], .int .i64 0])) w' := fun n P m F A cp B cq w' h1 h2 h3 h4 => .inl ⟨n, P, m, F, h1, h2, A, cp, B, cq, rfl, h3, h4⟩
    obtain ⟨t, ht⟩ : ∃ t, Lib.trimSuffix l [10] = t := ⟨_, rfl⟩
    have htl : t.length ≤ 8000 := by
      have := trim_len l [10]
      rw [ht] at this
      omega
    obtain ⟨ls, hls⟩ : ∃ ls, wds 10 t = ls := ⟨_, rfl⟩
    have key : ∀ n P m F, validE n P m F = 0 → l = gfmt n P m F → ls = gL n P m F := fun n P m F hv e => by
      rw [← hls, ← ht, e]
      refine trim_flat (fun e0 => ?_) gL_no10
      have := gL_len n P m F
      rw [e0] at this
      have := (valid_in hv).1
      simp at *
      omega
    have hwl : ∀ p ∈ ls, p.length ≤ 8000 := fun p hp => by
      rw [← hls] at hp
      exact Nat.le_trans (wd_len hp) htl
    have hlsl : ls.length ≤ 8001 := by
      rw [← hls, wds_length]
      have := List.count_le_length (a := (10 : UInt8)) (l := t)
      omega
    have HT : ∀ w', _ := fun w' => sTrim l 10 w' (by omega)
    rw [ht] at HT
    have HSP : ∀ w', Kept w w' → _ := fun w' hk => sSplitH t 10 w' (by omega) (HL.out.on hk)
    rw [hls] at HSP
    have HT2 := Lib.hid HT
    have HS2 := Lib.hid HSP
    have HKEY := Lib.hid key
    have HBD := Lib.hid bad
    have HGD := Lib.hid good
    have HWL := Lib.hid hwl
    clear HT HSP key bad good hwl ht hls htl
    go_enter Tryd.func9, Tryd.ntmps9
    go_wp2_with (first | (go_at_call 26; refine (HT2.out _).mono ?_; rintro e w1 ⟨rfl, rfl⟩) | (go_at_call 25; refine (HS2.out _ (by (repeat (first | exact Kept.refl _ | assumption | refine Kept.alloc ?_ _ | refine Kept.ext ?_ _ | refine Kept.drew ?_ | refine Kept.drewN ?_ _)))).mono ?_; rintro e w1 ⟨gb, rfl, ⟨x1, rfl⟩, hgl, hgb⟩; have HGB := Lib.hid (And.intro hgl hgb); clear hgl hgb))
    go_loopw [21] (fun i wr => ∃ (r np nf : Nat) (p f : Nat → Nat → Int) (vP vF : Value), r ≤ ls.length ∧ i = .int .i64 r ∧ Acc l r np p nf f ∧ (∀ k, k < np → ∀ j, j < 3 → I64 (p k j)) ∧ (∀ k, k < nf → ∀ j, j < 3 → I64 (f k j)) ∧ Msh2 w w.heap.size (w.heap.size + 1) vP np p vF nf f wr ∧ wr.heap[gb]? = some (.cells (ls.map strV).toArray 9 (0, 0))) (fun i _ => ls.length - (intOf i).toNat)
    case atStart =>
      refine ⟨0, 0, 0, fun _ _ => 0, fun _ _ => 0, .slice none 0 0, .slice none 0 0, by omega, rfl, Acc.start l, fun k hk => absurd hk (by omega), fun k hk => absurd hk (by omega), ⟨by (repeat (first | exact Kept.refl _ | assumption | refine Kept.alloc ?_ _ | refine Kept.ext ?_ _ | refine Kept.drew ?_ | refine Kept.drewN ?_ _)), ?_, ?_, World.ownsRow_nil _ _ _ _, World.ownsRow_nil _ _ _ _⟩, HGB.out.2⟩
      · exact fr_kept (w := (w.alloc (.cells #[.slice none 0 0, .slice none 0 0] 25))) (alloc_at2 w _ _) (by (repeat (first | exact Kept.refl _ | assumption | refine Kept.alloc ?_ _ | refine Kept.ext ?_ _ | refine Kept.drew ?_ | refine Kept.drewN ?_ _)))
      · exact fr_kept (w := ((w.alloc (.cells #[.slice none 0 0, .slice none 0 0] 25)).alloc (.cells #[.slice none 0 0, .slice none 0 0] 25))) (alloc_at2 (w.alloc (.cells #[.slice none 0 0, .slice none 0 0] 25)) _ _) (by (repeat (first | exact Kept.refl _ | assumption | refine Kept.alloc ?_ _ | refine Kept.ext ?_ _ | refine Kept.drew ?_ | refine Kept.drewN ?_ _)))
    case round =>
      obtain ⟨r, np, nf, p, f, vP, vF, hr, rfl, hA, hIp, hIf, hM, hG⟩ := hrel
      obtain ⟨A2, cp2, rfl, hcp⟩ := own_sl hM.p
      obtain ⟨B2, cq2, rfl, hcq⟩ := own_sl hM.f
      have hk0 : Kept w wr := hM.kept
      obtain ⟨m0, m1, z0, z1⟩ := cells2 hM.q
      obtain ⟨e0, e1, y0, y1⟩ := cells2 hM.r
      have LM : Lower (w.heap.size + 1) wr.heap.size := ⟨cell_lt m0⟩
      have LR : Lower w.heap.size wr.heap.size := ⟨cell_lt e0⟩
      have HM := Lib.hid hM
      have HG := Lib.hid hG
      have HA := Lib.hid hA
      have HIp := Lib.hid hIp
      have HIf := Lib.hid hIf
      have HK0 := Lib.hid hk0
      have hnp : np + nf = r := hA.1
      by_cases hlt : r < ls.length
      · have g1 : decide ((r : Int) < ls.length) = true := decide_eq_true (by omega)
        have c1 := str_cell hG hlt
        obtain ⟨q, hq⟩ : ∃ q, ls.getD r [] = q := ⟨_, rfl⟩
        have hql : q.length ≤ 8000 := HWL.out q (by rw [← hq, List.getD_eq_getElem?_getD, List.getElem?_eq_getElem hlt]; exact List.getElem_mem _)
        rw [hq] at c1
        have LG : Lower gb wr.heap.size := ⟨cell_lt c1⟩
        obtain ⟨ws, hws⟩ : ∃ ws, wds 32 q = ws := ⟨_, rfl⟩
        have hsp : ∀ w', Kept w w' → _ := fun w' hk => sSplitH q 32 w' (by omega) (HL.out.on hk)
        rw [hws] at hsp
        have HSP := Lib.hid hsp
        have hwsl : ∀ j, (ws.getD j []).length ≤ 8000 := fun j => by
          by_cases hj : j < ws.length
          · rw [List.getD_eq_getElem?_getD, List.getElem?_eq_getElem hj]
            exact Nat.le_trans (wd_len (c := 32) (l := q) (by rw [hws]; exact List.getElem_mem _)) hql
          · rw [List.getD_eq_getElem?_getD, List.getElem?_eq_none (by omega)]
            simp
        have hws2 : wds 32 (ls.getD r []) = ws := by rw [hq]; exact hws
        have HW := Lib.hid hws2
        have HWS := Lib.hid hwsl
        clear hM hG hA hIp hIf hk0 hsp hq hws hws2 hwsl
        obtain ⟨k, hk⟩ : ∃ k, ws.length = k := ⟨_, rfl⟩
        rw [hk] at HSP
        by_cases h4 : k = 4
        · subst h4
          go_wp2_with (go_at_call 25; refine (HSP.out _ (HK0.out.trans (by (repeat (first | exact Kept.refl _ | assumption | refine Kept.alloc ?_ _ | refine Kept.ext ?_ _ | refine Kept.drew ?_ | refine Kept.drewN ?_ _))))).mono ?_; rintro e w1 ⟨gq, rfl, ⟨x2, rfl⟩, hgl, hgq⟩; have HGQ := Lib.hid hgq; clear hgl hgq)
          have d0 := str_cell HGQ.out (j := 0) (by omega)
          have d1 := str_cell HGQ.out (j := 1) (by omega)
          have d2 := str_cell HGQ.out (j := 2) (by omega)
          have d3 := str_cell HGQ.out (j := 3) (by omega)
          have LQ : Lower gq (adv wr.heap.size x2.obs.size) := ⟨by have := cell_lt d0; rwa [ext_size] at this⟩
          have s1 := HWS.out 1
          have s2 := HWS.out 2
          have s3 := HWS.out 3
          obtain ⟨n0, hn0⟩ : ∃ q, ws.getD 0 [] = q := ⟨_, rfl⟩
          obtain ⟨n1, hn1⟩ : ∃ q, ws.getD 1 [] = q := ⟨_, rfl⟩
          obtain ⟨n2, hn2⟩ : ∃ q, ws.getD 2 [] = q := ⟨_, rfl⟩
          obtain ⟨n3, hn3⟩ : ∃ q, ws.getD 3 [] = q := ⟨_, rfl⟩
          rw [hn0] at d0
          rw [hn1] at d1 s1
          rw [hn2] at d2 s2
          rw [hn3] at d3 s3
          have HN0 := Lib.hid hn0
          have HN1 := Lib.hid hn1
          have HN2 := Lib.hid hn2
          have HN3 := Lib.hid hn3
          clear hn0 hn1 hn2 hn3
          refine wp_loop_rounds 4 ?_
          by_cases a1 : ∃ v, Lib.atoiAll n1 = .ok v
          · have _u := 0
            obtain ⟨v1, av1⟩ := a1
            have hat1 : ∀ w', Kept w w' → _ := fun w' hk => sAtoiOkL s1 (HL.out.on hk) av1
            have HAT1 := Lib.hid hat1
            have AV1 := Lib.hid av1
            have IV1 := Lib.hid (Lib.atoiAll_bounds av1)
            clear hat1 av1
            rw [rounds_succ]
            go_wp2_with (go_at_call 27; refine (HAT1.out _ (HK0.out.trans (by (repeat (first | exact Kept.refl _ | assumption | refine Kept.alloc ?_ _ | refine Kept.ext ?_ _ | refine Kept.drew ?_ | refine Kept.drewN ?_ _))))).mono ?_; rintro e w1 ⟨rfl, x4, rfl⟩)
            by_cases a2 : ∃ v, Lib.atoiAll n2 = .ok v
            · have _u := 0
              obtain ⟨v2, av2⟩ := a2
              have hat2 : ∀ w', Kept w w' → _ := fun w' hk => sAtoiOkL s2 (HL.out.on hk) av2
              have HAT2 := Lib.hid hat2
              have AV2 := Lib.hid av2
              have IV2 := Lib.hid (Lib.atoiAll_bounds av2)
              clear hat2 av2
              rw [rounds_succ]
              go_wp2_with (go_at_call 27; refine (HAT2.out _ (HK0.out.trans (by (repeat (first | exact Kept.refl _ | assumption | refine Kept.alloc ?_ _ | refine Kept.ext ?_ _ | refine Kept.drew ?_ | refine Kept.drewN ?_ _))))).mono ?_; rintro e w1 ⟨rfl, x5, rfl⟩)
              by_cases a3 : ∃ v, Lib.atoiAll n3 = .ok v
              · have _u := 0
                obtain ⟨v3, av3⟩ := a3
                have hat3 : ∀ w', Kept w w' → _ := fun w' hk => sAtoiOkL s3 (HL.out.on hk) av3
                have HAT3 := Lib.hid hat3
                have AV3 := Lib.hid av3
                have IV3 := Lib.hid (Lib.atoiAll_bounds av3)
                clear hat3 av3
                rw [rounds_succ]
                go_wp2_with (go_at_call 27; refine (HAT3.out _ (HK0.out.trans (by (repeat (first | exact Kept.refl _ | assumption | refine Kept.alloc ?_ _ | refine Kept.ext ?_ _ | refine Kept.drew ?_ | refine Kept.drewN ?_ _))))).mono ?_; rintro e w1 ⟨rfl, x6, rfl⟩)
                have hln := ln_okA HKEY.out hlt HW.out (by rw [HN1.out]; exact AV1.out) (by rw [HN2.out]; exact AV2.out) (by rw [HN3.out]; exact AV3.out)
                rw [HN0.out] at hln
                have HLN := Lib.hid hln
                clear hln
                rw [rounds_succ]
                by_cases hwd : n0 = pW
                · have gw : (n0 == [112, 111, 105, 110, 116]) = true := by rw [hwd]; rfl
                  have hP0 : addF p np v1 v2 v3 np 0 = v1 := by simp [addF]
                  have hP1 : addF p np v1 v2 v3 np 1 = v2 := by simp [addF]
                  have hP2 : addF p np v1 v2 v3 np 2 = v3 := by simp [addF]
                  have er : rowC 3 (addF p np v1 v2 v3) np ++ [.int .i64 v1, .int .i64 v2, .int .i64 v3] = rowC 3 (addF p np v1 v2 v3) (np + 1) := by rw [rowC_succ3, hP0, hP1, hP2]
                  have hM2 := HM.out.congr (P' := addF p np v1 v2 v3) (F' := f) (fun i hi j _ => (if_pos hi).symm) (fun _ _ _ _ => rfl)
                  have HM2 := Lib.hid hM2
                  have HE := Lib.hid (And.intro hP0 (And.intro hP1 (And.intro hP2 er)))
                  clear hM2 hP0 hP1 hP2 er
                  go_wp2_with (at_builtin; refine wpList_append_lies _ rfl (.tmp 54) (.tmp 62) 22 rfl w.heap.size 36 i0 _ 3 24 Tryd.underlying22 HJ.out.1 HJ.out.2.1 HJ.out.2.2.1 HJ.out.2.2.2 rfl (by omega) _ _ _ rfl (owns_kept HM2.out.p (by (repeat (first | exact Kept.refl _ | assumption | refine Kept.alloc ?_ _ | refine Kept.ext ?_ _ | refine Kept.drew ?_ | refine Kept.drewN ?_ _)))) _ 1 1 [.int .i64 v1, .int .i64 v2, .int .i64 v3] rfl rfl (World.news_of_block (alloc_at2 _ _ _)) (by simp [Value.oneCell']) (by omega) (by unfold maxLen; omega) (by omega) (kept_le (HK0.out.trans (by (repeat (first | exact Kept.refl _ | assumption | refine Kept.alloc ?_ _ | refine Kept.ext ?_ _ | refine Kept.drew ?_ | refine Kept.drewN ?_ _))))) _ rfl ?_; intro g1 cp1 w1 k1 k2 k3 k4; rw [HE.out.2.2.2] at k1; have ha := app_pt (Wb := ext (ext (ext ((ext wr x2).alloc (.cells #[.int .i64 v1, .int .i64 v2, .int .i64 v3] 57)) x4) x5) x6) (rb := w.heap.size) (mb := w.heap.size + 1) HM2.out (by (repeat (first | exact Kept.refl _ | assumption | refine Kept.alloc ?_ _ | refine Kept.ext ?_ _ | refine Kept.drew ?_ | refine Kept.drewN ?_ _))) (fr_kept (alloc_at2 (ext wr x2) _ _) (by (repeat (first | exact Kept.refl _ | assumption | refine Kept.alloc ?_ _ | refine Kept.ext ?_ _ | refine Kept.drew ?_ | refine Kept.drewN ?_ _)))) (adv_le _ _) (fr_kept HG.out (by (repeat (first | exact Kept.refl _ | assumption | refine Kept.alloc ?_ _ | refine Kept.ext ?_ _ | refine Kept.drew ?_ | refine Kept.drewN ?_ _)))) k1 (by rw [HE.out.1, HE.out.2.1, HE.out.2.2.1]; exact k2) (by omega) (by omega); obtain ⟨b0, b1, b2⟩ := ha; have HB1 := Lib.hid (And.intro b1 b2); obtain ⟨m0', m1', z0', z1'⟩ := cells2 b0; have LM' : Lower (w.heap.size + 1) w1.heap.size := ⟨cell_lt m0'⟩; clear k1 k2 k3 k4 b0 b1 b2)
                  go_roundw
                  case rel => exact ⟨r + 1, np + 1, nf, addF p np v1 v2 v3, f, _, _, by omega, by go_num, HA.out.pt (by rw [← hwd]; exact HLN.out), addF_I HIp.out ⟨IV1.out, IV2.out, IV3.out⟩, HIf.out, HB1.out.1, HB1.out.2⟩
                  case measure => simp [intOf]; omega
                · have gw : (n0 == [112, 111, 105, 110, 116]) = false := beq_eq_false_iff_ne.2 hwd
                  have hP0 : addF f nf v1 v2 v3 nf 0 = v1 := by simp [addF]
                  have hP1 : addF f nf v1 v2 v3 nf 1 = v2 := by simp [addF]
                  have hP2 : addF f nf v1 v2 v3 nf 2 = v3 := by simp [addF]
                  have er : rowC 3 (addF f nf v1 v2 v3) nf ++ [.int .i64 v1, .int .i64 v2, .int .i64 v3] = rowC 3 (addF f nf v1 v2 v3) (nf + 1) := by rw [rowC_succ3, hP0, hP1, hP2]
                  have hM2 := HM.out.congr (P' := p) (F' := addF f nf v1 v2 v3) (fun _ _ _ _ => rfl) (fun i hi j _ => (if_pos hi).symm)
                  have HM2 := Lib.hid hM2
                  have HE := Lib.hid (And.intro hP0 (And.intro hP1 (And.intro hP2 er)))
                  clear hM2 hP0 hP1 hP2 er
                  go_wp2_with (at_builtin; refine wpList_append_lies _ rfl (.tmp 66) (.tmp 68) 23 rfl w.heap.size 57 i1 _ 3 24 Tryd.underlying23 HJ2.out.1 HJ2.out.2.1 HJ2.out.2.2.1 HJ2.out.2.2.2 rfl (by omega) _ _ _ rfl (owns_kept HM2.out.f (by (repeat (first | exact Kept.refl _ | assumption | refine Kept.alloc ?_ _ | refine Kept.ext ?_ _ | refine Kept.drew ?_ | refine Kept.drewN ?_ _)))) _ 1 1 [.int .i64 v1, .int .i64 v2, .int .i64 v3] rfl rfl (World.news_of_block (alloc_at2 _ _ _)) (by simp [Value.oneCell']) (by omega) (by unfold maxLen; omega) (by omega) (kept_le (HK0.out.trans (by (repeat (first | exact Kept.refl _ | assumption | refine Kept.alloc ?_ _ | refine Kept.ext ?_ _ | refine Kept.drew ?_ | refine Kept.drewN ?_ _))))) _ rfl ?_; intro g1 cp1 w1 k1 k2 k3 k4; rw [HE.out.2.2.2] at k1; have ha := app_fc (Wb := ext (ext (ext ((ext wr x2).alloc (.cells #[.int .i64 v1, .int .i64 v2, .int .i64 v3] 57)) x4) x5) x6) (rb := w.heap.size) (mb := w.heap.size + 1) HM2.out (by (repeat (first | exact Kept.refl _ | assumption | refine Kept.alloc ?_ _ | refine Kept.ext ?_ _ | refine Kept.drew ?_ | refine Kept.drewN ?_ _))) (fr_kept (alloc_at2 (ext wr x2) _ _) (by (repeat (first | exact Kept.refl _ | assumption | refine Kept.alloc ?_ _ | refine Kept.ext ?_ _ | refine Kept.drew ?_ | refine Kept.drewN ?_ _)))) (adv_le _ _) (fr_kept HG.out (by (repeat (first | exact Kept.refl _ | assumption | refine Kept.alloc ?_ _ | refine Kept.ext ?_ _ | refine Kept.drew ?_ | refine Kept.drewN ?_ _)))) k1 (by rw [HE.out.1, HE.out.2.1, HE.out.2.2.1]; exact k2) (by omega) (by omega); obtain ⟨b0, b1, b2⟩ := ha; have HB1 := Lib.hid (And.intro b1 b2); obtain ⟨m0', m1', z0', z1'⟩ := cells2 b0; have LM' : Lower (w.heap.size + 1) w1.heap.size := ⟨cell_lt m0'⟩; clear k1 k2 k3 k4 b0 b1 b2)
                  go_roundw
                  case rel => exact ⟨r + 1, np, nf + 1, p, addF f nf v1 v2 v3, _, _, by omega, by go_num, HA.out.fc HLN.out hwd, HIp.out, addF_I HIf.out ⟨IV1.out, IV2.out, IV3.out⟩, HB1.out.1, HB1.out.2⟩
                  case measure => simp [intOf]; omega
              · have _u := 0
                have hat3 : ∀ w', Kept w w' → _ := fun w' hk => sAtoiNoL s3 (HL.out.on hk) (fun v hv => a3 ⟨v, hv⟩)
                have HAT3 := Lib.hid hat3
                have HER := Lib.hid (HBD.out (ln_badA HKEY.out hlt HW.out (j := 3) (by omega) (fun v hv => a3 ⟨v, by rw [← HN3.out]; exact hv⟩)))
                clear hat3 a3
                rw [rounds_succ]
                go_wp2_with (go_at_call 27; refine (HAT3.out _ (HK0.out.trans (by (repeat (first | exact Kept.refl _ | assumption | refine Kept.alloc ?_ _ | refine Kept.ext ?_ _ | refine Kept.drew ?_ | refine Kept.drewN ?_ _))))).mono ?_; rintro e w1 ⟨u3, tt3, pp3, rfl, x6, rfl⟩)
                refine bodyPost_ret (by simp only [results, Tryd.results9]; go_simp; rfl) rfl ?_
                have hke : Kept w ((wr.setCell ⟨w.heap.size, 0, none⟩ (.slice none 0 0)).setCell ⟨w.heap.size, 1, none⟩ (.slice none 0 0)) := (HK0.out.setCell (p := ⟨w.heap.size, 0, none⟩) (Nat.le_refl _) _).setCell (p := ⟨w.heap.size, 1, none⟩) (Nat.le_refl _) _
                exact ⟨HER.out _, by (repeat (first | exact Kept.refl _ | assumption | refine Kept.alloc ?_ _ | refine Kept.ext ?_ _ | refine Kept.drew ?_ | refine Kept.drewN ?_ _))⟩
            · have _u := 0
              have hat2 : ∀ w', Kept w w' → _ := fun w' hk => sAtoiNoL s2 (HL.out.on hk) (fun v hv => a2 ⟨v, hv⟩)
              have HAT2 := Lib.hid hat2
              have HER := Lib.hid (HBD.out (ln_badA HKEY.out hlt HW.out (j := 2) (by omega) (fun v hv => a2 ⟨v, by rw [← HN2.out]; exact hv⟩)))
              clear hat2 a2
              rw [rounds_succ]
              go_wp2_with (go_at_call 27; refine (HAT2.out _ (HK0.out.trans (by (repeat (first | exact Kept.refl _ | assumption | refine Kept.alloc ?_ _ | refine Kept.ext ?_ _ | refine Kept.drew ?_ | refine Kept.drewN ?_ _))))).mono ?_; rintro e w1 ⟨u2, tt2, pp2, rfl, x5, rfl⟩)
              refine bodyPost_ret (by simp only [results, Tryd.results9]; go_simp; rfl) rfl ?_
              have hke : Kept w ((wr.setCell ⟨w.heap.size, 0, none⟩ (.slice none 0 0)).setCell ⟨w.heap.size, 1, none⟩ (.slice none 0 0)) := (HK0.out.setCell (p := ⟨w.heap.size, 0, none⟩) (Nat.le_refl _) _).setCell (p := ⟨w.heap.size, 1, none⟩) (Nat.le_refl _) _
              exact ⟨HER.out _, by (repeat (first | exact Kept.refl _ | assumption | refine Kept.alloc ?_ _ | refine Kept.ext ?_ _ | refine Kept.drew ?_ | refine Kept.drewN ?_ _))⟩
          · have _u := 0
            have hat1 : ∀ w', Kept w w' → _ := fun w' hk => sAtoiNoL s1 (HL.out.on hk) (fun v hv => a1 ⟨v, hv⟩)
            have HAT1 := Lib.hid hat1
            have HER := Lib.hid (HBD.out (ln_badA HKEY.out hlt HW.out (j := 1) (by omega) (fun v hv => a1 ⟨v, by rw [← HN1.out]; exact hv⟩)))
            clear hat1 a1
            rw [rounds_succ]
            go_wp2_with (go_at_call 27; refine (HAT1.out _ (HK0.out.trans (by (repeat (first | exact Kept.refl _ | assumption | refine Kept.alloc ?_ _ | refine Kept.ext ?_ _ | refine Kept.drew ?_ | refine Kept.drewN ?_ _))))).mono ?_; rintro e w1 ⟨u1, tt1, pp1, rfl, x4, rfl⟩)
            refine bodyPost_ret (by simp only [results, Tryd.results9]; go_simp; rfl) rfl ?_
            have hke : Kept w ((wr.setCell ⟨w.heap.size, 0, none⟩ (.slice none 0 0)).setCell ⟨w.heap.size, 1, none⟩ (.slice none 0 0)) := (HK0.out.setCell (p := ⟨w.heap.size, 0, none⟩) (Nat.le_refl _) _).setCell (p := ⟨w.heap.size, 1, none⟩) (Nat.le_refl _) _
            exact ⟨HER.out _, by (repeat (first | exact Kept.refl _ | assumption | refine Kept.alloc ?_ _ | refine Kept.ext ?_ _ | refine Kept.drew ?_ | refine Kept.drewN ?_ _))⟩
        · have g2 : ((k : Int) == 4) = false := beq_eq_false_iff_ne.2 (by omega)
          have HER := Lib.hid (HBD.out (ln_bad4 HKEY.out hlt HW.out (by omega)))
          go_wp2_with (go_at_call 25; refine (HSP.out _ (HK0.out.trans (by (repeat (first | exact Kept.refl _ | assumption | refine Kept.alloc ?_ _ | refine Kept.ext ?_ _ | refine Kept.drew ?_ | refine Kept.drewN ?_ _))))).mono ?_; rintro e w1 ⟨gq, rfl, ⟨x2, rfl⟩, hgl, hgq⟩; clear hgl hgq)
          refine bodyPost_ret (by simp only [results, Tryd.results9]; go_simp; rfl) rfl ?_
          have hke : Kept w ((wr.setCell ⟨w.heap.size, 0, none⟩ (.slice none 0 0)).setCell ⟨w.heap.size, 1, none⟩ (.slice none 0 0)) := (HK0.out.setCell (p := ⟨w.heap.size, 0, none⟩) (Nat.le_refl _) _).setCell (p := ⟨w.heap.size, 1, none⟩) (Nat.le_refl _) _
          exact ⟨HER.out _, by (repeat (first | exact Kept.refl _ | assumption | refine Kept.alloc ?_ _ | refine Kept.ext ?_ _ | refine Kept.drew ?_ | refine Kept.drewN ?_ _))⟩
      · obtain rfl : r = ls.length := by omega
        have g1 : decide ((ls.length : Int) < ls.length) = false := decide_eq_false (by omega)
        have hRp := rows_of_owns HM.out.p HIp.out
        have hRf := rows_of_owns HM.out.f HIf.out
        by_cases hex : ∃ n P m F, validE n P m F = 0 ∧ l = gfmt n P m F
        · obtain ⟨n, P, m, F, hv, he⟩ := hex
          have hlen := gL_len n P m F
          rw [← HKEY.out n P m F hv he] at hlen
          obtain ⟨a1, a2, a3, a4⟩ := HA.out.2 n P m F hv he
          obtain rfl : np = n := by omega
          obtain rfl : nf = m := by omega
          have hR1 := hRp.congr a3
          have hR2 := hRf.congr a4
          have hf : ∀ w', Kept wr w' → Calls Tryd.prog 7 #[.agg #[.slice A2 np cp2, .slice B2 nf cq2]] w' fun e w'' => e = .returned (.tuple #[.string ⟨l.toArray⟩, .int .i64 0]) ∧ Kept w' w'' := fun w' hk => (sFmt_any A2 B2 np cp2 nf cq2 P F w' (by omega) (hR1.of hk) (hR2.of hk) (HL.out.on (HK0.out.trans hk))).mono fun e w'' ⟨h1, h2⟩ => ⟨by rw [h1, hv, if_pos rfl, he], h2⟩
          have hfin := fun w' => HGD.out np P nf F A2 cp2 B2 cq2 w' hv he
          have HF := Lib.hid hf
          have HFIN := Lib.hid hfin
          have HR1 := Lib.hid hR1
          have HR2 := Lib.hid hR2
          have HSC := Lib.hid (And.intro ((rows_of_owns (own_sc2 (a' := .slice A2 np cp2) (b' := .slice B2 nf cq2) HM.out.p HM.out.r (by decide)) HIp.out).congr a3) ((rows_of_owns (own_sc2 (a' := .slice A2 np cp2) (b' := .slice B2 nf cq2) HM.out.f HM.out.r (by decide)) HIf.out).congr a4))
          clear hM hG hA hIp hIf hk0 hRp hRf hv hlen a1 a2 a3 a4 hR1 hR2 hf hfin
          go_wp2_with (go_at_call 7; refine (HF.out _ (by (repeat (first | exact Kept.refl _ | assumption | refine Kept.alloc ?_ _ | refine Kept.ext ?_ _ | refine Kept.drew ?_ | refine Kept.drewN ?_ _)))).mono ?_; rintro e w1 ⟨rfl, x2, rfl⟩)
          refine bodyPost_ret (by simp only [results, Tryd.results9]; go_simp; rfl) rfl ?_
          have hke : Kept w ((wr.setCell ⟨w.heap.size, 0, none⟩ (.slice A2 np cp2)).setCell ⟨w.heap.size, 1, none⟩ (.slice B2 nf cq2)) := (HK0.out.setCell (p := ⟨w.heap.size, 0, none⟩) (Nat.le_refl _) _).setCell (p := ⟨w.heap.size, 1, none⟩) (Nat.le_refl _) _
          exact ⟨HFIN.out _ (HSC.out.1.of (by (repeat (first | exact Kept.refl _ | assumption | refine Kept.alloc ?_ _ | refine Kept.ext ?_ _ | refine Kept.drew ?_ | refine Kept.drewN ?_ _)))) (HSC.out.2.of (by (repeat (first | exact Kept.refl _ | assumption | refine Kept.alloc ?_ _ | refine Kept.ext ?_ _ | refine Kept.drew ?_ | refine Kept.drewN ?_ _)))), by (repeat (first | exact Kept.refl _ | assumption | refine Kept.alloc ?_ _ | refine Kept.ext ?_ _ | refine Kept.drew ?_ | refine Kept.drewN ?_ _))⟩
        · have hbad : ∀ n P m F, validE n P m F = 0 → l ≠ gfmt n P m F := fun n P m F h1 h2 => hex ⟨n, P, m, F, h1, h2⟩
          have HER := Lib.hid (HBD.out hbad)
          obtain ⟨s, hs⟩ : ∃ s, (if validE np p nf f = 0 then gfmt np p nf f else []) = s := ⟨_, rfl⟩
          obtain ⟨c, hc⟩ : ∃ c, validE np p nf f = c := ⟨_, rfl⟩
          have hf : ∀ w', Kept wr w' → Calls Tryd.prog 7 #[.agg #[.slice A2 np cp2, .slice B2 nf cq2]] w' fun e w'' => e = .returned (.tuple #[.string ⟨s.toArray⟩, .int .i64 c]) ∧ Kept w' w'' := fun w' hk => (sFmt_any A2 B2 np cp2 nf cq2 p f w' (by omega) (hRp.of hk) (hRf.of hk) (HL.out.on (HK0.out.trans hk))).mono fun e w'' ⟨h1, h2⟩ => ⟨by rw [h1, hs, hc], h2⟩
          have HF := Lib.hid hf
          by_cases hv : c = 0
          · subst hv
            have gs : (s == l) = false := beq_eq_false_iff_ne.2 fun e => by
              rw [hc, if_pos rfl] at hs
              exact hbad _ _ _ _ hc (by rw [hs, e])
            clear hM hG hA hIp hIf hk0 hRp hRf hs hc hf hbad hex
            go_wp2_with (go_at_call 7; refine (HF.out _ (by (repeat (first | exact Kept.refl _ | assumption | refine Kept.alloc ?_ _ | refine Kept.ext ?_ _ | refine Kept.drew ?_ | refine Kept.drewN ?_ _)))).mono ?_; rintro e w1 ⟨rfl, x2, rfl⟩)
            refine bodyPost_ret (by simp only [results, Tryd.results9]; go_simp; rfl) rfl ?_
            have hke : Kept w ((wr.setCell ⟨w.heap.size, 0, none⟩ (.slice none 0 0)).setCell ⟨w.heap.size, 1, none⟩ (.slice none 0 0)) := (HK0.out.setCell (p := ⟨w.heap.size, 0, none⟩) (Nat.le_refl _) _).setCell (p := ⟨w.heap.size, 1, none⟩) (Nat.le_refl _) _
            exact ⟨HER.out _, by (repeat (first | exact Kept.refl _ | assumption | refine Kept.alloc ?_ _ | refine Kept.ext ?_ _ | refine Kept.drew ?_ | refine Kept.drewN ?_ _))⟩
          · have gc : (c == 0) = false := beq_eq_false_iff_ne.2 hv
            clear hM hG hA hIp hIf hk0 hRp hRf hs hc hf hbad hex
            go_wp2_with (go_at_call 7; refine (HF.out _ (by (repeat (first | exact Kept.refl _ | assumption | refine Kept.alloc ?_ _ | refine Kept.ext ?_ _ | refine Kept.drew ?_ | refine Kept.drewN ?_ _)))).mono ?_; rintro e w1 ⟨rfl, x2, rfl⟩)
            refine bodyPost_ret (by simp only [results, Tryd.results9]; go_simp; rfl) rfl ?_
            have hke : Kept w ((wr.setCell ⟨w.heap.size, 0, none⟩ (.slice none 0 0)).setCell ⟨w.heap.size, 1, none⟩ (.slice none 0 0)) := (HK0.out.setCell (p := ⟨w.heap.size, 0, none⟩) (Nat.le_refl _) _).setCell (p := ⟨w.heap.size, 1, none⟩) (Nat.le_refl _) _
            exact ⟨HER.out _, by (repeat (first | exact Kept.refl _ | assumption | refine Kept.alloc ?_ _ | refine Kept.ext ?_ _ | refine Kept.drew ?_ | refine Kept.drewN ?_ _))⟩
end Go.Proofs.YtbefphfgcbbcpaaDoor
