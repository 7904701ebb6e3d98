/- For every input the statement MomentUnites returns true and leaves its arguments as they were. No conditions. -/
import Derived.Test.YtiedpdlbjjjpeaaUni
namespace Go.Proofs.Ytiedpdlbjjjpeaa
set_option linter.unusedVariables false
set_option linter.unusedSimpArgs false
open Go.ChangeShapes Go.WideShapes Go.ChangeAt Go.RowKit
attribute [local go_sem ↓] Go.wp_at_zero Go.wp_at_succ
theorem of_ok4 {n : Nat} {f : Nat → Nat → Int} {c0 c1 c2 : Int} (h : givE n f c0 c1 c2 = 0) : ofM n f c0 c1 c2 = ⟨momF f c0 c1 c2 n, 0⟩ := if_pos h
theorem of_bad4 {n : Nat} {f : Nat → Nat → Int} {c0 c1 c2 : Int} (h : givE n f c0 c1 c2 ≠ 0) : ((ofM n f c0 c1 c2).e != 0) = true := by
  unfold ofM
  rw [if_neg h]
  simpa using h
set_option maxRecDepth 100000 in
set_option maxHeartbeats 16000000 in
theorem unites_law (A : Option Addr) (n cap : Nat) (f : Nat → Nat → Int) (B : Option Addr) (m capB : Nat) (g : Nat → Nat → Int) (c0 c1 c2 : Int) (w : World) (h : n ≤ cap ∧ cap ≤ maxLen ∧ RowsAt w A n 10 f) (k : m ≤ capB ∧ capB ≤ maxLen ∧ RowsAt w B m 10 g) :
    Calls Try.prog 7 #[.slice A n cap, .slice B m capB, .agg #[.int .i64 c0, .int .i64 c1, .int .i64 c2]] w fun r w' => r = .returned (.bool true) ∧ Kept w w' := by
  obtain ⟨h1, h2, h3⟩ := h
  obtain ⟨k1, k2, k3⟩ := k
  unfold maxLen at h2 k2
  have HS := Lib.hid h3
  have HT := Lib.hid k3
  clear h3 k3
  by_cases g1 : givE n f c0 c1 c2 = 0
  · by_cases g2 : givE m g c0 c1 c2 = 0
    · obtain ⟨na, n1, -⟩ := givE_ok g1
      obtain ⟨nb, n2, -⟩ := givE_ok g2
      by_cases hnm : 96 < n + m
      · clear g1 g2
        go_enter Try.func7, Try.ntmps7
        go_wp2_with (first | (go_at_call 15; refine (sane_any _).mono ?_; rintro e w1 ⟨rfl, x, rfl⟩))
        go_ret
        exact ⟨rfl, by (repeat (first | exact Kept.refl _ | assumption | refine Kept.alloc ?_ _ | refine Kept.ext ?_ _ | refine Kept.drew ?_ | refine Kept.drewN ?_ _))⟩
      have N1 := Lib.hid n1
      have N2 := Lib.hid n2
      obtain ⟨e3, e4⟩ := unites (by omega) g1 g2
      have e4' : addM ⟨(momF f c0 c1 c2 n).q, (momF f c0 c1 c2 n).t, (momF f c0 c1 c2 n).x, (momF f c0 c1 c2 n).y, (momF f c0 c1 c2 n).z, (momF f c0 c1 c2 n).a, (momF f c0 c1 c2 n).b, (momF f c0 c1 c2 n).c, (momF f c0 c1 c2 n).d, (momF f c0 c1 c2 n).e, (momF f c0 c1 c2 n).f⟩ ⟨(momF g c0 c1 c2 m).q, (momF g c0 c1 c2 m).t, (momF g c0 c1 c2 m).x, (momF g c0 c1 c2 m).y, (momF g c0 c1 c2 m).z, (momF g c0 c1 c2 m).a, (momF g c0 c1 c2 m).b, (momF g c0 c1 c2 m).c, (momF g c0 c1 c2 m).d, (momF g c0 c1 c2 m).e, (momF g c0 c1 c2 m).f⟩ = _ := e4
      have e1 := of_ok4 g1
      have e2 := of_ok4 g2
      clear g1 g2 n1 n2 e4
      obtain ⟨i0, hi, hz0, hz1, hz2⟩ := info_parts infoCh
      have HI := Lib.hid (And.intro hi (And.intro hz0 (And.intro hz1 hz2)))
      clear hi hz0 hz1 hz2
      go_enter Try.func7, Try.ntmps7
      go_wp2_with fail
      refine (mof_any _ _ _ f _ _ _ _ (by omega) (HS.out.of (by (repeat (first | exact Kept.refl _ | assumption | refine Kept.alloc ?_ _ | refine Kept.ext ?_ _ | refine Kept.drew ?_ | refine Kept.drewN ?_ _))))).mono ?_
      rintro r w1 ⟨rfl, x1, rfl⟩
      go_wp2_with fail
      refine (mof_any _ _ _ g _ _ _ _ (by omega) (HT.out.of (by (repeat (first | exact Kept.refl _ | assumption | refine Kept.alloc ?_ _ | refine Kept.ext ?_ _ | refine Kept.drew ?_ | refine Kept.drewN ?_ _))))).mono ?_
      rintro r w1 ⟨rfl, x2, rfl⟩
      go_wp2_with fail
      refine wp_gen (fun WB hWB => ?_)
      have hcell : ∀ W, Kept WB W → W.cell? ⟨w.heap.size, 0, none⟩ = some (.int .i64 c0) ∧ W.cell? ⟨w.heap.size, 1, none⟩ = some (.int .i64 c1) ∧ W.cell? ⟨w.heap.size, 2, none⟩ = some (.int .i64 c2) ∧ w.heap.size < W.heap.size := by
        subst hWB
        rintro W ⟨y, rfl⟩
        refine ⟨by go_simp, by go_simp, by go_simp, low⟩
      have HW := Lib.hid hWB
      clear hWB
      have hrw : ∀ w', Kept WB w' → RowsAt w' A n 10 f ∧ RowsAt w' B m 10 g := fun w' hk => by
        have hW := HW.out
        subst hW
        exact ⟨(HS.out.of (by (repeat (first | exact Kept.refl _ | assumption | refine Kept.alloc ?_ _ | refine Kept.ext ?_ _ | refine Kept.drew ?_ | refine Kept.drewN ?_ _)))).of hk, (HT.out.of (by (repeat (first | exact Kept.refl _ | assumption | refine Kept.alloc ?_ _ | refine Kept.ext ?_ _ | refine Kept.drew ?_ | refine Kept.drewN ?_ _)))).of hk⟩
      refine wp_region_tell (w := WB) [.s, .q, .s, .q, .s, .q, .k (.tuple #[.agg #[.int .i64 (sumM (momF f c0 c1 c2 n) (momF g c0 c1 c2 m)).q, .int .i64 (sumM (momF f c0 c1 c2 n) (momF g c0 c1 c2 m)).t, .int .i64 (sumM (momF f c0 c1 c2 n) (momF g c0 c1 c2 m)).x, .int .i64 (sumM (momF f c0 c1 c2 n) (momF g c0 c1 c2 m)).y, .int .i64 (sumM (momF f c0 c1 c2 n) (momF g c0 c1 c2 m)).z, .int .i64 (sumM (momF f c0 c1 c2 n) (momF g c0 c1 c2 m)).a, .int .i64 (sumM (momF f c0 c1 c2 n) (momF g c0 c1 c2 m)).b, .int .i64 (sumM (momF f c0 c1 c2 n) (momF g c0 c1 c2 m)).c, .int .i64 (sumM (momF f c0 c1 c2 n) (momF g c0 c1 c2 m)).d, .int .i64 (sumM (momF f c0 c1 c2 n) (momF g c0 c1 c2 m)).e, .int .i64 (sumM (momF f c0 c1 c2 n) (momF g c0 c1 c2 m)).f], .int .i64 0]), .q, .q, .q, .s, .s, .q]
        (UI WB 40 26 #[.int .i64 0, .int .i64 0, .int .i64 0, .int .i64 0, .int .i64 0, .int .i64 0, .int .i64 0, .int .i64 0, .int .i64 0, .int .i64 0, .int .i64 0] #[.int .i64 ((sumM (momF f c0 c1 c2 n) (momF g c0 c1 c2 m)).q), .int .i64 ((sumM (momF f c0 c1 c2 n) (momF g c0 c1 c2 m)).t), .int .i64 ((sumM (momF f c0 c1 c2 n) (momF g c0 c1 c2 m)).x), .int .i64 ((sumM (momF f c0 c1 c2 n) (momF g c0 c1 c2 m)).y), .int .i64 ((sumM (momF f c0 c1 c2 n) (momF g c0 c1 c2 m)).z), .int .i64 ((sumM (momF f c0 c1 c2 n) (momF g c0 c1 c2 m)).a), .int .i64 ((sumM (momF f c0 c1 c2 n) (momF g c0 c1 c2 m)).b), .int .i64 ((sumM (momF f c0 c1 c2 n) (momF g c0 c1 c2 m)).c), .int .i64 ((sumM (momF f c0 c1 c2 n) (momF g c0 c1 c2 m)).d), .int .i64 ((sumM (momF f c0 c1 c2 n) (momF g c0 c1 c2 m)).e), .int .i64 ((sumM (momF f c0 c1 c2 n) (momF g c0 c1 c2 m)).f)] n m f g)
        (by kernel_rfl) (by kernel_rfl) (fun b => by kernel_rfl) ?_ ?_ ?_ ?_
      · intro b
        exact ⟨(Kept.refl _).drew, fun h => (by cases h), fun h => (by cases h), fun h => (by cases h), fun h => (by cases h), fun h => (by cases h), fun h => (by cases h)⟩
      · intro i L b w' w'' hs hI hk
        exact (hI.on hk).other (by rintro rfl; cases hs) (by rintro rfl; cases hs) (by rintro rfl; cases hs) (by rintro rfl; cases hs) (by rintro rfl; cases hs) (by rintro rfl; cases hs)
      · exact fun L b w' h => h.kept
      apply Exists.intro
      refine ⟨?_, ?_, ?_, ?_⟩
      · intro b W hk
        obtain ⟨k0, k1, k2, k4⟩ := hcell W hk
        haveI : Lower w.heap.size W.heap.size := ⟨k4⟩
        simp only [swapL, Nat.reduceAdd]
        repeat (go_big_quiet_step (fail))
        refine wpQuiet_nil ?_
        rfl
      · simp only [EachS, and_true]
        refine ⟨?_, ?_, ?_, ?_, ?_, ?_⟩
        · intro L b w' hd hL hI
          go_simp
          exact ⟨rfl, hI.op0 hL⟩
        · intro L b w' hd hL hI
          have d0 : L 0 = true := hd { on := 0, ground := .data } (by simp) rfl
          have hs := (hI.s0 d0 hL).1
          refine tells_append _ _ _ (by rfl) WB.heap.size 40 i0 _ 10 80 Try.underlying32 HI.out.1 HI.out.2.1 HI.out.2.2.1 HI.out.2.2.2 (by rfl) (by omega) (kept_le hI.kept) _ 0 [] (by rfl) hs _ n _ f (by rfl) (hrw w' hI.kept).1 (by unfold maxLen; omega) (by omega) ?_
          intro v' w'' k1 k2 k3
          simp only [Nat.zero_add, List.nil_append] at k1
          exact ⟨rfl, hI.op2 d0 hL k1 k2 k3⟩
        · intro L b w' hd hL hI
          have d2 : L 2 = true := hd { on := 2, ground := .data } (by simp) rfl
          have hs := (hI.s2 d2 hL).1
          refine tells_append _ _ _ (by rfl) WB.heap.size 40 i0 _ 10 80 Try.underlying32 HI.out.1 HI.out.2.1 HI.out.2.2.1 HI.out.2.2.2 (by rfl) (by omega) (kept_le hI.kept) _ n _ (by rfl) hs _ m _ g (by rfl) (hrw w' hI.kept).2 (by unfold maxLen; omega) (by omega) ?_
          intro v' w'' k1 k2 k3
          exact ⟨rfl, hI.op4 d2 hL k1 k2 k3⟩
        · intro L b w' hd hL hI
          have d4 : L 4 = true := hd { on := 4, ground := .data } (by simp) rfl
          have hs := own_cat (hI.s4 d4 hL).1
          obtain ⟨A4, cp4, e4⟩ := own_slice2 hs
          rw [e4] at hs
          go_simp
          refine (mof_any A4 (n + m) cp4 (catF n f g) c0 c1 c2 w' (by omega) (rows_of_owns hs (catF_I N1.out N2.out))).mono ?_
          rintro e w1 ⟨he, hk⟩
          refine ⟨_, he, ?_, (hI.op6).on hk⟩
          rw [e3]
          rfl
        · intro L b w' hd hL hI
          go_simp
          exact ⟨rfl, hI.op10 hL⟩
        · intro L b w' hd hL hI
          have d2 : L 2 = true := hd { on := 2, ground := .phase } (by simp) rfl
          have d4 : L 4 = true := hd { on := 4, ground := .phase } (by simp) rfl
          have d6 : L 6 = true := hd { on := 6, ground := .phase } (by simp) rfl
          have d10 : L 10 = true := hd { on := 10, ground := .phase } (by simp) rfl
          obtain ⟨q, e5, e6, e7⟩ := hI.p d10
          rw [hL] at e7
          simp only [Bool.false_eq_true, if_false] at e7
          refine tells_store 26 (.tmp 11) (.tmp 49) (by rfl) q _ e5 (by rfl) _ _ e7 (by kernel_rfl) (by rfl) (by kernel_rfl) ?_
          refine ⟨rfl, hI.op11 d2 d4 d6 d10 ?_⟩
          intro k hk hle
          have e8 := e5.symm.trans hk
          simp only [Value.pointer.injEq, Option.some.injEq, Addr.mk.injEq, and_true] at e8
          subst e8
          exact ⟨row_kept hI.kept e6, row_new e7⟩
      · intro b b' d hd
        simp [callSlots, dullOp] at hd
      · intro L b w' hL hI
        obtain ⟨q, e5, e6, e7⟩ := hI.p (hL 10 (by decide))
        obtain ⟨y, rfl⟩ := hI.kept
        rw [if_pos (hL 11 (by decide))] at e7
        obtain ⟨i1, rfl, hh, hl, hc, hf⟩ := late_block e7 e6
        have hW := HW.out
        subst hW
        simp only [e5]
        go_wp2_with (first | (go_at_call 24; refine (madd_any _ _ _ _ _ _ _ _ _ _ _ _ _ _ _ _ _ _ _ _ _ _ _).mono ?_; rintro e w1 ⟨rfl, x, rfl⟩) | (go_at_call 15; refine (sane_any _).mono ?_; rintro e w1 ⟨rfl, x, rfl⟩))
        go_ret
        exact ⟨rfl, by (repeat (first | exact Kept.refl _ | assumption | refine Kept.alloc ?_ _ | refine Kept.ext ?_ _ | refine Kept.drew ?_ | refine Kept.drewN ?_ _))⟩
    · have e1 := of_ok4 g1
      have e2 := of_bad4 g2
      clear g1 g2
      cases hb : decide (96 < wrap64 ((n : Int) + (m : Int)))
      · go_enter Try.func7, Try.ntmps7
        go_wp2_with fail
        refine (mof_any _ _ _ f _ _ _ _ (by omega) (HS.out.of (by (repeat (first | exact Kept.refl _ | assumption | refine Kept.alloc ?_ _ | refine Kept.ext ?_ _ | refine Kept.drew ?_ | refine Kept.drewN ?_ _))))).mono ?_
        rintro r w1 ⟨rfl, x1, rfl⟩
        go_wp2_with fail
        refine (mof_any _ _ _ g _ _ _ _ (by omega) (HT.out.of (by (repeat (first | exact Kept.refl _ | assumption | refine Kept.alloc ?_ _ | refine Kept.ext ?_ _ | refine Kept.drew ?_ | refine Kept.drewN ?_ _))))).mono ?_
        rintro r w1 ⟨rfl, x2, rfl⟩
        go_wp2_with (first | (go_at_call 15; refine (sane_any _).mono ?_; rintro e w1 ⟨rfl, x, rfl⟩))
        go_ret
        exact ⟨rfl, by (repeat (first | exact Kept.refl _ | assumption | refine Kept.alloc ?_ _ | refine Kept.ext ?_ _ | refine Kept.drew ?_ | refine Kept.drewN ?_ _))⟩
      · go_enter Try.func7, Try.ntmps7
        go_wp2_with (first | (go_at_call 15; refine (sane_any _).mono ?_; rintro e w1 ⟨rfl, x, rfl⟩))
        go_ret
        exact ⟨rfl, by (repeat (first | exact Kept.refl _ | assumption | refine Kept.alloc ?_ _ | refine Kept.ext ?_ _ | refine Kept.drew ?_ | refine Kept.drewN ?_ _))⟩
  · have e1 := of_bad4 g1
    clear g1
    cases hb : decide (96 < wrap64 ((n : Int) + (m : Int)))
    · go_enter Try.func7, Try.ntmps7
      go_wp2_with fail
      refine (mof_any _ _ _ f _ _ _ _ (by omega) (HS.out.of (by (repeat (first | exact Kept.refl _ | assumption | refine Kept.alloc ?_ _ | refine Kept.ext ?_ _ | refine Kept.drew ?_ | refine Kept.drewN ?_ _))))).mono ?_
      rintro r w1 ⟨rfl, x1, rfl⟩
      go_wp2_with fail
      refine (mof_any _ _ _ g _ _ _ _ (by omega) (HT.out.of (by (repeat (first | exact Kept.refl _ | assumption | refine Kept.alloc ?_ _ | refine Kept.ext ?_ _ | refine Kept.drew ?_ | refine Kept.drewN ?_ _))))).mono ?_
      rintro r w1 ⟨rfl, x2, rfl⟩
      go_wp2_with (first | (go_at_call 15; refine (sane_any _).mono ?_; rintro e w1 ⟨rfl, x, rfl⟩))
      go_ret
      exact ⟨rfl, by (repeat (first | exact Kept.refl _ | assumption | refine Kept.alloc ?_ _ | refine Kept.ext ?_ _ | refine Kept.drew ?_ | refine Kept.drewN ?_ _))⟩
    · go_enter Try.func7, Try.ntmps7
      go_wp2_with (first | (go_at_call 15; refine (sane_any _).mono ?_; rintro e w1 ⟨rfl, x, rfl⟩))
      go_ret
      exact ⟨rfl, by (repeat (first | exact Kept.refl _ | assumption | refine Kept.alloc ?_ _ | refine Kept.ext ?_ _ | refine Kept.drew ?_ | refine Kept.drewN ?_ _))⟩
theorem ownMomentUnites : ownKnob Try.prog.godebug = none := by kernel_rfl
theorem laidOutMomentUnites : laidOutB Try.prog = true := by kernel_rfl
set_option linter.unusedVariables false in
set_option maxRecDepth 100000 in
theorem liftedMomentUnites (os : Os) (started : os.Started) (H : Type) (enc : TypeId × Value → H) :
    ReturnsInHanded {} Try.checked os 7 .any (Rows.momentUnitesSpec.pre6 enc Try.prog Try.f7 Rows.momentUnitesRow.domain false) (Rows.momentUnitesSpec.post enc Try.prog Try.f7 false true false false) := by
  refine returnsInHanded_of_change (C := Try.checked) ownMomentUnites started (by kernel_rfl) Try.func7
    (ChangeSpec.witness6 (enc := enc) (C := Try.checked) false ⟨#[], #[.slice none 0 0, .slice none 0 0, .agg #[.int .i64 0, .int .i64 0, .int .i64 0]], []⟩ 8 (by kernel_rfl) (by kernel_rfl) (by kernel_rfl) (by kernel_rfl)) ?_
  intro W base args ds gs before hval0 hW hcnd _
  have hval : ∀ (j : Nat) t v, Try.f7.params[j]? = some t → args[j]? = some v → Value.okWide Try.prog W .any base t v := hval0
  have hW' := hW
  obtain ⟨p, q, hA0, hV, rfl, hfz, hnd⟩ := hW
  have hA : DataW.TrodAll enc Try.prog W 0 (fun _ => true) true Try.f7.params.toList args.toList ds p := hA0
  rw [Try.params7] at hA hval
  obtain ⟨v0, vs0, d0, ds0, p0, q0, hargs, rfl, rfl, h0, r0⟩ := trodAll_cons hA
  obtain ⟨v1, vs1, d1, ds1, p1, q1, rfl, rfl, rfl, h1, r1⟩ := trodAll_cons r0
  obtain ⟨v2, vs2, d2, ds2, p2, q2, rfl, rfl, rfl, h2, r2⟩ := trodAll_cons r1
  obtain ⟨rfl, rfl, rfl⟩ := trodAll_nil r2
  obtain rfl : args = #[v0, v1, v2] := by cases args; simp_all
  obtain ⟨rfl, rfl⟩ := trodVars_none hV
  have lt0 : ∀ x ∈ p0, x.block < W.heap.size := by obtain ⟨m, hm⟩ := h0; exact DataW.trod_lt m _ _ _ hm
  obtain ⟨A0, n0, cap0, f0, rfl, hl0, hm0, hr0⟩ := open_rows 10 Try.underlying32 (by kernel_rfl) (by decide) (by kernel_rfl) (hval 0 32 v0 rfl rfl) h0 lt0
  have lt1 : ∀ x ∈ p1, x.block < W.heap.size := by obtain ⟨m, hm⟩ := h1; exact DataW.trod_lt m _ _ _ hm
  obtain ⟨A1, n1, cap1, f1, rfl, hl1, hm1, hr1⟩ := open_rows 10 Try.underlying32 (by kernel_rfl) (by decide) (by kernel_rfl) (hval 1 32 v1 rfl rfl) h1 lt1
  have lt2 : ∀ x ∈ p2, x.block < W.heap.size := by obtain ⟨m, hm⟩ := h2; exact DataW.trod_lt m _ _ _ hm
  obtain ⟨l2, rfl, e2, b2⟩ := open_agg_ints 3 (by kernel_rfl) (by kernel_rfl) (ts := [3, 3, 3]) (by kernel_rfl) (by intro u hu; simp at hu; subst hu; exact Try.underlying3) (hval 2 23 v2 rfl rfl)
  obtain ⟨z2_0, z2_1, z2_2, rfl⟩ := len3 e2
  simp only [List.map_cons, List.map_nil] at *
  simp only [List.mem_cons, List.not_mem_nil, or_false, forall_eq_or_imp, forall_eq] at b2
  clear hA0 hval0
  refine (unites_law A0 n0 cap0 f0 A1 n1 cap1 f1 z2_0 z2_1 z2_2 W ⟨hl0, hm0, hr0⟩ ⟨hl1, hm1, hr1⟩).mono fun e W' ⟨he, hk⟩ => ?_
  subst he
  have bel := hk.below
  exact ⟨_, rfl, _, _, _, [], _, [], hW', trodAll_mk1 (shut_bool Try.underlying4 _), (trodAll_cons_mk (Below.trod laidOutMomentUnites (by kernel_rfl) (of_decide_eq_true (by kernel_rfl)) h0 bel lt0) (trodAll_cons_mk (Below.trod laidOutMomentUnites (by kernel_rfl) (of_decide_eq_true (by kernel_rfl)) h1 bel lt1) (trodAll_cons_mk (Below.trod laidOutMomentUnites (by kernel_rfl) (of_decide_eq_true (by kernel_rfl)) h2 bel lt2) trodAll_mk0))), rfl, bel.frame _, fun h => by cases h⟩
/-- For every input the statement MomentUnites returns true, and each argument reads afterwards as it read before. -/
theorem momentUnites_holds : Rows.MomentUnitesSaid :=
  OpenClaim.holds_of_wide 7 Try.f7 rfl rfl rfl rfl rfl rfl rfl ⟨rfl, rfl, rfl, rfl, rfl⟩ rfl rfl rfl rfl rfl (by kernel_rfl) Try.func7 (by kernel_rfl)
    (of_decide_eq_true (by kernel_rfl)) (by unfold Func.isWrapper; first | (rw [if_pos (by decide +kernel)]; kernel_rfl) | (rw [if_neg (by decide +kernel)]; exact ⟨rfl, rfl⟩))
    (fun os started H enc _ => liftedMomentUnites os started H enc)
#print axioms momentUnites_holds

end Go.Proofs.Ytiedpdlbjjjpeaa
