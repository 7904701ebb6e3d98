/- Contract: the moments of charged panels about a center, of the reference. No conditions but those of each theorem. -/
import Derived.Test.YtiedpdlbjjjpeaaMof
import Derived.Test.YtiedpdlbjjjpeaaFrs
namespace Go.Proofs.Ytiedpdlbjjjpeaa
set_option linter.unusedVariables false
set_option linter.unusedSimpArgs false
open Go.ChangeShapes Go.WideShapes Go.ChangeAt Go.RowKit
attribute [local go_sem ↓] Go.wp_at_zero Go.wp_at_succ
theorem prod3 {q x y : Int} (hq : -100 ≤ q ∧ q ≤ 100) (hx : -384 ≤ x ∧ x ≤ 384) (hy : -384 ≤ y ∧ y ≤ 384) : (-38400 ≤ q * x ∧ q * x ≤ 38400) ∧ (-14745600 ≤ q * x * y ∧ q * x * y ≤ 14745600) := by
  have h := mul_bd (a := q) (b := x) (A := 100) (B := 384) 38400 hq hx rfl
  exact ⟨h, mul_bd (a := q * x) (b := y) (A := 38400) (B := 384) 14745600 h hy rfl⟩
set_option maxRecDepth 100000 in
set_option maxHeartbeats 4000000 in
theorem r4prod_any (x y z k : Int) (w : World) (h : (-384 ≤ x ∧ x ≤ 384) ∧ (-384 ≤ y ∧ y ≤ 384) ∧ (-384 ≤ z ∧ z ≤ 384) ∧ (-100 ≤ k ∧ k ≤ 100)) :
    Calls Try.prog 53 #[.agg #[.int .i64 x, .int .i64 y, .int .i64 z], .int .i64 k] w fun r w' => r = .returned (.agg #[.int .i64 (k * x * x), .int .i64 (k * x * y), .int .i64 (k * x * z), .int .i64 (k * y * y), .int .i64 (k * y * z), .int .i64 (k * z * z)]) ∧ Kept w w' := by
  obtain ⟨hx, hy, hz, hk⟩ := h
  have p0 := prod3 hk hx hx
  have p1 := prod3 hk hx hy
  have p2 := prod3 hk hx hz
  have p3 := prod3 hk hy hy
  have p4 := prod3 hk hy hz
  have p5 := prod3 hk hz hz
  go_enter Try.func53, Try.ntmps53
  go_wp2_with fail
  refine bodyPost_ret (by simp only [results, Try.results53]; go_simp; rfl) rfl ?_
  exact ⟨rfl, by (repeat (first | exact Kept.refl _ | assumption | refine Kept.alloc ?_ _ | refine Kept.ext ?_ _ | refine Kept.drew ?_ | refine Kept.drewN ?_ _))⟩
theorem ref_add {m0 m1 m2 m3 m4 m5 m6 m7 m8 m9 m10 q a0 a1 a2 a3 a4 a5 a6 a7 a8 s0 s1 s2 : Int} (h0 : a0 + (a3 + a6) = s0) (h1 : a1 + (a4 + a7) = s1) (h2 : a2 + (a5 + a8) = s2) : (⟨m0 + q, m1 + max q (-q), m2 + q * s0, m3 + q * s1, m4 + q * s2, m5 + (q * a0 * a0 + q * a3 * a3 + (q * a6 * a6 + q * s0 * s0)), m6 + (q * a0 * a1 + q * a3 * a4 + (q * a6 * a7 + q * s0 * s1)), m7 + (q * a0 * a2 + q * a3 * a5 + (q * a6 * a8 + q * s0 * s2)), m8 + (q * a1 * a1 + q * a4 * a4 + (q * a7 * a7 + q * s1 * s1)), m9 + (q * a1 * a2 + q * a4 * a5 + (q * a7 * a8 + q * s1 * s2)), m10 + (q * a2 * a2 + q * a5 * a5 + (q * a8 * a8 + q * s2 * s2))⟩ : Mo) = addA ⟨m0, m1, m2, m3, m4, m5, m6, m7, m8, m9, m10⟩ q a0 a1 a2 a3 a4 a5 a6 a7 a8 := by
  subst h0 h1 h2
  unfold addA
  simp only [Mo.mk.injEq]
  refine ⟨trivial, trivial, ?_, ?_, ?_, ?_, ?_, ?_, ?_, ?_, ?_⟩ <;> grind
set_option maxRecDepth 100000 in
set_option maxHeartbeats 40000000 in
theorem r4of_any (A : Option Addr) (n cap : Nat) (f : Nat → Nat → Int) (c0 c1 c2 : Int) (w : World) (hn : n ≤ 9223372036854775807) (hs : RowsAt w A n 10 f) :
    Calls Try.prog 21 #[.slice A n cap, .agg #[.int .i64 c0, .int .i64 c1, .int .i64 c2]] w fun r w' => r = .returned (.tuple #[.agg #[.int .i64 ((ofM n f c0 c1 c2).m).q, .int .i64 ((ofM n f c0 c1 c2).m).t, .int .i64 ((ofM n f c0 c1 c2).m).x, .int .i64 ((ofM n f c0 c1 c2).m).y, .int .i64 ((ofM n f c0 c1 c2).m).z, .int .i64 ((ofM n f c0 c1 c2).m).a, .int .i64 ((ofM n f c0 c1 c2).m).b, .int .i64 ((ofM n f c0 c1 c2).m).c, .int .i64 ((ofM n f c0 c1 c2).m).d, .int .i64 ((ofM n f c0 c1 c2).m).e, .int .i64 ((ofM n f c0 c1 c2).m).f], .int .i64 (ofM n f c0 c1 c2).e]) ∧ Kept w w' := by
  have HS := Lib.hid hs
  by_cases v0 : givE n f c0 c1 c2 = 0
  · have e : ofM n f c0 c1 c2 = ⟨momF f c0 c1 c2 n, 0⟩ := if_pos v0
    rw [e]
    clear e
    obtain ⟨n0, n1, n2⟩ := givE_ok v0
    have N1 := Lib.hid n1
    have N2 := Lib.hid n2
    have bc := inB_true n2
    have g1 : (givE n f c0 c1 c2 != 0) = false := by simpa using v0
    clear v0 n1 n2
    rcases Nat.eq_zero_or_pos n with rfl | h0
    · clear hs
      go_enter Try.func21, Try.ntmps21
      go_wp2_with fail
      refine (r4given_any _ _ _ f _ _ _ _ (by omega) (HS.out.of (by (repeat (first | exact Kept.refl _ | assumption | refine Kept.alloc ?_ _ | refine Kept.ext ?_ _ | refine Kept.drew ?_ | refine Kept.drewN ?_ _))))).mono ?_
      rintro e w1 ⟨rfl, x0, rfl⟩
      go_wp2_with fail
      refine wp_loop_rounds 1 ?_
      rw [rounds_succ]
      go_wp2_with fail
      refine bodyPost_ret (by simp only [results, Try.results21]; go_simp; rfl) rfl ?_
      exact ⟨rfl, by (repeat (first | exact Kept.refl _ | assumption | refine Kept.alloc ?_ _ | refine Kept.ext ?_ _ | refine Kept.drew ?_ | refine Kept.drewN ?_ _))⟩
    · obtain ⟨b, off, rfl, hb, hcell⟩ := hs h0
      have HC := Lib.hid hcell
      clear hs hcell
      have LB : Lower b w.heap.size := ⟨hb⟩
      go_enter Try.func21, Try.ntmps21
      go_wp2_with fail
      refine (r4given_any _ _ _ f _ _ _ _ (by omega) (HS.out.of (by (repeat (first | exact Kept.refl _ | assumption | refine Kept.alloc ?_ _ | refine Kept.ext ?_ _ | refine Kept.drew ?_ | refine Kept.drewN ?_ _))))).mono ?_
      rintro e w1 ⟨rfl, x0, rfl⟩
      go_wp2_with fail
      go_loopw [8] (fun i wr => ∃ k : Nat, k ≤ n ∧ i = .int .i64 k ∧ ∃ m0 m1 m2 m3 m4 m5 m6 m7 m8 m9 m10 : Int, (⟨m0, m1, m2, m3, m4, m5, m6, m7, m8, m9, m10⟩ : Mo) = momF f c0 c1 c2 k ∧ Kept (World.alloc (ext ((w.alloc (.cells #[.int .i64 c0, .int .i64 c1, .int .i64 c2] 23)).alloc (.cells #[.int .i64 0, .int .i64 0, .int .i64 0, .int .i64 0, .int .i64 0, .int .i64 0, .int .i64 0, .int .i64 0, .int .i64 0, .int .i64 0, .int .i64 0] 26)) x0) (.cells #[.int .i64 m0, .int .i64 m1, .int .i64 m2, .int .i64 m3, .int .i64 m4, .int .i64 m5, .int .i64 m6, .int .i64 m7, .int .i64 m8, .int .i64 m9, .int .i64 m10] 26)) wr) (fun i _ => n - (intOf i).toNat)
      case atStart => exact ⟨0, by omega, rfl, 0, 0, 0, 0, 0, 0, 0, 0, 0, 0, 0, rfl, by (repeat (first | exact Kept.refl _ | assumption | refine Kept.alloc ?_ _ | refine Kept.ext ?_ _ | refine Kept.drew ?_ | refine Kept.drewN ?_ _))⟩
      case round =>
        obtain ⟨k, hk, rfl, m0, m1, m2, m3, m4, m5, m6, m7, m8, m9, m10, hm, y, rfl⟩ := hrel
        by_cases hlt : k < n
        · have hcell := HC.out
          have cx0 := (hcell k hlt 0 (by omega)).1
          have cx1 := (hcell k hlt 1 (by omega)).1
          have cx2 := (hcell k hlt 2 (by omega)).1
          have cx3 := (hcell k hlt 3 (by omega)).1
          have cx4 := (hcell k hlt 4 (by omega)).1
          have cx5 := (hcell k hlt 5 (by omega)).1
          have cx6 := (hcell k hlt 6 (by omega)).1
          have cx7 := (hcell k hlt 7 (by omega)).1
          have cx8 := (hcell k hlt 8 (by omega)).1
          have cx9 := (hcell k hlt 9 (by omega)).1
          simp only [Nat.add_zero] at cx0
          clear hcell
          have bm := momF_bd N1.out N2.out (show k ≤ n by omega)
          have bf := chE_bd (chE_at hlt N1.out)
          rw [← hm] at bm
          unfold MoB at bm
          simp only at bm
          obtain ⟨u0, u1, u2, u3, u4, u5, u6, u7, u8, u9, u10⟩ := bm
          obtain ⟨v0, v1, v2, v3, v4, v5, v6, v7, v8, v9⟩ := bf
          have hm' : momF f c0 c1 c2 (k + 1) = addA ⟨m0, m1, m2, m3, m4, m5, m6, m7, m8, m9, m10⟩ (f k 9) (f k 0 - c0) (f k 1 - c1) (f k 2 - c2) (f k 3 - c0) (f k 4 - c1) (f k 5 - c2) (f k 6 - c0) (f k 7 - c1) (f k 8 - c2) := by rw [hm]; rfl
          generalize f k 0 = p0 at cx0 v0 hm'
          generalize f k 1 = p1 at cx1 v1 hm'
          generalize f k 2 = p2 at cx2 v2 hm'
          generalize f k 3 = p3 at cx3 v3 hm'
          generalize f k 4 = p4 at cx4 v4 hm'
          generalize f k 5 = p5 at cx5 v5 hm'
          generalize f k 6 = p6 at cx6 v6 hm'
          generalize f k 7 = p7 at cx7 v7 hm'
          generalize f k 8 = p8 at cx8 v8 hm'
          generalize f k 9 = q at cx9 v9 hm'
          have hc3 : (-64 ≤ c0 ∧ c0 ≤ 64) ∧ (-64 ≤ c1 ∧ c1 ≤ 64) ∧ (-64 ≤ c2 ∧ c2 ≤ 64) := by omega
          have HM' := Lib.hid hm'
          clear hm'
          go_wp2_with fail
          have hF : frsB [.q, .q, .q, .q, .q, .q, .q, .q, .q, .q, .q, .q, .q, .q, .q, .q, .q, .q, .q, .q, .q, .q, .q, .q, .s, .s, .s, .s, .s, .s] [⟨24, 27, 23, #[.int .i64 0, .int .i64 0, .int .i64 0], #[.int .i64 (p0 - c0), .int .i64 (p1 - c1), .int .i64 (p2 - c2)]⟩, ⟨25, 28, 23, #[.int .i64 0, .int .i64 0, .int .i64 0], #[.int .i64 (p3 - c0), .int .i64 (p4 - c1), .int .i64 (p5 - c2)]⟩, ⟨26, 29, 23, #[.int .i64 0, .int .i64 0, .int .i64 0], #[.int .i64 (p6 - c0), .int .i64 (p7 - c1), .int .i64 (p8 - c2)]⟩] = true := by kernel_rfl
          refine wp_region_frs _ _ (by kernel_rfl) (by kernel_rfl) hF (fun b => by kernel_rfl) ?_
          apply Exists.intro
          refine ⟨?_, ?_, ?_, ?_⟩
          · rintro b' W ⟨yy, rfl⟩
            simp only [swapL, Nat.reduceAdd]
            repeat (go_big_quiet_step (first | (go_at_call 51; exact Calls.kept_of (r4minus_any _ _ _ _ _ _ _ (by omega)))))
            refine wpQuiet_nil ?_
            rfl
          · simp only [EachS, and_true]
            refine ⟨?_, ?_, ?_, ?_, ?_, ?_⟩
            · exact fun L b' w' hd hL hI => FI.tells_alloc hF 0 rfl hI hL (by go_simp)
            · exact fun L b' w' hd hL hI => FI.tells_alloc hF 1 rfl hI hL (by go_simp)
            · exact fun L b' w' hd hL hI => FI.tells_alloc hF 2 rfl hI hL (by go_simp)
            · exact fun L b' w' hd hL hI => FI.tells_store hF 0 rfl hI hL (hd { on := 24, ground := .data } (by simp) rfl) 23 (.tmp 10) (.tmp 39) rfl rfl rfl (by kernel_rfl) rfl (by kernel_rfl)
            · exact fun L b' w' hd hL hI => FI.tells_store hF 1 rfl hI hL (hd { on := 25, ground := .data } (by simp) rfl) 23 (.tmp 11) (.tmp 47) rfl rfl rfl (by kernel_rfl) rfl (by kernel_rfl)
            · exact fun L b' w' hd hL hI => FI.tells_store hF 2 rfl hI hL (hd { on := 26, ground := .data } (by simp) rfl) 23 (.tmp 12) (.tmp 55) rfl rfl rfl (by kernel_rfl) rfl (by kernel_rfl)
          · intro b1 b2 d hd
            simp [callSlots, dullOp] at hd
            rcases hd with rfl | rfl | rfl <;> rfl
          · intro L b' w' hL hI
            obtain ⟨k0, e0, l0, h0⟩ := hI.ends 0 rfl (hL 24 (by decide)) (hL 27 (by decide))
            have e0' : b' 24 = _ := e0
            obtain ⟨k1, e1, l1, h1⟩ := hI.ends 1 rfl (hL 25 (by decide)) (hL 28 (by decide))
            have e1' : b' 25 = _ := e1
            obtain ⟨k2, e2, l2, h2⟩ := hI.ends 2 rfl (hL 26 (by decide)) (hL 29 (by decide))
            have e2' : b' 26 = _ := e2
            clear hF
            obtain ⟨z, rfl⟩ := hI.kept
            clear hI hL
            obtain ⟨i0, rfl, -, t0, d0, f0⟩ := late_at h0 l0
            obtain ⟨i1, rfl, -, t1, d1, f1⟩ := late_at h1 l1
            obtain ⟨i2, rfl, -, t2, d2, f2⟩ := late_at h2 l2
            clear h0 h1 h2 l0 l1 l2 e0 e1 e2
            simp only [e0', e1', e2']
            clear e0' e1' e2'
            have ba0 : -128 ≤ p0 - c0 ∧ p0 - c0 ≤ 128 := by omega
            have ba1 : -128 ≤ p1 - c1 ∧ p1 - c1 ≤ 128 := by omega
            have ba2 : -128 ≤ p2 - c2 ∧ p2 - c2 ≤ 128 := by omega
            have ba3 : -128 ≤ p3 - c0 ∧ p3 - c0 ≤ 128 := by omega
            have ba4 : -128 ≤ p4 - c1 ∧ p4 - c1 ≤ 128 := by omega
            have ba5 : -128 ≤ p5 - c2 ∧ p5 - c2 ≤ 128 := by omega
            have ba6 : -128 ≤ p6 - c0 ∧ p6 - c0 ≤ 128 := by omega
            have ba7 : -128 ≤ p7 - c1 ∧ p7 - c1 ≤ 128 := by omega
            have ba8 : -128 ≤ p8 - c2 ∧ p8 - c2 ≤ 128 := by omega
            have HM := HM'.out
            generalize p0 - c0 = a0 at ba0 d0 HM ⊢
            generalize p1 - c1 = a1 at ba1 d0 HM ⊢
            generalize p2 - c2 = a2 at ba2 d0 HM ⊢
            generalize p3 - c0 = a3 at ba3 d1 HM ⊢
            generalize p4 - c1 = a4 at ba4 d1 HM ⊢
            generalize p5 - c2 = a5 at ba5 d1 HM ⊢
            generalize p6 - c0 = a6 at ba6 d2 HM ⊢
            generalize p7 - c1 = a7 at ba7 d2 HM ⊢
            generalize p8 - c2 = a8 at ba8 d2 HM ⊢
            clear HM' cx0 cx1 cx2 cx3 cx4 cx5 cx6 cx7 cx8 cx9 v0 v1 v2 v3 v4 v5 v6 v7 v8
            go_wp2_with fail
            have hF : frsB [.q, .q, .q, .q, .q, .s, .s] [⟨5, 6, 23, #[.int .i64 0, .int .i64 0, .int .i64 0], #[.int .i64 (a0 + (a3 + a6)), .int .i64 (a1 + (a4 + a7)), .int .i64 (a2 + (a5 + a8))]⟩] = true := by kernel_rfl
            refine wp_region_frs _ _ (by kernel_rfl) (by kernel_rfl) hF (fun b => by kernel_rfl) ?_
            apply Exists.intro
            refine ⟨?_, ?_, ?_, ?_⟩
            · rintro b' W ⟨yy, rfl⟩
              simp only [swapL, Nat.reduceAdd]
              repeat (go_big_quiet_step (first | (go_at_call 18; exact Calls.kept_of (r4plus_any _ _ _ _ _ _ _ (by omega)))))
              refine wpQuiet_nil ?_
              rfl
            · simp only [EachS, and_true]
              refine ⟨?_, ?_⟩
              · exact fun L b' w' hd hL hI => FI.tells_alloc hF 0 rfl hI hL (by go_simp)
              · exact fun L b' w' hd hL hI => FI.tells_store hF 0 rfl hI hL (hd { on := 5, ground := .data } (by simp) rfl) 23 (.tmp 13) (.tmp 60) rfl rfl rfl (by kernel_rfl) rfl (by kernel_rfl)
            · intro b1 b2 d hd
              simp [callSlots, dullOp] at hd
              rcases hd with rfl | rfl <;> rfl
            · intro L b'' w' hL hI
              obtain ⟨k3, e3, l3, h3⟩ := hI.ends 0 rfl (hL 5 (by decide)) (hL 6 (by decide))
              have e3' : b'' 5 = _ := e3
              obtain ⟨z2, rfl⟩ := hI.kept
              clear hI hL
              obtain ⟨i3, rfl, -, t3, d3, f3⟩ := late_at h3 l3
              clear h3 l3 e3
              simp only [e3']
              clear e3'
              generalize hs0 : a0 + (a3 + a6) = s0 at d3 ⊢
              have bs0 : -384 ≤ s0 ∧ s0 ≤ 384 := by omega
              generalize hs1 : a1 + (a4 + a7) = s1 at d3 ⊢
              have bs1 : -384 ≤ s1 ∧ s1 ≤ 384 := by omega
              generalize hs2 : a2 + (a5 + a8) = s2 at d3 ⊢
              have bs2 : -384 ≤ s2 ∧ s2 ≤ 384 := by omega
              have ba0a0 := prod3 (q := q) (x := a0) (y := a0) (by omega) (by omega) (by omega)
              have ba3a3 := prod3 (q := q) (x := a3) (y := a3) (by omega) (by omega) (by omega)
              have ba6a6 := prod3 (q := q) (x := a6) (y := a6) (by omega) (by omega) (by omega)
              have bs0s0 := prod3 (q := q) (x := s0) (y := s0) (by omega) (by omega) (by omega)
              have ba0a1 := prod3 (q := q) (x := a0) (y := a1) (by omega) (by omega) (by omega)
              have ba3a4 := prod3 (q := q) (x := a3) (y := a4) (by omega) (by omega) (by omega)
              have ba6a7 := prod3 (q := q) (x := a6) (y := a7) (by omega) (by omega) (by omega)
              have bs0s1 := prod3 (q := q) (x := s0) (y := s1) (by omega) (by omega) (by omega)
              have ba0a2 := prod3 (q := q) (x := a0) (y := a2) (by omega) (by omega) (by omega)
              have ba3a5 := prod3 (q := q) (x := a3) (y := a5) (by omega) (by omega) (by omega)
              have ba6a8 := prod3 (q := q) (x := a6) (y := a8) (by omega) (by omega) (by omega)
              have bs0s2 := prod3 (q := q) (x := s0) (y := s2) (by omega) (by omega) (by omega)
              have ba1a1 := prod3 (q := q) (x := a1) (y := a1) (by omega) (by omega) (by omega)
              have ba4a4 := prod3 (q := q) (x := a4) (y := a4) (by omega) (by omega) (by omega)
              have ba7a7 := prod3 (q := q) (x := a7) (y := a7) (by omega) (by omega) (by omega)
              have bs1s1 := prod3 (q := q) (x := s1) (y := s1) (by omega) (by omega) (by omega)
              have ba1a2 := prod3 (q := q) (x := a1) (y := a2) (by omega) (by omega) (by omega)
              have ba4a5 := prod3 (q := q) (x := a4) (y := a5) (by omega) (by omega) (by omega)
              have ba7a8 := prod3 (q := q) (x := a7) (y := a8) (by omega) (by omega) (by omega)
              have bs1s2 := prod3 (q := q) (x := s1) (y := s2) (by omega) (by omega) (by omega)
              have ba2a2 := prod3 (q := q) (x := a2) (y := a2) (by omega) (by omega) (by omega)
              have ba5a5 := prod3 (q := q) (x := a5) (y := a5) (by omega) (by omega) (by omega)
              have ba8a8 := prod3 (q := q) (x := a8) (y := a8) (by omega) (by omega) (by omega)
              have bs2s2 := prod3 (q := q) (x := s2) (y := s2) (by omega) (by omega) (by omega)
              go_wp2_with fail
              ((first | refine wp_region_tail 6 (by kernel_rfl) (by kernel_rfl) ?_); simp only [List.take_succ_cons, List.take_zero, List.drop_succ_cons, List.drop_zero]; (repeat (go_big_quiet_step (first | (go_at_call 46; exact Calls.kept_same (r4size_any _ _ (by omega)))))); refine wpQuiet_nil ?_; intro x)
              go_wp2_with (first | (go_at_call 18; refine (r4plus_any _ _ _ _ _ _ _ (by omega)).mono ?_; rintro e w1 ⟨rfl, x, rfl⟩))
              ((first | refine wp_region_tail 19 (by kernel_rfl) (by kernel_rfl) ?_); simp only [List.take_succ_cons, List.take_zero, List.drop_succ_cons, List.drop_zero]; (repeat (go_big_quiet_step (first | (go_at_call 53; exact Calls.kept_of (r4prod_any _ _ _ _ _ (by omega))) | (go_at_call 52; exact Calls.kept_of (r4plus6_any _ _ _ _ _ _ _ _ _ _ _ _ _ (by omega)))))); refine wpQuiet_nil ?_; intro x)
              go_wp2_with fail
              go_roundw
              case rel => exact ⟨k + 1, by omega, by go_num, _, _, _, _, _, _, _, _, _, _, _, (ref_add hs0 hs1 hs2).trans HM.symm, by (repeat (first | exact Kept.refl _ | assumption | refine Kept.alloc ?_ _ | refine Kept.ext ?_ _ | refine Kept.drew ?_ | refine Kept.drewN ?_ _))⟩
              case measure => simp [intOf]; omega
        · obtain rfl : k = n := by omega
          go_wp2_with fail
          refine bodyPost_ret (by simp only [results, Try.results21]; go_simp; rfl) rfl ?_
          rw [← hm]
          exact ⟨rfl, by (repeat (first | exact Kept.refl _ | assumption | refine Kept.alloc ?_ _ | refine Kept.ext ?_ _ | refine Kept.drew ?_ | refine Kept.drewN ?_ _))⟩
  · have e : ofM n f c0 c1 c2 = ⟨moZ, givE n f c0 c1 c2⟩ := if_neg v0
    rw [e]
    clear e hs
    have g1 : (givE n f c0 c1 c2 != 0) = true := by simpa using v0
    clear v0
    go_enter Try.func21, Try.ntmps21
    go_wp2_with fail
    refine (r4given_any _ _ _ f _ _ _ _ (by omega) (HS.out.of (by (repeat (first | exact Kept.refl _ | assumption | refine Kept.alloc ?_ _ | refine Kept.ext ?_ _ | refine Kept.drew ?_ | refine Kept.drewN ?_ _))))).mono ?_
    rintro e w1 ⟨rfl, x0, rfl⟩
    go_wp2_with fail
    refine bodyPost_ret (by simp only [results, Try.results21]; go_simp; rfl) rfl ?_
    exact ⟨rfl, by (repeat (first | exact Kept.refl _ | assumption | refine Kept.alloc ?_ _ | refine Kept.ext ?_ _ | refine Kept.drew ?_ | refine Kept.drewN ?_ _))⟩
end Go.Proofs.Ytiedpdlbjjjpeaa
