/- For every input the statement MomentScales returns true and leaves its arguments as they were. No conditions. -/
import Derived.Test.YtiedpdlbjjjpeaaOwn
import Derived.Deep.DrawnRows
namespace Go.Proofs.Ytiedpdlbjjjpeaa
set_option linter.unusedVariables false
set_option linter.unusedSimpArgs false
open Go.ChangeShapes Go.WideShapes Go.ChangeAt Go.RowKit
attribute [local go_sem ↓] Go.wp_at_zero Go.wp_at_succ
theorem of_ok2 {n : Nat} {f : Nat → Nat → Int} {c0 c1 c2 : Int} (h : givE n f c0 c1 c2 = 0) : ofM n f c0 c1 c2 = ⟨momF f c0 c1 c2 n, 0⟩ := if_pos h
theorem of_bad2 {n : Nat} {f : Nat → Nat → Int} {c0 c1 c2 : Int} (h : givE n f c0 c1 c2 ≠ 0) : ((ofM n f c0 c1 c2).e != 0) = true := by
  unfold ofM
  rw [if_neg h]
  simpa using h
theorem momF_ok2 {f : Nat → Nat → Int} {c0 c1 c2 : Int} {n : Nat} (hn : n ≤ 96) (h : firstE f n = 0) (hc : inB c0 c1 c2 64 = true) : okM (momF f c0 c1 c2 n) = true := by
  have b := momF_bd h hc (Nat.le_refl n)
  unfold MoB at b
  exact okM_mk (by omega)
theorem scales_scale {n : Nat} {f : Nat → Nat → Int} {c0 c1 c2 k : Int} (hk : 1 ≤ k ∧ k ≤ 64) (h1 : givE n f c0 c1 c2 = 0) (h2 : givE n (bigF f k) (k * c0) (k * c1) (k * c2) = 0) :
    scaleM (momF f c0 c1 c2 n) k = ⟨momF (bigF f k) (k * c0) (k * c1) (k * c2) n, 0⟩ := by
  obtain ⟨n0, n1, n2⟩ := givE_ok h1
  obtain ⟨-, n3, n4⟩ := givE_ok h2
  unfold scaleM toldM
  rw [momF_ok2 n0 n1 n2, show frB k 1 128 = true from decide_eq_true (by omega), sc_momF, momF_ok2 n0 n3 n4]
  rfl
theorem alloc_at (w : World) (o : Obj) (n : Nat) [h : SizeIs w n] : (w.alloc o).heap[n]? = some o := by
  have e := h.eq
  subst e
  exact heap_alloc_new w o
theorem own_lt {w : World} {base size n : Nat} {e : TypeId} {v : Value} {xs : List Value} (h : w.ownsRow base e size v n xs) : ∀ g, v.ownBlock = some g → base ≤ g ∧ g < w.heap.size := by
  intro g hg
  rcases h.2 with ⟨rfl, rfl⟩ | ⟨g', cap, cur, rfl, hb, hc, -⟩
  · cases hg
  · simp only [Value.ownBlock, Option.some.injEq] at hg
    subst hg
    exact ⟨hb, (Array.getElem?_eq_some_iff.1 hc).1⟩
theorem own_slice {w : World} {base size n : Nat} {e : TypeId} {v : Value} {xs : List Value} (h : w.ownsRow base e size v n xs) : ∃ A cp, v = .slice A n cp := by
  rcases h.2 with ⟨rfl, rfl⟩ | ⟨g, cap, cur, rfl, -⟩
  · exact ⟨_, _, rfl⟩
  · exact ⟨_, _, rfl⟩
theorem bigF_I {n : Nat} {f : Nat → Nat → Int} {kk : Int} (hk : 1 ≤ kk ∧ kk ≤ 64) (h : firstE f n = 0) : ∀ k, k < n → ∀ j, j < 10 → I64 (bigF f kk k j) := by
  intro k hkn j hj
  have b := chE_bd (chE_at hkn h)
  have key : ∀ x : Int, -64 ≤ x ∧ x ≤ 64 → I64 (kk * x) := fun x hx => by
    have := mul_bd 4096 (show -64 ≤ kk ∧ kk ≤ 64 by omega) hx rfl
    unfold I64; omega
  rcases (show j = 0 ∨ j = 1 ∨ j = 2 ∨ j = 3 ∨ j = 4 ∨ j = 5 ∨ j = 6 ∨ j = 7 ∨ j = 8 ∨ j = 9 by omega) with rfl | rfl | rfl | rfl | rfl | rfl | rfl | rfl | rfl | rfl
  all_goals first
  | (show I64 (kk * _); exact key _ (by omega))
  | (show I64 (f k 9); unfold I64; omega)
set_option maxRecDepth 100000 in
set_option maxHeartbeats 16000000 in
theorem scales_law (A : Option Addr) (n cap : Nat) (f : Nat → Nat → Int) (c0 c1 c2 kk : Int) (w : World) (h : n ≤ cap ∧ cap ≤ maxLen ∧ RowsAt w A n 10 f) :
    Calls Try.prog 5 #[.slice A n cap, .agg #[.int .i64 c0, .int .i64 c1, .int .i64 c2], .int .i64 kk] w fun r w' => r = .returned (.bool true) ∧ Kept w w' := by
  obtain ⟨h1, h2, h3⟩ := h
  unfold maxLen at h2
  have HS := Lib.hid h3
  clear h3
  by_cases hn : 300 < n
  · go_enter Try.func5, Try.ntmps5
    go_wp2_with (first | (go_at_call 15; refine (sane_any _).mono ?_; rintro e w1 ⟨rfl, x, rfl⟩))
    go_ret
    exact ⟨rfl, by (repeat (first | exact Kept.refl _ | assumption | refine Kept.alloc ?_ _ | refine Kept.ext ?_ _ | refine Kept.drew ?_ | refine Kept.drewN ?_ _))⟩
  by_cases hk1 : kk < 1
  · go_enter Try.func5, Try.ntmps5
    go_wp2_with (first | (go_at_call 15; refine (sane_any _).mono ?_; rintro e w1 ⟨rfl, x, rfl⟩))
    go_ret
    exact ⟨rfl, by (repeat (first | exact Kept.refl _ | assumption | refine Kept.alloc ?_ _ | refine Kept.ext ?_ _ | refine Kept.drew ?_ | refine Kept.drewN ?_ _))⟩
  by_cases hk2 : 64 < kk
  · go_enter Try.func5, Try.ntmps5
    go_wp2_with (first | (go_at_call 15; refine (sane_any _).mono ?_; rintro e w1 ⟨rfl, x, rfl⟩))
    go_ret
    exact ⟨rfl, by (repeat (first | exact Kept.refl _ | assumption | refine Kept.alloc ?_ _ | refine Kept.ext ?_ _ | refine Kept.drew ?_ | refine Kept.drewN ?_ _))⟩
  cases hc : inB c0 c1 c2 64
  · go_enter Try.func5, Try.ntmps5
    go_wp2_with (first | (go_at_call 16; refine (small_any _ _ _ _ _ (by omega)).mono ?_; rintro e w1 ⟨rfl, x, rfl⟩) | (go_at_call 15; refine (sane_any _).mono ?_; rintro e w1 ⟨rfl, x, rfl⟩))
    go_ret
    exact ⟨rfl, by (repeat (first | exact Kept.refl _ | assumption | refine Kept.alloc ?_ _ | refine Kept.ext ?_ _ | refine Kept.drew ?_ | refine Kept.drewN ?_ _))⟩
  have b2 := inB_true hc
  by_cases g1 : givE n f c0 c1 c2 = 0
  · obtain ⟨n96, n1, -⟩ := givE_ok g1
    have N1 := Lib.hid n1
    have G1 := Lib.hid g1
    have e1 := of_ok2 g1
    clear g1 n1
    obtain ⟨i0, hi, hz0, hz1, hz2⟩ := info_parts infoCh
    have HI := Lib.hid (And.intro hi (And.intro hz0 (And.intro hz1 hz2)))
    clear hi hz0 hz1 hz2
    have q0 := mul_bd 4096 (show -64 ≤ kk ∧ kk ≤ 64 by omega) (show -64 ≤ c0 ∧ c0 ≤ 64 by omega) rfl
    have q1 := mul_bd 4096 (show -64 ≤ kk ∧ kk ≤ 64 by omega) (show -64 ≤ c1 ∧ c1 ≤ 64 by omega) rfl
    have q2 := mul_bd 4096 (show -64 ≤ kk ∧ kk ≤ 64 by omega) (show -64 ≤ c2 ∧ c2 ≤ 64 by omega) rfl
    go_enter Try.func5, Try.ntmps5
    go_wp2_with fail
    refine (small_any _ _ _ _ _ (by omega)).mono ?_
    rintro r w1 ⟨rfl, x0, rfl⟩
    go_wp2_with fail
    refine (mof_any _ _ _ f _ _ _ _ (by omega) (HS.out.of (by (repeat (first | exact Kept.refl _ | assumption | refine Kept.alloc ?_ _ | refine Kept.ext ?_ _ | refine Kept.drew ?_ | refine Kept.drewN ?_ _))))).mono ?_
    rintro r w1 ⟨rfl, x1, rfl⟩
    go_wp2_with fail
    go_loopw [9, 10] (fun v i wr => ∃ k : Nat, k ≤ n ∧ i = .int .i64 k ∧ (∃ y, wr = ext (World.alloc (ext (ext (w.alloc (.cells #[.int .i64 c0, .int .i64 c1, .int .i64 c2] 23)) x0) x1) (.cells #[.int .i64 ((momF f c0 c1 c2 n).q), .int .i64 ((momF f c0 c1 c2 n).t), .int .i64 ((momF f c0 c1 c2 n).x), .int .i64 ((momF f c0 c1 c2 n).y), .int .i64 ((momF f c0 c1 c2 n).z), .int .i64 ((momF f c0 c1 c2 n).a), .int .i64 ((momF f c0 c1 c2 n).b), .int .i64 ((momF f c0 c1 c2 n).c), .int .i64 ((momF f c0 c1 c2 n).d), .int .i64 ((momF f c0 c1 c2 n).e), .int .i64 ((momF f c0 c1 c2 n).f)] 26)) y) ∧ wr.ownsRow (adv (adv (w.heap.size + 1) x0.obs.size) x1.obs.size + 1) 40 10 v k (rowC 10 (bigF f kk) k)) (fun _ i _ => n - (intOf i).toNat)
    case atStart => exact ⟨0, by omega, rfl, show Kept _ _ by (repeat (first | exact Kept.refl _ | assumption | refine Kept.alloc ?_ _ | refine Kept.ext ?_ _ | refine Kept.drew ?_ | refine Kept.drewN ?_ _)), ⟨rfl, .inl ⟨rfl, rfl⟩⟩⟩
    case round =>
      obtain ⟨k, hk, rfl, ⟨y, rfl⟩, hown⟩ := hrel
      obtain ⟨A2, cp2, rfl⟩ := own_slice hown
      have ne1 : ∀ g, (Value.slice A2 k cp2).ownBlock = some g → (adv (adv (w.heap.size + 1) x0.obs.size) x1.obs.size + 1) ≤ g ∧ g < adv (adv (adv (w.heap.size + 1) x0.obs.size) x1.obs.size + 1) y.obs.size := fun g hg => by
        have := own_lt hown g hg
        simpa using this
      have NE := Lib.hid ne1
      have HO := Lib.hid hown
      clear hown ne1
      by_cases hlt : k < n
      · obtain ⟨b, off, rfl, hb, hcell⟩ := HS.out (by omega)
        have LB : Lower b w.heap.size := ⟨hb⟩
        have cx0 := (hcell k hlt 0 (by omega)).1
        have cx1 := (hcell k hlt 1 (by omega)).1
        have cx2 := (hcell k hlt 2 (by omega)).1
        have cx3 := (hcell k hlt 3 (by omega)).1
        have cx4 := (hcell k hlt 4 (by omega)).1
        have cx5 := (hcell k hlt 5 (by omega)).1
        have cx6 := (hcell k hlt 6 (by omega)).1
        have cx7 := (hcell k hlt 7 (by omega)).1
        have cx8 := (hcell k hlt 8 (by omega)).1
        have cx9 := (hcell k hlt 9 (by omega)).1
        simp only [Nat.add_zero] at cx0
        clear hcell
        have bf := chE_bd (chE_at hlt N1.out)
        have pk0 := mul_bd 4096 (show -64 ≤ kk ∧ kk ≤ 64 by omega) (show -64 ≤ f k 0 ∧ f k 0 ≤ 64 by omega) rfl
        have pk1 := mul_bd 4096 (show -64 ≤ kk ∧ kk ≤ 64 by omega) (show -64 ≤ f k 1 ∧ f k 1 ≤ 64 by omega) rfl
        have pk2 := mul_bd 4096 (show -64 ≤ kk ∧ kk ≤ 64 by omega) (show -64 ≤ f k 2 ∧ f k 2 ≤ 64 by omega) rfl
        have pk3 := mul_bd 4096 (show -64 ≤ kk ∧ kk ≤ 64 by omega) (show -64 ≤ f k 3 ∧ f k 3 ≤ 64 by omega) rfl
        have pk4 := mul_bd 4096 (show -64 ≤ kk ∧ kk ≤ 64 by omega) (show -64 ≤ f k 4 ∧ f k 4 ≤ 64 by omega) rfl
        have pk5 := mul_bd 4096 (show -64 ≤ kk ∧ kk ≤ 64 by omega) (show -64 ≤ f k 5 ∧ f k 5 ≤ 64 by omega) rfl
        have pk6 := mul_bd 4096 (show -64 ≤ kk ∧ kk ≤ 64 by omega) (show -64 ≤ f k 6 ∧ f k 6 ≤ 64 by omega) rfl
        have pk7 := mul_bd 4096 (show -64 ≤ kk ∧ kk ≤ 64 by omega) (show -64 ≤ f k 7 ∧ f k 7 ≤ 64 by omega) rfl
        have pk8 := mul_bd 4096 (show -64 ≤ kk ∧ kk ≤ 64 by omega) (show -64 ≤ f k 8 ∧ f k 8 ≤ 64 by omega) rfl
        go_wp2_with fail
        go_region_held3 (fun w' => w'.cell? ⟨adv (adv (adv (w.heap.size + 1) x0.obs.size) x1.obs.size + 1) y.obs.size, 0, none⟩ = some (.int .i64 (f k 0)) ∧ w'.cell? ⟨adv (adv (adv (w.heap.size + 1) x0.obs.size) x1.obs.size + 1) y.obs.size, 1, none⟩ = some (.int .i64 (f k 1)) ∧ w'.cell? ⟨adv (adv (adv (w.heap.size + 1) x0.obs.size) x1.obs.size + 1) y.obs.size, 2, none⟩ = some (.int .i64 (f k 2)) ∧ w'.cell? ⟨adv (adv (adv (w.heap.size + 1) x0.obs.size) x1.obs.size + 1) y.obs.size, 3, none⟩ = some (.int .i64 (f k 3)) ∧ w'.cell? ⟨adv (adv (adv (w.heap.size + 1) x0.obs.size) x1.obs.size + 1) y.obs.size, 4, none⟩ = some (.int .i64 (f k 4)) ∧ w'.cell? ⟨adv (adv (adv (w.heap.size + 1) x0.obs.size) x1.obs.size + 1) y.obs.size, 5, none⟩ = some (.int .i64 (f k 5)) ∧ w'.cell? ⟨adv (adv (adv (w.heap.size + 1) x0.obs.size) x1.obs.size + 1) y.obs.size, 6, none⟩ = some (.int .i64 (f k 6)) ∧ w'.cell? ⟨adv (adv (adv (w.heap.size + 1) x0.obs.size) x1.obs.size + 1) y.obs.size, 7, none⟩ = some (.int .i64 (f k 7)) ∧ w'.cell? ⟨adv (adv (adv (w.heap.size + 1) x0.obs.size) x1.obs.size + 1) y.obs.size, 8, none⟩ = some (.int .i64 (f k 8)) ∧ w'.cell? ⟨b, off + k * 10 + 9, none⟩ = some (.int .i64 (f k 9))) ((first | (refine ⟨?_, ?_, ?_, ?_, ?_, ?_, ?_, ?_, ?_, ?_⟩ <;> (go_simp; done)) | (refine ⟨?_, ?_, ?_, ?_, ?_, ?_, ?_, ?_, ?_, ?_⟩ <;> (refine (hg2.cell_far _ (by simp [adv]; omega) (fun hq => by have := NE.out _ hq.symm; simp only [adv] at *; omega)).trans ?_; go_simp)))) ((first | (go_at_call 19; refine (ltimes_any _ _ _ _ _ (by omega)).mono ?_; rintro e w1 ⟨rfl, x, rfl⟩) | (refine step_append_lies _ (by rfl) _ _ _ (by rfl) (adv (adv (w.heap.size + 1) x0.obs.size) x1.obs.size + 1) 40 i0 _ 10 80 Try.underlying32 HI.out.1 HI.out.2.1 HI.out.2.2.1 HI.out.2.2.2 (by rfl) (by omega) _ k (rowC 10 (bigF f kk) k) (by rfl) (owns_kept HO.out (by (repeat (first | exact Kept.refl _ | assumption | refine Kept.alloc ?_ _ | refine Kept.ext ?_ _ | refine Kept.drew ?_ | refine Kept.drewN ?_ _)))) _ 1 1 [.int .i64 (kk * f k 0), .int .i64 (kk * f k 1), .int .i64 (kk * f k 2), .int .i64 (kk * f k 3), .int .i64 (kk * f k 4), .int .i64 (kk * f k 5), .int .i64 (kk * f k 6), .int .i64 (kk * f k 7), .int .i64 (kk * f k 8), .int .i64 (f k 9)] (by rfl) (by rfl) (World.news_of_block (alloc_at _ _ _)) (by simp [Value.oneCell']) (by omega) (by unfold maxLen; omega) (by omega) (by simp [adv]; omega) _ rfl ?_; intro g cp w2 hown2 hg2 hat hlt2)))
        all_goals
          rename_i hS
          clear hS
          have HO2 := Lib.hid hown2
          have hk2 : Kept (World.alloc (ext (ext (w.alloc (.cells #[.int .i64 c0, .int .i64 c1, .int .i64 c2] 23)) x0) x1) (.cells #[.int .i64 ((momF f c0 c1 c2 n).q), .int .i64 ((momF f c0 c1 c2 n).t), .int .i64 ((momF f c0 c1 c2 n).x), .int .i64 ((momF f c0 c1 c2 n).y), .int .i64 ((momF f c0 c1 c2 n).z), .int .i64 ((momF f c0 c1 c2 n).a), .int .i64 ((momF f c0 c1 c2 n).b), .int .i64 ((momF f c0 c1 c2 n).c), .int .i64 ((momF f c0 c1 c2 n).d), .int .i64 ((momF f c0 c1 c2 n).e), .int .i64 ((momF f c0 c1 c2 n).f)] 26)) w2 := by
            refine kept_grown (base := (adv (adv (w.heap.size + 1) x0.obs.size) x1.obs.size + 1)) ?_ (owns_kept HO.out ?_) ?_ hg2
            · (repeat (first | exact Kept.refl _ | assumption | refine Kept.alloc ?_ _ | refine Kept.ext ?_ _ | refine Kept.drew ?_ | refine Kept.drewN ?_ _))
            · (repeat (first | exact Kept.refl _ | assumption | refine Kept.alloc ?_ _ | refine Kept.ext ?_ _ | refine Kept.drew ?_ | refine Kept.drewN ?_ _))
            · simp
          clear hown2 hg2 hat hlt2
          obtain ⟨y2, rfl⟩ := hk2
          go_wp2_with fail
          go_roundw
          case rel => exact ⟨k + 1, by omega, by go_num, ⟨y2, rfl⟩, HO2.out⟩
          case measure => simp [intOf]; omega
      · obtain rfl : k = n := by omega
        by_cases g2 : givE k (bigF f kk) (kk * c0) (kk * c1) (kk * c2) = 0
        · have e2 := of_ok2 g2
          have e3 : scaleM ⟨(momF f c0 c1 c2 k).q, (momF f c0 c1 c2 k).t, (momF f c0 c1 c2 k).x, (momF f c0 c1 c2 k).y, (momF f c0 c1 c2 k).z, (momF f c0 c1 c2 k).a, (momF f c0 c1 c2 k).b, (momF f c0 c1 c2 k).c, (momF f c0 c1 c2 k).d, (momF f c0 c1 c2 k).e, (momF f c0 c1 c2 k).f⟩ kk = ⟨momF (bigF f kk) (kk * c0) (kk * c1) (kk * c2) k, 0⟩ := scales_scale (by omega) G1.out g2
          clear g2
          go_wp2_with (first | (go_at_call 19; refine (ltimes_any _ _ _ _ _ (by omega)).mono ?_; rintro e w1 ⟨rfl, x, rfl⟩))
          refine (mof_any _ _ _ (bigF f kk) _ _ _ _ (by omega) (rows_of_owns (owns_kept HO.out (by (repeat (first | exact Kept.refl _ | assumption | refine Kept.alloc ?_ _ | refine Kept.ext ?_ _ | refine Kept.drew ?_ | refine Kept.drewN ?_ _)))) (bigF_I (by omega) N1.out))).mono ?_
          rintro r w1 ⟨rfl, x2, rfl⟩
          go_wp2_with (first | (go_at_call 20; refine (mscale_any _ _ _ _ _ _ _ _ _ _ _ _ _).mono ?_; rintro e w1 ⟨rfl, x, rfl⟩) | (go_at_call 15; refine (sane_any _).mono ?_; rintro e w1 ⟨rfl, x, rfl⟩))
          go_ret
          exact ⟨rfl, by (repeat (first | exact Kept.refl _ | assumption | refine Kept.alloc ?_ _ | refine Kept.ext ?_ _ | refine Kept.drew ?_ | refine Kept.drewN ?_ _))⟩
        · have e2 := of_bad2 g2
          clear g2
          go_wp2_with (first | (go_at_call 19; refine (ltimes_any _ _ _ _ _ (by omega)).mono ?_; rintro e w1 ⟨rfl, x, rfl⟩))
          refine (mof_any _ _ _ (bigF f kk) _ _ _ _ (by omega) (rows_of_owns (owns_kept HO.out (by (repeat (first | exact Kept.refl _ | assumption | refine Kept.alloc ?_ _ | refine Kept.ext ?_ _ | refine Kept.drew ?_ | refine Kept.drewN ?_ _)))) (bigF_I (by omega) N1.out))).mono ?_
          rintro r w1 ⟨rfl, x2, rfl⟩
          go_wp2_with (first | (go_at_call 15; refine (sane_any _).mono ?_; rintro e w1 ⟨rfl, x, rfl⟩))
          go_ret
          exact ⟨rfl, by (repeat (first | exact Kept.refl _ | assumption | refine Kept.alloc ?_ _ | refine Kept.ext ?_ _ | refine Kept.drew ?_ | refine Kept.drewN ?_ _))⟩
  · have e1 := of_bad2 g1
    clear g1
    go_enter Try.func5, Try.ntmps5
    go_wp2_with (first | (go_at_call 16; refine (small_any _ _ _ _ _ (by omega)).mono ?_; rintro e w1 ⟨rfl, x, rfl⟩))
    refine (mof_any _ _ _ f _ _ _ _ (by omega) (HS.out.of (by (repeat (first | exact Kept.refl _ | assumption | refine Kept.alloc ?_ _ | refine Kept.ext ?_ _ | refine Kept.drew ?_ | refine Kept.drewN ?_ _))))).mono ?_
    rintro r w1 ⟨rfl, x1, rfl⟩
    go_wp2_with (first | (go_at_call 15; refine (sane_any _).mono ?_; rintro e w1 ⟨rfl, x, rfl⟩))
    go_ret
    exact ⟨rfl, by (repeat (first | exact Kept.refl _ | assumption | refine Kept.alloc ?_ _ | refine Kept.ext ?_ _ | refine Kept.drew ?_ | refine Kept.drewN ?_ _))⟩
theorem ownMomentScales : ownKnob Try.prog.godebug = none := by kernel_rfl
theorem laidOutMomentScales : laidOutB Try.prog = true := by kernel_rfl
set_option linter.unusedVariables false in
set_option maxRecDepth 100000 in
theorem liftedMomentScales (os : Os) (started : os.Started) (H : Type) (enc : TypeId × Value → H) :
    ReturnsInHanded {} Try.checked os 5 .any (Rows.momentScalesSpec.pre6 enc Try.prog Try.f5 Rows.momentScalesRow.domain false) (Rows.momentScalesSpec.post enc Try.prog Try.f5 false true false false) := by
  refine returnsInHanded_of_change (C := Try.checked) ownMomentScales started (by kernel_rfl) Try.func5
    (ChangeSpec.witness6 (enc := enc) (C := Try.checked) false ⟨#[], #[.slice none 0 0, .agg #[.int .i64 0, .int .i64 0, .int .i64 0], .int .i64 0], []⟩ 8 (by kernel_rfl) (by kernel_rfl) (by kernel_rfl) (by kernel_rfl)) ?_
  intro W base args ds gs before hval0 hW hcnd _
  have hval : ∀ (j : Nat) t v, Try.f5.params[j]? = some t → args[j]? = some v → Value.okWide Try.prog W .any base t v := hval0
  have hW' := hW
  obtain ⟨p, q, hA0, hV, rfl, hfz, hnd⟩ := hW
  have hA : DataW.TrodAll enc Try.prog W 0 (fun _ => true) true Try.f5.params.toList args.toList ds p := hA0
  rw [Try.params5] at hA hval
  obtain ⟨v0, vs0, d0, ds0, p0, q0, hargs, rfl, rfl, h0, r0⟩ := trodAll_cons hA
  obtain ⟨v1, vs1, d1, ds1, p1, q1, rfl, rfl, rfl, h1, r1⟩ := trodAll_cons r0
  obtain ⟨v2, vs2, d2, ds2, p2, q2, rfl, rfl, rfl, h2, r2⟩ := trodAll_cons r1
  obtain ⟨rfl, rfl, rfl⟩ := trodAll_nil r2
  obtain rfl : args = #[v0, v1, v2] := by cases args; simp_all
  obtain ⟨rfl, rfl⟩ := trodVars_none hV
  have lt0 : ∀ x ∈ p0, x.block < W.heap.size := by obtain ⟨m, hm⟩ := h0; exact DataW.trod_lt m _ _ _ hm
  obtain ⟨A0, n0, cap0, f0, rfl, hl0, hm0, hr0⟩ := open_rows 10 Try.underlying32 (by kernel_rfl) (by decide) (by kernel_rfl) (hval 0 32 v0 rfl rfl) h0 lt0
  have lt1 : ∀ x ∈ p1, x.block < W.heap.size := by obtain ⟨m, hm⟩ := h1; exact DataW.trod_lt m _ _ _ hm
  obtain ⟨l1, rfl, e1, b1⟩ := open_agg_ints 3 (by kernel_rfl) (by kernel_rfl) (ts := [3, 3, 3]) (by kernel_rfl) (by intro u hu; simp at hu; subst hu; exact Try.underlying3) (hval 1 23 v1 rfl rfl)
  obtain ⟨z1_0, z1_1, z1_2, rfl⟩ := len3 e1
  simp only [List.map_cons, List.map_nil] at *
  simp only [List.mem_cons, List.not_mem_nil, or_false, forall_eq_or_imp, forall_eq] at b1
  have lt2 : ∀ x ∈ p2, x.block < W.heap.size := by obtain ⟨m, hm⟩ := h2; exact DataW.trod_lt m _ _ _ hm
  obtain ⟨z2, rfl, b2⟩ := okWide_int_bd Try.underlying3 (hval 2 3 v2 rfl rfl)
  clear hA0 hval0
  refine (scales_law A0 n0 cap0 f0 z1_0 z1_1 z1_2 z2 W ⟨hl0, hm0, hr0⟩).mono fun e W' ⟨he, hk⟩ => ?_
  subst he
  have bel := hk.below
  exact ⟨_, rfl, _, _, _, [], _, [], hW', trodAll_mk1 (shut_bool Try.underlying4 _), (trodAll_cons_mk (Below.trod laidOutMomentScales (by kernel_rfl) (of_decide_eq_true (by kernel_rfl)) h0 bel lt0) (trodAll_cons_mk (Below.trod laidOutMomentScales (by kernel_rfl) (of_decide_eq_true (by kernel_rfl)) h1 bel lt1) (trodAll_cons_mk (Below.trod laidOutMomentScales (by kernel_rfl) (of_decide_eq_true (by kernel_rfl)) h2 bel lt2) trodAll_mk0))), rfl, bel.frame _, fun h => by cases h⟩
/-- For every input the statement MomentScales returns true, and each argument reads afterwards as it read before. -/
theorem momentScales_holds : Rows.MomentScalesSaid :=
  OpenClaim.holds_of_wide 5 Try.f5 rfl rfl rfl rfl rfl rfl rfl ⟨rfl, rfl, rfl, rfl, rfl⟩ rfl rfl rfl rfl rfl (by kernel_rfl) Try.func5 (by kernel_rfl)
    (of_decide_eq_true (by kernel_rfl)) (by unfold Func.isWrapper; first | (rw [if_pos (by decide +kernel)]; kernel_rfl) | (rw [if_neg (by decide +kernel)]; exact ⟨rfl, rfl⟩))
    (fun os started H enc _ => liftedMomentScales os started H enc)
#print axioms momentScales_holds

end Go.Proofs.Ytiedpdlbjjjpeaa
