/- Contract: the box of a mesh, of the reference. Conditions: the lists' lengths are ints. -/
import Derived.Test.YtoadlneneijfaaaGbx
import Derived.Test.YtoadlneneijfaaaFrs
namespace Go.Proofs.Ytoadlneneijfaaa
set_option linter.unusedVariables false
set_option linter.unusedSimpArgs false
open Go.RowKit
/-- The state of the loop over the points, the results' blocks still empty. -/
def BoxJ (W : World) (g h r1 r2 : Nat) (P : Nat → Nat → Int) (k : Nat) (wr : World) : Prop :=
  BoxI W g h P k wr ∧ wr.heap[r1]? = some (.cells #[.int .i64 0, .int .i64 0, .int .i64 0] 34 (0, 0)) ∧ wr.heap[r2]? = some (.cells #[.int .i64 0, .int .i64 0, .int .i64 0] 34 (0, 0))
set_option maxRecDepth 100000 in
set_option maxHeartbeats 16000000 in
theorem r2box_any (A B : Option Addr) (n cap m cap2 : Nat) (P F : Nat → Nat → Int) (w : World) (hn : n ≤ 9223372036854775807 ∧ m ≤ 9223372036854775807) (hP : RowsAt w A n 3 P) (hF : RowsAt w B m 3 F) :
    Calls Try.prog 29 #[.agg #[.slice A n cap, .slice B m cap2]] w fun r w' => r = .returned (.tuple #[.agg #[.int .i64 (blo n P m F 0), .int .i64 (blo n P m F 1), .int .i64 (blo n P m F 2)], .agg #[.int .i64 (bhi n P m F 0), .int .i64 (bhi n P m F 1), .int .i64 (bhi n P m F 2)], .int .i64 (validE n P m F)]) ∧ Kept w w' := by
  have HP := Lib.hid hP
  have HF := Lib.hid hF
  clear hP hF
  by_cases hv : validE n P m F = 0
  case neg =>
    have c0 : ∀ c, blo n P m F c = 0 := fun c => if_neg hv
    have c1 : ∀ c, bhi n P m F c = 0 := fun c => if_neg hv
    rw [c0, c0, c0, c1, c1, c1]
    clear c0 c1
    obtain ⟨e, he⟩ : ∃ e, validE n P m F = e := ⟨_, rfl⟩
    rw [he] at hv
    have HV := Lib.hid he
    clear he
    have hv2 : (e == 0) = false := by simpa using hv
    have hv3 : decide (e = 0) = false := by simpa using hv
    go_enter Try.func29, Try.ntmps29
    go_wp2_with (go_at_call 31; refine (r2validate_any _ _ _ _ _ _ P F _ hn (HP.out.of (by (repeat (first | exact Kept.refl _ | assumption | refine Kept.alloc ?_ _ | refine Kept.ext ?_ _ | refine Kept.drew ?_ | refine Kept.drewN ?_ _)))) (HF.out.of (by (repeat (first | exact Kept.refl _ | assumption | refine Kept.alloc ?_ _ | refine Kept.ext ?_ _ | refine Kept.drew ?_ | refine Kept.drewN ?_ _))))).mono ?_; rintro e w1 ⟨rfl, x, rfl⟩; rw [HV.out])
    refine bodyPost_ret (by simp only [results, Try.results29]; go_simp; rfl) rfl ?_
    rw [HV.out]
    exact ⟨rfl, by (repeat (first | exact Kept.refl _ | assumption | refine Kept.alloc ?_ _ | refine Kept.ext ?_ _ | refine Kept.drew ?_ | refine Kept.drewN ?_ _))⟩
  have c0 : ∀ c, blo n P m F c = boxLo P c n := fun c => if_pos hv
  have c1 : ∀ c, bhi n P m F c = boxHi P c n := fun c => if_pos hv
  rw [c0, c0, c0, c1, c1, c1]
  clear c0 c1
  have HV := Lib.hid hv
  obtain ⟨n64, m96, -, hf, -⟩ := validE_ok hv
  have hn0 : 0 < n := by
    have := cornB_true (corn_of hf 0 (by omega))
    omega
  clear hv hf
  obtain ⟨fb, off, rfl, hb, f0, f1, f2⟩ := rows3 HP.out hn0
  have LB : Lower fb w.heap.size := ⟨hb⟩
  simp only [Nat.zero_mul, Nat.add_zero] at f0 f1 f2
  go_enter Try.func29, Try.ntmps29
  go_wp2_with (first | (go_at_call 31; refine (r2validate_any _ _ _ _ _ _ P F _ hn (HP.out.of (by (repeat (first | exact Kept.refl _ | assumption | refine Kept.alloc ?_ _ | refine Kept.ext ?_ _ | refine Kept.drew ?_ | refine Kept.drewN ?_ _)))) (HF.out.of (by (repeat (first | exact Kept.refl _ | assumption | refine Kept.alloc ?_ _ | refine Kept.ext ?_ _ | refine Kept.drew ?_ | refine Kept.drewN ?_ _))))).mono ?_; rintro e w1 ⟨rfl, x0, rfl⟩; rw [HV.out]) | fail)
  have hFr : frsB [.q, .q, .q, .q, .q, .q, .q, .q, .s, .s, .s, .s] [⟨8, 10, 34, #[.int .i64 0, .int .i64 0, .int .i64 0], #[.int .i64 (P 0 0), .int .i64 (P 0 1), .int .i64 (P 0 2)]⟩, ⟨9, 11, 34, #[.int .i64 0, .int .i64 0, .int .i64 0], #[.int .i64 (P 0 0), .int .i64 (P 0 1), .int .i64 (P 0 2)]⟩] = true := by kernel_rfl
  refine wp_region_frs _ _ (by kernel_rfl) (by kernel_rfl) hFr (fun b => by kernel_rfl) ?_
  apply Exists.intro
  refine ⟨?_, ?_, ?_, ?_⟩
  · rintro b' W ⟨yy, rfl⟩
    simp only [swapL, Nat.reduceAdd]
    repeat (go_big_quiet_step (fail))
    refine wpQuiet_nil ?_
    rfl
  · simp only [EachS, and_true]
    refine ⟨?_, ?_, ?_, ?_⟩
    · exact fun L b' w' hd hL hI => FI.tells_alloc hFr 0 rfl hI hL (by go_simp)
    · exact fun L b' w' hd hL hI => FI.tells_alloc hFr 1 rfl hI hL (by go_simp)
    · exact fun L b' w' hd hL hI => FI.tells_store hFr 0 rfl hI hL (hd { on := 8, ground := .data } (by simp) rfl) 34 (.tmp 6) (.tmp 20) rfl rfl rfl (by kernel_rfl) rfl (by kernel_rfl)
    · exact fun L b' w' hd hL hI => FI.tells_store hFr 1 rfl hI hL (hd { on := 9, ground := .data } (by simp) rfl) 34 (.tmp 7) (.tmp 24) rfl rfl rfl (by kernel_rfl) rfl (by kernel_rfl)
  · intro b1 b2 d hd
    simp [callSlots, dullOp] at hd
  · intro L b' w' hL hI
    obtain ⟨g, e0, l0, h0⟩ := hI.ends 0 rfl (hL 8 (by decide)) (hL 10 (by decide))
    obtain ⟨h, e1, l1, h1⟩ := hI.ends 1 rfl (hL 9 (by decide)) (hL 11 (by decide))
    have e0' : b' 8 = _ := e0
    have e1' : b' 9 = _ := e1
    have hgh : g ≠ h := by
      intro q
      have := hI.d 0 1 _ _ rfl rfl (by omega) (hL 8 (by decide)) (hL 9 (by decide))
      exact this (by rw [e0, e1, q])
    have HG := Lib.hid h0
    have HH := Lib.hid h1
    have hr1 : w'.heap[w.heap.size + 1]? = some (.cells #[.int .i64 0, .int .i64 0, .int .i64 0] 34 (0, 0)) := heap_kp (heap_kp (alloc_now (w.alloc (.cells #[.slice (some ⟨fb, off, none⟩) n cap, .slice B m cap2] 25)) _ _) (by (repeat (first | exact Kept.refl _ | assumption | refine Kept.alloc ?_ _ | refine Kept.ext ?_ _ | refine Kept.drew ?_ | refine Kept.drewN ?_ _)))) hI.kept
    have hr2 : w'.heap[w.heap.size + 1 + 1]? = some (.cells #[.int .i64 0, .int .i64 0, .int .i64 0] 34 (0, 0)) := heap_kp (heap_kp (alloc_now (((w.alloc (.cells #[.slice (some ⟨fb, off, none⟩) n cap, .slice B m cap2] 25))).alloc (.cells #[.int .i64 0, .int .i64 0, .int .i64 0] 34)) _ _) (by (repeat (first | exact Kept.refl _ | assumption | refine Kept.alloc ?_ _ | refine Kept.ext ?_ _ | refine Kept.drew ?_ | refine Kept.drewN ?_ _)))) hI.kept
    have HR1 := Lib.hid hr1
    have HR2 := Lib.hid hr2
    have HK := Lib.hid ((show Kept (w.alloc (.cells #[.slice (some ⟨fb, off, none⟩) n cap, .slice B m cap2] 25)) (ext ((((w.alloc (.cells #[.slice (some ⟨fb, off, none⟩) n cap, .slice B m cap2] 25))).alloc (.cells #[.int .i64 0, .int .i64 0, .int .i64 0] 34)).alloc (.cells #[.int .i64 0, .int .i64 0, .int .i64 0] 34)) x0) by (repeat (first | exact Kept.refl _ | assumption | refine Kept.alloc ?_ _ | refine Kept.ext ?_ _ | refine Kept.drew ?_ | refine Kept.drewN ?_ _))).trans hI.kept)
    simp only [ext_size, World.size_alloc] at l0 l1
    have lg : w.heap.size + 1 + 1 < g := by unfold adv at l0; omega
    have lh : w.heap.size + 1 + 1 < h := by unfold adv at l1; omega
    clear hFr hI hL h0 h1 e0 e1 hr1 hr2 l0 l1
    obtain ⟨y, hy⟩ := HK.out
    subst hy
    simp only [e0', e1']
    clear e0' e1'
    go_wp2_with fail
    go_loopw [8] (fun i wr => ∃ k : Nat, k ≤ n ∧ i = .int .i64 k ∧ BoxJ (w.alloc (.cells #[.slice (some ⟨fb, off, none⟩) n cap, .slice B m cap2] 25)) g h (w.heap.size + 1) (w.heap.size + 1 + 1) P k wr) (fun i _ => n - (intOf i).toNat)
    case atStart => exact ⟨0, by omega, rfl, ⟨HK.out, HG.out, HH.out⟩, HR1.out, HR2.out⟩
    case round =>
      obtain ⟨k, hk, rfl, ⟨⟨z, rfl⟩, hg, hh⟩, hq1, hq2⟩ := hrel
      have HG2 := Lib.hid hg
      have HH2 := Lib.hid hh
      have HQ1 := Lib.hid hq1
      have HQ2 := Lib.hid hq2
      obtain ⟨l0, l1, l2⟩ := cells3 hg
      obtain ⟨u0, u1, u2⟩ := cells3 hh
      clear hg hh
      have LG : Lower g (adv (w.heap.size + 1) z.obs.size) := ⟨by have := cell_lt l0; simpa using this⟩
      have LH : Lower h (adv (w.heap.size + 1) z.obs.size) := ⟨by have := cell_lt u0; simpa using this⟩
      by_cases hlt : k < n
      · obtain ⟨fb', off', e, -, f0, f1, f2⟩ := rows3 HP.out hlt
        cases e
        clear hq1 hq2
        go_wp2_with (first | (refine wp_putRow (cs := #[.int .i64 (min (boxLo P 0 k) (P k 0)), .int .i64 (min (boxLo P 1 k) (P k 1)), .int .i64 (min (boxLo P 2 k) (P k 2))]) _ rfl 34 (.tmp 6) (.tmp 52) rfl g (by rfl) (by rfl) (heap_kp HG2.out (by (repeat (first | exact Kept.refl _ | assumption | refine Kept.alloc ?_ _ | refine Kept.ext ?_ _ | refine Kept.drew ?_ | refine Kept.drewN ?_ _)))) (by kernel_rfl) (by rfl) (by simp [Value.oneCell']) ?_; intro w2 h2 g2; have k2 : Kept (w.alloc (.cells #[.slice (some ⟨fb, off, none⟩) n cap, .slice B m cap2] 25)) w2 := Kept.map_store (by (repeat (first | exact Kept.refl _ | assumption | refine Kept.alloc ?_ _ | refine Kept.ext ?_ _ | refine Kept.drew ?_ | refine Kept.drewN ?_ _))) (by simp; omega) g2; have hh2 := block_of g2 (heap_kp HH2.out (by (repeat (first | exact Kept.refl _ | assumption | refine Kept.alloc ?_ _ | refine Kept.ext ?_ _ | refine Kept.drew ?_ | refine Kept.drewN ?_ _)))) (Ne.symm hgh); have hp2 : w2.heap[adv (w.heap.size + 1) z.obs.size]? = some (.cells #[.int .i64 (P k 0), .int .i64 (P k 1), .int .i64 (P k 2)] 34 (0, 0)) := block_of g2 (alloc_now _ _ _) (by have := LG.lt; omega); obtain ⟨v0, v1, v2⟩ := cells3 hh2; obtain ⟨p0, p1, p2⟩ := cells3 hp2; have H2 := Lib.hid h2; have HH3 := Lib.hid hh2; have HQ3 := Lib.hid (block_of g2 (heap_kp HQ1.out (by (repeat (first | exact Kept.refl _ | assumption | refine Kept.alloc ?_ _ | refine Kept.ext ?_ _ | refine Kept.drew ?_ | refine Kept.drewN ?_ _)))) (by omega)); have HQ4 := Lib.hid (block_of g2 (heap_kp HQ2.out (by (repeat (first | exact Kept.refl _ | assumption | refine Kept.alloc ?_ _ | refine Kept.ext ?_ _ | refine Kept.drew ?_ | refine Kept.drewN ?_ _)))) (by omega)); have K2 := Lib.hid k2; clear h2 g2 k2 hh2 hp2) | (refine wp_putRow (cs := #[.int .i64 (max (boxHi P 0 k) (P k 0)), .int .i64 (max (boxHi P 1 k) (P k 1)), .int .i64 (max (boxHi P 2 k) (P k 2))]) _ rfl 34 (.tmp 7) (.tmp 68) rfl h (by rfl) (by rfl) HH3.out (by kernel_rfl) (by rfl) (by simp [Value.oneCell']) ?_; intro w3 h3 g3; have H3 := Lib.hid h3; have G3 := Lib.hid g3; clear h3 g3))
        go_roundw
        case rel => exact ⟨k + 1, by omega, by go_num, ⟨K2.out.map_store (by simp; omega) G3.out, block_of G3.out H2.out hgh, H3.out⟩, block_of G3.out HQ3.out (by omega), block_of G3.out HQ4.out (by omega)⟩
        case measure => simp [intOf]; omega
      · obtain rfl : k = n := by omega
        clear hq1 hq2
        go_wp2_with fail
        refine wp_region_tellC (C := fun W => Kept (w.alloc (.cells #[.slice (some ⟨fb, off, none⟩) k cap, .slice B m cap2] 25)) W ∧ W.heap[g]? = some (.cells #[.int .i64 (boxLo P 0 k), .int .i64 (boxLo P 1 k), .int .i64 (boxLo P 2 k)] 34 (0, 0)) ∧ W.heap[h]? = some (.cells #[.int .i64 (boxHi P 0 k), .int .i64 (boxHi P 1 k), .int .i64 (boxHi P 2 k)] 34 (0, 0))) [.q, .q, .k undef, .k undef, .q] (fun L b w' => TwoI (w.alloc (.cells #[.slice (some ⟨fb, off, none⟩) k cap, .slice B m cap2] 25)) (w.heap.size + 1) (w.heap.size + 1 + 1) 2 3 34 #[.int .i64 0, .int .i64 0, .int .i64 0] #[.int .i64 0, .int .i64 0, .int .i64 0] #[.int .i64 (boxLo P 0 k), .int .i64 (boxLo P 1 k), .int .i64 (boxLo P 2 k)] #[.int .i64 (boxHi P 0 k), .int .i64 (boxHi P 1 k), .int .i64 (boxHi P 2 k)] L b w' ∧ w'.heap[g]? = some (.cells #[.int .i64 (boxLo P 0 k), .int .i64 (boxLo P 1 k), .int .i64 (boxLo P 2 k)] 34 (0, 0)) ∧ w'.heap[h]? = some (.cells #[.int .i64 (boxHi P 0 k), .int .i64 (boxHi P 1 k), .int .i64 (boxHi P 2 k)] 34 (0, 0))) (by kernel_rfl) (by kernel_rfl) (fun b => by kernel_rfl) ?_ ?_ ?_ ?_
        · intro b
          exact ⟨⟨by (repeat (first | exact Kept.refl _ | assumption | refine Kept.alloc ?_ _ | refine Kept.ext ?_ _ | refine Kept.drew ?_ | refine Kept.drewN ?_ _)), heap_kp HQ1.out (by (repeat (first | exact Kept.refl _ | assumption | refine Kept.alloc ?_ _ | refine Kept.ext ?_ _ | refine Kept.drew ?_ | refine Kept.drewN ?_ _))), heap_kp HQ2.out (by (repeat (first | exact Kept.refl _ | assumption | refine Kept.alloc ?_ _ | refine Kept.ext ?_ _ | refine Kept.drew ?_ | refine Kept.drewN ?_ _)))⟩, heap_kp HG2.out (by (repeat (first | exact Kept.refl _ | assumption | refine Kept.alloc ?_ _ | refine Kept.ext ?_ _ | refine Kept.drew ?_ | refine Kept.drewN ?_ _))), heap_kp HH2.out (by (repeat (first | exact Kept.refl _ | assumption | refine Kept.alloc ?_ _ | refine Kept.ext ?_ _ | refine Kept.drew ?_ | refine Kept.drewN ?_ _)))⟩
        · intro i L b w' w'' hs hI hk
          exact ⟨(hI.1.on hk).other (by rintro rfl; cases hs) (by rintro rfl; cases hs), heap_kp hI.2.1 hk, heap_kp hI.2.2 hk⟩
        · exact fun L b w' h => ⟨h.1.kept, h.2.1, h.2.2⟩
        apply Exists.intro
        refine ⟨?_, ?_, ?_, ?_⟩
        · rintro b W ⟨hk, e1, e2⟩
          obtain ⟨l0, l1, l2⟩ := cells3 e1
          obtain ⟨u0, u1, u2⟩ := cells3 e2
          haveI : Lower g W.heap.size := ⟨cell_lt l0⟩
          haveI : Lower h W.heap.size := ⟨cell_lt u0⟩
          clear e1 e2 hk
          simp only [swapL, Nat.reduceAdd]
          repeat (go_big_quiet_step (fail))
          refine wpQuiet_nil ?_
          rfl
        · simp only [EachS, and_true]
          refine ⟨?_, ?_⟩
          · intro L b w' hd hL hI
            have e3 := hI.1.hg
            rw [hL] at e3
            simp only [Bool.false_eq_true, if_false] at e3
            refine tells_put 34 (.tmp 2) (.tmp 69) (by rfl) (w.heap.size + 1) (c := #[.int .i64 (boxLo P 0 k), .int .i64 (boxLo P 1 k), .int .i64 (boxLo P 2 k)]) (by rfl) (by rfl) e3 (by kernel_rfl) (by rfl) (by simp [Value.oneCell']) ?_
            exact ⟨rfl, hI.1.one (by omega) (by omega) (by simp) _, block_of (grown_setRow _ _ _) hI.2.1 (by omega), block_of (grown_setRow _ _ _) hI.2.2 (by omega)⟩
          · intro L b w' hd hL hI
            have e3 := hI.1.hh
            rw [hL] at e3
            simp only [Bool.false_eq_true, if_false] at e3
            refine tells_put 34 (.tmp 3) (.tmp 70) (by rfl) (w.heap.size + 1 + 1) (c := #[.int .i64 (boxHi P 0 k), .int .i64 (boxHi P 1 k), .int .i64 (boxHi P 2 k)]) (by rfl) (by rfl) e3 (by kernel_rfl) (by rfl) (by simp [Value.oneCell']) ?_
            exact ⟨rfl, hI.1.two (by omega) (by omega) (by simp) _, block_of (grown_setRow _ _ _) hI.2.1 (by omega), block_of (grown_setRow _ _ _) hI.2.2 (by omega)⟩
        · intro b b' d hd
          simp [callSlots, dullOp] at hd
        · intro L b w' hL hI
          have e1 := hI.1.hg
          have e2 := hI.1.hh
          rw [hL 2 (by decide)] at e1
          rw [hL 3 (by decide)] at e2
          simp only [if_true] at e1 e2
          obtain ⟨l0, l1, l2⟩ := cells3 e1
          obtain ⟨u0, u1, u2⟩ := cells3 e2
          have HK9 := Lib.hid hI.1.kept
          clear hL hI e1 e2
          go_wp2_with fail
          refine bodyPost_ret (by simp only [results, Try.results29]; go_simp; rfl) rfl ?_
          rw [HV.out]
          exact ⟨rfl, (show Kept w (w.alloc (.cells #[.slice (some ⟨fb, off, none⟩) k cap, .slice B m cap2] 25)) by (repeat (first | exact Kept.refl _ | assumption | refine Kept.alloc ?_ _ | refine Kept.ext ?_ _ | refine Kept.drew ?_ | refine Kept.drewN ?_ _))).trans HK9.out⟩
end Go.Proofs.Ytoadlneneijfaaa
