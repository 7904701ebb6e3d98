/- Contract: a choice of as few rows and columns as keep a bound, of the program. Conditions: the list's length is an int. -/
import Derived.Test.YtjadpehpempjoaaCc2
namespace Go.Proofs.Ytjadpehpempjoaa
set_option linter.unusedVariables false
set_option linter.unusedSimpArgs false
open Go.RowKit Go.Deep
theorem noneTo.col {n : Nat} {m : Nat → Nat} {f : Nat → Nat → Int} {p q k : Int} {r c : Nat} (h : noneTo n m f p q k r c) (hl : ((bl c (m 0)).length : Int) ≠ k) : noneTo n m f p q k r (c + 1) := by
  intro r' c' h1 h2 h3 h4
  refine h r' c' h1 h2 h3 ?_
  rcases h4 with h4 | ⟨h4, h5⟩
  · exact .inl h4
  · by_cases e : c' = c
    · subst e; exact absurd h3 hl
    · exact .inr ⟨h4, by omega⟩
theorem noneTo.more {n : Nat} {m : Nat → Nat} {f : Nat → Nat → Int} {p q k : Int} {r c : Nat} (h : noneTo n m f p q k r c) (hl : okE n m f p q r c ≠ 0) : noneTo n m f p q k r (c + 1) := by
  intro r' c' h1 h2 h3 h4
  rcases h4 with h4 | ⟨h4, h5⟩
  · exact h r' c' h1 h2 h3 (.inl h4)
  · by_cases e : c' = c
    · subst e; subst h4; exact hl
    · exact h r' c' h1 h2 h3 (.inr ⟨h4, by omega⟩)
theorem noneTo.past {n : Nat} {m : Nat → Nat} {f : Nat → Nat → Int} {p q k : Int} {r : Nat} (h : noneTo n m f p q k r 0) (hl : ((bl r n).length : Int) ≠ k) : noneTo n m f p q k (r + 1) 0 := by
  intro r' c' h1 h2 h3 h4
  rcases h4 with h4 | ⟨h4, h5⟩
  · by_cases e : r' = r
    · subst e; exact absurd h2 hl
    · exact h r' c' h1 h2 h3 (.inl (by omega))
  · omega
theorem noneTo.row {n : Nat} {m : Nat → Nat} {f : Nat → Nat → Int} {p q k : Int} {r : Nat} (h : noneTo n m f p q k r (2 ^ m 0)) : noneTo n m f p q k (r + 1) 0 := by
  intro r' c' h1 h2 h3 h4
  rcases h4 with h4 | ⟨h4, h5⟩
  · by_cases e : r' = r
    · exact h r' c' h1 h2 h3 (.inr ⟨e, h1⟩)
    · exact h r' c' h1 h2 h3 (.inl (by omega))
  · omega
theorem noneTo.none {n : Nat} {m : Nat → Nat} {f : Nat → Nat → Int} {p q : Int} {k : Nat} (h : noneTo n m f p q k (2 ^ n) 0) : ¬ anyK n m f p q k := by
  rintro ⟨r, c, h1, h2, h3, h4, h5⟩
  exact h r c h2 (by omega) (by omega) (.inl h1) h5
/-- What the search returns. -/
def FewC (n : Nat) (m : Nat → Nat) (f : Nat → Nat → Int) (p q : Int) (K b : Nat) (vr vc : Value) (w : World) : Prop :=
  ∃ r c, r < 2 ^ n ∧ c < 2 ^ m 0 ∧ (bl r n).length = K ∧ (bl c (m 0)).length = K ∧ okE n m f p q r c = 0 ∧
    w.ownsRow b 3 1 vr (bl r n).length (rowC 1 (blF r n) (bl r n).length) ∧ w.ownsRow b 3 1 vc (bl c (m 0)).length (rowC 1 (blF c (m 0)) (bl c (m 0)).length)
theorem FewC.on {n : Nat} {m : Nat → Nat} {f : Nat → Nat → Int} {p q : Int} {K b : Nat} {vr vc : Value} {w w' : World} (h : FewC n m f p q K b vr vc w) (hk : Kept w w') : FewC n m f p q K b vr vc w' := by
  obtain ⟨r, c, h1, h2, h3, h4, h5, h6, h7⟩ := h
  exact ⟨r, c, h1, h2, h3, h4, h5, owns_kept h6 hk, owns_kept h7 hk⟩
theorem FewC.low {n : Nat} {m : Nat → Nat} {f : Nat → Nat → Int} {p q : Int} {K b b' : Nat} {vr vc : Value} {w : World} (h : FewC n m f p q K b vr vc w) (hb : b' ≤ b) : FewC n m f p q K b' vr vc w := by
  obtain ⟨r, c, h1, h2, h3, h4, h5, h6, h7⟩ := h
  exact ⟨r, c, h1, h2, h3, h4, h5, own_lo2 h6 hb, own_lo2 h7 hb⟩
theorem FewC.shape {n : Nat} {m : Nat → Nat} {f : Nat → Nat → Int} {p q : Int} {K b : Nat} {vr vc : Value} {w : World} (h : FewC n m f p q K b vr vc w) : (∃ A c, vr = .slice A K c) ∧ ∃ A c, vc = .slice A K c := by
  obtain ⟨r, c, h1, h2, h3, h4, h5, h6, h7⟩ := h
  obtain ⟨A, c1, e1⟩ := own_slice2 h6
  obtain ⟨A2, c2, e2⟩ := own_slice2 h7
  rw [h3] at e1
  rw [h4] at e2
  exact ⟨⟨_, _, e1⟩, _, _, e2⟩
set_option maxRecDepth 100000 in
set_option maxHeartbeats 8000000 in
theorem cCompok_any (A : Option Addr) (n cap : Nat) (B : Nat → Option Addr) (m cp : Nat → Nat) (f : Nat → Nat → Int) (p q : Int) (K : Nat) (w : World) (hn : n ≤ 9223372036854775807) (hM : MatAt w A n B m cp f) (hv : valE n m f = 0) (hbb : bndB p q = true) (hK : IsFew n m f p q K) :
    Calls Try.prog 6 #[.slice A n cap, .agg #[.int .i64 p, .int .i64 q]] w fun e w' => ∃ vr vc, e = .returned (.tuple #[vr, vc, .int .i64 0]) ∧ Kept w w' ∧ FewC n m f p q K w.heap.size vr vc w' := by
  obtain ⟨hn1, hm1, -, -⟩ := valE_0 hv
  obtain ⟨hK1, hK2, hK3⟩ := hK
  obtain ⟨mn, hmn⟩ : ∃ x, min n (m 0) = x := ⟨_, rfl⟩
  have hmn6 : mn ≤ 6 := by omega
  have hmo : ∀ w', Kept w w' → Calls Try.prog 17 #[.slice A n cap] w' fun e w'' => e = .returned (.int .i64 (mn : Int)) ∧ w' = w'' := fun w' hk => by
    have := cmost_any A n cap B m cp f w' hv (hM.of hk)
    rwa [hmn] at this
  rw [hmn] at hK1
  have HMO := Lib.hid hmo
  have HM := Lib.hid hM
  have HV := Lib.hid hv
  have HBB := Lib.hid hbb
  have HK2 := Lib.hid hK2
  have HK3 := Lib.hid hK3
  clear hM hv hbb hK2 hK3 hmo hmn
  obtain ⟨n1, n6⟩ := hn1
  obtain ⟨m1, m6⟩ := hm1
  go_enter Try.func6, Try.ntmps6
  go_wp2_with (first | (go_at_call 15; refine (cval_any _ _ _ _ _ _ _ _ hn (HM.out.of (by (repeat (first | exact Kept.refl _ | assumption | refine Kept.alloc ?_ _ | refine Kept.ext ?_ _ | refine Kept.drew ?_ | refine Kept.drewN ?_ _))))).mono ?_; rintro e w1 ⟨rfl, rfl⟩; rw [HV.out]) | (go_at_call 16; refine (cbound_any _ _ _).mono ?_; rintro e w1 ⟨rfl, x5, rfl⟩; rw [HBB.out]))
  refine wp_gen (fun W0 hW0 => ?_)
  have k0 : Kept w W0 := by rw [hW0]; (repeat (first | exact Kept.refl _ | assumption | refine Kept.alloc ?_ _ | refine Kept.ext ?_ _ | refine Kept.drew ?_ | refine Kept.drewN ?_ _))
  have hA0 : W0.heap[w.heap.size]? = some (.cells #[.slice A n cap] 22 (0, 0)) := by rw [hW0]; exact fr_kept (alloc_at2 w _ _) (by (repeat (first | exact Kept.refl _ | assumption | refine Kept.alloc ?_ _ | refine Kept.ext ?_ _ | refine Kept.drew ?_ | refine Kept.drewN ?_ _)))
  have hQ0 : W0.heap[w.heap.size + 1]? = some (.cells #[.int .i64 p, .int .i64 q] 27 (0, 0)) := by rw [hW0]; exact fr_kept (alloc_at2 (w.alloc (.cells #[.slice A n cap] 22)) _ _) (by (repeat (first | exact Kept.refl _ | assumption | refine Kept.alloc ?_ _ | refine Kept.ext ?_ _ | refine Kept.drew ?_ | refine Kept.drewN ?_ _)))
  have hR0 : W0.heap[w.heap.size + 1 + 1]? = some (.cells #[.slice none 0 0] 23 (0, 0)) := by rw [hW0]; exact fr_kept (alloc_at2 ((w.alloc (.cells #[.slice A n cap] 22)).alloc (.cells #[.int .i64 p, .int .i64 q] 27)) _ _) (by (repeat (first | exact Kept.refl _ | assumption | refine Kept.alloc ?_ _ | refine Kept.ext ?_ _ | refine Kept.drew ?_ | refine Kept.drewN ?_ _)))
  have hC0 : W0.heap[w.heap.size + 1 + 1 + 1]? = some (.cells #[.slice none 0 0] 23 (0, 0)) := by rw [hW0]; exact fr_kept (alloc_at2 (((w.alloc (.cells #[.slice A n cap] 22)).alloc (.cells #[.int .i64 p, .int .i64 q] 27)).alloc (.cells #[.slice none 0 0] 23)) _ _) (by (repeat (first | exact Kept.refl _ | assumption | refine Kept.alloc ?_ _ | refine Kept.ext ?_ _ | refine Kept.drew ?_ | refine Kept.drewN ?_ _)))
  have HK0 := Lib.hid k0
  have HB0 := Lib.hid (And.intro hA0 (And.intro hQ0 (And.intro hR0 hC0)))
  clear hW0 k0 hA0 hQ0 hR0 hC0
  go_loopw [8] (fun i wr => ∃ k : Nat, k ≤ K ∧ i = .int .i64 k ∧ Kept w wr ∧ wr.heap[w.heap.size]? = some (.cells #[.slice A n cap] 22 (0, 0)) ∧ wr.heap[w.heap.size + 1]? = some (.cells #[.int .i64 p, .int .i64 q] 27 (0, 0)) ∧
    wr.heap[w.heap.size + 1 + 1]? = some (.cells #[.slice none 0 0] 23 (0, 0)) ∧ wr.heap[w.heap.size + 1 + 1 + 1]? = some (.cells #[.slice none 0 0] 23 (0, 0))) (fun i _ => K + 1 - (intOf i).toNat)
  case atStart => exact ⟨0, by omega, rfl, HK0.out, HB0.out⟩
  case round =>
    obtain ⟨k, hk, rfl, hkw, hA, hQ, hR, hC⟩ := hrel
    obtain ⟨a1, a2, a3⟩ := box_at hA
    have LA : Lower w.heap.size wr.heap.size := ⟨a3⟩
    have HKW := Lib.hid hkw
    have HB := Lib.hid (And.intro hA (And.intro hQ (And.intro hR hC)))
    have g1 : decide ((k : Int) ≤ mn) = true := decide_eq_true (by omega)
    have g2 : decide (k ≤ mn) = true := decide_eq_true (by omega)
    clear hkw hA hQ hR hC
    go_wp2_with (go_at_call 17; refine (HMO.out _ (by (repeat (first | exact Kept.refl _ | assumption | refine Kept.alloc ?_ _ | refine Kept.ext ?_ _ | refine Kept.drew ?_ | refine Kept.drewN ?_ _)))).mono ?_; rintro e w1 ⟨rfl, rfl⟩)
    obtain ⟨hA, hQ, hR, hC⟩ := HB.out
    have hkk : Kept wr (wr.alloc (.cells #[.bool false] 4)) := by (repeat (first | exact Kept.refl _ | assumption | refine Kept.alloc ?_ _ | refine Kept.ext ?_ _ | refine Kept.drew ?_ | refine Kept.drewN ?_ _))
    obtain ⟨l1, l2, l3⟩ := And.intro (box2_at hQ).2.2 (And.intro (box_at hR).2.2 (box_at hC).2.2)
    have hst : CgB w (wr.heap.size + 1) w.heap.size (w.heap.size + 1) wr.heap.size (w.heap.size + 1 + 1) (w.heap.size + 1 + 1 + 1) A n cap p q (.bool false) (.slice none 0 0) (.slice none 0 0) (wr.alloc (.cells #[.bool false] 4)) :=
      ⟨HKW.out.trans hkk, by omega, by omega, by omega, fr_kept hA hkk, fr_kept hQ hkk, alloc_at2 _ _ _, fr_kept hR hkk, fr_kept hC hkk⟩
    refine (cchoices_c A n cap B m cp f k _ _ _ _ _ (fun r c w' => CgB w (wr.heap.size + 1) w.heap.size (w.heap.size + 1) wr.heap.size (w.heap.size + 1 + 1) (w.heap.size + 1 + 1 + 1) A n cap p q (.bool false) (.slice none 0 0) (.slice none 0 0) w' ∧ noneTo n m f p q k r c)
      (fun w' => ∃ vr vc, CgB w (wr.heap.size + 1) w.heap.size (w.heap.size + 1) wr.heap.size (w.heap.size + 1 + 1) (w.heap.size + 1 + 1 + 1) A n cap p q (.bool true) vr vc w' ∧ FewC n m f p q k (wr.heap.size + 1) vr vc w') w _ ⟨⟨n1, n6⟩, m1, m6⟩ HM.out
      (fun r c w' h => h.1.kept) (fun r c w' w'' h hk => ⟨h.1.on hk, h.2⟩) (fun r c w' RA CA rc cc hr hc hrl hcl h h1 h2 => ?_) (fun r c w' _ hl h => ⟨h.1, h.2.col hl⟩) (fun r w' _ hl h => ⟨h.1, h.2.past hl⟩) (fun r w' hl h => ⟨h.1, h.2.row⟩) ⟨hst, fun r' c' _ _ _ h => by omega⟩).mono ?_
    · rw [World.size_alloc] at h1 h2 ⊢
      refine (ccarg_any w _ _ _ _ _ _ A n cap B m cp f p q k r c RA CA rc cc _ _ w' HV.out HBB.out HM.out (by omega) h.1 h1 h2).mono ?_
      rintro e w'' ⟨hfo, ⟨e1, rfl, e3⟩ | ⟨e1, rfl, e3⟩⟩
      · exact ⟨true, rfl, fun _ => ⟨⟨e3, h.2.more e1⟩, hfo⟩, fun h => by cases h⟩
      · exact ⟨false, rfl, (fun h => by cases h), fun _ => ⟨_, _, e3, r, c, hr, hc, by omega, by omega, e1, hfo.owns h1, hfo.owns h2⟩⟩
    · clear hst hkk hA hQ hR hC
      rintro e w1 ⟨rfl, ⟨hI, hno⟩ | ⟨vr, vc, hI, hfw⟩⟩
      · have hne : k ≠ K := fun e => hno.none (by rw [e]; exact HK2.out)
        obtain ⟨f1, f2, f3⟩ := box_at hI.hf
        have HI := Lib.hid hI
        clear hI hno
        go_wp2_with fail
        go_roundw
        case rel => exact ⟨k + 1, by omega, by go_num, HI.out.kept, HI.out.ha, HI.out.hq, HI.out.hr, HI.out.hc⟩
        case measure => simp [intOf]; omega
      · have hkK : k = K := by
          rcases Nat.lt_or_ge k K with h | h
          · obtain ⟨r, c, e1, e2, e3, e4, e5, -⟩ := hfw
            exact absurd ⟨r, c, e1, e2, e3, e4, e5⟩ (HK3.out k h)
          · omega
        subst hkK
        obtain ⟨⟨RA, rc, rfl⟩, CA, cc, rfl⟩ := hfw.shape
        obtain ⟨f1, f2, f3⟩ := box_at hI.hf
        have HI := Lib.hid hI
        have hsz := kept_le HKW.out
        have HFW := Lib.hid (hfw.low (show w.heap.size ≤ wr.heap.size + 1 by omega))
        have hx : ∀ W', Kept w1 W' → ((W'.cell? ⟨w.heap.size + 1 + 1, 0, none⟩ = some (.slice RA k rc) ∧ W'.frozen? ⟨w.heap.size + 1 + 1, 0, none⟩ = false) ∧ W'.cell? ⟨w.heap.size + 1 + 1 + 1, 0, none⟩ = some (.slice CA k cc) ∧ W'.frozen? ⟨w.heap.size + 1 + 1 + 1, 0, none⟩ = false) ∧ w.heap.size + 1 + 1 < W'.heap.size ∧ w.heap.size + 1 + 1 + 1 < W'.heap.size := by
          intro W' hk
          obtain ⟨e1, e2, e3⟩ := box_at (fr_kept HI.out.hr hk)
          obtain ⟨e4, e5, e6⟩ := box_at (fr_kept HI.out.hc hk)
          exact ⟨⟨⟨e1, e2⟩, e4, e5⟩, e3, e6⟩
        have HX := Lib.hid hx
        clear hx hI hfw
        go_wp2_with fail
        refine wp_region_tellC (C := fun W' => Kept w1 W') [.q, .q, .k undef, .k undef, .q] (fun _ _ W' => Kept w1 W') (by kernel_rfl) (by kernel_rfl) (fun b => by kernel_rfl) (fun _ => (Kept.refl _).drew) (fun _ _ _ _ _ _ h hk => h.trans hk) (fun _ _ _ h => h) ?_
        apply Exists.intro
        refine ⟨?_, ?_, ?_, ?_⟩
        · rintro b W hk
          obtain ⟨⟨⟨e1, -⟩, e2, -⟩, l1, l2⟩ := HX.out W hk
          have L1 : Lower (w.heap.size + 1 + 1) W.heap.size := ⟨l1⟩
          have L2 : Lower (w.heap.size + 1 + 1 + 1) W.heap.size := ⟨l2⟩
          simp only [swapL, Nat.reduceAdd]
          repeat (go_big_quiet_step (fail))
          refine wpQuiet_nil ?_
          rfl
        · simp only [EachS, and_true]
          refine ⟨?_, ?_⟩
          · intro S b w' _ _ hK
            obtain ⟨⟨⟨e1, e2⟩, -, -⟩, -⟩ := HX.out w' hK
            have e3 := same_set e1
            go_simp
            exact ⟨rfl, hK⟩
          · intro S b w' _ _ hK
            obtain ⟨⟨-, e1, e2⟩, -⟩ := HX.out w' hK
            have e3 := same_set e1
            go_simp
            exact ⟨rfl, hK⟩
        · intro b1 b2 d hd
          simp [callSlots, dullOp] at hd
        · intro L b w' hL hK
          obtain ⟨⟨⟨e1, -⟩, e2, -⟩, l1, l2⟩ := HX.out w' hK
          go_simp
          go_wp2_with fail
          refine bodyPost_ret (by simp only [results, Try.results6]; go_simp; rfl) rfl ?_
          exact ⟨_, _, rfl, HI.out.kept.trans hK, HFW.out.on hK⟩
end Go.Proofs.Ytjadpehpempjoaa
