/- Contract: a surface cut finer, of the reference. Conditions: the lists' lengths are ints. -/
import Derived.Test.YtoadlneneijfaaaFne
import Derived.Test.YtoadlneneijfaaaGvl
namespace Go.Proofs.Ytoadlneneijfaaa
set_option linter.unusedVariables false
set_option linter.unusedSimpArgs false
open Go.RowKit Go.Deep Go.Maps
/-- The numbers of the middles that are known. -/
def mdF (n : Nat) (al : Nat → Nat) (i j s : Nat) : Int := if s < j then (midN n al (3 * i + s) : Nat) else 0
theorem own_heap {w w' : World} {base c n : Nat} {e : TypeId} {v : Value} {xs : List Value} (h : w.ownsRow base e c v n xs) (he : ∀ g, v.ownBlock = some g → w'.heap[g]? = w.heap[g]?) : w'.ownsRow base e c v n xs := by
  refine ⟨h.1, ?_⟩
  rcases h.2 with h0 | ⟨g, cap, cur, rfl, h1, h2, h3⟩
  · exact .inl h0
  · exact .inr ⟨g, cap, cur, rfl, h1, by rw [he g rfl]; exact h2, h3⟩
theorem Msh2.byRow {W w w' : World} {rb mb np nf base c n : Nat} {vP vF v : Value} {P' F' : Nat → Nat → Int} {xs : List Value} (h : Msh2 W rb mb vP np P' vF nf F' w) (hv : w.ownsRow base 80 c v n xs) (hb : W.heap.size ≤ base) (hg : w.grownBy w' v.ownBlock) : Msh2 W rb mb vP np P' vF nf F' w' :=
  ⟨kept_grown h.kept hv hb hg, own_keepsB hv hg h.r (by decide), own_keepsB hv hg h.q (by decide), h.p.kept hg (own_ne2 hv h.p (by decide)), h.f.kept hg (own_ne2 hv h.f (by decide))⟩
theorem Msh2.setL {W w : World} {rb mb np nf lb o : Nat} {vP vF : Value} {P' F' : Nat → Nat → Int} {cs : Array Value} {u : Value} (h : Msh2 W rb mb vP np P' vF nf F' w) (hl : w.heap[lb]? = some (.cells cs 54 (0, 0))) (hne : vF.ownBlock ≠ some lb) (hW : W.heap.size ≤ lb) : Msh2 W rb mb vP np P' vF nf F' (w.setCell ⟨lb, o, none⟩ u) := by
  have hs : w.grownBy (w.setCell ⟨lb, o, none⟩ u) (some lb) := ⟨rfl, rfl, rfl, by simp, fun i _ hi => heap_sc (fun e => hi (by simp [e]))⟩
  refine ⟨h.kept.setCell hW _, ?_, ?_, h.p.kept hs (.inr fun q => own_ne h.p hl (by decide) q.symm), h.f.kept hs (.inr hne)⟩
  · rw [heap_sc (cells_ne h.r hl (by decide))]; exact h.r
  · rw [heap_sc (cells_ne h.q hl (by decide))]; exact h.q
theorem cnb_old {al : Nat → Nat} {a : Nat} (h : al a < a) : cnB (newB al) (a + 1) = cnB (newB al) a := by
  show cnB (newB al) a + (if newB al a = true then 1 else 0) = _
  rw [if_neg (by unfold newB; rw [decide_eq_true_eq]; omega)]
  rfl
theorem cnb_new {al : Nat → Nat} {a : Nat} (h : a < al a) : cnB (newB al) (a + 1) = cnB (newB al) a + 1 := by
  show cnB (newB al) a + (if newB al a = true then 1 else 0) = _
  rw [if_pos (by unfold newB; rw [decide_eq_true_eq]; exact h)]
theorem npt_old {n : Nat} {al : Nat → Nat} {a : Nat} (h : al a < a) : npt n al (a + 1) = npt n al a := by
  unfold npt
  rw [cnb_old h]
theorem npt_new {n : Nat} {al : Nat → Nat} {a : Nat} (h : a < al a) : npt n al (a + 1) = npt n al a + 1 := by
  unfold npt
  rw [cnb_new h]
  omega
theorem new_pt {n m : Nat} {P F : Nat → Nat → Int} {al : Nat → Nat} {i j : Nat} (hi : i < m) (hj : j < 3) (h : 3 * i + j < al (3 * i + j)) {lo hh : Int} (h0 : min (F i j) (F i ((j + 1) % 3)) = lo) (h1 : max (F i j) (F i ((j + 1) % 3)) = hh) (c : Nat) : finP n m P F al (npt n al (3 * i + j)) c = P lo.toNat c + P hh.toNat c := by
  have e : npt n al (3 * i + j) - n = cnB (newB al) (3 * i + j) := by unfold npt; omega
  unfold finP
  rw [if_neg (by unfold npt; omega), e, fsel_at (by unfold newB; simpa using h) (by omega), nxt_at i j hj, tl_at F i j hj, tl_at F i _ (Nat.mod_lt _ (by omega))]
  by_cases hle : F i j ≤ F i ((j + 1) % 3)
  · rw [show lo = F i j by omega, show hh = F i ((j + 1) % 3) by omega]
  · rw [show lo = F i ((j + 1) % 3) by omega, show hh = F i j by omega]
    omega
theorem mid_store {W w : World} {rb mb np nf base ws nE : Nat} {vP vF vE : Value} {P' F' : Nat → Nat → Int} {c0 c1 c2 : Value} {X : Obj} {xs : List Value} (o : Nat) (u : Value) (hM : Msh2 W rb mb vP np P' vF nf F' w) (hE : w.ownsRow base 80 2 vE nE xs) (hl : w.heap[ws + 1]? = some (.cells #[c0, c1, c2] 54 (0, 0))) (hf : w.heap[ws]? = some X) (hne : vF.ownBlock ≠ some (ws + 1)) (hW : W.heap.size ≤ ws + 1) :
    Msh2 W rb mb vP np P' vF nf F' (w.setCell ⟨ws + 1, o, none⟩ u) ∧ (w.setCell ⟨ws + 1, o, none⟩ u).ownsRow base 80 2 vE nE xs ∧ (w.setCell ⟨ws + 1, o, none⟩ u).heap[ws + 1]? = some (.cells (#[c0, c1, c2].setIfInBounds o u) 54 (0, 0)) ∧ (w.setCell ⟨ws + 1, o, none⟩ u).heap[ws]? = some X :=
  ⟨hM.setL hl hne hW, own_heap hE (fun g hg => heap_sc (fun e => own_ne hE hl (by decide) (by rw [hg, e]))), by rw [heap_setCell_same _ _ _ _ _ _ hl], by rw [heap_sc (by omega)]; exact hf⟩
theorem end_I {n m : Nat} {F : Nat → Nat → Int} {al : Nat → Nat} (hn : n ≤ 64) (hin : ∀ i, i < m → ∀ k, k < 3 → 0 ≤ F i k ∧ F i k < n) {r : Nat} (hr : r ≤ 3 * m) : ∀ c, c < cnB (newB al) r → ∀ j, j < 2 → I64 (endF m F al c j) := fun c hc j hj => by
  obtain ⟨b, b1, b2, b3⟩ := fsel_ex hc
  have h := fsel_at b2 (r := 3 * m) (by omega)
  rw [b3] at h
  have n1 := (nxt_prm m).lt b (by omega)
  have e0 := hin (b / 3) (by omega) (b % 3) (Nat.mod_lt _ (by omega))
  have e1 := hin (nxt b / 3) (by omega) (nxt b % 3) (Nat.mod_lt _ (by omega))
  unfold endF I64 tl
  rw [h]
  split <;> omega
theorem end_is {n m : Nat} {F : Nat → Nat → Int} {al : Nat → Nat} (ho : Oth F al m) (hds : ∀ i, i < m → F i 0 ≠ F i 1 ∧ F i 1 ≠ F i 2 ∧ F i 2 ≠ F i 0) {i j c : Nat} (hi : i < m) (hj : j < 3) (hc : c < cnB (newB al) (3 * i + j)) {lo hh : Int} (h0 : min (F i j) (F i ((j + 1) % 3)) = lo) (h1 : max (F i j) (F i ((j + 1) % 3)) = hh) : (endF m F al c 0 == lo && endF m F al c 1 == hh) = decide (c = midN n al (3 * i + j) - n) := by
  have hc' : c < cnB (newB al) (3 * m) := Nat.lt_of_lt_of_le hc (cnB_mono _ (by omega))
  have h := end_eq (n := n) ho hds (a := 3 * i + j) (by omega) hc'
  rw [nxt_at i j hj, tl_at F i j hj, tl_at F i _ (Nat.mod_lt _ (by omega)), h0, h1] at h
  by_cases e : c = midN n al (3 * i + j) - n
  · obtain ⟨k0, k1⟩ := h.2 e
    rw [k0, k1, decide_eq_true e]
    simp
  · rw [decide_eq_false e, Bool.and_eq_false_iff]
    by_cases k0 : endF m F al c 0 = lo
    · right
      simp only [beq_eq_false_iff_ne]
      exact fun k1 => e (h.1 ⟨k0, k1⟩)
    · left
      simpa using k0
set_option maxRecDepth 100000 in
set_option maxHeartbeats 16000000 in
theorem r2Finer_any (A Bf : Option Addr) (n cap m cap2 : Nat) (P F : Nat → Nat → Int) (al : Nat → Nat) (w : World) (hn : n ≤ 9223372036854775807 ∧ m ≤ 9223372036854775807) (hP : RowsAt w A n 3 P) (hF : RowsAt w Bf m 3 F) (hal : validE n P m F = 0 → Oth F al m) :
    Calls Try.prog 53 #[.agg #[.slice A n cap, .slice Bf m cap2]] w fun r w' => MeshO w w' r (finE n P m F al) (npt n al (3 * m)) (finP n m P F al) (4 * m) (finF n F al) := by
  have HP := Lib.hid hP
  have HF := Lib.hid hF
  obtain ⟨i0, hi, hz0, hz1, hz2⟩ := info_parts infoPoint
  have HJP := Lib.hid (And.intro hi (And.intro hz0 (And.intro hz1 hz2)))
  clear hi hz0 hz1 hz2
  obtain ⟨i1, hi, hz0, hz1, hz2⟩ := info_parts infoFace
  have HJ := Lib.hid (And.intro hi (And.intro hz0 (And.intro hz1 hz2)))
  clear hi hz0 hz1 hz2
  obtain ⟨i2, hi, hz0, hz1, hz2⟩ := info_parts info2
  have HJ2 := Lib.hid (And.intro hi (And.intro hz0 (And.intro hz1 hz2)))
  clear hi hz0 hz1 hz2
  unfold finE
  obtain ⟨e1, he1⟩ : ∃ e, validE n P m F = e := ⟨_, rfl⟩
  have hv1 : ∀ w', Kept w w' → Calls Try.prog 31 #[.agg #[.slice A n cap, .slice Bf m cap2]] w' fun r w'' => r = .returned (.int .i64 (validE n P m F)) ∧ Kept w' w'' := fun w' hk => r2validate_any A Bf n cap m cap2 P F w' hn (hP.of hk) (hF.of hk)
  rw [he1] at hv1 hal
  have HV1 := Lib.hid hv1
  clear hv1 hP hF
  rw [he1]
  by_cases h1 : e1 = 0
  case neg =>
    have h1b : (e1 == 0) = false := by simpa using h1
    rw [if_pos h1]
    have H1 := Lib.hid h1
    clear he1 h1 hal
    go_enter Try.func53, Try.ntmps53
    go_wp2_with (go_at_call 31; refine (HV1.out _ (by (repeat (first | exact Kept.refl _ | assumption | refine Kept.alloc ?_ _ | refine Kept.ext ?_ _ | refine Kept.drew ?_ | refine Kept.drewN ?_ _)))).mono ?_; rintro e w1 ⟨rfl, x1, rfl⟩)
    refine bodyPost_ret (by simp only [results, Try.results53]; go_simp; rfl) rfl ?_
    exact MeshO.no H1.out (by (repeat (first | exact Kept.refl _ | assumption | refine Kept.alloc ?_ _ | refine Kept.ext ?_ _ | refine Kept.drew ?_ | refine Kept.drewN ?_ _)))
  subst h1
  rw [if_neg (by simp)]
  have ho := hal rfl
  have s1 := valid_sz he1
  have hin := (clo_of he1).inn
  have HDS := Lib.hid (clo_of he1).dis
  have hbd : ∀ i, i < n → ∀ j, j < 3 → -64 ≤ P i j ∧ P i j ≤ 64 := fun i hi j hj => by
    obtain ⟨-, -, hb, -⟩ := validE_ok he1
    have := ptsBad_at hb i hi
    rcases (show j = 0 ∨ j = 1 ∨ j = 2 by omega) with rfl | rfl | rfl <;> omega
  obtain ⟨e3, he3⟩ : ∃ e, validE (npt n al (3 * m)) (finP n m P F al) (4 * m) (finF n F al) = e := ⟨_, rfl⟩
  rw [he3]
  have HE1 := Lib.hid he1
  have HE3 := Lib.hid he3
  have HIN := Lib.hid hin
  have HBD := Lib.hid hbd
  have HO := Lib.hid ho
  clear he1 he3 hin hbd hal ho hn
  go_enter Try.func53, Try.ntmps53
  go_wp2_with (go_at_call 31; refine (HV1.out _ (by (repeat (first | exact Kept.refl _ | assumption | refine Kept.alloc ?_ _ | refine Kept.ext ?_ _ | refine Kept.drew ?_ | refine Kept.drewN ?_ _)))).mono ?_; rintro e w1 ⟨rfl, x1, rfl⟩)
  have hW0 : (ext ((w.alloc (.cells #[.slice A n cap, .slice Bf m cap2] 25)).alloc (.cells #[.slice none 0 0, .slice none 0 0] 25)) x1).heap.size = (adv (w.heap.size + 1 + 1) x1.obs.size) := by simp
  have hrb : (w.heap.size + 1) ≠ (adv (w.heap.size + 1 + 1) x1.obs.size) := by simp only [adv]; omega
  have hmbl : (ext ((w.alloc (.cells #[.slice A n cap, .slice Bf m cap2] 25)).alloc (.cells #[.slice none 0 0, .slice none 0 0] 25)) x1).heap.size ≤ (adv (w.heap.size + 1 + 1) x1.obs.size) := Nat.le_of_eq hW0
  have HW0 := Lib.hid hW0
  have HRB := Lib.hid hrb
  have HMBL := Lib.hid hmbl
  clear hW0 hrb hmbl
  go_loopw [6] (fun i wr => ∃ k : Nat, k ≤ n ∧ i = .int .i64 k ∧ ∃ v, Msh2 (ext ((w.alloc (.cells #[.slice A n cap, .slice Bf m cap2] 25)).alloc (.cells #[.slice none 0 0, .slice none 0 0] 25)) x1) (w.heap.size + 1) (adv (w.heap.size + 1 + 1) x1.obs.size) v k (finP n m P F al) (.slice none 0 0) 0 (finF n F al) wr) (fun i _ => n - (intOf i).toNat)
  case atStart =>
    refine ⟨0, by omega, rfl, .slice none 0 0, by (repeat (first | exact Kept.refl _ | assumption | refine Kept.alloc ?_ _ | refine Kept.ext ?_ _ | refine Kept.drew ?_ | refine Kept.drewN ?_ _)), ?_, ?_, World.ownsRow_nil _ _ _ _, World.ownsRow_nil _ _ _ _⟩
    · exact fr_kept (alloc_now (w.alloc (.cells #[.slice A n cap, .slice Bf m cap2] 25)) _ _) (by (repeat (first | exact Kept.refl _ | assumption | refine Kept.alloc ?_ _ | refine Kept.ext ?_ _ | refine Kept.drew ?_ | refine Kept.drewN ?_ _)))
    · exact alloc_now (ext ((w.alloc (.cells #[.slice A n cap, .slice Bf m cap2] 25)).alloc (.cells #[.slice none 0 0, .slice none 0 0] 25)) x1) _ _
  case round =>
    obtain ⟨k, hk, rfl, v, hM⟩ := hrel
    obtain ⟨A2, cp2, rfl, hcp⟩ := own_sl hM.p
    obtain ⟨m0, m1, z0, z1⟩ := cells2 hM.q
    have LM : Lower (adv (w.heap.size + 1 + 1) x1.obs.size) wr.heap.size := ⟨cell_lt m0⟩
    have kb : wr.cell? ⟨w.heap.size, 0, none⟩ = some (.slice A n cap) := kept_cell (w := (ext ((w.alloc (.cells #[.slice A n cap, .slice Bf m cap2] 25)).alloc (.cells #[.slice none 0 0, .slice none 0 0] 25)) x1)) (by go_simp) hM.kept
    have kb1 : wr.cell? ⟨w.heap.size, 1, none⟩ = some (.slice Bf m cap2) := kept_cell (w := (ext ((w.alloc (.cells #[.slice A n cap, .slice Bf m cap2] 25)).alloc (.cells #[.slice none 0 0, .slice none 0 0] 25)) x1)) (by go_simp) hM.kept
    have LKB : Lower w.heap.size wr.heap.size := ⟨cell_lt kb⟩
    by_cases hlt : k < n
    · have gk : decide ((k : Int) < n) = true := decide_eq_true (by omega)
      have b0 := HBD.out k hlt 0 (by omega)
      have b1 := HBD.out k hlt 1 (by omega)
      have b2 := HBD.out k hlt 2 (by omega)
      have HM := Lib.hid hM
      have u : ∀ j, (finP n m P F al) k j = 2 * P k j := fun j => by unfold finP; rw [if_pos hlt]
      have HU := Lib.hid u
      have htm : ∀ w', Calls Try.prog 24 #[.agg #[.int .i64 (P k 0), .int .i64 (P k 1), .int .i64 (P k 2)], .int .i64 2] w' fun e w'' => e = .returned (.agg #[.int .i64 (2 * P k 0), .int .i64 (2 * P k 1), .int .i64 (2 * P k 2)]) ∧ Kept w' w'' := fun w' => by
        have := r2times_any (P k 0) (P k 1) (P k 2) 2 w' (by omega)
        exact this
      have HTM := Lib.hid htm
      obtain ⟨b, off, rfl, -, -⟩ := rows3 HP.out hlt
      clear hM u htm
      go_wp2_with fail
      clear m0 m1 z0 z1 LM
      refine wp_region_tellC (C := Kept (ext ((w.alloc (.cells #[.slice (some ⟨b, off, none⟩) n cap, .slice Bf m cap2] 25)).alloc (.cells #[.slice none 0 0, .slice none 0 0] 25)) x1)) [.q, .k (.slice A2 k cp2), .q, .q, .q, .q, .q, .q, .s, .s, .q, .k undef] (AppX 1 8 9 11 (ext ((w.alloc (.cells #[.slice (some ⟨b, off, none⟩) n cap, .slice Bf m cap2] 25)).alloc (.cells #[.slice none 0 0, .slice none 0 0] 25)) x1) (w.heap.size + 1) (adv (w.heap.size + 1 + 1) x1.obs.size) [] (.slice A2 k cp2) k (finP n m P F al) (.slice none 0 0) 0 (finF n F al)) (by kernel_rfl) (by kernel_rfl) (fun b => by kernel_rfl) ?_ ?_ ?_ ?_
      · exact fun bb => AppX.start HM.out (by (repeat (first | exact Kept.refl _ | assumption | refine Kept.alloc ?_ _ | refine Kept.ext ?_ _ | refine Kept.drew ?_ | refine Kept.drewN ?_ _))) (fun x hx => by cases hx) (fun x hx => by cases hx)
      · intro i L b w' w'' hs hI hk
        exact (hI.on hk).other (by rintro rfl; cases hs) (by rintro rfl; cases hs) (by rintro rfl; cases hs) (by rintro rfl; cases hs)
      · exact fun L b w' h => h.kept
      apply Exists.intro
      refine ⟨?_, ?_, ?_, ?_⟩
      · rintro bb W' hkW
        have g0 : W'.cell? ⟨w.heap.size, 0, none⟩ = some (.slice (some ⟨b, off, none⟩) n cap) := kept_cell (w := (ext ((w.alloc (.cells #[.slice (some ⟨b, off, none⟩) n cap, .slice Bf m cap2] 25)).alloc (.cells #[.slice none 0 0, .slice none 0 0] 25)) x1)) (by go_simp) hkW
        have LG0 : Lower w.heap.size W'.heap.size := ⟨cell_lt g0⟩
        obtain ⟨b', off', eb, hb, f0, f1, f2⟩ := rows3 (HP.out.of ((by (repeat (first | exact Kept.refl _ | assumption | refine Kept.alloc ?_ _ | refine Kept.ext ?_ _ | refine Kept.drew ?_ | refine Kept.drewN ?_ _)) : Kept w (ext ((w.alloc (.cells #[.slice (some ⟨b, off, none⟩) n cap, .slice Bf m cap2] 25)).alloc (.cells #[.slice none 0 0, .slice none 0 0] 25)) x1)).trans hkW)) hlt
        cases eb
        have LB : Lower b W'.heap.size := ⟨hb⟩
        clear hkW
        simp only [swapL, Nat.reduceAdd]
        repeat (go_big_quiet_step (first | (go_at_call 24; exact Calls.kept_of (HTM.out _))))
        refine wpQuiet_nil ?_
        rfl
      · simp only [EachS, and_true]
        refine ⟨?_, ?_, ?_, ?_⟩
        · intro L b w' hd hL hI
          have h0 := hI.v0 hL
          have LQ : Lower (adv (w.heap.size + 1 + 1) x1.obs.size) w'.heap.size := ⟨cell_lt h0⟩
          go_simp
          exact ⟨rfl, hI.op1 (by omega) hL⟩
        · intro L b w' hd hL hI
          have h5 := hI.op5 (by omega)
          rw [HU.out 0, HU.out 1, HU.out 2] at h5
          go_simp
          exact ⟨rfl, h5⟩
        · intro L b w' hd hL hI
          have d5 : L 8 = true := hd { on := 8, ground := .data } (by simp) rfl
          obtain ⟨g5, e5, e6⟩ := hI.n5 d5
          have hs := hI.s hL
          refine tells_append (.tmp 30) (.tmp 37) 22 (by rfl) _ 34 i0 _ 3 24 Try.underlying22 HJP.out.1 HJP.out.2.1 HJP.out.2.2.1 HJP.out.2.2.2 (by rfl) (by omega) (kept_le hI.kept) _ k (rowC 3 (finP n m P F al) k) (by rfl) hs (some ⟨g5, 0, none⟩) 1 1 _ e5 (one_rows (e6 hL) ⟨by rw [HU.out 0]; unfold I64; omega, by rw [HU.out 1]; unfold I64; omega, by rw [HU.out 2]; unfold I64; omega⟩) (by unfold maxLen; omega) (by omega) ?_
          intro v' w'' k1 k2 k3
          rw [rowC_one3, ← rowC_succ3] at k1
          exact ⟨rfl, hI.op6 (by omega) hL k1 k2⟩
        · intro L b w' hd hL hI
          have d1 : L 1 = true := hd { on := 1, ground := .phase } (by simp) rfl
          have d6 : L 9 = true := hd { on := 9, ground := .phase } (by simp) rfl
          have h8 := hI.op8 (u := undef) (by omega) d1 d6 hL HRB.out (by simp)
          obtain ⟨q0, -, q1, -⟩ := cells2 hI.q
          obtain ⟨A6, c6, e6⟩ := own_slice2 (hI.t d6)
          rw [e6] at h8
          have LQ : Lower (adv (w.heap.size + 1 + 1) x1.obs.size) w'.heap.size := ⟨cell_lt q0⟩
          go_simp
          exact ⟨rfl, h8⟩
      · intro b b' d hd
        simp [callSlots, dullOp] at hd
        try (subst hd; rfl)
      · intro L b w' hL hI
        have hM := hI.done (hL 9 (by decide)) (hL 11 (by decide))
        have HM2 := Lib.hid hM
        clear hM hL hI
        go_wp2_with fail
        go_roundw
        case rel => exact ⟨k + 1, by omega, by go_num, _, HM2.out⟩
        case measure => simp [intOf]; omega
    · obtain rfl : k = n := by omega
      have gk : decide ((k : Int) < k) = false := decide_eq_false (by omega)
      have HM := Lib.hid hM
      clear hM
      go_wp2_with fail
      have hS0 : ((w.alloc (.cells #[.slice A k cap, .slice Bf m cap2] 25))).heap.size = w.heap.size + 1 := by simp
      clear hS0 kb kb1 LKB m0 m1 z0 z1 LM
      go_loopw [7, 8] (fun v i wr => ∃ q : Nat, q ≤ m ∧ i = .int .i64 q ∧ ∃ vP vF, Msh2 (ext ((w.alloc (.cells #[.slice A k cap, .slice Bf m cap2] 25)).alloc (.cells #[.slice none 0 0, .slice none 0 0] 25)) x1) (w.heap.size + 1) (adv (w.heap.size + 1 + 1) x1.obs.size) vP (npt k al (3 * q)) (finP k m P F al) vF (4 * q) (finF k F al) wr ∧ wr.ownsRow (ext ((w.alloc (.cells #[.slice A k cap, .slice Bf m cap2] 25)).alloc (.cells #[.slice none 0 0, .slice none 0 0] 25)) x1).heap.size 80 2 v (cnB (newB al) (3 * q)) (rowC 2 (endF m F al) (cnB (newB al) (3 * q)))) (fun _ i _ => m - (intOf i).toNat)
      case atStart => exact ⟨0, by omega, rfl, _, _, HM.out, World.ownsRow_nil _ _ _ _⟩
      case round =>
        clear HM
        obtain ⟨q, hq, rfl, vP, vF, hM, hE⟩ := hrel
        obtain ⟨A5, c5, rfl, hc5⟩ := own_sl hM.p
        obtain ⟨A6, c6, rfl, hc6⟩ := own_sl hM.f
        have kb1 : wr.cell? ⟨w.heap.size, 1, none⟩ = some (.slice Bf m cap2) := kept_cell (w := (ext ((w.alloc (.cells #[.slice A k cap, .slice Bf m cap2] 25)).alloc (.cells #[.slice none 0 0, .slice none 0 0] 25)) x1)) (by go_simp) hM.kept
        have LKB : Lower w.heap.size wr.heap.size := ⟨cell_lt kb1⟩
        by_cases hlt2 : q < m
        · have gq : decide ((q : Int) < m) = true := decide_eq_true (by omega)
          have hk0 : Kept w wr := (by (repeat (first | exact Kept.refl _ | assumption | refine Kept.alloc ?_ _ | refine Kept.ext ?_ _ | refine Kept.drew ?_ | refine Kept.drewN ?_ _)) : Kept w (ext ((w.alloc (.cells #[.slice A k cap, .slice Bf m cap2] 25)).alloc (.cells #[.slice none 0 0, .slice none 0 0] 25)) x1)).trans hM.kept
          obtain ⟨fb, off, rfl, hb, f0, f1, f2⟩ := rows3 (HF.out.of hk0) hlt2
          have LB : Lower fb wr.heap.size := ⟨hb⟩
          have hvf : ∀ g, (Value.slice A6 (4 * q) c6).ownBlock = some g → g < wr.heap.size := fun g hg => own_lt hM.f hg
          have hwl := kept_le hM.kept
          have HM := Lib.hid hM
          have HE := Lib.hid hE
          have HVF := Lib.hid hvf
          clear hM hE hk0 hb hvf
          obtain ⟨ws, hws⟩ : ∃ ws, wr.heap.size = ws := ⟨_, rfl⟩
          go_wp2_with fail
          have hl6 : ((wr.alloc (.cells #[.int .i64 (F q 0), .int .i64 (F q 1), .int .i64 (F q 2)] 54)).alloc (.cells #[.int .i64 0, .int .i64 0, .int .i64 0] 54)).heap[ws + 1]? = some (.cells #[.int .i64 0, .int .i64 0, .int .i64 0] 54 (0, 0)) := by
            rw [← hws]
            exact alloc_now (wr.alloc (.cells #[.int .i64 (F q 0), .int .i64 (F q 1), .int .i64 (F q 2)] 54)) (.cells #[.int .i64 0, .int .i64 0, .int .i64 0] 54) _
          have hf6 : ((wr.alloc (.cells #[.int .i64 (F q 0), .int .i64 (F q 1), .int .i64 (F q 2)] 54)).alloc (.cells #[.int .i64 0, .int .i64 0, .int .i64 0] 54)).heap[ws]? = some (.cells #[.int .i64 (F q 0), .int .i64 (F q 1), .int .i64 (F q 2)] 54 (0, 0)) := by
            rw [← hws]
            exact fr_kept (alloc_now wr (.cells #[.int .i64 (F q 0), .int .i64 (F q 1), .int .i64 (F q 2)] 54) _) (by (repeat (first | exact Kept.refl _ | assumption | refine Kept.alloc ?_ _ | refine Kept.ext ?_ _ | refine Kept.drew ?_ | refine Kept.drewN ?_ _)))
          have hne : (Value.slice A6 (4 * q) c6).ownBlock ≠ some (ws + 1) := fun e => by have := HVF.out _ e; omega
          have HNE := Lib.hid hne
          have H6 := Lib.hid (And.intro hl6 hf6)
          rw [hws] at hwl
          clear hl6 hf6 hne HVF f0 f1 f2 LB kb1 LKB
          go_loopw [7, 11] (fun v i wq => ∃ j : Nat, j ≤ 3 ∧ i = .int .i64 j ∧ ∃ vP, Msh2 (ext ((w.alloc (.cells #[.slice A k cap, .slice (some ⟨fb, off, none⟩) m cap2] 25)).alloc (.cells #[.slice none 0 0, .slice none 0 0] 25)) x1) (w.heap.size + 1) (adv (w.heap.size + 1 + 1) x1.obs.size) vP (npt k al (3 * q + j)) (finP k m P F al) (.slice A6 (4 * q) c6) (4 * q) (finF k F al) wq ∧ wq.ownsRow (ext ((w.alloc (.cells #[.slice A k cap, .slice (some ⟨fb, off, none⟩) m cap2] 25)).alloc (.cells #[.slice none 0 0, .slice none 0 0] 25)) x1).heap.size 80 2 v (cnB (newB al) (3 * q + j)) (rowC 2 (endF m F al) (cnB (newB al) (3 * q + j))) ∧ wq.heap[ws + 1]? = some (.cells #[.int .i64 (mdF k al q j 0), .int .i64 (mdF k al q j 1), .int .i64 (mdF k al q j 2)] 54 (0, 0)) ∧ wq.heap[ws]? = some (.cells #[.int .i64 (F q 0), .int .i64 (F q 1), .int .i64 (F q 2)] 54 (0, 0))) (fun _ i _ => 3 - (intOf i).toNat)
          case atStart => exact ⟨0, by omega, rfl, _, HM.out.on (by (repeat (first | exact Kept.refl _ | assumption | refine Kept.alloc ?_ _ | refine Kept.ext ?_ _ | refine Kept.drew ?_ | refine Kept.drewN ?_ _))), owns_kept HE.out (by (repeat (first | exact Kept.refl _ | assumption | refine Kept.alloc ?_ _ | refine Kept.ext ?_ _ | refine Kept.drew ?_ | refine Kept.drewN ?_ _))), H6.out.1, H6.out.2⟩
          case round =>
            clear HM HE H6
            obtain ⟨j, hj, rfl, vP, hM, hE, hl, hf⟩ := hrel
            have HM := Lib.hid hM
            have HE := Lib.hid hE
            have HL := Lib.hid hl
            have HFB := Lib.hid hf
            obtain ⟨f0, f1, f2, -, -, -⟩ := cells3f hf
            have LF : Lower ws wr.heap.size := ⟨cell_lt f0⟩
            clear hM hE hl hf
            by_cases hlt3 : j < 3
            · rcases (show j = 0 ∨ j = 1 ∨ j = 2 by omega) with rfl | rfl | rfl
              · obtain ⟨A7, c7, rfl, hc7⟩ := own_sl HE.out
                obtain ⟨lo, hlo⟩ : ∃ z, min (F q 0) (F q 1) = z := ⟨_, rfl⟩
                obtain ⟨hh, hhh⟩ : ∃ z, max (F q 0) (F q 1) = z := ⟨_, rfl⟩
                have hEI := end_I (al := al) (by omega) HIN.out (r := (3 * q + 0)) (by omega)
                have hEQ := fun c (hc : c < cnB (newB al) (3 * q + 0)) => end_is (n := k) HO.out HDS.out hlt2 (j := 0) (by omega) hc hlo hhh
                have hcb : cnB (newB al) (3 * q + 0) ≤ 288 := Nat.le_trans (cnB_le (newB al) (3 * q + 0)) (by omega)
                have hfe := fnd_end (n := k) HO.out (a := (3 * q + 0)) (by omega)
                obtain ⟨cE, hcE⟩ : ∃ c, cnB (newB al) (3 * q + 0) = c := ⟨_, rfl⟩
                have HNP := Lib.hid (show npt k al (3 * q + 0) = k + cE by rw [← hcE]; rfl)
                have hE2 := HE.out
                rw [hcE] at hE2 hEI hEQ hcb hfe hc7
                have HEI := Lib.hid hEI
                have HEQ := Lib.hid hEQ
                have HFE := Lib.hid hfe
                have HLO := Lib.hid hlo
                have HHI := Lib.hid hhh
                have HE2 := Lib.hid hE2
                have HCE := Lib.hid hcE
                rw [hcE, show ((0 : Nat) : Int) = 0 from rfl]
                clear hEI hEQ hfe hE2 HE hcE
                go_wp2_with fail
                ((first | (with_reducible refine wp_region_kept2 (by kernel_rfl) (by kernel_rfl) ?_) | refine wp_region_kept (by kernel_rfl) (by kernel_rfl) ?_); (repeat (go_big_quiet_step (first | fail))); refine wpQuiet_nil ?_; intro x)
                go_wp2_with fail
                clear LF
                clear hlo hhh
                go_loopw [14, 15] (fun fd i wq => ∃ r : Nat, r ≤ cE ∧ fd = .int .i64 (fndN k al (3 * q + 0) r) ∧ i = .int .i64 r ∧ Msh2 (ext ((w.alloc (.cells #[.slice A k cap, .slice (some ⟨fb, off, none⟩) m cap2] 25)).alloc (.cells #[.slice none 0 0, .slice none 0 0] 25)) x1) (w.heap.size + 1) (adv (w.heap.size + 1 + 1) x1.obs.size) vP (npt k al (3 * q + 0)) (finP k m P F al) (.slice A6 (4 * q) c6) (4 * q) (finF k F al) wq ∧ wq.ownsRow (ext ((w.alloc (.cells #[.slice A k cap, .slice (some ⟨fb, off, none⟩) m cap2] 25)).alloc (.cells #[.slice none 0 0, .slice none 0 0] 25)) x1).heap.size 80 2 (.slice A7 cE c7) cE (rowC 2 (endF m F al) cE) ∧ wq.heap[ws + 1]? = some (.cells #[.int .i64 (mdF k al q 0 0), .int .i64 (mdF k al q 0 1), .int .i64 (mdF k al q 0 2)] 54 (0, 0)) ∧ wq.heap[ws]? = some (.cells #[.int .i64 (F q 0), .int .i64 (F q 1), .int .i64 (F q 2)] 54 (0, 0))) (fun _ i _ => cE - (intOf i).toNat)
                case atStart => exact ⟨0, by omega, rfl, rfl, HM.out.on (by (repeat (first | exact Kept.refl _ | assumption | refine Kept.alloc ?_ _ | refine Kept.ext ?_ _ | refine Kept.drew ?_ | refine Kept.drewN ?_ _))), owns_kept HE2.out (by (repeat (first | exact Kept.refl _ | assumption | refine Kept.alloc ?_ _ | refine Kept.ext ?_ _ | refine Kept.drew ?_ | refine Kept.drewN ?_ _))), fr_kept HL.out (by (repeat (first | exact Kept.refl _ | assumption | refine Kept.alloc ?_ _ | refine Kept.ext ?_ _ | refine Kept.drew ?_ | refine Kept.drewN ?_ _))), fr_kept HFB.out (by (repeat (first | exact Kept.refl _ | assumption | refine Kept.alloc ?_ _ | refine Kept.ext ?_ _ | refine Kept.drew ?_ | refine Kept.drewN ?_ _)))⟩
                case round =>
                  clear HM HE2 HL HFB f0 f1 f2
                  obtain ⟨r, hr, rfl, rfl, hM, hE, hl, hf⟩ := hrel
                  have HM := Lib.hid hM
                  have HE := Lib.hid hE
                  have HL := Lib.hid hl
                  have HFB := Lib.hid hf
                  clear hM hE hl hf
                  by_cases hlt4 : r < cE
                  · have gr : decide ((r : Int) < cE) = true := decide_eq_true (by omega)
                    obtain ⟨eb, eo, rfl, heb, e0, e1⟩ := rows2 (rows_of_owns HE.out HEI.out) hlt4
                    have LE : Lower eb wr.heap.size := ⟨heb⟩
                    clear heb
                    by_cases hm : r = midN k al (3 * q + 0) - k
                    · have gb : (endF m F al r 0 == lo && endF m F al r 1 == hh) = true := by rw [HEQ.out r hlt4]; exact decide_eq_true hm
                      have HMM := Lib.hid hm
                      clear hm
                      go_wp2_with fail
                      go_roundw
                      case rel => exact ⟨r + 1, by omega, by rw [fnd_next, if_pos HMM.out.symm], by go_num, HM.out.on (by (repeat (first | exact Kept.refl _ | assumption | refine Kept.alloc ?_ _ | refine Kept.ext ?_ _ | refine Kept.drew ?_ | refine Kept.drewN ?_ _))), owns_kept HE.out (by (repeat (first | exact Kept.refl _ | assumption | refine Kept.alloc ?_ _ | refine Kept.ext ?_ _ | refine Kept.drew ?_ | refine Kept.drewN ?_ _))), fr_kept HL.out (by (repeat (first | exact Kept.refl _ | assumption | refine Kept.alloc ?_ _ | refine Kept.ext ?_ _ | refine Kept.drew ?_ | refine Kept.drewN ?_ _))), fr_kept HFB.out (by (repeat (first | exact Kept.refl _ | assumption | refine Kept.alloc ?_ _ | refine Kept.ext ?_ _ | refine Kept.drew ?_ | refine Kept.drewN ?_ _)))⟩
                      case measure => simp [intOf]; omega
                    · have gb : (endF m F al r 0 == lo && endF m F al r 1 == hh) = false := by rw [HEQ.out r hlt4]; exact decide_eq_false hm
                      have HMM := Lib.hid hm
                      clear hm
                      go_wp2_with fail
                      go_roundw
                      case rel => exact ⟨r + 1, by omega, by rw [fnd_next, if_neg (fun e => HMM.out e.symm)], by go_num, HM.out.on (by (repeat (first | exact Kept.refl _ | assumption | refine Kept.alloc ?_ _ | refine Kept.ext ?_ _ | refine Kept.drew ?_ | refine Kept.drewN ?_ _))), owns_kept HE.out (by (repeat (first | exact Kept.refl _ | assumption | refine Kept.alloc ?_ _ | refine Kept.ext ?_ _ | refine Kept.drew ?_ | refine Kept.drewN ?_ _))), fr_kept HL.out (by (repeat (first | exact Kept.refl _ | assumption | refine Kept.alloc ?_ _ | refine Kept.ext ?_ _ | refine Kept.drew ?_ | refine Kept.drewN ?_ _))), fr_kept HFB.out (by (repeat (first | exact Kept.refl _ | assumption | refine Kept.alloc ?_ _ | refine Kept.ext ?_ _ | refine Kept.drew ?_ | refine Kept.drewN ?_ _)))⟩
                      case measure => simp [intOf]; omega
                  · obtain rfl : r = cE := by omega
                    have gr : decide ((r : Int) < r) = false := decide_eq_false (by omega)
                    have kb0 : wr.cell? ⟨w.heap.size, 0, none⟩ = some (.slice A k cap) := kept_cell (w := (ext ((w.alloc (.cells #[.slice A k cap, .slice (some ⟨fb, off, none⟩) m cap2] 25)).alloc (.cells #[.slice none 0 0, .slice none 0 0] 25)) x1)) (by go_simp) HM.out.kept
                    have LKB : Lower w.heap.size wr.heap.size := ⟨cell_lt kb0⟩
                    obtain ⟨c0, c1, c2, y0, y1, y2⟩ := cells3f HL.out
                    have LL : Lower (ws + 1) wr.heap.size := ⟨cell_lt c0⟩
                    by_cases hold : al (3 * q + 0) < (3 * q + 0)
                    · obtain ⟨hf1, hf2⟩ := HFE.out.1 hold
                      obtain ⟨fv, hfv⟩ : ∃ z, fndN k al (3 * q + 0) r = z := ⟨_, rfl⟩
                      have hmb := mid_bd (n := k) HO.out (a := (3 * q + 0)) (r := 3 * m) (by omega) (by omega)
                      rw [hfv] at hf1 hf2
                      have g9 : decide (fv < 0) = false := decide_eq_false (by omega)
                      have hb9 : 0 ≤ fv ∧ fv ≤ 400 := by have := hmb.2; unfold npt at this; have := cnB_le (newB al) (3 * m); omega
                      rw [hfv]
                      have hsum : (k : Int) + fv = (midN k al (3 * q + 0) : Nat) := by omega
                      have HSUM := Lib.hid hsum
                      have HOLD := Lib.hid hold
                      clear hsum hf1 hmb hfv hold
                      go_wp2_with fail
                      go_roundw
                      case rel =>
                        have hn1 : npt k al (3 * q + (0 + 1)) = npt k al (3 * q + 0) := npt_old HOLD.out
                        have hc1 : cnB (newB al) (3 * q + (0 + 1)) = r := (cnb_old HOLD.out).trans HCE.out
                        obtain ⟨k1, k2, k3, k4⟩ := mid_store (0) (.int .i64 (midN k al (3 * q + 0) : Nat)) HM.out HE.out HL.out HFB.out HNE.out (Nat.le_trans hwl (Nat.le_succ _))
                        rw [HSUM.out]
                        exact ⟨0 + 1, by omega, rfl, vP, by rw [hn1]; exact k1, by rw [hc1]; exact k2, k3, k4⟩
                      case measure => simp [intOf]
                    · have hnw : (3 * q + 0) < al (3 * q + 0) := by have := HO.out.ne (3 * q + 0) (by omega); omega
                      obtain ⟨hf1, hmid⟩ := HFE.out.2 hnw
                      rw [hf1]
                      have HNW := Lib.hid (And.intro hnw hmid)
                      clear hold hnw hf1 hmid
                      go_wp2_with (at_builtin; refine wpList_append_lies _ rfl _ _ _ rfl _ 80 i2 _ 2 16 Try.underlying101 HJ2.out.1 HJ2.out.2.1 HJ2.out.2.2.1 HJ2.out.2.2.2 rfl (by omega) (.slice A7 r c7) r (rowC 2 (endF m F al) r) rfl (owns_kept HE.out (by (repeat (first | exact Kept.refl _ | assumption | refine Kept.alloc ?_ _ | refine Kept.ext ?_ _ | refine Kept.drew ?_ | refine Kept.drewN ?_ _)))) _ 1 1 [.int .i64 lo, .int .i64 hh] rfl rfl (World.news_of_block (alloc_now _ _ _)) (by simp [Value.oneCell']) (by omega) (by unfold maxLen; omega) (by omega) (kept_le (HM.out.kept.trans (by (repeat (first | exact Kept.refl _ | assumption | refine Kept.alloc ?_ _ | refine Kept.ext ?_ _ | refine Kept.drew ?_ | refine Kept.drewN ?_ _))))) _ rfl ?_; intro g cp w11 hown2 hg2 hat hlt3; have hg3 : World.grownBy _ w11 (Value.ownBlock (.slice A7 r c7)) := hg2; have HO2 := Lib.hid (And.intro hown2 hg3); clear hown2 hg2 hg3 hat hlt3)
                      have hM2 := Msh2.byRow (HM.out.on (by (repeat (first | exact Kept.refl _ | assumption | refine Kept.alloc ?_ _ | refine Kept.ext ?_ _ | refine Kept.drew ?_ | refine Kept.drewN ?_ _)))) (owns_kept HE.out (by (repeat (first | exact Kept.refl _ | assumption | refine Kept.alloc ?_ _ | refine Kept.ext ?_ _ | refine Kept.drew ?_ | refine Kept.drewN ?_ _)))) (Nat.le_refl _) HO2.out.2
                      have hl2 := own_keepsB (owns_kept HE.out (by (repeat (first | exact Kept.refl _ | assumption | refine Kept.alloc ?_ _ | refine Kept.ext ?_ _ | refine Kept.drew ?_ | refine Kept.drewN ?_ _)))) HO2.out.2 (fr_kept HL.out (by (repeat (first | exact Kept.refl _ | assumption | refine Kept.alloc ?_ _ | refine Kept.ext ?_ _ | refine Kept.drew ?_ | refine Kept.drewN ?_ _)))) (by decide)
                      have hf2 := own_keepsB (owns_kept HE.out (by (repeat (first | exact Kept.refl _ | assumption | refine Kept.alloc ?_ _ | refine Kept.ext ?_ _ | refine Kept.drew ?_ | refine Kept.drewN ?_ _)))) HO2.out.2 (fr_kept HFB.out (by (repeat (first | exact Kept.refl _ | assumption | refine Kept.alloc ?_ _ | refine Kept.ext ?_ _ | refine Kept.drew ?_ | refine Kept.drewN ?_ _)))) (by decide)
                      have hE2 : w11.ownsRow (ext ((w.alloc (.cells #[.slice A k cap, .slice (some ⟨fb, off, none⟩) m cap2] 25)).alloc (.cells #[.slice none 0 0, .slice none 0 0] 25)) x1).heap.size 80 2 (.slice (some ⟨g, 0, none⟩) (r + 1) cp) (r + 1) (rowC 2 (endF m F al) (r + 1)) := by
                        obtain ⟨z0, z1⟩ := end_at (F := F) (al := al) (m := m) (a := (3 * q + 0)) (by omega) (by unfold newB; rw [decide_eq_true_eq]; exact HNW.out.1)
                        rw [HCE.out, nxt_at q 0 (by omega), tl_at F q 0 (by omega), tl_at F q _ (Nat.mod_lt _ (by omega))] at z0 z1
                        show w11.ownsRow _ _ _ _ _ (rowC 2 (endF m F al) r ++ [.int .i64 (endF m F al r 0), .int .i64 (endF m F al r 1)])
                        rw [z0, z1]
                        have h0 := HLO.out
                        have h1 := HHI.out
                        rw [← h0, ← h1] at HO2
                        exact HO2.out.1
                      obtain ⟨np, hnpe⟩ : ∃ z, npt k al (3 * q + 0) = z := ⟨_, rfl⟩
                      have HNPE := Lib.hid hnpe
                      rw [hnpe] at hM2
                      have hnp2 := HNP.out
                      rw [hnpe] at hnp2
                      have HNP2 := Lib.hid hnp2
                      have hnpb : np ≤ 352 := by omega
                      clear hnpe hnp2
                      obtain ⟨A2, cp2, rfl, hcp⟩ := own_sl hM2.p
                      have e0 := HIN.out q hlt2 0 (by omega)
                      have e1 := HIN.out q hlt2 1 (by omega)
                      have e0' : 0 ≤ lo ∧ lo < k := by have := HLO.out; omega
                      have e1' : 0 ≤ hh ∧ hh < k := by have := HHI.out; omega
                      obtain ⟨ka, hka⟩ : ∃ z, lo.toNat = z := ⟨_, rfl⟩
                      obtain ⟨kb, hkb⟩ : ∃ z, hh.toNat = z := ⟨_, rfl⟩
                      have hkal : ka < k := by omega
                      have hkbl : kb < k := by omega
                      have pa := fun j hj => HBD.out ka hkal j hj
                      have pb := fun j hj => HBD.out kb hkbl j hj
                      have pa0 := pa 0 (by omega)
                      have pa1 := pa 1 (by omega)
                      have pa2 := pa 2 (by omega)
                      have pb0 := pb 0 (by omega)
                      have pb1 := pb 1 (by omega)
                      have pb2 := pb 2 (by omega)
                      have hpl : ∀ w', Calls Try.prog 57 #[.agg #[.int .i64 (P ka 0), .int .i64 (P ka 1), .int .i64 (P ka 2)], .agg #[.int .i64 (P kb 0), .int .i64 (P kb 1), .int .i64 (P kb 2)]] w' fun e w'' => e = .returned (.agg #[.int .i64 (P ka 0 + P kb 0), .int .i64 (P ka 1 + P kb 1), .int .i64 (P ka 2 + P kb 2)]) ∧ Kept w' w'' := fun w' => r2plus_any (P ka 0) (P ka 1) (P ka 2) (P kb 0) (P kb 1) (P kb 2) w' (by omega)
                      have HPL := Lib.hid hpl
                      have u : ∀ j, finP k m P F al np j = P ka j + P kb j := fun j => by
                        rw [← HNPE.out, ← hka, ← hkb]
                        exact new_pt hlt2 (by omega) HNW.out.1 HLO.out HHI.out j
                      have HU := Lib.hid u
                      obtain ⟨bP, boff, rfl, -, -⟩ := rows3 HP.out hkal
                      have HM2 := Lib.hid hM2
                      have HL2 := Lib.hid hl2
                      have HF2 := Lib.hid hf2
                      have HE3' := Lib.hid hE2
                      clear hM2 hl2 hf2 hE2 HO2 HM HE HL HFB e0 e1 pa pb hpl u c0 c1 c2 y0 y1 y2 LL kb0 LKB
                      refine wp_region_tellC (C := fun W' => Kept (ext ((w.alloc (.cells #[.slice (some ⟨bP, boff, none⟩) k cap, .slice (some ⟨fb, off, none⟩) m cap2] 25)).alloc (.cells #[.slice none 0 0, .slice none 0 0] 25)) x1) W' ∧ ∀ x ∈ restL w11 (adv (w.heap.size + 1 + 1) x1.obs.size) (.slice A2 np cp2), W'.heap[x.1]? = some x.2) [.q, .k (.slice A2 np cp2), .q, .q, .q, .q, .q, .q, .q, .q, .q, .q, .q, .s, .s, .q, .k undef] (AppX 1 13 14 16 (ext ((w.alloc (.cells #[.slice (some ⟨bP, boff, none⟩) k cap, .slice (some ⟨fb, off, none⟩) m cap2] 25)).alloc (.cells #[.slice none 0 0, .slice none 0 0] 25)) x1) (w.heap.size + 1) (adv (w.heap.size + 1 + 1) x1.obs.size) (restL w11 (adv (w.heap.size + 1 + 1) x1.obs.size) (.slice A2 np cp2)) (.slice A2 np cp2) np (finP k m P F al) (.slice A6 (4 * q) c6) (4 * q) (finF k F al)) (by kernel_rfl) (by kernel_rfl) (fun b => by kernel_rfl) ?_ ?_ ?_ ?_
                      · exact fun bb => AppX.start HM2.out (by (repeat (first | exact Kept.refl _ | assumption | refine Kept.alloc ?_ _ | refine Kept.ext ?_ _ | refine Kept.drew ?_ | refine Kept.drewN ?_ _))) (fun x hx => fr_kept (mem_restL.1 hx).1 (by (repeat (first | exact Kept.refl _ | assumption | refine Kept.alloc ?_ _ | refine Kept.ext ?_ _ | refine Kept.drew ?_ | refine Kept.drewN ?_ _)))) (fun x hx => ⟨(mem_restL.1 hx).2.2, (mem_restL.1 hx).2.1⟩)
                      · intro i L b w' w'' hs hI hk
                        exact (hI.on hk).other (by rintro rfl; cases hs) (by rintro rfl; cases hs) (by rintro rfl; cases hs) (by rintro rfl; cases hs)
                      · exact fun L b w' h => ⟨h.kept, h.pk⟩
                      apply Exists.intro
                      refine ⟨?_, ?_, ?_, ?_⟩
                      · rintro bb W' ⟨hkW, hX⟩
                        have g0 : W'.cell? ⟨w.heap.size, 0, none⟩ = some (.slice (some ⟨bP, boff, none⟩) k cap) := kept_cell (w := (ext ((w.alloc (.cells #[.slice (some ⟨bP, boff, none⟩) k cap, .slice (some ⟨fb, off, none⟩) m cap2] 25)).alloc (.cells #[.slice none 0 0, .slice none 0 0] 25)) x1)) (by go_simp) hkW
                        have LG0 : Lower w.heap.size W'.heap.size := ⟨cell_lt g0⟩
                        have hkW2 := (by (repeat (first | exact Kept.refl _ | assumption | refine Kept.alloc ?_ _ | refine Kept.ext ?_ _ | refine Kept.drew ?_ | refine Kept.drewN ?_ _)) : Kept w (ext ((w.alloc (.cells #[.slice (some ⟨bP, boff, none⟩) k cap, .slice (some ⟨fb, off, none⟩) m cap2] 25)).alloc (.cells #[.slice none 0 0, .slice none 0 0] 25)) x1)).trans hkW
                        obtain ⟨b', off', eb, hb, f0, f1, f2⟩ := rows3 (HP.out.of hkW2) hkal
                        cases eb
                        obtain ⟨b', off', eb, hb', q0, q1, q2⟩ := rows3 (HP.out.of hkW2) hkbl
                        cases eb
                        have LB : Lower bP W'.heap.size := ⟨hb⟩
                        clear hkW hkW2 hX
                        simp only [swapL, Nat.reduceAdd]
                        repeat (go_big_quiet_step (first | (go_at_call 57; exact Calls.kept_of (HPL.out _))))
                        refine wpQuiet_nil ?_
                        rfl
                      · simp only [EachS, and_true]
                        refine ⟨?_, ?_, ?_, ?_⟩
                        · intro L b w' hd hL hI
                          have h0 := hI.v0 hL
                          have LQ : Lower (adv (w.heap.size + 1 + 1) x1.obs.size) w'.heap.size := ⟨cell_lt h0⟩
                          go_simp
                          exact ⟨rfl, hI.op1 (by omega) hL⟩
                        · intro L b w' hd hL hI
                          have h5 := hI.op5 (by omega)
                          rw [HU.out 0, HU.out 1, HU.out 2] at h5
                          go_simp
                          exact ⟨rfl, h5⟩
                        · intro L b w' hd hL hI
                          have d5 : L 13 = true := hd { on := 13, ground := .data } (by simp) rfl
                          obtain ⟨g5, e5, e6⟩ := hI.n5 d5
                          have hs := hI.s hL
                          refine tells_append (.tmp 100) (.tmp 112) 22 (by rfl) _ 34 i0 _ 3 24 Try.underlying22 HJP.out.1 HJP.out.2.1 HJP.out.2.2.1 HJP.out.2.2.2 (by rfl) (by omega) (kept_le hI.kept) _ np (rowC 3 (finP k m P F al) np) (by rfl) hs (some ⟨g5, 0, none⟩) 1 1 _ e5 (one_rows (e6 hL) ⟨by rw [HU.out 0]; unfold I64; omega, by rw [HU.out 1]; unfold I64; omega, by rw [HU.out 2]; unfold I64; omega⟩) (by unfold maxLen; omega) (by omega) ?_
                          intro v' w'' k1 k2 k3
                          rw [rowC_one3, ← rowC_succ3] at k1
                          exact ⟨rfl, hI.op6 (by omega) hL k1 k2⟩
                        · intro L b w' hd hL hI
                          have d1 : L 1 = true := hd { on := 1, ground := .phase } (by simp) rfl
                          have d6 : L 14 = true := hd { on := 14, ground := .phase } (by simp) rfl
                          have h8 := hI.op8 (u := undef) (by omega) d1 d6 hL HRB.out (by simp)
                          obtain ⟨q0, -, q1, -⟩ := cells2 hI.q
                          obtain ⟨A8, c8, e6⟩ := own_slice2 (hI.t d6)
                          rw [e6] at h8
                          have LQ : Lower (adv (w.heap.size + 1 + 1) x1.obs.size) w'.heap.size := ⟨cell_lt q0⟩
                          go_simp
                          exact ⟨rfl, h8⟩
                      · intro b b' d hd
                        simp [callSlots, dullOp] at hd
                        try (subst hd; rfl)
                      · intro L b w' hL hI
                        have hM4 := hI.done (hL 14 (by decide)) (hL 16 (by decide))
                        have hX := hI.pk
                        have hX4 : ∀ c, c < w11.heap.size → c ≠ (adv (w.heap.size + 1 + 1) x1.obs.size) → some c ≠ (Value.slice A2 np cp2).ownBlock → w'.heap[c]? = w11.heap[c]? := fun c hc h1 h2 => by
                          have hc' : w11.heap[c]? = some (w11.heap[c]) := Array.getElem?_eq_getElem hc
                          rw [hc']
                          exact hX (c, w11.heap[c]) (mem_restL.2 ⟨hc', h1, h2⟩)
                        have hl4 := hX4 (ws + 1) (Array.getElem?_eq_some_iff.1 HL2.out).1 (cells_ne HL2.out HM2.out.q (by decide)) (own_ne HM2.out.p HL2.out (by decide))
                        have hf4 := hX4 ws (Array.getElem?_eq_some_iff.1 HF2.out).1 (cells_ne HF2.out HM2.out.q (by decide)) (own_ne HM2.out.p HF2.out (by decide))
                        rw [HL2.out] at hl4
                        rw [HF2.out] at hf4
                        have hE4 := own_heap HE3'.out (fun g' hg' => hX4 g' (own_lt HE3'.out hg') (fun e => own_ne HE3'.out HM2.out.q (by decide) (by rw [hg', e])) (fun e => by
                          rcases own_ne2 HE3'.out HM2.out.p (by decide) with h | h
                          · rw [h] at e; cases e
                          · exact h (e.symm.trans hg'.symm)))
                        have kb0 : w'.cell? ⟨w.heap.size, 0, none⟩ = some (.slice (some ⟨bP, boff, none⟩) k cap) := kept_cell (w := (ext ((w.alloc (.cells #[.slice (some ⟨bP, boff, none⟩) k cap, .slice (some ⟨fb, off, none⟩) m cap2] 25)).alloc (.cells #[.slice none 0 0, .slice none 0 0] 25)) x1)) (by go_simp) hM4.kept
                        have LKB : Lower w.heap.size w'.heap.size := ⟨cell_lt kb0⟩
                        obtain ⟨c0, c1, c2, y0, y1, y2⟩ := cells3f hl4
                        have LL : Lower (ws + 1) w'.heap.size := ⟨cell_lt c0⟩
                        have HS4 := Lib.hid (mid_store (0) (.int .i64 (midN k al (3 * q + 0) : Nat)) hM4 hE4 hl4 hf4 HNE.out (Nat.le_trans hwl (Nat.le_succ _)))
                        clear hM4 hX hX4 hL hI hE4 hl4 hf4 HM2 HL2 HF2 HE3' HPL HU
                        go_wp2_with fail
                        go_roundw
                        case rel =>
                          have hn1 : npt k al (3 * q + (0 + 1)) = np + 1 := (npt_new HNW.out.1).trans (by rw [HNPE.out])
                          have hc1 : cnB (newB al) (3 * q + (0 + 1)) = r + 1 := (cnb_new HNW.out.1).trans (by rw [HCE.out])
                          have hsum : (k : Int) + r = (midN k al (3 * q + 0) : Nat) := by have := HNW.out.2; omega
                          obtain ⟨k1, k2, k3, k4⟩ := HS4.out
                          rw [hsum]
                          exact ⟨0 + 1, by omega, rfl, _, by rw [hn1]; exact k1, by rw [hc1]; exact k2, k3, k4⟩
                        case measure => simp [intOf]
              · obtain ⟨A7, c7, rfl, hc7⟩ := own_sl HE.out
                obtain ⟨lo, hlo⟩ : ∃ z, min (F q 1) (F q 2) = z := ⟨_, rfl⟩
                obtain ⟨hh, hhh⟩ : ∃ z, max (F q 1) (F q 2) = z := ⟨_, rfl⟩
                have hEI := end_I (al := al) (by omega) HIN.out (r := (3 * q + 1)) (by omega)
                have hEQ := fun c (hc : c < cnB (newB al) (3 * q + 1)) => end_is (n := k) HO.out HDS.out hlt2 (j := 1) (by omega) hc hlo hhh
                have hcb : cnB (newB al) (3 * q + 1) ≤ 288 := Nat.le_trans (cnB_le (newB al) (3 * q + 1)) (by omega)
                have hfe := fnd_end (n := k) HO.out (a := (3 * q + 1)) (by omega)
                obtain ⟨cE, hcE⟩ : ∃ c, cnB (newB al) (3 * q + 1) = c := ⟨_, rfl⟩
                have HNP := Lib.hid (show npt k al (3 * q + 1) = k + cE by rw [← hcE]; rfl)
                have hE2 := HE.out
                rw [hcE] at hE2 hEI hEQ hcb hfe hc7
                have HEI := Lib.hid hEI
                have HEQ := Lib.hid hEQ
                have HFE := Lib.hid hfe
                have HLO := Lib.hid hlo
                have HHI := Lib.hid hhh
                have HE2 := Lib.hid hE2
                have HCE := Lib.hid hcE
                rw [hcE, show ((1 : Nat) : Int) = 1 from rfl]
                clear hEI hEQ hfe hE2 HE hcE
                go_wp2_with fail
                ((first | (with_reducible refine wp_region_kept2 (by kernel_rfl) (by kernel_rfl) ?_) | refine wp_region_kept (by kernel_rfl) (by kernel_rfl) ?_); (repeat (go_big_quiet_step (first | fail))); refine wpQuiet_nil ?_; intro x)
                go_wp2_with fail
                clear LF
                clear hlo hhh
                go_loopw [14, 15] (fun fd i wq => ∃ r : Nat, r ≤ cE ∧ fd = .int .i64 (fndN k al (3 * q + 1) r) ∧ i = .int .i64 r ∧ Msh2 (ext ((w.alloc (.cells #[.slice A k cap, .slice (some ⟨fb, off, none⟩) m cap2] 25)).alloc (.cells #[.slice none 0 0, .slice none 0 0] 25)) x1) (w.heap.size + 1) (adv (w.heap.size + 1 + 1) x1.obs.size) vP (npt k al (3 * q + 1)) (finP k m P F al) (.slice A6 (4 * q) c6) (4 * q) (finF k F al) wq ∧ wq.ownsRow (ext ((w.alloc (.cells #[.slice A k cap, .slice (some ⟨fb, off, none⟩) m cap2] 25)).alloc (.cells #[.slice none 0 0, .slice none 0 0] 25)) x1).heap.size 80 2 (.slice A7 cE c7) cE (rowC 2 (endF m F al) cE) ∧ wq.heap[ws + 1]? = some (.cells #[.int .i64 (mdF k al q 1 0), .int .i64 (mdF k al q 1 1), .int .i64 (mdF k al q 1 2)] 54 (0, 0)) ∧ wq.heap[ws]? = some (.cells #[.int .i64 (F q 0), .int .i64 (F q 1), .int .i64 (F q 2)] 54 (0, 0))) (fun _ i _ => cE - (intOf i).toNat)
                case atStart => exact ⟨0, by omega, rfl, rfl, HM.out.on (by (repeat (first | exact Kept.refl _ | assumption | refine Kept.alloc ?_ _ | refine Kept.ext ?_ _ | refine Kept.drew ?_ | refine Kept.drewN ?_ _))), owns_kept HE2.out (by (repeat (first | exact Kept.refl _ | assumption | refine Kept.alloc ?_ _ | refine Kept.ext ?_ _ | refine Kept.drew ?_ | refine Kept.drewN ?_ _))), fr_kept HL.out (by (repeat (first | exact Kept.refl _ | assumption | refine Kept.alloc ?_ _ | refine Kept.ext ?_ _ | refine Kept.drew ?_ | refine Kept.drewN ?_ _))), fr_kept HFB.out (by (repeat (first | exact Kept.refl _ | assumption | refine Kept.alloc ?_ _ | refine Kept.ext ?_ _ | refine Kept.drew ?_ | refine Kept.drewN ?_ _)))⟩
                case round =>
                  clear HM HE2 HL HFB f0 f1 f2
                  obtain ⟨r, hr, rfl, rfl, hM, hE, hl, hf⟩ := hrel
                  have HM := Lib.hid hM
                  have HE := Lib.hid hE
                  have HL := Lib.hid hl
                  have HFB := Lib.hid hf
                  clear hM hE hl hf
                  by_cases hlt4 : r < cE
                  · have gr : decide ((r : Int) < cE) = true := decide_eq_true (by omega)
                    obtain ⟨eb, eo, rfl, heb, e0, e1⟩ := rows2 (rows_of_owns HE.out HEI.out) hlt4
                    have LE : Lower eb wr.heap.size := ⟨heb⟩
                    clear heb
                    by_cases hm : r = midN k al (3 * q + 1) - k
                    · have gb : (endF m F al r 0 == lo && endF m F al r 1 == hh) = true := by rw [HEQ.out r hlt4]; exact decide_eq_true hm
                      have HMM := Lib.hid hm
                      clear hm
                      go_wp2_with fail
                      go_roundw
                      case rel => exact ⟨r + 1, by omega, by rw [fnd_next, if_pos HMM.out.symm], by go_num, HM.out.on (by (repeat (first | exact Kept.refl _ | assumption | refine Kept.alloc ?_ _ | refine Kept.ext ?_ _ | refine Kept.drew ?_ | refine Kept.drewN ?_ _))), owns_kept HE.out (by (repeat (first | exact Kept.refl _ | assumption | refine Kept.alloc ?_ _ | refine Kept.ext ?_ _ | refine Kept.drew ?_ | refine Kept.drewN ?_ _))), fr_kept HL.out (by (repeat (first | exact Kept.refl _ | assumption | refine Kept.alloc ?_ _ | refine Kept.ext ?_ _ | refine Kept.drew ?_ | refine Kept.drewN ?_ _))), fr_kept HFB.out (by (repeat (first | exact Kept.refl _ | assumption | refine Kept.alloc ?_ _ | refine Kept.ext ?_ _ | refine Kept.drew ?_ | refine Kept.drewN ?_ _)))⟩
                      case measure => simp [intOf]; omega
                    · have gb : (endF m F al r 0 == lo && endF m F al r 1 == hh) = false := by rw [HEQ.out r hlt4]; exact decide_eq_false hm
                      have HMM := Lib.hid hm
                      clear hm
                      go_wp2_with fail
                      go_roundw
                      case rel => exact ⟨r + 1, by omega, by rw [fnd_next, if_neg (fun e => HMM.out e.symm)], by go_num, HM.out.on (by (repeat (first | exact Kept.refl _ | assumption | refine Kept.alloc ?_ _ | refine Kept.ext ?_ _ | refine Kept.drew ?_ | refine Kept.drewN ?_ _))), owns_kept HE.out (by (repeat (first | exact Kept.refl _ | assumption | refine Kept.alloc ?_ _ | refine Kept.ext ?_ _ | refine Kept.drew ?_ | refine Kept.drewN ?_ _))), fr_kept HL.out (by (repeat (first | exact Kept.refl _ | assumption | refine Kept.alloc ?_ _ | refine Kept.ext ?_ _ | refine Kept.drew ?_ | refine Kept.drewN ?_ _))), fr_kept HFB.out (by (repeat (first | exact Kept.refl _ | assumption | refine Kept.alloc ?_ _ | refine Kept.ext ?_ _ | refine Kept.drew ?_ | refine Kept.drewN ?_ _)))⟩
                      case measure => simp [intOf]; omega
                  · obtain rfl : r = cE := by omega
                    have gr : decide ((r : Int) < r) = false := decide_eq_false (by omega)
                    have kb0 : wr.cell? ⟨w.heap.size, 0, none⟩ = some (.slice A k cap) := kept_cell (w := (ext ((w.alloc (.cells #[.slice A k cap, .slice (some ⟨fb, off, none⟩) m cap2] 25)).alloc (.cells #[.slice none 0 0, .slice none 0 0] 25)) x1)) (by go_simp) HM.out.kept
                    have LKB : Lower w.heap.size wr.heap.size := ⟨cell_lt kb0⟩
                    obtain ⟨c0, c1, c2, y0, y1, y2⟩ := cells3f HL.out
                    have LL : Lower (ws + 1) wr.heap.size := ⟨cell_lt c0⟩
                    by_cases hold : al (3 * q + 1) < (3 * q + 1)
                    · obtain ⟨hf1, hf2⟩ := HFE.out.1 hold
                      obtain ⟨fv, hfv⟩ : ∃ z, fndN k al (3 * q + 1) r = z := ⟨_, rfl⟩
                      have hmb := mid_bd (n := k) HO.out (a := (3 * q + 1)) (r := 3 * m) (by omega) (by omega)
                      rw [hfv] at hf1 hf2
                      have g9 : decide (fv < 0) = false := decide_eq_false (by omega)
                      have hb9 : 0 ≤ fv ∧ fv ≤ 400 := by have := hmb.2; unfold npt at this; have := cnB_le (newB al) (3 * m); omega
                      rw [hfv]
                      have hsum : (k : Int) + fv = (midN k al (3 * q + 1) : Nat) := by omega
                      have HSUM := Lib.hid hsum
                      have HOLD := Lib.hid hold
                      clear hsum hf1 hmb hfv hold
                      go_wp2_with fail
                      go_roundw
                      case rel =>
                        have hn1 : npt k al (3 * q + (1 + 1)) = npt k al (3 * q + 1) := npt_old HOLD.out
                        have hc1 : cnB (newB al) (3 * q + (1 + 1)) = r := (cnb_old HOLD.out).trans HCE.out
                        obtain ⟨k1, k2, k3, k4⟩ := mid_store (1) (.int .i64 (midN k al (3 * q + 1) : Nat)) HM.out HE.out HL.out HFB.out HNE.out (Nat.le_trans hwl (Nat.le_succ _))
                        rw [HSUM.out]
                        exact ⟨1 + 1, by omega, rfl, vP, by rw [hn1]; exact k1, by rw [hc1]; exact k2, k3, k4⟩
                      case measure => simp [intOf]
                    · have hnw : (3 * q + 1) < al (3 * q + 1) := by have := HO.out.ne (3 * q + 1) (by omega); omega
                      obtain ⟨hf1, hmid⟩ := HFE.out.2 hnw
                      rw [hf1]
                      have HNW := Lib.hid (And.intro hnw hmid)
                      clear hold hnw hf1 hmid
                      go_wp2_with (at_builtin; refine wpList_append_lies _ rfl _ _ _ rfl _ 80 i2 _ 2 16 Try.underlying101 HJ2.out.1 HJ2.out.2.1 HJ2.out.2.2.1 HJ2.out.2.2.2 rfl (by omega) (.slice A7 r c7) r (rowC 2 (endF m F al) r) rfl (owns_kept HE.out (by (repeat (first | exact Kept.refl _ | assumption | refine Kept.alloc ?_ _ | refine Kept.ext ?_ _ | refine Kept.drew ?_ | refine Kept.drewN ?_ _)))) _ 1 1 [.int .i64 lo, .int .i64 hh] rfl rfl (World.news_of_block (alloc_now _ _ _)) (by simp [Value.oneCell']) (by omega) (by unfold maxLen; omega) (by omega) (kept_le (HM.out.kept.trans (by (repeat (first | exact Kept.refl _ | assumption | refine Kept.alloc ?_ _ | refine Kept.ext ?_ _ | refine Kept.drew ?_ | refine Kept.drewN ?_ _))))) _ rfl ?_; intro g cp w11 hown2 hg2 hat hlt3; have hg3 : World.grownBy _ w11 (Value.ownBlock (.slice A7 r c7)) := hg2; have HO2 := Lib.hid (And.intro hown2 hg3); clear hown2 hg2 hg3 hat hlt3)
                      have hM2 := Msh2.byRow (HM.out.on (by (repeat (first | exact Kept.refl _ | assumption | refine Kept.alloc ?_ _ | refine Kept.ext ?_ _ | refine Kept.drew ?_ | refine Kept.drewN ?_ _)))) (owns_kept HE.out (by (repeat (first | exact Kept.refl _ | assumption | refine Kept.alloc ?_ _ | refine Kept.ext ?_ _ | refine Kept.drew ?_ | refine Kept.drewN ?_ _)))) (Nat.le_refl _) HO2.out.2
                      have hl2 := own_keepsB (owns_kept HE.out (by (repeat (first | exact Kept.refl _ | assumption | refine Kept.alloc ?_ _ | refine Kept.ext ?_ _ | refine Kept.drew ?_ | refine Kept.drewN ?_ _)))) HO2.out.2 (fr_kept HL.out (by (repeat (first | exact Kept.refl _ | assumption | refine Kept.alloc ?_ _ | refine Kept.ext ?_ _ | refine Kept.drew ?_ | refine Kept.drewN ?_ _)))) (by decide)
                      have hf2 := own_keepsB (owns_kept HE.out (by (repeat (first | exact Kept.refl _ | assumption | refine Kept.alloc ?_ _ | refine Kept.ext ?_ _ | refine Kept.drew ?_ | refine Kept.drewN ?_ _)))) HO2.out.2 (fr_kept HFB.out (by (repeat (first | exact Kept.refl _ | assumption | refine Kept.alloc ?_ _ | refine Kept.ext ?_ _ | refine Kept.drew ?_ | refine Kept.drewN ?_ _)))) (by decide)
                      have hE2 : w11.ownsRow (ext ((w.alloc (.cells #[.slice A k cap, .slice (some ⟨fb, off, none⟩) m cap2] 25)).alloc (.cells #[.slice none 0 0, .slice none 0 0] 25)) x1).heap.size 80 2 (.slice (some ⟨g, 0, none⟩) (r + 1) cp) (r + 1) (rowC 2 (endF m F al) (r + 1)) := by
                        obtain ⟨z0, z1⟩ := end_at (F := F) (al := al) (m := m) (a := (3 * q + 1)) (by omega) (by unfold newB; rw [decide_eq_true_eq]; exact HNW.out.1)
                        rw [HCE.out, nxt_at q 1 (by omega), tl_at F q 1 (by omega), tl_at F q _ (Nat.mod_lt _ (by omega))] at z0 z1
                        show w11.ownsRow _ _ _ _ _ (rowC 2 (endF m F al) r ++ [.int .i64 (endF m F al r 0), .int .i64 (endF m F al r 1)])
                        rw [z0, z1]
                        have h0 := HLO.out
                        have h1 := HHI.out
                        rw [← h0, ← h1] at HO2
                        exact HO2.out.1
                      obtain ⟨np, hnpe⟩ : ∃ z, npt k al (3 * q + 1) = z := ⟨_, rfl⟩
                      have HNPE := Lib.hid hnpe
                      rw [hnpe] at hM2
                      have hnp2 := HNP.out
                      rw [hnpe] at hnp2
                      have HNP2 := Lib.hid hnp2
                      have hnpb : np ≤ 352 := by omega
                      clear hnpe hnp2
                      obtain ⟨A2, cp2, rfl, hcp⟩ := own_sl hM2.p
                      have e0 := HIN.out q hlt2 1 (by omega)
                      have e1 := HIN.out q hlt2 2 (by omega)
                      have e0' : 0 ≤ lo ∧ lo < k := by have := HLO.out; omega
                      have e1' : 0 ≤ hh ∧ hh < k := by have := HHI.out; omega
                      obtain ⟨ka, hka⟩ : ∃ z, lo.toNat = z := ⟨_, rfl⟩
                      obtain ⟨kb, hkb⟩ : ∃ z, hh.toNat = z := ⟨_, rfl⟩
                      have hkal : ka < k := by omega
                      have hkbl : kb < k := by omega
                      have pa := fun j hj => HBD.out ka hkal j hj
                      have pb := fun j hj => HBD.out kb hkbl j hj
                      have pa0 := pa 0 (by omega)
                      have pa1 := pa 1 (by omega)
                      have pa2 := pa 2 (by omega)
                      have pb0 := pb 0 (by omega)
                      have pb1 := pb 1 (by omega)
                      have pb2 := pb 2 (by omega)
                      have hpl : ∀ w', Calls Try.prog 57 #[.agg #[.int .i64 (P ka 0), .int .i64 (P ka 1), .int .i64 (P ka 2)], .agg #[.int .i64 (P kb 0), .int .i64 (P kb 1), .int .i64 (P kb 2)]] w' fun e w'' => e = .returned (.agg #[.int .i64 (P ka 0 + P kb 0), .int .i64 (P ka 1 + P kb 1), .int .i64 (P ka 2 + P kb 2)]) ∧ Kept w' w'' := fun w' => r2plus_any (P ka 0) (P ka 1) (P ka 2) (P kb 0) (P kb 1) (P kb 2) w' (by omega)
                      have HPL := Lib.hid hpl
                      have u : ∀ j, finP k m P F al np j = P ka j + P kb j := fun j => by
                        rw [← HNPE.out, ← hka, ← hkb]
                        exact new_pt hlt2 (by omega) HNW.out.1 HLO.out HHI.out j
                      have HU := Lib.hid u
                      obtain ⟨bP, boff, rfl, -, -⟩ := rows3 HP.out hkal
                      have HM2 := Lib.hid hM2
                      have HL2 := Lib.hid hl2
                      have HF2 := Lib.hid hf2
                      have HE3' := Lib.hid hE2
                      clear hM2 hl2 hf2 hE2 HO2 HM HE HL HFB e0 e1 pa pb hpl u c0 c1 c2 y0 y1 y2 LL kb0 LKB
                      refine wp_region_tellC (C := fun W' => Kept (ext ((w.alloc (.cells #[.slice (some ⟨bP, boff, none⟩) k cap, .slice (some ⟨fb, off, none⟩) m cap2] 25)).alloc (.cells #[.slice none 0 0, .slice none 0 0] 25)) x1) W' ∧ ∀ x ∈ restL w11 (adv (w.heap.size + 1 + 1) x1.obs.size) (.slice A2 np cp2), W'.heap[x.1]? = some x.2) [.q, .k (.slice A2 np cp2), .q, .q, .q, .q, .q, .q, .q, .q, .q, .q, .q, .s, .s, .q, .k undef] (AppX 1 13 14 16 (ext ((w.alloc (.cells #[.slice (some ⟨bP, boff, none⟩) k cap, .slice (some ⟨fb, off, none⟩) m cap2] 25)).alloc (.cells #[.slice none 0 0, .slice none 0 0] 25)) x1) (w.heap.size + 1) (adv (w.heap.size + 1 + 1) x1.obs.size) (restL w11 (adv (w.heap.size + 1 + 1) x1.obs.size) (.slice A2 np cp2)) (.slice A2 np cp2) np (finP k m P F al) (.slice A6 (4 * q) c6) (4 * q) (finF k F al)) (by kernel_rfl) (by kernel_rfl) (fun b => by kernel_rfl) ?_ ?_ ?_ ?_
                      · exact fun bb => AppX.start HM2.out (by (repeat (first | exact Kept.refl _ | assumption | refine Kept.alloc ?_ _ | refine Kept.ext ?_ _ | refine Kept.drew ?_ | refine Kept.drewN ?_ _))) (fun x hx => fr_kept (mem_restL.1 hx).1 (by (repeat (first | exact Kept.refl _ | assumption | refine Kept.alloc ?_ _ | refine Kept.ext ?_ _ | refine Kept.drew ?_ | refine Kept.drewN ?_ _)))) (fun x hx => ⟨(mem_restL.1 hx).2.2, (mem_restL.1 hx).2.1⟩)
                      · intro i L b w' w'' hs hI hk
                        exact (hI.on hk).other (by rintro rfl; cases hs) (by rintro rfl; cases hs) (by rintro rfl; cases hs) (by rintro rfl; cases hs)
                      · exact fun L b w' h => ⟨h.kept, h.pk⟩
                      apply Exists.intro
                      refine ⟨?_, ?_, ?_, ?_⟩
                      · rintro bb W' ⟨hkW, hX⟩
                        have g0 : W'.cell? ⟨w.heap.size, 0, none⟩ = some (.slice (some ⟨bP, boff, none⟩) k cap) := kept_cell (w := (ext ((w.alloc (.cells #[.slice (some ⟨bP, boff, none⟩) k cap, .slice (some ⟨fb, off, none⟩) m cap2] 25)).alloc (.cells #[.slice none 0 0, .slice none 0 0] 25)) x1)) (by go_simp) hkW
                        have LG0 : Lower w.heap.size W'.heap.size := ⟨cell_lt g0⟩
                        have hkW2 := (by (repeat (first | exact Kept.refl _ | assumption | refine Kept.alloc ?_ _ | refine Kept.ext ?_ _ | refine Kept.drew ?_ | refine Kept.drewN ?_ _)) : Kept w (ext ((w.alloc (.cells #[.slice (some ⟨bP, boff, none⟩) k cap, .slice (some ⟨fb, off, none⟩) m cap2] 25)).alloc (.cells #[.slice none 0 0, .slice none 0 0] 25)) x1)).trans hkW
                        obtain ⟨b', off', eb, hb, f0, f1, f2⟩ := rows3 (HP.out.of hkW2) hkal
                        cases eb
                        obtain ⟨b', off', eb, hb', q0, q1, q2⟩ := rows3 (HP.out.of hkW2) hkbl
                        cases eb
                        have LB : Lower bP W'.heap.size := ⟨hb⟩
                        clear hkW hkW2 hX
                        simp only [swapL, Nat.reduceAdd]
                        repeat (go_big_quiet_step (first | (go_at_call 57; exact Calls.kept_of (HPL.out _))))
                        refine wpQuiet_nil ?_
                        rfl
                      · simp only [EachS, and_true]
                        refine ⟨?_, ?_, ?_, ?_⟩
                        · intro L b w' hd hL hI
                          have h0 := hI.v0 hL
                          have LQ : Lower (adv (w.heap.size + 1 + 1) x1.obs.size) w'.heap.size := ⟨cell_lt h0⟩
                          go_simp
                          exact ⟨rfl, hI.op1 (by omega) hL⟩
                        · intro L b w' hd hL hI
                          have h5 := hI.op5 (by omega)
                          rw [HU.out 0, HU.out 1, HU.out 2] at h5
                          go_simp
                          exact ⟨rfl, h5⟩
                        · intro L b w' hd hL hI
                          have d5 : L 13 = true := hd { on := 13, ground := .data } (by simp) rfl
                          obtain ⟨g5, e5, e6⟩ := hI.n5 d5
                          have hs := hI.s hL
                          refine tells_append (.tmp 100) (.tmp 112) 22 (by rfl) _ 34 i0 _ 3 24 Try.underlying22 HJP.out.1 HJP.out.2.1 HJP.out.2.2.1 HJP.out.2.2.2 (by rfl) (by omega) (kept_le hI.kept) _ np (rowC 3 (finP k m P F al) np) (by rfl) hs (some ⟨g5, 0, none⟩) 1 1 _ e5 (one_rows (e6 hL) ⟨by rw [HU.out 0]; unfold I64; omega, by rw [HU.out 1]; unfold I64; omega, by rw [HU.out 2]; unfold I64; omega⟩) (by unfold maxLen; omega) (by omega) ?_
                          intro v' w'' k1 k2 k3
                          rw [rowC_one3, ← rowC_succ3] at k1
                          exact ⟨rfl, hI.op6 (by omega) hL k1 k2⟩
                        · intro L b w' hd hL hI
                          have d1 : L 1 = true := hd { on := 1, ground := .phase } (by simp) rfl
                          have d6 : L 14 = true := hd { on := 14, ground := .phase } (by simp) rfl
                          have h8 := hI.op8 (u := undef) (by omega) d1 d6 hL HRB.out (by simp)
                          obtain ⟨q0, -, q1, -⟩ := cells2 hI.q
                          obtain ⟨A8, c8, e6⟩ := own_slice2 (hI.t d6)
                          rw [e6] at h8
                          have LQ : Lower (adv (w.heap.size + 1 + 1) x1.obs.size) w'.heap.size := ⟨cell_lt q0⟩
                          go_simp
                          exact ⟨rfl, h8⟩
                      · intro b b' d hd
                        simp [callSlots, dullOp] at hd
                        try (subst hd; rfl)
                      · intro L b w' hL hI
                        have hM4 := hI.done (hL 14 (by decide)) (hL 16 (by decide))
                        have hX := hI.pk
                        have hX4 : ∀ c, c < w11.heap.size → c ≠ (adv (w.heap.size + 1 + 1) x1.obs.size) → some c ≠ (Value.slice A2 np cp2).ownBlock → w'.heap[c]? = w11.heap[c]? := fun c hc h1 h2 => by
                          have hc' : w11.heap[c]? = some (w11.heap[c]) := Array.getElem?_eq_getElem hc
                          rw [hc']
                          exact hX (c, w11.heap[c]) (mem_restL.2 ⟨hc', h1, h2⟩)
                        have hl4 := hX4 (ws + 1) (Array.getElem?_eq_some_iff.1 HL2.out).1 (cells_ne HL2.out HM2.out.q (by decide)) (own_ne HM2.out.p HL2.out (by decide))
                        have hf4 := hX4 ws (Array.getElem?_eq_some_iff.1 HF2.out).1 (cells_ne HF2.out HM2.out.q (by decide)) (own_ne HM2.out.p HF2.out (by decide))
                        rw [HL2.out] at hl4
                        rw [HF2.out] at hf4
                        have hE4 := own_heap HE3'.out (fun g' hg' => hX4 g' (own_lt HE3'.out hg') (fun e => own_ne HE3'.out HM2.out.q (by decide) (by rw [hg', e])) (fun e => by
                          rcases own_ne2 HE3'.out HM2.out.p (by decide) with h | h
                          · rw [h] at e; cases e
                          · exact h (e.symm.trans hg'.symm)))
                        have kb0 : w'.cell? ⟨w.heap.size, 0, none⟩ = some (.slice (some ⟨bP, boff, none⟩) k cap) := kept_cell (w := (ext ((w.alloc (.cells #[.slice (some ⟨bP, boff, none⟩) k cap, .slice (some ⟨fb, off, none⟩) m cap2] 25)).alloc (.cells #[.slice none 0 0, .slice none 0 0] 25)) x1)) (by go_simp) hM4.kept
                        have LKB : Lower w.heap.size w'.heap.size := ⟨cell_lt kb0⟩
                        obtain ⟨c0, c1, c2, y0, y1, y2⟩ := cells3f hl4
                        have LL : Lower (ws + 1) w'.heap.size := ⟨cell_lt c0⟩
                        have HS4 := Lib.hid (mid_store (1) (.int .i64 (midN k al (3 * q + 1) : Nat)) hM4 hE4 hl4 hf4 HNE.out (Nat.le_trans hwl (Nat.le_succ _)))
                        clear hM4 hX hX4 hL hI hE4 hl4 hf4 HM2 HL2 HF2 HE3' HPL HU
                        go_wp2_with fail
                        go_roundw
                        case rel =>
                          have hn1 : npt k al (3 * q + (1 + 1)) = np + 1 := (npt_new HNW.out.1).trans (by rw [HNPE.out])
                          have hc1 : cnB (newB al) (3 * q + (1 + 1)) = r + 1 := (cnb_new HNW.out.1).trans (by rw [HCE.out])
                          have hsum : (k : Int) + r = (midN k al (3 * q + 1) : Nat) := by have := HNW.out.2; omega
                          obtain ⟨k1, k2, k3, k4⟩ := HS4.out
                          rw [hsum]
                          exact ⟨1 + 1, by omega, rfl, _, by rw [hn1]; exact k1, by rw [hc1]; exact k2, k3, k4⟩
                        case measure => simp [intOf]
              · obtain ⟨A7, c7, rfl, hc7⟩ := own_sl HE.out
                obtain ⟨lo, hlo⟩ : ∃ z, min (F q 2) (F q 0) = z := ⟨_, rfl⟩
                obtain ⟨hh, hhh⟩ : ∃ z, max (F q 2) (F q 0) = z := ⟨_, rfl⟩
                have hEI := end_I (al := al) (by omega) HIN.out (r := (3 * q + 2)) (by omega)
                have hEQ := fun c (hc : c < cnB (newB al) (3 * q + 2)) => end_is (n := k) HO.out HDS.out hlt2 (j := 2) (by omega) hc hlo hhh
                have hcb : cnB (newB al) (3 * q + 2) ≤ 288 := Nat.le_trans (cnB_le (newB al) (3 * q + 2)) (by omega)
                have hfe := fnd_end (n := k) HO.out (a := (3 * q + 2)) (by omega)
                obtain ⟨cE, hcE⟩ : ∃ c, cnB (newB al) (3 * q + 2) = c := ⟨_, rfl⟩
                have HNP := Lib.hid (show npt k al (3 * q + 2) = k + cE by rw [← hcE]; rfl)
                have hE2 := HE.out
                rw [hcE] at hE2 hEI hEQ hcb hfe hc7
                have HEI := Lib.hid hEI
                have HEQ := Lib.hid hEQ
                have HFE := Lib.hid hfe
                have HLO := Lib.hid hlo
                have HHI := Lib.hid hhh
                have HE2 := Lib.hid hE2
                have HCE := Lib.hid hcE
                rw [hcE, show ((2 : Nat) : Int) = 2 from rfl]
                clear hEI hEQ hfe hE2 HE hcE
                go_wp2_with fail
                ((first | (with_reducible refine wp_region_kept2 (by kernel_rfl) (by kernel_rfl) ?_) | refine wp_region_kept (by kernel_rfl) (by kernel_rfl) ?_); (repeat (go_big_quiet_step (first | fail))); refine wpQuiet_nil ?_; intro x)
                go_wp2_with fail
                clear LF
                clear hlo hhh
                go_loopw [14, 15] (fun fd i wq => ∃ r : Nat, r ≤ cE ∧ fd = .int .i64 (fndN k al (3 * q + 2) r) ∧ i = .int .i64 r ∧ Msh2 (ext ((w.alloc (.cells #[.slice A k cap, .slice (some ⟨fb, off, none⟩) m cap2] 25)).alloc (.cells #[.slice none 0 0, .slice none 0 0] 25)) x1) (w.heap.size + 1) (adv (w.heap.size + 1 + 1) x1.obs.size) vP (npt k al (3 * q + 2)) (finP k m P F al) (.slice A6 (4 * q) c6) (4 * q) (finF k F al) wq ∧ wq.ownsRow (ext ((w.alloc (.cells #[.slice A k cap, .slice (some ⟨fb, off, none⟩) m cap2] 25)).alloc (.cells #[.slice none 0 0, .slice none 0 0] 25)) x1).heap.size 80 2 (.slice A7 cE c7) cE (rowC 2 (endF m F al) cE) ∧ wq.heap[ws + 1]? = some (.cells #[.int .i64 (mdF k al q 2 0), .int .i64 (mdF k al q 2 1), .int .i64 (mdF k al q 2 2)] 54 (0, 0)) ∧ wq.heap[ws]? = some (.cells #[.int .i64 (F q 0), .int .i64 (F q 1), .int .i64 (F q 2)] 54 (0, 0))) (fun _ i _ => cE - (intOf i).toNat)
                case atStart => exact ⟨0, by omega, rfl, rfl, HM.out.on (by (repeat (first | exact Kept.refl _ | assumption | refine Kept.alloc ?_ _ | refine Kept.ext ?_ _ | refine Kept.drew ?_ | refine Kept.drewN ?_ _))), owns_kept HE2.out (by (repeat (first | exact Kept.refl _ | assumption | refine Kept.alloc ?_ _ | refine Kept.ext ?_ _ | refine Kept.drew ?_ | refine Kept.drewN ?_ _))), fr_kept HL.out (by (repeat (first | exact Kept.refl _ | assumption | refine Kept.alloc ?_ _ | refine Kept.ext ?_ _ | refine Kept.drew ?_ | refine Kept.drewN ?_ _))), fr_kept HFB.out (by (repeat (first | exact Kept.refl _ | assumption | refine Kept.alloc ?_ _ | refine Kept.ext ?_ _ | refine Kept.drew ?_ | refine Kept.drewN ?_ _)))⟩
                case round =>
                  clear HM HE2 HL HFB f0 f1 f2
                  obtain ⟨r, hr, rfl, rfl, hM, hE, hl, hf⟩ := hrel
                  have HM := Lib.hid hM
                  have HE := Lib.hid hE
                  have HL := Lib.hid hl
                  have HFB := Lib.hid hf
                  clear hM hE hl hf
                  by_cases hlt4 : r < cE
                  · have gr : decide ((r : Int) < cE) = true := decide_eq_true (by omega)
                    obtain ⟨eb, eo, rfl, heb, e0, e1⟩ := rows2 (rows_of_owns HE.out HEI.out) hlt4
                    have LE : Lower eb wr.heap.size := ⟨heb⟩
                    clear heb
                    by_cases hm : r = midN k al (3 * q + 2) - k
                    · have gb : (endF m F al r 0 == lo && endF m F al r 1 == hh) = true := by rw [HEQ.out r hlt4]; exact decide_eq_true hm
                      have HMM := Lib.hid hm
                      clear hm
                      go_wp2_with fail
                      go_roundw
                      case rel => exact ⟨r + 1, by omega, by rw [fnd_next, if_pos HMM.out.symm], by go_num, HM.out.on (by (repeat (first | exact Kept.refl _ | assumption | refine Kept.alloc ?_ _ | refine Kept.ext ?_ _ | refine Kept.drew ?_ | refine Kept.drewN ?_ _))), owns_kept HE.out (by (repeat (first | exact Kept.refl _ | assumption | refine Kept.alloc ?_ _ | refine Kept.ext ?_ _ | refine Kept.drew ?_ | refine Kept.drewN ?_ _))), fr_kept HL.out (by (repeat (first | exact Kept.refl _ | assumption | refine Kept.alloc ?_ _ | refine Kept.ext ?_ _ | refine Kept.drew ?_ | refine Kept.drewN ?_ _))), fr_kept HFB.out (by (repeat (first | exact Kept.refl _ | assumption | refine Kept.alloc ?_ _ | refine Kept.ext ?_ _ | refine Kept.drew ?_ | refine Kept.drewN ?_ _)))⟩
                      case measure => simp [intOf]; omega
                    · have gb : (endF m F al r 0 == lo && endF m F al r 1 == hh) = false := by rw [HEQ.out r hlt4]; exact decide_eq_false hm
                      have HMM := Lib.hid hm
                      clear hm
                      go_wp2_with fail
                      go_roundw
                      case rel => exact ⟨r + 1, by omega, by rw [fnd_next, if_neg (fun e => HMM.out e.symm)], by go_num, HM.out.on (by (repeat (first | exact Kept.refl _ | assumption | refine Kept.alloc ?_ _ | refine Kept.ext ?_ _ | refine Kept.drew ?_ | refine Kept.drewN ?_ _))), owns_kept HE.out (by (repeat (first | exact Kept.refl _ | assumption | refine Kept.alloc ?_ _ | refine Kept.ext ?_ _ | refine Kept.drew ?_ | refine Kept.drewN ?_ _))), fr_kept HL.out (by (repeat (first | exact Kept.refl _ | assumption | refine Kept.alloc ?_ _ | refine Kept.ext ?_ _ | refine Kept.drew ?_ | refine Kept.drewN ?_ _))), fr_kept HFB.out (by (repeat (first | exact Kept.refl _ | assumption | refine Kept.alloc ?_ _ | refine Kept.ext ?_ _ | refine Kept.drew ?_ | refine Kept.drewN ?_ _)))⟩
                      case measure => simp [intOf]; omega
                  · obtain rfl : r = cE := by omega
                    have gr : decide ((r : Int) < r) = false := decide_eq_false (by omega)
                    have kb0 : wr.cell? ⟨w.heap.size, 0, none⟩ = some (.slice A k cap) := kept_cell (w := (ext ((w.alloc (.cells #[.slice A k cap, .slice (some ⟨fb, off, none⟩) m cap2] 25)).alloc (.cells #[.slice none 0 0, .slice none 0 0] 25)) x1)) (by go_simp) HM.out.kept
                    have LKB : Lower w.heap.size wr.heap.size := ⟨cell_lt kb0⟩
                    obtain ⟨c0, c1, c2, y0, y1, y2⟩ := cells3f HL.out
                    have LL : Lower (ws + 1) wr.heap.size := ⟨cell_lt c0⟩
                    by_cases hold : al (3 * q + 2) < (3 * q + 2)
                    · obtain ⟨hf1, hf2⟩ := HFE.out.1 hold
                      obtain ⟨fv, hfv⟩ : ∃ z, fndN k al (3 * q + 2) r = z := ⟨_, rfl⟩
                      have hmb := mid_bd (n := k) HO.out (a := (3 * q + 2)) (r := 3 * m) (by omega) (by omega)
                      rw [hfv] at hf1 hf2
                      have g9 : decide (fv < 0) = false := decide_eq_false (by omega)
                      have hb9 : 0 ≤ fv ∧ fv ≤ 400 := by have := hmb.2; unfold npt at this; have := cnB_le (newB al) (3 * m); omega
                      rw [hfv]
                      have hsum : (k : Int) + fv = (midN k al (3 * q + 2) : Nat) := by omega
                      have HSUM := Lib.hid hsum
                      have HOLD := Lib.hid hold
                      clear hsum hf1 hmb hfv hold
                      go_wp2_with fail
                      go_roundw
                      case rel =>
                        have hn1 : npt k al (3 * q + (2 + 1)) = npt k al (3 * q + 2) := npt_old HOLD.out
                        have hc1 : cnB (newB al) (3 * q + (2 + 1)) = r := (cnb_old HOLD.out).trans HCE.out
                        obtain ⟨k1, k2, k3, k4⟩ := mid_store (2) (.int .i64 (midN k al (3 * q + 2) : Nat)) HM.out HE.out HL.out HFB.out HNE.out (Nat.le_trans hwl (Nat.le_succ _))
                        rw [HSUM.out]
                        exact ⟨2 + 1, by omega, rfl, vP, by rw [hn1]; exact k1, by rw [hc1]; exact k2, k3, k4⟩
                      case measure => simp [intOf]
                    · have hnw : (3 * q + 2) < al (3 * q + 2) := by have := HO.out.ne (3 * q + 2) (by omega); omega
                      obtain ⟨hf1, hmid⟩ := HFE.out.2 hnw
                      rw [hf1]
                      have HNW := Lib.hid (And.intro hnw hmid)
                      clear hold hnw hf1 hmid
                      go_wp2_with (at_builtin; refine wpList_append_lies _ rfl _ _ _ rfl _ 80 i2 _ 2 16 Try.underlying101 HJ2.out.1 HJ2.out.2.1 HJ2.out.2.2.1 HJ2.out.2.2.2 rfl (by omega) (.slice A7 r c7) r (rowC 2 (endF m F al) r) rfl (owns_kept HE.out (by (repeat (first | exact Kept.refl _ | assumption | refine Kept.alloc ?_ _ | refine Kept.ext ?_ _ | refine Kept.drew ?_ | refine Kept.drewN ?_ _)))) _ 1 1 [.int .i64 lo, .int .i64 hh] rfl rfl (World.news_of_block (alloc_now _ _ _)) (by simp [Value.oneCell']) (by omega) (by unfold maxLen; omega) (by omega) (kept_le (HM.out.kept.trans (by (repeat (first | exact Kept.refl _ | assumption | refine Kept.alloc ?_ _ | refine Kept.ext ?_ _ | refine Kept.drew ?_ | refine Kept.drewN ?_ _))))) _ rfl ?_; intro g cp w11 hown2 hg2 hat hlt3; have hg3 : World.grownBy _ w11 (Value.ownBlock (.slice A7 r c7)) := hg2; have HO2 := Lib.hid (And.intro hown2 hg3); clear hown2 hg2 hg3 hat hlt3)
                      have hM2 := Msh2.byRow (HM.out.on (by (repeat (first | exact Kept.refl _ | assumption | refine Kept.alloc ?_ _ | refine Kept.ext ?_ _ | refine Kept.drew ?_ | refine Kept.drewN ?_ _)))) (owns_kept HE.out (by (repeat (first | exact Kept.refl _ | assumption | refine Kept.alloc ?_ _ | refine Kept.ext ?_ _ | refine Kept.drew ?_ | refine Kept.drewN ?_ _)))) (Nat.le_refl _) HO2.out.2
                      have hl2 := own_keepsB (owns_kept HE.out (by (repeat (first | exact Kept.refl _ | assumption | refine Kept.alloc ?_ _ | refine Kept.ext ?_ _ | refine Kept.drew ?_ | refine Kept.drewN ?_ _)))) HO2.out.2 (fr_kept HL.out (by (repeat (first | exact Kept.refl _ | assumption | refine Kept.alloc ?_ _ | refine Kept.ext ?_ _ | refine Kept.drew ?_ | refine Kept.drewN ?_ _)))) (by decide)
                      have hf2 := own_keepsB (owns_kept HE.out (by (repeat (first | exact Kept.refl _ | assumption | refine Kept.alloc ?_ _ | refine Kept.ext ?_ _ | refine Kept.drew ?_ | refine Kept.drewN ?_ _)))) HO2.out.2 (fr_kept HFB.out (by (repeat (first | exact Kept.refl _ | assumption | refine Kept.alloc ?_ _ | refine Kept.ext ?_ _ | refine Kept.drew ?_ | refine Kept.drewN ?_ _)))) (by decide)
                      have hE2 : w11.ownsRow (ext ((w.alloc (.cells #[.slice A k cap, .slice (some ⟨fb, off, none⟩) m cap2] 25)).alloc (.cells #[.slice none 0 0, .slice none 0 0] 25)) x1).heap.size 80 2 (.slice (some ⟨g, 0, none⟩) (r + 1) cp) (r + 1) (rowC 2 (endF m F al) (r + 1)) := by
                        obtain ⟨z0, z1⟩ := end_at (F := F) (al := al) (m := m) (a := (3 * q + 2)) (by omega) (by unfold newB; rw [decide_eq_true_eq]; exact HNW.out.1)
                        rw [HCE.out, nxt_at q 2 (by omega), tl_at F q 2 (by omega), tl_at F q _ (Nat.mod_lt _ (by omega))] at z0 z1
                        show w11.ownsRow _ _ _ _ _ (rowC 2 (endF m F al) r ++ [.int .i64 (endF m F al r 0), .int .i64 (endF m F al r 1)])
                        rw [z0, z1]
                        have h0 := HLO.out
                        have h1 := HHI.out
                        rw [← h0, ← h1] at HO2
                        exact HO2.out.1
                      obtain ⟨np, hnpe⟩ : ∃ z, npt k al (3 * q + 2) = z := ⟨_, rfl⟩
                      have HNPE := Lib.hid hnpe
                      rw [hnpe] at hM2
                      have hnp2 := HNP.out
                      rw [hnpe] at hnp2
                      have HNP2 := Lib.hid hnp2
                      have hnpb : np ≤ 352 := by omega
                      clear hnpe hnp2
                      obtain ⟨A2, cp2, rfl, hcp⟩ := own_sl hM2.p
                      have e0 := HIN.out q hlt2 2 (by omega)
                      have e1 := HIN.out q hlt2 0 (by omega)
                      have e0' : 0 ≤ lo ∧ lo < k := by have := HLO.out; omega
                      have e1' : 0 ≤ hh ∧ hh < k := by have := HHI.out; omega
                      obtain ⟨ka, hka⟩ : ∃ z, lo.toNat = z := ⟨_, rfl⟩
                      obtain ⟨kb, hkb⟩ : ∃ z, hh.toNat = z := ⟨_, rfl⟩
                      have hkal : ka < k := by omega
                      have hkbl : kb < k := by omega
                      have pa := fun j hj => HBD.out ka hkal j hj
                      have pb := fun j hj => HBD.out kb hkbl j hj
                      have pa0 := pa 0 (by omega)
                      have pa1 := pa 1 (by omega)
                      have pa2 := pa 2 (by omega)
                      have pb0 := pb 0 (by omega)
                      have pb1 := pb 1 (by omega)
                      have pb2 := pb 2 (by omega)
                      have hpl : ∀ w', Calls Try.prog 57 #[.agg #[.int .i64 (P ka 0), .int .i64 (P ka 1), .int .i64 (P ka 2)], .agg #[.int .i64 (P kb 0), .int .i64 (P kb 1), .int .i64 (P kb 2)]] w' fun e w'' => e = .returned (.agg #[.int .i64 (P ka 0 + P kb 0), .int .i64 (P ka 1 + P kb 1), .int .i64 (P ka 2 + P kb 2)]) ∧ Kept w' w'' := fun w' => r2plus_any (P ka 0) (P ka 1) (P ka 2) (P kb 0) (P kb 1) (P kb 2) w' (by omega)
                      have HPL := Lib.hid hpl
                      have u : ∀ j, finP k m P F al np j = P ka j + P kb j := fun j => by
                        rw [← HNPE.out, ← hka, ← hkb]
                        exact new_pt hlt2 (by omega) HNW.out.1 HLO.out HHI.out j
                      have HU := Lib.hid u
                      obtain ⟨bP, boff, rfl, -, -⟩ := rows3 HP.out hkal
                      have HM2 := Lib.hid hM2
                      have HL2 := Lib.hid hl2
                      have HF2 := Lib.hid hf2
                      have HE3' := Lib.hid hE2
                      clear hM2 hl2 hf2 hE2 HO2 HM HE HL HFB e0 e1 pa pb hpl u c0 c1 c2 y0 y1 y2 LL kb0 LKB
                      refine wp_region_tellC (C := fun W' => Kept (ext ((w.alloc (.cells #[.slice (some ⟨bP, boff, none⟩) k cap, .slice (some ⟨fb, off, none⟩) m cap2] 25)).alloc (.cells #[.slice none 0 0, .slice none 0 0] 25)) x1) W' ∧ ∀ x ∈ restL w11 (adv (w.heap.size + 1 + 1) x1.obs.size) (.slice A2 np cp2), W'.heap[x.1]? = some x.2) [.q, .k (.slice A2 np cp2), .q, .q, .q, .q, .q, .q, .q, .q, .q, .q, .q, .s, .s, .q, .k undef] (AppX 1 13 14 16 (ext ((w.alloc (.cells #[.slice (some ⟨bP, boff, none⟩) k cap, .slice (some ⟨fb, off, none⟩) m cap2] 25)).alloc (.cells #[.slice none 0 0, .slice none 0 0] 25)) x1) (w.heap.size + 1) (adv (w.heap.size + 1 + 1) x1.obs.size) (restL w11 (adv (w.heap.size + 1 + 1) x1.obs.size) (.slice A2 np cp2)) (.slice A2 np cp2) np (finP k m P F al) (.slice A6 (4 * q) c6) (4 * q) (finF k F al)) (by kernel_rfl) (by kernel_rfl) (fun b => by kernel_rfl) ?_ ?_ ?_ ?_
                      · exact fun bb => AppX.start HM2.out (by (repeat (first | exact Kept.refl _ | assumption | refine Kept.alloc ?_ _ | refine Kept.ext ?_ _ | refine Kept.drew ?_ | refine Kept.drewN ?_ _))) (fun x hx => fr_kept (mem_restL.1 hx).1 (by (repeat (first | exact Kept.refl _ | assumption | refine Kept.alloc ?_ _ | refine Kept.ext ?_ _ | refine Kept.drew ?_ | refine Kept.drewN ?_ _)))) (fun x hx => ⟨(mem_restL.1 hx).2.2, (mem_restL.1 hx).2.1⟩)
                      · intro i L b w' w'' hs hI hk
                        exact (hI.on hk).other (by rintro rfl; cases hs) (by rintro rfl; cases hs) (by rintro rfl; cases hs) (by rintro rfl; cases hs)
                      · exact fun L b w' h => ⟨h.kept, h.pk⟩
                      apply Exists.intro
                      refine ⟨?_, ?_, ?_, ?_⟩
                      · rintro bb W' ⟨hkW, hX⟩
                        have g0 : W'.cell? ⟨w.heap.size, 0, none⟩ = some (.slice (some ⟨bP, boff, none⟩) k cap) := kept_cell (w := (ext ((w.alloc (.cells #[.slice (some ⟨bP, boff, none⟩) k cap, .slice (some ⟨fb, off, none⟩) m cap2] 25)).alloc (.cells #[.slice none 0 0, .slice none 0 0] 25)) x1)) (by go_simp) hkW
                        have LG0 : Lower w.heap.size W'.heap.size := ⟨cell_lt g0⟩
                        have hkW2 := (by (repeat (first | exact Kept.refl _ | assumption | refine Kept.alloc ?_ _ | refine Kept.ext ?_ _ | refine Kept.drew ?_ | refine Kept.drewN ?_ _)) : Kept w (ext ((w.alloc (.cells #[.slice (some ⟨bP, boff, none⟩) k cap, .slice (some ⟨fb, off, none⟩) m cap2] 25)).alloc (.cells #[.slice none 0 0, .slice none 0 0] 25)) x1)).trans hkW
                        obtain ⟨b', off', eb, hb, f0, f1, f2⟩ := rows3 (HP.out.of hkW2) hkal
                        cases eb
                        obtain ⟨b', off', eb, hb', q0, q1, q2⟩ := rows3 (HP.out.of hkW2) hkbl
                        cases eb
                        have LB : Lower bP W'.heap.size := ⟨hb⟩
                        clear hkW hkW2 hX
                        simp only [swapL, Nat.reduceAdd]
                        repeat (go_big_quiet_step (first | (go_at_call 57; exact Calls.kept_of (HPL.out _))))
                        refine wpQuiet_nil ?_
                        rfl
                      · simp only [EachS, and_true]
                        refine ⟨?_, ?_, ?_, ?_⟩
                        · intro L b w' hd hL hI
                          have h0 := hI.v0 hL
                          have LQ : Lower (adv (w.heap.size + 1 + 1) x1.obs.size) w'.heap.size := ⟨cell_lt h0⟩
                          go_simp
                          exact ⟨rfl, hI.op1 (by omega) hL⟩
                        · intro L b w' hd hL hI
                          have h5 := hI.op5 (by omega)
                          rw [HU.out 0, HU.out 1, HU.out 2] at h5
                          go_simp
                          exact ⟨rfl, h5⟩
                        · intro L b w' hd hL hI
                          have d5 : L 13 = true := hd { on := 13, ground := .data } (by simp) rfl
                          obtain ⟨g5, e5, e6⟩ := hI.n5 d5
                          have hs := hI.s hL
                          refine tells_append (.tmp 100) (.tmp 112) 22 (by rfl) _ 34 i0 _ 3 24 Try.underlying22 HJP.out.1 HJP.out.2.1 HJP.out.2.2.1 HJP.out.2.2.2 (by rfl) (by omega) (kept_le hI.kept) _ np (rowC 3 (finP k m P F al) np) (by rfl) hs (some ⟨g5, 0, none⟩) 1 1 _ e5 (one_rows (e6 hL) ⟨by rw [HU.out 0]; unfold I64; omega, by rw [HU.out 1]; unfold I64; omega, by rw [HU.out 2]; unfold I64; omega⟩) (by unfold maxLen; omega) (by omega) ?_
                          intro v' w'' k1 k2 k3
                          rw [rowC_one3, ← rowC_succ3] at k1
                          exact ⟨rfl, hI.op6 (by omega) hL k1 k2⟩
                        · intro L b w' hd hL hI
                          have d1 : L 1 = true := hd { on := 1, ground := .phase } (by simp) rfl
                          have d6 : L 14 = true := hd { on := 14, ground := .phase } (by simp) rfl
                          have h8 := hI.op8 (u := undef) (by omega) d1 d6 hL HRB.out (by simp)
                          obtain ⟨q0, -, q1, -⟩ := cells2 hI.q
                          obtain ⟨A8, c8, e6⟩ := own_slice2 (hI.t d6)
                          rw [e6] at h8
                          have LQ : Lower (adv (w.heap.size + 1 + 1) x1.obs.size) w'.heap.size := ⟨cell_lt q0⟩
                          go_simp
                          exact ⟨rfl, h8⟩
                      · intro b b' d hd
                        simp [callSlots, dullOp] at hd
                        try (subst hd; rfl)
                      · intro L b w' hL hI
                        have hM4 := hI.done (hL 14 (by decide)) (hL 16 (by decide))
                        have hX := hI.pk
                        have hX4 : ∀ c, c < w11.heap.size → c ≠ (adv (w.heap.size + 1 + 1) x1.obs.size) → some c ≠ (Value.slice A2 np cp2).ownBlock → w'.heap[c]? = w11.heap[c]? := fun c hc h1 h2 => by
                          have hc' : w11.heap[c]? = some (w11.heap[c]) := Array.getElem?_eq_getElem hc
                          rw [hc']
                          exact hX (c, w11.heap[c]) (mem_restL.2 ⟨hc', h1, h2⟩)
                        have hl4 := hX4 (ws + 1) (Array.getElem?_eq_some_iff.1 HL2.out).1 (cells_ne HL2.out HM2.out.q (by decide)) (own_ne HM2.out.p HL2.out (by decide))
                        have hf4 := hX4 ws (Array.getElem?_eq_some_iff.1 HF2.out).1 (cells_ne HF2.out HM2.out.q (by decide)) (own_ne HM2.out.p HF2.out (by decide))
                        rw [HL2.out] at hl4
                        rw [HF2.out] at hf4
                        have hE4 := own_heap HE3'.out (fun g' hg' => hX4 g' (own_lt HE3'.out hg') (fun e => own_ne HE3'.out HM2.out.q (by decide) (by rw [hg', e])) (fun e => by
                          rcases own_ne2 HE3'.out HM2.out.p (by decide) with h | h
                          · rw [h] at e; cases e
                          · exact h (e.symm.trans hg'.symm)))
                        have kb0 : w'.cell? ⟨w.heap.size, 0, none⟩ = some (.slice (some ⟨bP, boff, none⟩) k cap) := kept_cell (w := (ext ((w.alloc (.cells #[.slice (some ⟨bP, boff, none⟩) k cap, .slice (some ⟨fb, off, none⟩) m cap2] 25)).alloc (.cells #[.slice none 0 0, .slice none 0 0] 25)) x1)) (by go_simp) hM4.kept
                        have LKB : Lower w.heap.size w'.heap.size := ⟨cell_lt kb0⟩
                        obtain ⟨c0, c1, c2, y0, y1, y2⟩ := cells3f hl4
                        have LL : Lower (ws + 1) w'.heap.size := ⟨cell_lt c0⟩
                        have HS4 := Lib.hid (mid_store (2) (.int .i64 (midN k al (3 * q + 2) : Nat)) hM4 hE4 hl4 hf4 HNE.out (Nat.le_trans hwl (Nat.le_succ _)))
                        clear hM4 hX hX4 hL hI hE4 hl4 hf4 HM2 HL2 HF2 HE3' HPL HU
                        go_wp2_with fail
                        go_roundw
                        case rel =>
                          have hn1 : npt k al (3 * q + (2 + 1)) = np + 1 := (npt_new HNW.out.1).trans (by rw [HNPE.out])
                          have hc1 : cnB (newB al) (3 * q + (2 + 1)) = r + 1 := (cnb_new HNW.out.1).trans (by rw [HCE.out])
                          have hsum : (k : Int) + r = (midN k al (3 * q + 2) : Nat) := by have := HNW.out.2; omega
                          obtain ⟨k1, k2, k3, k4⟩ := HS4.out
                          rw [hsum]
                          exact ⟨2 + 1, by omega, rfl, _, by rw [hn1]; exact k1, by rw [hc1]; exact k2, k3, k4⟩
                        case measure => simp [intOf]
            · obtain rfl : j = 3 := by omega
              rw [show ((3 : Nat) : Int) = 3 from rfl]
              have hl10 : wr.heap[ws + 1]? = some (.cells #[.int .i64 (midN k al (3 * q) : Nat), .int .i64 (midN k al (3 * q + 1) : Nat), .int .i64 (midN k al (3 * q + 2) : Nat)] 54 (0, 0)) := HL.out
              obtain ⟨c0, c1, c2, y0, y1, y2⟩ := cells3f hl10
              obtain ⟨m0, m1, z0, z1⟩ := cells2 HM.out.q
              have LL : Lower (ws + 1) wr.heap.size := ⟨cell_lt c0⟩
              have LM : Lower (adv (w.heap.size + 1 + 1) x1.obs.size) wr.heap.size := ⟨cell_lt m0⟩
              clear hl10 HL HFB
              go_wp2_with (at_builtin; refine wpList_append_lies _ rfl _ _ _ rfl _ 54 i1 _ 3 24 Try.underlying23 HJ.out.1 HJ.out.2.1 HJ.out.2.2.1 HJ.out.2.2.2 rfl (by omega) (.slice A6 (4 * q) c6) (4 * q) (rowC 3 (finF k F al) (4 * q)) rfl (owns_kept HM.out.f (by (repeat (first | exact Kept.refl _ | assumption | refine Kept.alloc ?_ _ | refine Kept.ext ?_ _ | refine Kept.drew ?_ | refine Kept.drewN ?_ _)))) _ 4 4 [.int .i64 (F q 0), .int .i64 (midN k al (3 * q) : Nat), .int .i64 (midN k al (3 * q + 2) : Nat), .int .i64 (midN k al (3 * q) : Nat), .int .i64 (F q 1), .int .i64 (midN k al (3 * q + 1) : Nat), .int .i64 (midN k al (3 * q + 2) : Nat), .int .i64 (midN k al (3 * q + 1) : Nat), .int .i64 (F q 2), .int .i64 (midN k al (3 * q) : Nat), .int .i64 (midN k al (3 * q + 1) : Nat), .int .i64 (midN k al (3 * q + 2) : Nat)] rfl rfl (World.news_of_block (alloc_now _ _ _)) (by simp [Value.oneCell']) (by omega) (by unfold maxLen; omega) (by omega) (kept_le (HM.out.kept.trans (by (repeat (first | exact Kept.refl _ | assumption | refine Kept.alloc ?_ _ | refine Kept.ext ?_ _ | refine Kept.drew ?_ | refine Kept.drewN ?_ _))))) _ rfl ?_; intro g cp w11 hown2 hg2 hat hlt3; have hm2 := own_keepsB (owns_kept HM.out.f (by (repeat (first | exact Kept.refl _ | assumption | refine Kept.alloc ?_ _ | refine Kept.ext ?_ _ | refine Kept.drew ?_ | refine Kept.drewN ?_ _)))) hg2 (fr_kept HM.out.q (by (repeat (first | exact Kept.refl _ | assumption | refine Kept.alloc ?_ _ | refine Kept.ext ?_ _ | refine Kept.drew ?_ | refine Kept.drewN ?_ _)))) (by decide); have hE2 := (owns_kept HE.out (by (repeat (first | exact Kept.refl _ | assumption | refine Kept.alloc ?_ _ | refine Kept.ext ?_ _ | refine Kept.drew ?_ | refine Kept.drewN ?_ _)))).kept hg2 (own_ne2 (owns_kept HM.out.f (by (repeat (first | exact Kept.refl _ | assumption | refine Kept.alloc ?_ _ | refine Kept.ext ?_ _ | refine Kept.drew ?_ | refine Kept.drewN ?_ _)))) (owns_kept HE.out (by (repeat (first | exact Kept.refl _ | assumption | refine Kept.alloc ?_ _ | refine Kept.ext ?_ _ | refine Kept.drew ?_ | refine Kept.drewN ?_ _)))) (by decide)); have HE2 := Lib.hid (And.intro hE2 hm2); obtain ⟨m0, m1, z0, z1⟩ := cells2 hm2; have LM : Lower (adv (w.heap.size + 1 + 1) x1.obs.size) w11.heap.size := ⟨cell_lt m0⟩; have hg3 : World.grownBy _ w11 (Value.ownBlock (.slice A6 (4 * q) c6)) := hg2; have HO2 := Lib.hid (And.intro hown2 hg3); clear hown2 hg2 hg3 hat hlt3 hm2 hE2)
              go_roundw
              case rel =>
                refine ⟨q + 1, by omega, by go_num, vP, .slice (some ⟨g, 0, none⟩) (4 * q + 4) cp, ?_, ?_⟩
                · rw [show 4 * (q + 1) = 4 * q + 4 by omega]
                  refine Msh2.appF (m := 4 * q) (d := 4) HM.out (by (repeat (first | exact Kept.refl _ | assumption | refine Kept.alloc ?_ _ | refine Kept.ext ?_ _ | refine Kept.drew ?_ | refine Kept.drewN ?_ _))) ?_ HO2.out.2 HRB.out (by simp)
                  have e : rowC 3 (finF k F al) (4 * q + 4) = rowC 3 (finF k F al) (4 * q) ++ [.int .i64 (F q 0), .int .i64 (midN k al (3 * q) : Nat), .int .i64 (midN k al (3 * q + 2) : Nat), .int .i64 (midN k al (3 * q) : Nat), .int .i64 (F q 1), .int .i64 (midN k al (3 * q + 1) : Nat), .int .i64 (midN k al (3 * q + 2) : Nat), .int .i64 (midN k al (3 * q + 1) : Nat), .int .i64 (F q 2), .int .i64 (midN k al (3 * q) : Nat), .int .i64 (midN k al (3 * q + 1) : Nat), .int .i64 (midN k al (3 * q + 2) : Nat)] := by
                    rw [rowC_four]
                    have h0 := finF_four k F al q 0 (by omega)
                    have h1 := finF_four k F al q 1 (by omega)
                    have h2 := finF_four k F al q 2 (by omega)
                    have h3 := finF_four k F al q 3 (by omega)
                    rw [Nat.add_zero] at h0
                    simp only [h0, h1, h2, h3]
                    rfl
                  rw [e]
                  exact HO2.out.1
                · exact own_heap HE2.out.1 (fun g' hg' => heap_sc (fun e => own_ne HE2.out.1 HE2.out.2 (by decide) (by rw [hg', e])))
              case measure => simp [intOf]; omega
        · obtain rfl : q = m := by omega
          have gq : decide ((q : Int) < q) = false := decide_eq_false (by omega)
          have hP3 := rows_of_owns hM.p (fun i hi j hj => by have := finP_bd HIN.out HBD.out (al := al) i hi j hj; unfold I64; omega)
          have hF3 := rows_of_owns hM.f (fun i hi j hj => finF_I (by omega) HO.out HIN.out i hi j hj)
          have hnb : npt k al (3 * q) ≤ 64 + 288 := by unfold npt; have := cnB_le (newB al) (3 * q); omega
          have HP3 := Lib.hid hP3
          have HF3 := Lib.hid hF3
          have HM := Lib.hid hM
          obtain ⟨m0, m1, z0, z1⟩ := cells2 hM.q
          have LM : Lower (adv (w.heap.size + 1 + 1) x1.obs.size) wr.heap.size := ⟨cell_lt m0⟩
          clear hM hE hP3 hF3
          go_wp2_with fail
          refine (r2toldK_any _ _ _ _ _ _ (finP k q P F al) (finF k F al) _ (by omega) (HP3.out.of (by (repeat (first | exact Kept.refl _ | assumption | refine Kept.alloc ?_ _ | refine Kept.ext ?_ _ | refine Kept.drew ?_ | refine Kept.drewN ?_ _)))) (HF3.out.of (by (repeat (first | exact Kept.refl _ | assumption | refine Kept.alloc ?_ _ | refine Kept.ext ?_ _ | refine Kept.drew ?_ | refine Kept.drewN ?_ _))))).mono ?_
          rintro r w1 ⟨rfl, x9, rfl⟩
          have HR := Lib.hid (fr_kept HM.out.r (by (repeat (first | exact Kept.refl _ | assumption | refine Kept.alloc ?_ _ | refine Kept.ext ?_ _ | refine Kept.drew ?_ | refine Kept.drewN ?_ _)) : Kept wr (ext wr x9)))
          rw [HE3.out]
          obtain ⟨q1, q2, -, -⟩ := cells2 (setRow_heap _ _ _ #[.slice (okA e3 A5) (okN e3 (npt k al (3 * q))) (okN e3 c5), .slice (okA e3 A6) (okN e3 (4 * q)) (okN e3 c6)] _ _ HR.out)
          go_wp2_with (refine wpList_store_row rfl 25 (.tmp 2) (.tmp 157) rfl (w.heap.size + 1) _ rfl rfl _ _ HR.out (by kernel_rfl) rfl (by simp [Value.oneCell']) ?_)
          refine bodyPost_ret (by simp only [results, Try.results53]; go_simp; rfl) rfl ?_
          exact HM.out.fin2 (by (repeat (first | exact Kept.refl _ | assumption | refine Kept.alloc ?_ _ | refine Kept.ext ?_ _ | refine Kept.drew ?_ | refine Kept.drewN ?_ _))) e3 (by (repeat (first | exact Kept.refl _ | assumption | refine Kept.alloc ?_ _ | refine Kept.ext ?_ _ | refine Kept.drew ?_ | refine Kept.drewN ?_ _))) (by omega)
end Go.Proofs.Ytoadlneneijfaaa
