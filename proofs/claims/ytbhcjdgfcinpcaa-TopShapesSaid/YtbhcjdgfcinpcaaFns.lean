/- Contract: a surface cut finer, of the program. Conditions: the lists' lengths are ints. -/
import Derived.Test.YtbhcjdgfcinpcaaFna
import Derived.Test.YtbhcjdgfcinpcaaFnq
namespace Go.Proofs.Ytbhcjdgfcinpcaa
set_option linter.unusedVariables false
set_option linter.unusedSimpArgs false
open Go.RowKit Go.Deep Go.Maps
section
variable {W w w1 w2 : World} {rb mb qb B np nf cnt : Nat} {vP vF : Value} {P' F' : Nat → Nat → Int} {c : Int × Int → Option Int}
theorem heap_sc {w : World} {g b o : Nat} {u : Value} (h : b ≠ g) : (w.setCell ⟨g, o, none⟩ u).heap[b]? = w.heap[b]? := heap_setCell_other w ⟨g, o, none⟩ b u h
theorem cells_ne {w : World} {g b : Nat} {cs ds : Array Value} {S T : TypeId} (h1 : w.heap[g]? = some (.cells cs S (0, 0))) (h2 : w.heap[b]? = some (.cells ds T (0, 0))) (hne : S ≠ T) : g ≠ b := by
  rintro rfl
  rw [h1] at h2
  simp only [Option.some.injEq, Obj.cells.injEq] at h2
  exact hne h2.2.1
/-- A store into a local array. -/
theorem FinS.setL (h : FinS W rb mb qb B vP np P' vF nf F' cnt c w) {lb o : Nat} {cs : Array Value} {u : Value} (hl : w.heap[lb]? = some (.cells cs 55 (0, 0))) (hne : vF.ownBlock ≠ some lb) (hW : W.heap.size ≤ lb) : FinS W rb mb qb B vP np P' vF nf F' cnt c (w.setCell ⟨lb, o, none⟩ u) := by
  have hs : w.grownBy (w.setCell ⟨lb, o, none⟩ u) (some lb) := ⟨rfl, rfl, rfl, by simp, fun i _ hi => heap_sc (fun e => hi (by simp [e]))⟩
  refine ⟨⟨h.msh.kept.setCell hW _, ?_, ?_, h.msh.p.kept hs (.inr fun q => own_ne h.msh.p hl (by decide) q.symm), h.msh.f.kept hs (.inr hne)⟩, h.map.by hs (fun e => h.map.ne hl (Option.some.inj e).symm), ?_⟩
  · rw [heap_sc (cells_ne h.msh.r hl (by decide))]; exact h.msh.r
  · rw [heap_sc (cells_ne h.msh.q hl (by decide))]; exact h.msh.q
  · rw [heap_sc (cells_ne h.qv hl (by decide))]; exact h.qv
/-- Faces appended. -/
theorem FinS.appF {d : Nat} {v' : Value} (h : FinS W rb mb qb B vP np P' vF nf F' cnt c w) (hk : Kept w w1) (hown : w2.ownsRow W.heap.size 55 3 v' (nf + d) (rowC 3 F' (nf + d))) (hg : w1.grownBy w2 vF.ownBlock) (hne : rb ≠ mb) (hle : W.heap.size ≤ mb) :
    FinS W rb mb qb B vP np P' v' (nf + d) F' cnt c (w2.setCell ⟨mb, 1, none⟩ v') := by
  have h' := h.on hk
  have hb := h'.map.neOwn h'.msh.f
  have hbm : B ≠ mb := fun e => h'.map.ne h'.msh.q e.symm
  have hq : qb ≠ mb := cells_ne h'.qv h'.msh.q (by decide)
  refine ⟨h.msh.appF hk hown hg hne hle, h'.map.heap ?_, ?_⟩
  · rw [heap_sc hbm, hg.block B h'.map.lt (fun e => hb e.symm)]
  · rw [heap_sc hq]
    exact own_keepsB h'.msh.f hg h'.qv (by decide)
end
theorem finP_bd {n m : Nat} {P F : Nat → Nat → Int} {al : Nat → Nat} (hin : ∀ i, i < m → ∀ k, k < 3 → 0 ≤ F i k ∧ F i k < n) (hbd : ∀ i, i < n → ∀ j, j < 3 → -64 ≤ P i j ∧ P i j ≤ 64) : ∀ i, i < npt n al (3 * m) → ∀ j, j < 3 → -128 ≤ finP n m P F al i j ∧ finP n m P F al i j ≤ 128 := fun i hi j hj => by
  unfold finP
  split
  · rename_i h
    have := hbd i h j hj
    omega
  · rename_i h
    unfold npt at hi
    obtain ⟨a, a1, a2, a3⟩ := fsel_ex (s := newB al) (k := i - n) (r := 3 * m) (by omega)
    rw [← a3, fsel_at a2 a1]
    have n1 := (nxt_prm m).lt a a1
    have e0 := hin (a / 3) (by omega) (a % 3) (Nat.mod_lt _ (by omega))
    have e1 := hin (nxt a / 3) (by omega) (nxt a % 3) (Nat.mod_lt _ (by omega))
    have b0 := hbd (tl F a).toNat (by unfold tl; omega) j hj
    have b1 := hbd (tl F (nxt a)).toNat (by unfold tl; omega) j hj
    omega
theorem finF_I {n m : Nat} {F : Nat → Nat → Int} {al : Nat → Nat} (hn : n ≤ 64 ∧ m ≤ 96) (ho : Oth F al m) (hin : ∀ i, i < m → ∀ k, k < 3 → 0 ≤ F i k ∧ F i k < n) : ∀ x, x < 4 * m → ∀ j, j < 3 → I64 (finF n F al x j) := fun x hx j hj => by
  have h0 := hin (x / 4) (by omega) 0 (by omega)
  have h1 := hin (x / 4) (by omega) 1 (by omega)
  have h2 := hin (x / 4) (by omega) 2 (by omega)
  have m0 := (mid_bd (n := n) ho (a := 3 * (x / 4)) (r := 3 * m) (by omega) (by omega)).2
  have m1 := (mid_bd (n := n) ho (a := 3 * (x / 4) + 1) (r := 3 * m) (by omega) (by omega)).2
  have m2 := (mid_bd (n := n) ho (a := 3 * (x / 4) + 2) (r := 3 * m) (by omega) (by omega)).2
  have hb : npt n al (3 * m) ≤ 64 + 288 := by unfold npt; have := cnB_le (newB al) (3 * m); omega
  unfold finF fin4 I64
  split
  · split
    · omega
    · split <;> omega
  · split
    · split
      · omega
      · split <;> omega
    · split
      · split
        · omega
        · split <;> omega
      · split
        · omega
        · split <;> omega
/-- The error of a surface cut finer. -/
def finE (n : Nat) (P : Nat → Nat → Int) (m : Nat) (F : Nat → Nat → Int) (al : Nat → Nat) : Int :=
  if validE n P m F ≠ 0 then validE n P m F else validE (npt n al (3 * m)) (finP n m P F al) (4 * m) (finF n F al)
theorem rowC_four (f : Nat → Nat → Int) (k : Nat) : rowC 3 f (4 * k + 4) = rowC 3 f (4 * k) ++ [.int .i64 (f (4 * k) 0), .int .i64 (f (4 * k) 1), .int .i64 (f (4 * k) 2), .int .i64 (f (4 * k + 1) 0), .int .i64 (f (4 * k + 1) 1), .int .i64 (f (4 * k + 1) 2), .int .i64 (f (4 * k + 2) 0), .int .i64 (f (4 * k + 2) 1), .int .i64 (f (4 * k + 2) 2), .int .i64 (f (4 * k + 3) 0), .int .i64 (f (4 * k + 3) 1), .int .i64 (f (4 * k + 3) 2)] := by
  rw [rowC_succ3, rowC_succ3, rowC_succ3, rowC_succ3]
  simp
theorem finF_four (n : Nat) (F : Nat → Nat → Int) (al : Nat → Nat) (k : Nat) : ∀ c, c < 4 → ∀ j, finF n F al (4 * k + c) j = fin4 (F k 0) (F k 1) (F k 2) (midN n al (3 * k) : Nat) (midN n al (3 * k + 1) : Nat) (midN n al (3 * k + 2) : Nat) c j := fun c hc j => by
  unfold finF
  rw [show (4 * k + c) / 4 = k by omega, show (4 * k + c) % 4 = c by omega]
theorem cells3f {w : World} {b : Nat} {c0 c1 c2 : Value} {T : TypeId} (h : w.heap[b]? = some (.cells #[c0, c1, c2] T (0, 0))) : w.cell? ⟨b, 0, none⟩ = some c0 ∧ w.cell? ⟨b, 1, none⟩ = some c1 ∧ w.cell? ⟨b, 2, none⟩ = some c2 ∧ w.frozen? ⟨b, 0, none⟩ = false ∧ w.frozen? ⟨b, 1, none⟩ = false ∧ w.frozen? ⟨b, 2, none⟩ = false := by
  unfold World.cell? World.frozen?
  simp only [h]
  exact ⟨rfl, rfl, rfl, rfl, rfl, rfl⟩
theorem sfin3 (A Bf : Option Addr) (n cap m cap2 : Nat) (P F : Nat → Nat → Int) (al : Nat → Nat) (a : Nat) (x y : Int) (W : World) (gm rb mb qb B : Nat) (vP vF : Value) (nf : Nat) (F' : Nat → Nat → Int) (w : World)
    (hx : tl F a = x) (hy : tl F (nxt a) = y) (hn : n ≤ 64 ∧ m ≤ 96) (ho : Oth F al m) (hin : ∀ i, i < m → ∀ k, k < 3 → 0 ≤ F i k ∧ F i k < n) (hbd : ∀ i, i < n → ∀ j, j < 3 → -64 ≤ P i j ∧ P i j ≤ 64) (ha : a < 3 * m) (hP : RowsAt W A n 3 P)
    (hm : W.heap[gm]? = some (.cells #[.slice A n cap, .slice Bf m cap2] 25 (0, 0))) (hrb : rb ≠ mb) (hmb : W.heap.size ≤ mb) (hB : W.heap.size ≤ B)
    (hS : FinS W rb mb qb B vP (npt n al a) (finP n m P F al) vF nf F' (2 * a) (numS n al F a) w) :
    Calls Try.prog 46 #[.agg #[.int .i64 x, .int .i64 y], .pointer (some ⟨qb, 0, none⟩), .pointer (some ⟨mb, 0, none⟩), .pointer (some ⟨gm, 0, none⟩)] w fun r w' =>
      r = .returned (.int .i64 (midN n al a : Nat)) ∧ ∃ vP', FinS W rb mb qb B vP' (npt n al (a + 1)) (finP n m P F al) vF nf F' (2 * (a + 1)) (numS n al F (a + 1)) w' ∧
        w.heap.size ≤ w'.heap.size ∧ ∀ b, b < w.heap.size → b ≠ mb → b ≠ B → some b ≠ vP.ownBlock → w'.heap[b]? = w.heap[b]? := by
  subst hx hy
  exact sfin_any A Bf n cap m cap2 P F al a W gm rb mb qb B vP vF nf F' w hn ho hin hbd ha hP hm hrb hmb hB hS
theorem FinS.far {W w w' : World} {rb mb qb B np nf cnt g : Nat} {vP vF : Value} {P' F' : Nat → Nat → Int} {c : Int × Int → Option Int} {cs : Array Value} (h : FinS W rb mb qb B vP np P' vF nf F' cnt c w) (hot : ∀ b, b < w.heap.size → b ≠ mb → b ≠ B → some b ≠ vP.ownBlock → w'.heap[b]? = w.heap[b]?) (hl : w.heap[g]? = some (.cells cs 55 (0, 0))) : w'.heap[g]? = some (.cells cs 55 (0, 0)) := by
  rw [hot g (Array.getElem?_eq_some_iff.1 hl).1 (cells_ne hl h.msh.q (by decide)) (h.map.ne hl) (own_ne h.msh.p hl (by decide))]
  exact hl
set_option maxRecDepth 100000 in
set_option maxHeartbeats 16000000 in
theorem sFiner_any (A Bf : Option Addr) (n cap m cap2 : Nat) (P F : Nat → Nat → Int) (al : Nat → Nat) (w : World) (hn : n ≤ 9223372036854775807 ∧ m ≤ 9223372036854775807) (hP : RowsAt w A n 3 P) (hF : RowsAt w Bf m 3 F) (hal : validE n P m F = 0 → Oth F al m) :
    Calls Try.prog 18 #[.agg #[.slice A n cap, .slice Bf m cap2]] w fun r w' => MeshO w w' r (finE n P m F al) (npt n al (3 * m)) (finP n m P F al) (4 * m) (finF n F al) := by
  have HP := Lib.hid hP
  have HF := Lib.hid hF
  obtain ⟨i0, hi, hz0, hz1, hz2⟩ := info_parts infoPoint
  have HJP := Lib.hid (And.intro hi (And.intro hz0 (And.intro hz1 hz2)))
  clear hi hz0 hz1 hz2
  obtain ⟨i1, hi, hz0, hz1, hz2⟩ := info_parts infoFace
  have HJ := Lib.hid (And.intro hi (And.intro hz0 (And.intro hz1 hz2)))
  clear hi hz0 hz1 hz2
  unfold finE
  obtain ⟨e1, he1⟩ : ∃ e, validE n P m F = e := ⟨_, rfl⟩
  have hv1 : ∀ w', Kept w w' → Calls Try.prog 24 #[.agg #[.slice A n cap, .slice Bf m cap2]] w' fun r w'' => r = .returned (.int .i64 (validE n P m F)) ∧ Kept w' w'' := fun w' hk => svalidate_any A Bf n cap m cap2 P F w' hn (hP.of hk) (hF.of hk)
  rw [he1] at hv1 hal
  have HV1 := Lib.hid hv1
  clear hv1 hP hF
  rw [he1]
  by_cases h1 : e1 = 0
  case neg =>
    have h1b : (e1 == 0) = false := by simpa using h1
    rw [if_pos h1]
    have H1 := Lib.hid h1
    clear he1 h1 hal
    go_enter Try.func18, Try.ntmps18
    go_wp2_with (go_at_call 24; refine (HV1.out _ (by (repeat (first | exact Kept.refl _ | assumption | refine Kept.alloc ?_ _ | refine Kept.ext ?_ _ | refine Kept.drew ?_ | refine Kept.drewN ?_ _)))).mono ?_; rintro e w1 ⟨rfl, x1, rfl⟩)
    refine bodyPost_ret (by simp only [results, Try.results18]; go_simp; rfl) rfl ?_
    exact MeshO.no H1.out (by (repeat (first | exact Kept.refl _ | assumption | refine Kept.alloc ?_ _ | refine Kept.ext ?_ _ | refine Kept.drew ?_ | refine Kept.drewN ?_ _)))
  subst h1
  rw [if_neg (by simp)]
  have ho := hal rfl
  have s1 := valid_sz he1
  have hin := (clo_of he1).inn
  have hbd : ∀ i, i < n → ∀ j, j < 3 → -64 ≤ P i j ∧ P i j ≤ 64 := fun i hi j hj => by
    obtain ⟨-, -, hb, -⟩ := validE_ok he1
    have := ptsBad_at hb i hi
    rcases (show j = 0 ∨ j = 1 ∨ j = 2 by omega) with rfl | rfl | rfl <;> omega
  obtain ⟨e3, he3⟩ : ∃ e, validE (npt n al (3 * m)) (finP n m P F al) (4 * m) (finF n F al) = e := ⟨_, rfl⟩
  rw [he3]
  have HE1 := Lib.hid he1
  have HE3 := Lib.hid he3
  have HIN := Lib.hid hin
  have HBD := Lib.hid hbd
  have HO := Lib.hid ho
  clear he1 he3 hin hbd hal ho hn
  go_enter Try.func18, Try.ntmps18
  go_wp2_with (go_at_call 24; refine (HV1.out _ (by (repeat (first | exact Kept.refl _ | assumption | refine Kept.alloc ?_ _ | refine Kept.ext ?_ _ | refine Kept.drew ?_ | refine Kept.drewN ?_ _)))).mono ?_; rintro e w1 ⟨rfl, x1, rfl⟩)
  have hW0 : (ext ((w.alloc (.cells #[.slice A n cap, .slice Bf m cap2] 25)).alloc (.cells #[.slice none 0 0, .slice none 0 0] 25)) x1).heap.size = (adv (w.heap.size + 1 + 1) x1.obs.size) := by simp
  have hrb : (w.heap.size + 1) ≠ (adv (w.heap.size + 1 + 1) x1.obs.size) := by simp only [adv]; omega
  have hmbl : (ext ((w.alloc (.cells #[.slice A n cap, .slice Bf m cap2] 25)).alloc (.cells #[.slice none 0 0, .slice none 0 0] 25)) x1).heap.size ≤ (adv (w.heap.size + 1 + 1) x1.obs.size) := Nat.le_of_eq hW0
  have HW0 := Lib.hid hW0
  have HRB := Lib.hid hrb
  have HMBL := Lib.hid hmbl
  clear hW0 hrb hmbl
  go_loopw [27] (fun i wr => ∃ k : Nat, k ≤ n ∧ i = .int .i64 k ∧ ∃ v, Msh2 (ext ((w.alloc (.cells #[.slice A n cap, .slice Bf m cap2] 25)).alloc (.cells #[.slice none 0 0, .slice none 0 0] 25)) x1) (w.heap.size + 1) (adv (w.heap.size + 1 + 1) x1.obs.size) v k (finP n m P F al) (.slice none 0 0) 0 (finF n F al) wr) (fun i _ => n - (intOf i).toNat)
  case atStart =>
    refine ⟨0, by omega, rfl, .slice none 0 0, by (repeat (first | exact Kept.refl _ | assumption | refine Kept.alloc ?_ _ | refine Kept.ext ?_ _ | refine Kept.drew ?_ | refine Kept.drewN ?_ _)), ?_, ?_, World.ownsRow_nil _ _ _ _, World.ownsRow_nil _ _ _ _⟩
    · exact fr_kept (alloc_now (w.alloc (.cells #[.slice A n cap, .slice Bf m cap2] 25)) _ _) (by (repeat (first | exact Kept.refl _ | assumption | refine Kept.alloc ?_ _ | refine Kept.ext ?_ _ | refine Kept.drew ?_ | refine Kept.drewN ?_ _)))
    · exact alloc_now (ext ((w.alloc (.cells #[.slice A n cap, .slice Bf m cap2] 25)).alloc (.cells #[.slice none 0 0, .slice none 0 0] 25)) x1) _ _
  case round =>
    obtain ⟨k, hk, rfl, v, hM⟩ := hrel
    obtain ⟨A2, cp2, rfl, hcp⟩ := own_sl hM.p
    obtain ⟨m0, m1, z0, z1⟩ := cells2 hM.q
    have LM : Lower (adv (w.heap.size + 1 + 1) x1.obs.size) wr.heap.size := ⟨cell_lt m0⟩
    have kb : wr.cell? ⟨w.heap.size, 0, none⟩ = some (.slice A n cap) := kept_cell (w := (ext ((w.alloc (.cells #[.slice A n cap, .slice Bf m cap2] 25)).alloc (.cells #[.slice none 0 0, .slice none 0 0] 25)) x1)) (by go_simp) hM.kept
    have kb1 : wr.cell? ⟨w.heap.size, 1, none⟩ = some (.slice Bf m cap2) := kept_cell (w := (ext ((w.alloc (.cells #[.slice A n cap, .slice Bf m cap2] 25)).alloc (.cells #[.slice none 0 0, .slice none 0 0] 25)) x1)) (by go_simp) hM.kept
    have LKB : Lower w.heap.size wr.heap.size := ⟨cell_lt kb⟩
    by_cases hlt : k < n
    · have hk0 : Kept w wr := (by (repeat (first | exact Kept.refl _ | assumption | refine Kept.alloc ?_ _ | refine Kept.ext ?_ _ | refine Kept.drew ?_ | refine Kept.drewN ?_ _)) : Kept w (ext ((w.alloc (.cells #[.slice A n cap, .slice Bf m cap2] 25)).alloc (.cells #[.slice none 0 0, .slice none 0 0] 25)) x1)).trans hM.kept
      obtain ⟨b, off, rfl, hb, f0, f1, f2⟩ := rows3 (HP.out.of hk0) hlt
      have LB : Lower b wr.heap.size := ⟨hb⟩
      have b0 := HBD.out k hlt 0 (by omega)
      have b1 := HBD.out k hlt 1 (by omega)
      have b2 := HBD.out k hlt 2 (by omega)
      have HM := Lib.hid hM
      clear hM hk0 hb m0 m1 z0 z1 LM
      have u : ∀ j, (finP n m P F al) k j = 2 * P k j := fun j => by unfold finP; rw [if_pos hlt]
      have HU := Lib.hid u
      have hpl : ∀ w', Calls Try.prog 27 #[.agg #[.int .i64 (P k 0), .int .i64 (P k 1), .int .i64 (P k 2)], .int .i64 1, .agg #[.int .i64 (P k 0), .int .i64 (P k 1), .int .i64 (P k 2)]] w' fun e w'' => e = .returned (.agg #[.int .i64 (2 * P k 0), .int .i64 (2 * P k 1), .int .i64 (2 * P k 2)]) ∧ Kept w' w'' := fun w' => by
        have := splus_any (P k 0) (P k 1) (P k 2) 1 (P k 0) (P k 1) (P k 2) w' (by omega) (by omega)
        rw [show P k 0 + 1 * P k 0 = 2 * P k 0 by omega, show P k 1 + 1 * P k 1 = 2 * P k 1 by omega, show P k 2 + 1 * P k 2 = 2 * P k 2 by omega] at this
        exact this
      have HPL := Lib.hid hpl
      clear u hpl
      go_wp2_with fail
      refine wp_region_tellC (C := fun W' => Kept (ext ((w.alloc (.cells #[.slice (some ⟨b, off, none⟩) n cap, .slice Bf m cap2] 25)).alloc (.cells #[.slice none 0 0, .slice none 0 0] 25)) x1) W' ∧ W'.heap[wr.heap.size]? = some (.cells #[.int .i64 (P k 0), .int .i64 (P k 1), .int .i64 (P k 2)] 27 (0, 0))) [.q, .k (.slice A2 k cp2), .q, .q, .q, .s, .s, .q, .k undef] (AppX 1 5 6 8 (ext ((w.alloc (.cells #[.slice (some ⟨b, off, none⟩) n cap, .slice Bf m cap2] 25)).alloc (.cells #[.slice none 0 0, .slice none 0 0] 25)) x1) (w.heap.size + 1) (adv (w.heap.size + 1 + 1) x1.obs.size) [(wr.heap.size, .cells #[.int .i64 (P k 0), .int .i64 (P k 1), .int .i64 (P k 2)] 27 (0, 0))] (.slice A2 k cp2) k (finP n m P F al) (.slice none 0 0) 0 (finF n F al)) (by kernel_rfl) (by kernel_rfl) (fun b => by kernel_rfl) ?_ ?_ ?_ ?_
      · refine fun bb => AppX.start HM.out (by (repeat (first | exact Kept.refl _ | assumption | refine Kept.alloc ?_ _ | refine Kept.ext ?_ _ | refine Kept.drew ?_ | refine Kept.drewN ?_ _))) (fun x hx => ?_) (fun x hx => ?_)
        · obtain rfl := List.mem_singleton.1 hx
          exact alloc_at2 _ _ _
        · obtain rfl := List.mem_singleton.1 hx
          refine ⟨fun e => ?_, fun e => ?_⟩
          · have := own_lt HM.out.p e.symm
            omega
          · have h := (Array.getElem?_eq_some_iff.1 HM.out.q).1
            have e' : wr.heap.size = (adv (w.heap.size + 1 + 1) x1.obs.size) := e
            omega
      · intro i L b w' w'' hs hI hk
        exact (hI.on hk).other (by rintro rfl; cases hs) (by rintro rfl; cases hs) (by rintro rfl; cases hs) (by rintro rfl; cases hs)
      · exact fun L b w' h => ⟨h.kept, h.pk _ (List.mem_singleton.2 rfl)⟩
      apply Exists.intro
      refine ⟨?_, ?_, ?_, ?_⟩
      · rintro bb W' ⟨hkW, e1⟩
        obtain ⟨l0, l1, l2⟩ := cells3 e1
        have LL : Lower wr.heap.size W'.heap.size := ⟨cell_lt l0⟩
        clear hkW
        simp only [swapL, Nat.reduceAdd]
        repeat (go_big_quiet_step (first | (go_at_call 27; exact Calls.kept_of (HPL.out _))))
        refine wpQuiet_nil ?_
        rfl
      · simp only [EachS, and_true]
        refine ⟨?_, ?_, ?_, ?_⟩
        · intro L b w' hd hL hI
          have h0 := hI.v0 hL
          have LQ : Lower (adv (w.heap.size + 1 + 1) x1.obs.size) w'.heap.size := ⟨cell_lt h0⟩
          go_simp
          exact ⟨rfl, hI.op1 (by omega) hL⟩
        · intro L b w' hd hL hI
          have h5 := hI.op5 (by omega)
          rw [HU.out 0, HU.out 1, HU.out 2] at h5
          go_simp
          exact ⟨rfl, h5⟩
        · intro L b w' hd hL hI
          have d5 : L 5 = true := hd { on := 5, ground := .data } (by simp) rfl
          obtain ⟨g5, e5, e6⟩ := hI.n5 d5
          have hs := hI.s hL
          refine tells_append (.tmp 32) (.tmp 36) 22 (by rfl) _ 27 i0 _ 3 24 Try.underlying22 HJP.out.1 HJP.out.2.1 HJP.out.2.2.1 HJP.out.2.2.2 (by rfl) (by omega) (kept_le hI.kept) _ k (rowC 3 (finP n m P F al) k) (by rfl) hs (some ⟨g5, 0, none⟩) 1 1 _ e5 (one_rows (e6 hL) ⟨by rw [HU.out 0]; unfold I64; omega, by rw [HU.out 1]; unfold I64; omega, by rw [HU.out 2]; unfold I64; omega⟩) (by unfold maxLen; omega) (by omega) ?_
          intro v' w'' k1 k2 k3
          rw [rowC_one3, ← rowC_succ3] at k1
          exact ⟨rfl, hI.op6 (by omega) hL k1 k2⟩
        · intro L b w' hd hL hI
          have d1 : L 1 = true := hd { on := 1, ground := .phase } (by simp) rfl
          have d6 : L 6 = true := hd { on := 6, ground := .phase } (by simp) rfl
          have h8 := hI.op8 (u := undef) (by omega) d1 d6 hL HRB.out (by simp)
          obtain ⟨q0, -, q1, -⟩ := cells2 hI.q
          obtain ⟨A6, c6, e6⟩ := own_slice2 (hI.t d6)
          rw [e6] at h8
          have LQ : Lower (adv (w.heap.size + 1 + 1) x1.obs.size) w'.heap.size := ⟨cell_lt q0⟩
          go_simp
          exact ⟨rfl, h8⟩
      · intro b b' d hd
        simp [callSlots, dullOp] at hd
        try (subst hd; rfl)
      · intro L b w' hL hI
        have hM := hI.done (hL 6 (by decide)) (hL 8 (by decide))
        have HM2 := Lib.hid hM
        clear hM hL hI
        go_wp2_with fail
        go_roundw
        case rel => exact ⟨k + 1, by omega, by go_num, _, HM2.out⟩
        case measure => simp [intOf]; omega
    · obtain rfl : k = n := by omega
      have HM := Lib.hid hM
      have hmm := @run_makeMap Try.prog
      clear hM
      go_wp2_with fail
      clear hmm
      obtain ⟨B, hBe⟩ : ∃ B, wr.heap.size = B := ⟨_, rfl⟩
      have hBl : (ext ((w.alloc (.cells #[.slice A k cap, .slice Bf m cap2] 25)).alloc (.cells #[.slice none 0 0, .slice none 0 0] 25)) x1).heap.size ≤ B := by rw [← hBe]; exact kept_le HM.out.kept
      have hS0 : FinS (ext ((w.alloc (.cells #[.slice A k cap, .slice Bf m cap2] 25)).alloc (.cells #[.slice none 0 0, .slice none 0 0] 25)) x1) (w.heap.size + 1) (adv (w.heap.size + 1 + 1) x1.obs.size) (B + 1) B (.slice A2 k cp2) (npt k al (3 * 0)) (finP k m P F al) (.slice none 0 0) (4 * 0) (finF k F al) (2 * (3 * 0)) (numS k al F (3 * 0)) ((wr.alloc (.map #[] 0)).alloc (.cells #[.map (some B)] 78)) := by
        refine ⟨HM.out.on (by (repeat (first | exact Kept.refl _ | assumption | refine Kept.alloc ?_ _ | refine Kept.ext ?_ _ | refine Kept.drew ?_ | refine Kept.drewN ?_ _))), ?_, ?_⟩
        · have := MapO.made (P := Try.prog) (k := 80) (e := 3) (kv := sideV) (ok := sideOk) wr
          rw [hBe] at this
          exact this.kept (by (repeat (first | exact Kept.refl _ | assumption | refine Kept.alloc ?_ _ | refine Kept.ext ?_ _ | refine Kept.drew ?_ | refine Kept.drewN ?_ _)))
        · rw [← hBe]
          have := heap_alloc_new (wr.alloc (.map #[] 0)) (.cells #[.map (some wr.heap.size)] 78)
          rw [World.size_alloc] at this
          exact this
      have HS0 := Lib.hid hS0
      have hm0 : (ext ((w.alloc (.cells #[.slice A k cap, .slice Bf m cap2] 25)).alloc (.cells #[.slice none 0 0, .slice none 0 0] 25)) x1).heap[w.heap.size]? = some (.cells #[.slice A k cap, .slice Bf m cap2] 25 (0, 0)) := fr_kept (alloc_now w _ _) (by (repeat (first | exact Kept.refl _ | assumption | refine Kept.alloc ?_ _ | refine Kept.ext ?_ _ | refine Kept.drew ?_ | refine Kept.drewN ?_ _)))
      have HM0 := Lib.hid hm0
      have hP0 := HP.out.of (by (repeat (first | exact Kept.refl _ | assumption | refine Kept.alloc ?_ _ | refine Kept.ext ?_ _ | refine Kept.drew ?_ | refine Kept.drewN ?_ _)) : Kept w (ext ((w.alloc (.cells #[.slice A k cap, .slice Bf m cap2] 25)).alloc (.cells #[.slice none 0 0, .slice none 0 0] 25)) x1))
      have HP0 := Lib.hid hP0
      clear hS0 hm0 HM kb kb1 LKB m0 m1 z0 z1 LM hP0
      rw [hBe]
      go_loopw [45] (fun i wr => ∃ q : Nat, q ≤ m ∧ i = .int .i64 q ∧ ∃ vP vF, FinS (ext ((w.alloc (.cells #[.slice A k cap, .slice Bf m cap2] 25)).alloc (.cells #[.slice none 0 0, .slice none 0 0] 25)) x1) (w.heap.size + 1) (adv (w.heap.size + 1 + 1) x1.obs.size) (B + 1) B vP (npt k al (3 * q)) (finP k m P F al) vF (4 * q) (finF k F al) (2 * (3 * q)) (numS k al F (3 * q)) wr) (fun i _ => m - (intOf i).toNat)
      case atStart => exact ⟨0, by omega, rfl, _, _, HS0.out⟩
      case round =>
        clear HS0
        obtain ⟨q, hq, rfl, vP, vF, hS⟩ := hrel
        obtain ⟨A5, c5, rfl, hc5⟩ := own_sl hS.msh.p
        obtain ⟨A6, c6, rfl, hc6⟩ := own_sl hS.msh.f
        by_cases hlt2 : q < m
        · have hk0 : Kept w wr := (by (repeat (first | exact Kept.refl _ | assumption | refine Kept.alloc ?_ _ | refine Kept.ext ?_ _ | refine Kept.drew ?_ | refine Kept.drewN ?_ _)) : Kept w (ext ((w.alloc (.cells #[.slice A k cap, .slice Bf m cap2] 25)).alloc (.cells #[.slice none 0 0, .slice none 0 0] 25)) x1)).trans hS.msh.kept
          obtain ⟨fb, off, rfl, hb, f0, f1, f2⟩ := rows3 (HF.out.of hk0) hlt2
          have LB : Lower fb wr.heap.size := ⟨hb⟩
          have hvf : ∀ g, (Value.slice A6 (4 * q) c6).ownBlock = some g → g < wr.heap.size := fun g hg => own_lt hS.msh.f hg
          have hwl := kept_le hS.msh.kept
          have HS := Lib.hid hS
          have HVF := Lib.hid hvf
          clear hS hk0 hb hvf
          obtain ⟨ws, hws⟩ : ∃ ws, wr.heap.size = ws := ⟨_, rfl⟩
          go_wp2_with (first | (go_at_call 48; refine (ssides_any _ _ _ _).mono ?_; rintro e w1 ⟨rfl, x, rfl⟩))
          refine wp_gen (fun w6 hw6 => ?_)
          refine wp_loop_rounds 4 ?_
          have hS6 := HS.out.on (show Kept wr w6 by rw [hw6]; (repeat (first | exact Kept.refl _ | assumption | refine Kept.alloc ?_ _ | refine Kept.ext ?_ _ | refine Kept.drew ?_ | refine Kept.drewN ?_ _)))
          have hl6 : w6.heap[ws + 1]? = some (.cells #[.int .i64 0, .int .i64 0, .int .i64 0] 55 (0, 0)) := by
            rw [hw6, ← hws]
            exact fr_kept (alloc_now (wr.alloc (.cells #[.int .i64 (F q 0), .int .i64 (F q 1), .int .i64 (F q 2)] 55)) (.cells #[.int .i64 0, .int .i64 0, .int .i64 0] 55) _) (by (repeat (first | exact Kept.refl _ | assumption | refine Kept.alloc ?_ _ | refine Kept.ext ?_ _ | refine Kept.drew ?_ | refine Kept.drewN ?_ _)))
          have hf6 : w6.heap[ws]? = some (.cells #[.int .i64 (F q 0), .int .i64 (F q 1), .int .i64 (F q 2)] 55 (0, 0)) := by
            rw [hw6, ← hws]
            exact fr_kept (fr_kept (alloc_now wr (.cells #[.int .i64 (F q 0), .int .i64 (F q 1), .int .i64 (F q 2)] 55) _) (by (repeat (first | exact Kept.refl _ | assumption | refine Kept.alloc ?_ _ | refine Kept.ext ?_ _ | refine Kept.drew ?_ | refine Kept.drewN ?_ _)))) (by (repeat (first | exact Kept.refl _ | assumption | refine Kept.alloc ?_ _ | refine Kept.ext ?_ _ | refine Kept.drew ?_ | refine Kept.drewN ?_ _)))
          have H6 := Lib.hid (And.intro hS6 (And.intro hl6 hf6))
          have hne : (Value.slice (A6) (4 * q) c6).ownBlock ≠ some (ws + 1) ∧ (Value.slice (A6) (4 * q) c6).ownBlock ≠ some ws := ⟨fun e => by have := HVF.out _ e; omega, fun e => by have := HVF.out _ e; omega⟩
          have HNE := Lib.hid hne
          rw [hws] at hwl
          clear hS6 hl6 hf6 hw6 HS HVF hne f0 f1 f2 LB
          try rw [hws]
          rw [rounds_succ]
          go_wp2_with fail
          refine (sfin3 _ (some ⟨fb, off, none⟩) k cap m cap2 P F al (3 * q) (F q 0) (F q 1) _ w.heap.size (w.heap.size + 1) (adv (w.heap.size + 1 + 1) x1.obs.size) (B + 1) B _ _ (4 * q) (finF k F al) _ (by have := tl_at F q 0 (by omega); simpa using this) (by have h1 := nxt_at q 0 (by omega); have h2 := tl_at F q 1 (by omega); simp only [Nat.add_zero] at h1; rw [h1]; exact h2) (by omega) HO.out HIN.out HBD.out (by omega) HP0.out HM0.out HRB.out (by simp) hBl (H6.out.1.on (by (repeat (first | exact Kept.refl _ | assumption | refine Kept.alloc ?_ _ | refine Kept.ext ?_ _ | refine Kept.drew ?_ | refine Kept.drewN ?_ _))))).mono ?_
          rintro r w7 ⟨rfl, vP7, hS7, hsz, hot⟩
          have hl7 := (H6.out.1.on (by (repeat (first | exact Kept.refl _ | assumption | refine Kept.alloc ?_ _ | refine Kept.ext ?_ _ | refine Kept.drew ?_ | refine Kept.drewN ?_ _)))).far hot (fr_kept H6.out.2.1 (by (repeat (first | exact Kept.refl _ | assumption | refine Kept.alloc ?_ _ | refine Kept.ext ?_ _ | refine Kept.drew ?_ | refine Kept.drewN ?_ _))))
          have hf7 := (H6.out.1.on (by (repeat (first | exact Kept.refl _ | assumption | refine Kept.alloc ?_ _ | refine Kept.ext ?_ _ | refine Kept.drew ?_ | refine Kept.drewN ?_ _)))).far hot (fr_kept H6.out.2.2 (by (repeat (first | exact Kept.refl _ | assumption | refine Kept.alloc ?_ _ | refine Kept.ext ?_ _ | refine Kept.drew ?_ | refine Kept.drewN ?_ _))))
          obtain ⟨c0, c1, c2, y0, y1, y2⟩ := cells3f hl7
          have LL : Lower (ws + 1) w7.heap.size := ⟨cell_lt c0⟩
          have H7 := Lib.hid (And.intro (hS7.setL (o := 0) (u := .int .i64 (midN k al (3 * q) : Nat)) hl7 HNE.out.1 (Nat.le_trans hwl (Nat.le_succ _))) (And.intro (show (w7.setCell ⟨ws + 1, 0, none⟩ (.int .i64 (midN k al (3 * q) : Nat))).heap[ws + 1]? = some (.cells #[.int .i64 (midN k al (3 * q) : Nat), .int .i64 0, .int .i64 0] 55 (0, 0)) by rw [heap_setCell_same _ _ _ _ _ _ hl7]; rfl) (show (w7.setCell ⟨ws + 1, 0, none⟩ (.int .i64 (midN k al (3 * q) : Nat))).heap[ws]? = some (.cells #[.int .i64 (F q 0), .int .i64 (F q 1), .int .i64 (F q 2)] 55 (0, 0)) by rw [heap_sc (by omega)]; exact hf7)))
          clear hS7 hl7 hf7 hsz hot H6
          go_wp2_with fail
          rw [rounds_succ]
          go_wp2_with fail
          refine (sfin3 _ (some ⟨fb, off, none⟩) k cap m cap2 P F al (3 * q + 1) (F q 1) (F q 2) _ w.heap.size (w.heap.size + 1) (adv (w.heap.size + 1 + 1) x1.obs.size) (B + 1) B _ _ (4 * q) (finF k F al) _ (tl_at F q 1 (by omega)) (by rw [nxt_at q 1 (by omega)]; exact tl_at F q 2 (by omega)) (by omega) HO.out HIN.out HBD.out (by omega) HP0.out HM0.out HRB.out (by simp) hBl (H7.out.1.on (by (repeat (first | exact Kept.refl _ | assumption | refine Kept.alloc ?_ _ | refine Kept.ext ?_ _ | refine Kept.drew ?_ | refine Kept.drewN ?_ _))))).mono ?_
          rintro r w8 ⟨rfl, vP8, hS8, hsz, hot⟩
          have hl8 := (H7.out.1.on (by (repeat (first | exact Kept.refl _ | assumption | refine Kept.alloc ?_ _ | refine Kept.ext ?_ _ | refine Kept.drew ?_ | refine Kept.drewN ?_ _)))).far hot (fr_kept H7.out.2.1 (by (repeat (first | exact Kept.refl _ | assumption | refine Kept.alloc ?_ _ | refine Kept.ext ?_ _ | refine Kept.drew ?_ | refine Kept.drewN ?_ _))))
          have hf8 := (H7.out.1.on (by (repeat (first | exact Kept.refl _ | assumption | refine Kept.alloc ?_ _ | refine Kept.ext ?_ _ | refine Kept.drew ?_ | refine Kept.drewN ?_ _)))).far hot (fr_kept H7.out.2.2 (by (repeat (first | exact Kept.refl _ | assumption | refine Kept.alloc ?_ _ | refine Kept.ext ?_ _ | refine Kept.drew ?_ | refine Kept.drewN ?_ _))))
          clear c0 c1 c2 y0 y1 y2 LL
          obtain ⟨c0, c1, c2, y0, y1, y2⟩ := cells3f hl8
          have LL : Lower (ws + 1) w8.heap.size := ⟨cell_lt c0⟩
          have H8 := Lib.hid (And.intro (hS8.setL (o := 1) (u := .int .i64 (midN k al (3 * q + 1) : Nat)) hl8 HNE.out.1 (Nat.le_trans hwl (Nat.le_succ _))) (And.intro (show (w8.setCell ⟨ws + 1, 1, none⟩ (.int .i64 (midN k al (3 * q + 1) : Nat))).heap[ws + 1]? = some (.cells #[.int .i64 (midN k al (3 * q) : Nat), .int .i64 (midN k al (3 * q + 1) : Nat), .int .i64 0] 55 (0, 0)) by rw [heap_setCell_same _ _ _ _ _ _ hl8]; rfl) (show (w8.setCell ⟨ws + 1, 1, none⟩ (.int .i64 (midN k al (3 * q + 1) : Nat))).heap[ws]? = some (.cells #[.int .i64 (F q 0), .int .i64 (F q 1), .int .i64 (F q 2)] 55 (0, 0)) by rw [heap_sc (by omega)]; exact hf8)))
          clear hS8 hl8 hf8 hsz hot H7
          go_wp2_with fail
          rw [rounds_succ]
          go_wp2_with fail
          refine (sfin3 _ (some ⟨fb, off, none⟩) k cap m cap2 P F al (3 * q + 2) (F q 2) (F q 0) _ w.heap.size (w.heap.size + 1) (adv (w.heap.size + 1 + 1) x1.obs.size) (B + 1) B _ _ (4 * q) (finF k F al) _ (tl_at F q 2 (by omega)) (by rw [nxt_at q 2 (by omega)]; have h2 := tl_at F q 0 (by omega); exact h2) (by omega) HO.out HIN.out HBD.out (by omega) HP0.out HM0.out HRB.out (by simp) hBl (H8.out.1.on (by (repeat (first | exact Kept.refl _ | assumption | refine Kept.alloc ?_ _ | refine Kept.ext ?_ _ | refine Kept.drew ?_ | refine Kept.drewN ?_ _))))).mono ?_
          rintro r w9 ⟨rfl, vP9, hS9, hsz, hot⟩
          have hl9 := (H8.out.1.on (by (repeat (first | exact Kept.refl _ | assumption | refine Kept.alloc ?_ _ | refine Kept.ext ?_ _ | refine Kept.drew ?_ | refine Kept.drewN ?_ _)))).far hot (fr_kept H8.out.2.1 (by (repeat (first | exact Kept.refl _ | assumption | refine Kept.alloc ?_ _ | refine Kept.ext ?_ _ | refine Kept.drew ?_ | refine Kept.drewN ?_ _))))
          have hf9 := (H8.out.1.on (by (repeat (first | exact Kept.refl _ | assumption | refine Kept.alloc ?_ _ | refine Kept.ext ?_ _ | refine Kept.drew ?_ | refine Kept.drewN ?_ _)))).far hot (fr_kept H8.out.2.2 (by (repeat (first | exact Kept.refl _ | assumption | refine Kept.alloc ?_ _ | refine Kept.ext ?_ _ | refine Kept.drew ?_ | refine Kept.drewN ?_ _))))
          clear c0 c1 c2 y0 y1 y2 LL
          obtain ⟨c0, c1, c2, y0, y1, y2⟩ := cells3f hl9
          have LL : Lower (ws + 1) w9.heap.size := ⟨cell_lt c0⟩
          have H9 := Lib.hid (And.intro (hS9.setL (o := 2) (u := .int .i64 (midN k al (3 * q + 2) : Nat)) hl9 HNE.out.1 (Nat.le_trans hwl (Nat.le_succ _))) (And.intro (show (w9.setCell ⟨ws + 1, 2, none⟩ (.int .i64 (midN k al (3 * q + 2) : Nat))).heap[ws + 1]? = some (.cells #[.int .i64 (midN k al (3 * q) : Nat), .int .i64 (midN k al (3 * q + 1) : Nat), .int .i64 (midN k al (3 * q + 2) : Nat)] 55 (0, 0)) by rw [heap_setCell_same _ _ _ _ _ _ hl9]; rfl) (show (w9.setCell ⟨ws + 1, 2, none⟩ (.int .i64 (midN k al (3 * q + 2) : Nat))).heap[ws]? = some (.cells #[.int .i64 (F q 0), .int .i64 (F q 1), .int .i64 (F q 2)] 55 (0, 0)) by rw [heap_sc (by omega)]; exact hf9)))
          clear hS9 hl9 hf9 hsz hot H8
          go_wp2_with fail
          rw [rounds_succ]
          go_wp2_with fail
          refine wp_gen (fun w10 hw10 => ?_)
          have hS10 : FinS (ext ((w.alloc (.cells #[.slice A k cap, .slice (some ⟨fb, off, none⟩) m cap2] 25)).alloc (.cells #[.slice none 0 0, .slice none 0 0] 25)) x1) (w.heap.size + 1) (adv (w.heap.size + 1 + 1) x1.obs.size) (B + 1) B vP9 (npt k al (3 * (q + 1))) (finP k m P F al) (.slice A6 (4 * q) c6) (4 * q) (finF k F al) (2 * (3 * (q + 1))) (numS k al F (3 * (q + 1))) w10 := by
            have := H9.out.1
            rw [show 3 * q + 2 + 1 = 3 * (q + 1) by omega] at this
            rw [hw10]
            exact this
          have hl10 := H9.out.2.1
          have hf10 := H9.out.2.2
          rw [← hw10] at hl10 hf10
          clear c0 c1 c2 y0 y1 y2 LL H9 hw10
          obtain ⟨c0, c1, c2, y0, y1, y2⟩ := cells3f hl10
          obtain ⟨f0, f1, f2, -, -, -⟩ := cells3f hf10
          obtain ⟨m0, m1, z0, z1⟩ := cells2 hS10.msh.q
          have LL : Lower (ws + 1) w10.heap.size := ⟨cell_lt c0⟩
          have LF : Lower ws w10.heap.size := ⟨cell_lt f0⟩
          have LM : Lower (adv (w.heap.size + 1 + 1) x1.obs.size) w10.heap.size := ⟨cell_lt m0⟩
          have H10 := Lib.hid hS10
          clear hS10 hl10 hf10
          ((first | (with_reducible refine wp_region_kept2 (by kernel_rfl) (by kernel_rfl) ?_) | refine wp_region_kept (by kernel_rfl) (by kernel_rfl) ?_); (repeat (go_big_quiet_step (first | fail))); refine wpQuiet_nil ?_; intro x)
          go_wp2_with (at_builtin; refine wpList_append_lies _ rfl _ _ _ rfl _ 55 i1 _ 3 24 Try.underlying23 HJ.out.1 HJ.out.2.1 HJ.out.2.2.1 HJ.out.2.2.2 rfl (by omega) (.slice A6 (4 * q) c6) (4 * q) (rowC 3 (finF k F al) (4 * q)) rfl (owns_kept H10.out.msh.f (by (repeat (first | exact Kept.refl _ | assumption | refine Kept.alloc ?_ _ | refine Kept.ext ?_ _ | refine Kept.drew ?_ | refine Kept.drewN ?_ _)))) _ 4 4 [.int .i64 (F q 0), .int .i64 (midN k al (3 * q) : Nat), .int .i64 (midN k al (3 * q + 2) : Nat), .int .i64 (midN k al (3 * q) : Nat), .int .i64 (F q 1), .int .i64 (midN k al (3 * q + 1) : Nat), .int .i64 (midN k al (3 * q + 2) : Nat), .int .i64 (midN k al (3 * q + 1) : Nat), .int .i64 (F q 2), .int .i64 (midN k al (3 * q) : Nat), .int .i64 (midN k al (3 * q + 1) : Nat), .int .i64 (midN k al (3 * q + 2) : Nat)] rfl rfl (World.news_of_block (alloc_now _ _ _)) (by simp [Value.oneCell']) (by omega) (by unfold maxLen; omega) (by omega) (kept_le (H10.out.msh.kept.trans (by (repeat (first | exact Kept.refl _ | assumption | refine Kept.alloc ?_ _ | refine Kept.ext ?_ _ | refine Kept.drew ?_ | refine Kept.drewN ?_ _))))) _ rfl ?_; intro g cp w11 hown2 hg2 hat hlt3; have hm2 := own_keepsB (owns_kept H10.out.msh.f (by (repeat (first | exact Kept.refl _ | assumption | refine Kept.alloc ?_ _ | refine Kept.ext ?_ _ | refine Kept.drew ?_ | refine Kept.drewN ?_ _)))) hg2 (fr_kept H10.out.msh.q (by (repeat (first | exact Kept.refl _ | assumption | refine Kept.alloc ?_ _ | refine Kept.ext ?_ _ | refine Kept.drew ?_ | refine Kept.drewN ?_ _)))) (by decide); obtain ⟨m0, m1, z0, z1⟩ := cells2 hm2; have LM : Lower (adv (w.heap.size + 1 + 1) x1.obs.size) w11.heap.size := ⟨cell_lt m0⟩; have hg3 : World.grownBy _ w11 (Value.ownBlock (.slice A6 (4 * q) c6)) := hg2; have HO2 := Lib.hid (And.intro hown2 hg3); clear hown2 hg2 hg3 hat hlt3 hm2)
          go_roundw
          case rel =>
            refine ⟨q + 1, by omega, by go_num, vP9, .slice (some ⟨g, 0, none⟩) (4 * q + 4) cp, ?_⟩
            rw [show 4 * (q + 1) = 4 * q + 4 by omega]
            refine FinS.appF (nf := 4 * q) (d := 4) H10.out (by (repeat (first | exact Kept.refl _ | assumption | refine Kept.alloc ?_ _ | refine Kept.ext ?_ _ | refine Kept.drew ?_ | refine Kept.drewN ?_ _))) ?_ HO2.out.2 HRB.out (by simp)
            have e : rowC 3 (finF k F al) (4 * q + 4) = rowC 3 (finF k F al) (4 * q) ++ [.int .i64 (F q 0), .int .i64 (midN k al (3 * q) : Nat), .int .i64 (midN k al (3 * q + 2) : Nat), .int .i64 (midN k al (3 * q) : Nat), .int .i64 (F q 1), .int .i64 (midN k al (3 * q + 1) : Nat), .int .i64 (midN k al (3 * q + 2) : Nat), .int .i64 (midN k al (3 * q + 1) : Nat), .int .i64 (F q 2), .int .i64 (midN k al (3 * q) : Nat), .int .i64 (midN k al (3 * q + 1) : Nat), .int .i64 (midN k al (3 * q + 2) : Nat)] := by
              rw [rowC_four]
              have h0 := finF_four k F al q 0 (by omega)
              have h1 := finF_four k F al q 1 (by omega)
              have h2 := finF_four k F al q 2 (by omega)
              have h3 := finF_four k F al q 3 (by omega)
              rw [Nat.add_zero] at h0
              simp only [h0, h1, h2, h3]
              rfl
            rw [e]
            exact HO2.out.1
          case measure => simp [intOf]; omega
        · obtain rfl : q = m := by omega
          have hP3 := rows_of_owns hS.msh.p (fun i hi j hj => by have := finP_bd HIN.out HBD.out (al := al) i hi j hj; unfold I64; omega)
          have hF3 := rows_of_owns hS.msh.f (fun i hi j hj => finF_I (by omega) HO.out HIN.out i hi j hj)
          have hnb : npt k al (3 * q) ≤ 64 + 288 := by unfold npt; have := cnB_le (newB al) (3 * q); omega
          have HP3 := Lib.hid hP3
          have HF3 := Lib.hid hF3
          have HM := Lib.hid hS.msh
          obtain ⟨m0, m1, z0, z1⟩ := cells2 hS.msh.q
          have LM : Lower (adv (w.heap.size + 1 + 1) x1.obs.size) wr.heap.size := ⟨cell_lt m0⟩
          clear hS hP3 hF3
          go_wp2_with fail
          refine (sresultK_any _ _ _ _ _ _ (finP k q P F al) (finF k F al) _ (by omega) (HP3.out.of (by (repeat (first | exact Kept.refl _ | assumption | refine Kept.alloc ?_ _ | refine Kept.ext ?_ _ | refine Kept.drew ?_ | refine Kept.drewN ?_ _)))) (HF3.out.of (by (repeat (first | exact Kept.refl _ | assumption | refine Kept.alloc ?_ _ | refine Kept.ext ?_ _ | refine Kept.drew ?_ | refine Kept.drewN ?_ _))))).mono ?_
          rintro r w1 ⟨rfl, x9, rfl⟩
          have HR := Lib.hid (fr_kept HM.out.r (by (repeat (first | exact Kept.refl _ | assumption | refine Kept.alloc ?_ _ | refine Kept.ext ?_ _ | refine Kept.drew ?_ | refine Kept.drewN ?_ _)) : Kept wr (ext wr x9)))
          rw [HE3.out]
          obtain ⟨q1, q2, -, -⟩ := cells2 (setRow_heap _ _ _ #[.slice (okA e3 A5) (okN e3 (npt k al (3 * q))) (okN e3 c5), .slice (okA e3 A6) (okN e3 (4 * q)) (okN e3 c6)] _ _ HR.out)
          go_wp2_with (refine wpList_store_row rfl 25 (.tmp 2) (.tmp 94) rfl (w.heap.size + 1) _ rfl rfl _ _ HR.out (by kernel_rfl) rfl (by simp [Value.oneCell']) ?_)
          refine bodyPost_ret (by simp only [results, Try.results18]; go_simp; rfl) rfl ?_
          exact HM.out.fin2 (by (repeat (first | exact Kept.refl _ | assumption | refine Kept.alloc ?_ _ | refine Kept.ext ?_ _ | refine Kept.drew ?_ | refine Kept.drewN ?_ _))) e3 (by (repeat (first | exact Kept.refl _ | assumption | refine Kept.alloc ?_ _ | refine Kept.ext ?_ _ | refine Kept.drew ?_ | refine Kept.drewN ?_ _))) (by omega)
end Go.Proofs.Ytbhcjdgfcinpcaa
