/- Contract: moments of texts, of the program. Conditions: the library's variables hold what start-up lays; the text is short. -/
import Derived.Test.YtbefphfgcbbcpaaDoorMfm
namespace Go.Proofs.YtbefphfgcbbcpaaDoor
set_option linter.unusedVariables false
set_option linter.unusedSimpArgs false
open Go.ChangeShapes Go.WideShapes Go.ChangeAt Go.RowKit Go.Deep
/-- The cells of eleven numbers. -/
def cellsA (F : Nat → Int) : Array Value := #[.int .i64 (F 0), .int .i64 (F 1), .int .i64 (F 2), .int .i64 (F 3), .int .i64 (F 4), .int .i64 (F 5), .int .i64 (F 6), .int .i64 (F 7), .int .i64 (F 8), .int .i64 (F 9), .int .i64 (F 10)]
/-- The first r of them, the others 0. -/
def stepF (V : Nat → Int) (r : Nat) : Nat → Int := fun j => if j < r then V j else 0
theorem cellsA_at (F : Nat → Int) {k : Nat} (hk : k < 11) : (cellsA F)[k]? = some (.int .i64 (F k)) := by
  rcases (show k = 0 ∨ k = 1 ∨ k = 2 ∨ k = 3 ∨ k = 4 ∨ k = 5 ∨ k = 6 ∨ k = 7 ∨ k = 8 ∨ k = 9 ∨ k = 10 by omega) with rfl | rfl | rfl | rfl | rfl | rfl | rfl | rfl | rfl | rfl | rfl <;> rfl
theorem cellsA_set (V : Nat → Int) {k : Nat} (hk : k < 11) : (cellsA (stepF V k)).setIfInBounds k (.int .i64 (V k)) = cellsA (stepF V (k + 1)) := by
  rcases (show k = 0 ∨ k = 1 ∨ k = 2 ∨ k = 3 ∨ k = 4 ∨ k = 5 ∨ k = 6 ∨ k = 7 ∨ k = 8 ∨ k = 9 ∨ k = 10 by omega) with rfl | rfl | rfl | rfl | rfl | rfl | rfl | rfl | rfl | rfl | rfl <;> simp [cellsA, stepF]
theorem block_set (X : World) (C : Array Value) (T : TypeId) (k : Nat) (v : Value) : (X.alloc (.cells C T)).setCell ⟨X.heap.size, k, none⟩ v = X.alloc (.cells (C.setIfInBounds k v) T) := by
  unfold World.alloc World.setCell
  simp only [World.mk.injEq, and_true, true_and]
  apply Array.ext_getElem?
  intro i
  rw [Array.getElem?_modify, Array.getElem?_push, Array.getElem?_push]
  by_cases hi : X.heap.size = i
  · subst hi; simp
  · rw [if_neg hi]
    by_cases h2 : i = X.heap.size
    · exact absurd h2.symm hi
    · rw [if_neg h2, if_neg h2]
theorem block_cell (X : World) (C : Array Value) (T : TypeId) (k : Nat) : (X.alloc (.cells C T)).cell? ⟨X.heap.size, k, none⟩ = C[k]? := by
  unfold World.cell?
  have h := heap_alloc_new X (.cells C T)
  show (match (X.alloc (.cells C T)).heap[X.heap.size]? with | some (Obj.cells c elem frozen) => c[k]? | x => none) = _
  rw [h]
theorem block_frz (X : World) (C : Array Value) (T : TypeId) (k : Nat) : (X.alloc (.cells C T)).frozen? ⟨X.heap.size, k, none⟩ = false := by
  unfold World.frozen?
  have h := heap_alloc_new X (.cells C T)
  show (match (X.alloc (.cells C T)).heap[X.heap.size]? with | some (Obj.cells c elem (lo, hi)) => decide (lo ≤ k) && decide (k < hi) | x => false) = false
  rw [h]
  simp
theorem sAtoiOk {l : List UInt8} {v : Int} {w : World} (hs : l.length ≤ 2000) (h : Ld w) (hr : Lib.atoiAll l = .ok v) :
    Calls Tryd.prog 27 #[.string ⟨l.toArray⟩] w fun e w' => e = .returned (.tuple #[.int .i64 v, .nilIface]) ∧ Kept w w' := by
  refine (sAtoi ⟨l.toArray⟩ w (by show l.toArray.size ≤ _; simp; omega) h).mono ?_
  rintro e w' ⟨u, ev, rfl, h1, h2, h3⟩
  rcases h3 with ⟨rfl, h4⟩ | ⟨-, h4⟩
  · have h4 : Lib.atoiAll l = .ok u := by simpa using h4
    rw [hr] at h4
    injection h4 with h4
    rw [h4]
    exact ⟨rfl, h1⟩
  · exact absurd hr (by simpa using h4 v)
theorem sAtoiNo {l : List UInt8} {w : World} (hs : l.length ≤ 2000) (h : Ld w) (hr : ∀ v, Lib.atoiAll l ≠ .ok v) :
    Calls Tryd.prog 27 #[.string ⟨l.toArray⟩] w fun e w' => ∃ v t p, e = .returned (.tuple #[.int .i64 v, .iface t p]) ∧ Kept w w' := by
  refine (sAtoi ⟨l.toArray⟩ w (by show l.toArray.size ≤ _; simp; omega) h).mono ?_
  rintro e w' ⟨u, ev, rfl, h1, h2, h3⟩
  rcases h3 with ⟨rfl, h4⟩ | ⟨⟨t, p, rfl⟩, -⟩
  · exact absurd (by simpa using h4) (hr u)
  · exact ⟨u, t, p, rfl, h1⟩
theorem ext_high {W W' : World} {y : More} {b o : Nat} (h : W.heap.size = W'.heap.size) (hb : W.heap.size ≤ b) : (ext W y).cell? ⟨b, o, none⟩ = (ext W' y).cell? ⟨b, o, none⟩ := by
  unfold World.cell? ext
  simp only []
  rw [Array.getElem?_append_right hb, Array.getElem?_append_right (by omega), h]
/-- What a word stands for. -/
def valW (ws : List (List UInt8)) (j : Nat) : Int := match Lib.atoiAll (ws.getD j []) with
  | .ok v => v
  | _ => 0
theorem words_of {l : List UInt8} {m : Mo} (h : okM m = true) (e : l = jn (mL m)) : (wds 32 l).length = 11 ∧ ∀ j, j < 11 → (wds 32 l).getD j [] = Lib.itoa ((mL m).getD j 0) ∧ Lib.atoiAll ((wds 32 l).getD j []) = .ok ((mL m).getD j 0) := by
  have hw := mL_wds m
  rw [← e] at hw
  have hl : (mL m).length = 11 := rfl
  refine ⟨by rw [hw, List.length_map, hl], fun j hj => ?_⟩
  have e1 : (wds 32 l).getD j [] = Lib.itoa ((mL m).getD j 0) := by
    rw [hw, List.getD_eq_getElem?_getD, List.getElem?_map, List.getD_eq_getElem?_getD, List.getElem?_eq_getElem (by omega)]
    rfl
  refine ⟨e1, ?_⟩
  rw [e1]
  refine atoi_itoa (mL_bd h _ ?_)
  rw [List.getD_eq_getElem?_getD, List.getElem?_eq_getElem (by omega)]
  exact List.getElem_mem _
theorem vals_of {l : List UInt8} {m : Mo} (h : okM m = true) (e : l = jn (mL m)) {j : Nat} (hj : j < 11) : valW (wds 32 l) j = (mL m).getD j 0 := by
  unfold valW
  rw [((words_of h e).2 j hj).2]
theorem word_len {c : UInt8} {l p : List UInt8} (h : p ∈ wds c l) : p.length ≤ l.length := by
  have h1 := join_wds c l
  obtain ⟨a, r, e⟩ := List.append_of_mem h
  have h2 : p.length ≤ (Lib.join (wds c l) [c]).length := by
    rw [e]
    cases a with
    | nil =>
      show p.length ≤ (Lib.join (p :: r) [c]).length
      rw [Lib.join_length]
      simp [Lib.lens]
      omega
    | cons x a =>
      show p.length ≤ (Lib.join (x :: (a ++ p :: r)) [c]).length
      rw [Lib.join_length]
      simp [Lib.lens]
      omega
  rw [h1] at h2
  exact h2
set_option maxRecDepth 100000 in
set_option maxHeartbeats 8000000 in
theorem mPar_any (l : List UInt8) (w : World) (hl : l.length ≤ 2000) (h : Ld w) :
    Calls Tryd.prog 15 #[.string ⟨l.toArray⟩] w fun e w' => ParseM l e ∧ Kept w w' := by
  have hsp : ∀ w', Kept w w' → _ := fun w' hk => sSplit l 32 w' (by omega) (h.on hk)
  have HSP := Lib.hid hsp
  have HL := Lib.hid h
  obtain ⟨ws, hws⟩ : ∃ ws, wds 32 l = ws := ⟨_, rfl⟩
  have key : ∀ m, okM m = true → l = jn (mL m) → ws.length = 11 ∧ ∀ j, j < 11 → (ws.getD j [] = Lib.itoa ((mL m).getD j 0) ∧ Lib.atoiAll (ws.getD j []) = .ok ((mL m).getD j 0)) ∧ valW ws j = (mL m).getD j 0 := fun m hm e => by
    rw [← hws]
    exact ⟨(words_of hm e).1, fun j hj => ⟨(words_of hm e).2 j hj, vals_of hm e hj⟩⟩
  have hwl : ∀ p ∈ ws, p.length ≤ 2000 := fun p hp => by
    rw [← hws] at hp
    exact Nat.le_trans (word_len hp) hl
  rw [hws] at HSP
  have HKEY := Lib.hid key
  have HWL := Lib.hid hwl
  clear hsp h key hws hwl
  obtain ⟨n, hn⟩ : ∃ n, ws.length = n := ⟨_, rfl⟩
  by_cases h11 : n = 11
  · subst h11
    rw [hn] at HSP
    have HN := Lib.hid hn
    clear hn
    go_enter Tryd.func15, Tryd.ntmps15
    go_wp2_with (first | (go_at_call 33; refine (mnum_any _ _ (by simp [adv])).mono ?_; rintro e w1 ⟨b, cp, rfl, ⟨x2, rfl⟩, hob⟩; have HOB := Lib.hid hob; clear hob) | (go_at_call 25; refine (HSP.out _ (by (repeat (first | exact Kept.refl _ | assumption | refine Kept.alloc ?_ _ | refine Kept.ext ?_ _ | refine Kept.drew ?_ | refine Kept.drewN ?_ _)))).mono ?_; rintro e w1 ⟨gw, rfl, ⟨x3, rfl⟩, hg1, hg2, hcw⟩; have HCW := Lib.hid hcw; clear hcw))
    go_loopw [24] (fun i wr => ∃ (r : Nat) (y : More), r ≤ 11 ∧ i = .int .i64 r ∧ wr = ext ((w.alloc (.cells #[.int .i64 0, .int .i64 0, .int .i64 0, .int .i64 0, .int .i64 0, .int .i64 0, .int .i64 0, .int .i64 0, .int .i64 0, .int .i64 0, .int .i64 0] 39)).alloc (.cells (cellsA (stepF (valW ws) r)) 39)) y ∧ (b < wr.heap.size ∧ gw < wr.heap.size ∧ w.heap.size + 2 ≤ b ∧ w.heap.size + 2 ≤ gw) ∧ (∀ j, j < 11 → wr.cell? ⟨b, j, none⟩ = some (ptrV (w.heap.size + 1) j)) ∧ (∀ j, j < 11 → wr.cell? ⟨gw, j, none⟩ = some (strV (ws.getD j []))) ∧ ∀ j, j < r → ∃ v, Lib.atoiAll (ws.getD j []) = .ok v) (fun i _ => 11 - (intOf i).toNat)
    case atStart =>
      obtain ⟨b', he, hb1, hb2, -, -, hb3⟩ := own_at HOB.out (by omega)
      obtain rfl : b = b' := by simpa using he
      refine ⟨0, ⟨x3.draws, x2.obs ++ x3.obs⟩, by omega, rfl, ext_ext _ _ _, ⟨?_, hg2, ?_, ?_⟩, fun j hj => ?_, fun j hj => ?_, fun j hj => absurd hj (by omega)⟩
      · exact Nat.lt_of_lt_of_le hb2 (kept_le ⟨x3, rfl⟩)
      · simpa using hb1
      · refine Nat.le_trans ?_ hg1
        rw [ext_size, World.size_alloc, World.size_alloc]
        exact adv_le _ _
      · refine cell_old ?_ hb2 ⟨x3, rfl⟩
        rw [hb3 j hj, List.getElem?_map, List.getElem?_range hj]
        rfl
      · refine HCW.out j _ ?_
        rw [List.getD_eq_getElem?_getD, List.getElem?_eq_getElem (by rw [HN.out]; exact hj)]
        rfl
    case round =>
      obtain ⟨r, y, hr, rfl, rfl, ⟨hb, hgw, hb2, hgw2⟩, cl, cw, hok⟩ := hrel
      have LB : Lower b (adv (w.heap.size + 1 + 1) y.obs.size) := ⟨by rw [ext_size, World.size_alloc, World.size_alloc] at hb; exact hb⟩
      have LG : Lower gw (adv (w.heap.size + 1 + 1) y.obs.size) := ⟨by rw [ext_size, World.size_alloc, World.size_alloc] at hgw; exact hgw⟩
      have HCL := Lib.hid cl
      have HCW2 := Lib.hid cw
      have HOK := Lib.hid hok
      have HB := Lib.hid (And.intro hb (And.intro hgw (And.intro hb2 hgw2)))
      by_cases hlt : r < 11
      · have g0 : decide ((r : Int) < 11) = true := decide_eq_true (by omega)
        have g1 : ¬ (11 : Int) ≤ r := by omega
        have c1 := cw r hlt
        have c2 := cl r hlt
        unfold strV at c1
        unfold ptrV at c2
        obtain ⟨q, hq⟩ : ∃ q, ws.getD r [] = q := ⟨_, rfl⟩
        have hqm : q ∈ ws := by
          rw [← hq, List.getD_eq_getElem?_getD, List.getElem?_eq_getElem (by rw [HN.out]; exact hlt)]
          exact List.getElem_mem _
        have hql := HWL.out q hqm
        rw [hq] at c1
        obtain ⟨C, hC⟩ : ∃ C, cellsA (stepF (valW ws) r) = C := ⟨_, rfl⟩
        have HCE := Lib.hid hC
        by_cases av : ∃ v, Lib.atoiAll q = .ok v
        · obtain ⟨v, av⟩ := av
          have hat : ∀ w', Kept w w' → _ := fun w' hk => sAtoiOk (l := q) (by omega) (HL.out.on hk) av
          have HAT := Lib.hid hat
          have hvv : valW ws r = v := by unfold valW; rw [hq, av]
          have HVV := Lib.hid hvv
          have HAV := Lib.hid av
          have HQ := Lib.hid hq
          have s1 : ((w.alloc (.cells #[.int .i64 0, .int .i64 0, .int .i64 0, .int .i64 0, .int .i64 0, .int .i64 0, .int .i64 0, .int .i64 0, .int .i64 0, .int .i64 0, .int .i64 0] 39)).alloc (.cells (C) 39)).cell? ⟨w.heap.size + 1, r, none⟩ = some (.int .i64 (stepF (valW ws) r r)) := by
            rw [← hC, ← cellsA_at _ hlt, ← block_cell (w.alloc (.cells #[.int .i64 0, .int .i64 0, .int .i64 0, .int .i64 0, .int .i64 0, .int .i64 0, .int .i64 0, .int .i64 0, .int .i64 0, .int .i64 0, .int .i64 0] 39)), World.size_alloc]
          have s2 : ((w.alloc (.cells #[.int .i64 0, .int .i64 0, .int .i64 0, .int .i64 0, .int .i64 0, .int .i64 0, .int .i64 0, .int .i64 0, .int .i64 0, .int .i64 0, .int .i64 0] 39)).alloc (.cells (C) 39)).frozen? ⟨w.heap.size + 1, r, none⟩ = false := by
            have := block_frz (w.alloc (.cells #[.int .i64 0, .int .i64 0, .int .i64 0, .int .i64 0, .int .i64 0, .int .i64 0, .int .i64 0, .int .i64 0, .int .i64 0, .int .i64 0, .int .i64 0] 39)) C 39 r
            rwa [World.size_alloc] at this
          have s3 : ∀ u, ((w.alloc (.cells #[.int .i64 0, .int .i64 0, .int .i64 0, .int .i64 0, .int .i64 0, .int .i64 0, .int .i64 0, .int .i64 0, .int .i64 0, .int .i64 0, .int .i64 0] 39)).alloc (.cells (C) 39)).setCell ⟨w.heap.size + 1, r, none⟩ u = ((w.alloc (.cells #[.int .i64 0, .int .i64 0, .int .i64 0, .int .i64 0, .int .i64 0, .int .i64 0, .int .i64 0, .int .i64 0, .int .i64 0, .int .i64 0, .int .i64 0] 39)).alloc (.cells (C.setIfInBounds r u) 39)) := fun u => by
            have := block_set (w.alloc (.cells #[.int .i64 0, .int .i64 0, .int .i64 0, .int .i64 0, .int .i64 0, .int .i64 0, .int .i64 0, .int .i64 0, .int .i64 0, .int .i64 0, .int .i64 0] 39)) C 39 r u
            rwa [World.size_alloc] at this
          rw [hC] at c1 c2
          clear cl cw hok hb hgw hb2 hgw2 hqm hat hvv av hq
          simp only [hC]
          clear hC
          go_wp2_with (go_at_call 27; refine (HAT.out _ (by (repeat (first | exact Kept.refl _ | assumption | refine Kept.alloc ?_ _ | refine Kept.ext ?_ _ | refine Kept.drew ?_ | refine Kept.drewN ?_ _)))).mono ?_; rintro e w1 ⟨rfl, x4, rfl⟩)
          have e1 : C.setIfInBounds r (.int .i64 v) = cellsA (stepF (valW ws) (r + 1)) := by
            rw [← HCE.out, ← HVV.out]
            exact cellsA_set _ hlt
          go_roundw
          case rel =>
            refine ⟨r + 1, ⟨x4.draws, y.obs ++ x4.obs⟩, by omega, by go_num, by rw [e1]; exact ext_ext _ _ _, ⟨?_, ?_, HB.out.2.2.1, HB.out.2.2.2⟩, fun j hj => ?_, fun j hj => ?_, fun j hj => ?_⟩
            · refine Nat.lt_of_lt_of_le HB.out.1 ?_
              simp only [ext_size, World.size_alloc]
              exact adv_le _ _
            · refine Nat.lt_of_lt_of_le HB.out.2.1 ?_
              simp only [ext_size, World.size_alloc]
              exact adv_le _ _
            · refine cell_old ?_ ?_ ⟨x4, rfl⟩
              · exact (ext_high (by simp only [World.size_alloc]) (by simp only [World.size_alloc]; have := HB.out.2.2.1; omega)).trans (HCL.out j hj)
              · show b < _
                have := HB.out.1
                simp only [ext_size, World.size_alloc] at this ⊢
                exact this
            · refine cell_old ?_ ?_ ⟨x4, rfl⟩
              · exact (ext_high (by simp only [World.size_alloc]) (by simp only [World.size_alloc]; have := HB.out.2.2.2; omega)).trans (HCW2.out j hj)
              · show gw < _
                have := HB.out.2.1
                simp only [ext_size, World.size_alloc] at this ⊢
                exact this
            · by_cases hjr : j < r
              · exact HOK.out j hjr
              · obtain rfl : j = r := by omega
                exact ⟨v, by rw [HQ.out]; exact HAV.out⟩
          case measure => simp [intOf]; omega
        · have hat : ∀ w', Kept w w' → _ := fun w' hk => sAtoiNo (l := q) (by omega) (HL.out.on hk) (fun v hv => av ⟨v, hv⟩)
          have HAT := Lib.hid hat
          have hbad : ParseM l (.returned (.tuple #[.agg #[.int .i64 0, .int .i64 0, .int .i64 0, .int .i64 0, .int .i64 0, .int .i64 0, .int .i64 0, .int .i64 0, .int .i64 0, .int .i64 0, .int .i64 0], .int .i64 3])) := .inr ⟨fun m hm e => av ⟨_, by rw [← hq]; exact (((HKEY.out m hm e).2 r hlt).1).2⟩, rfl⟩
          have HBAD := Lib.hid hbad
          rw [hC] at c1 c2
          clear cl cw hok hb hgw hb2 hgw2 hqm hat av hq hbad
          simp only [hC]
          clear hC
          go_wp2_with (go_at_call 27; refine (HAT.out _ (by (repeat (first | exact Kept.refl _ | assumption | refine Kept.alloc ?_ _ | refine Kept.ext ?_ _ | refine Kept.drew ?_ | refine Kept.drewN ?_ _)))).mono ?_; rintro e w1 ⟨u5, t5, p5, rfl, x4, rfl⟩)
          refine bodyPost_ret (by simp only [results, Tryd.results15]; go_simp; rfl) rfl ?_
          exact ⟨HBAD.out, by (repeat (first | exact Kept.refl _ | assumption | refine Kept.alloc ?_ _ | refine Kept.ext ?_ _ | refine Kept.drew ?_ | refine Kept.drewN ?_ _))⟩
      · obtain rfl : r = 11 := by omega
        have g0 : decide (((11 : Nat) : Int) < 11) = false := rfl
        have e1 : cellsA (stepF (valW ws) 11) = #[.int .i64 (valW ws 0), .int .i64 (valW ws 1), .int .i64 (valW ws 2), .int .i64 (valW ws 3), .int .i64 (valW ws 4), .int .i64 (valW ws 5), .int .i64 (valW ws 6), .int .i64 (valW ws 7), .int .i64 (valW ws 8), .int .i64 (valW ws 9), .int .i64 (valW ws 10)] := rfl
        obtain ⟨V, hV⟩ : ∃ V, valW ws = V := ⟨_, rfl⟩
        rw [hV] at e1
        rw [hV, e1]
        obtain ⟨v0, h0⟩ : ∃ v, V 0 = v := ⟨_, rfl⟩
        obtain ⟨v1, h1⟩ : ∃ v, V 1 = v := ⟨_, rfl⟩
        obtain ⟨v2, h2⟩ : ∃ v, V 2 = v := ⟨_, rfl⟩
        obtain ⟨v3, h3⟩ : ∃ v, V 3 = v := ⟨_, rfl⟩
        obtain ⟨v4, h4⟩ : ∃ v, V 4 = v := ⟨_, rfl⟩
        obtain ⟨v5, h5⟩ : ∃ v, V 5 = v := ⟨_, rfl⟩
        obtain ⟨v6, h6⟩ : ∃ v, V 6 = v := ⟨_, rfl⟩
        obtain ⟨v7, h7⟩ : ∃ v, V 7 = v := ⟨_, rfl⟩
        obtain ⟨v8, h8⟩ : ∃ v, V 8 = v := ⟨_, rfl⟩
        obtain ⟨v9, h9⟩ : ∃ v, V 9 = v := ⟨_, rfl⟩
        obtain ⟨v10, h10⟩ : ∃ v, V 10 = v := ⟨_, rfl⟩
        simp only [h0, h1, h2, h3, h4, h5, h6, h7, h8, h9, h10] at e1 ⊢
        obtain ⟨M, hM⟩ : ∃ M : Mo, M = ⟨v0, v1, v2, v3, v4, v5, v6, v7, v8, v9, v10⟩ := ⟨_, rfl⟩
        have hcut : ∀ m, okM m = true → l = jn (mL m) → m = M := fun m hm e => by
          have k := fun j hj => ((HKEY.out m hm e).2 j hj).2
          rw [hV] at k
          rw [hM]
          have k0 := k 0 (by omega); have k1 := k 1 (by omega); have k2 := k 2 (by omega); have k3 := k 3 (by omega); have k4 := k 4 (by omega); have k5 := k 5 (by omega); have k6 := k 6 (by omega); have k7 := k 7 (by omega); have k8 := k 8 (by omega); have k9 := k 9 (by omega); have k10 := k 10 (by omega)
          rw [← h0, k0, ← h1, k1, ← h2, k2, ← h3, k3, ← h4, k4, ← h5, k5, ← h6, k6, ← h7, k7, ← h8, k8, ← h9, k9, ← h10, k10]
          rfl
        have hf : ∀ w', Kept w w' → _ := fun w' hk => mFmt_any v0 v1 v2 v3 v4 v5 v6 v7 v8 v9 v10 w' (HL.out.on hk)
        rw [← hM] at hf
        have HCUT := Lib.hid hcut
        have HM := Lib.hid hM
        clear cl cw hok hb hgw hb2 hgw2 hcut hM e1 hV h0 h1 h2 h3 h4 h5 h6 h7 h8 h9 h10
        cases hv : okM M
        · have e2 : vmS M = 1 := by unfold vmS; rw [hv]; rfl
          rw [e2] at hf
          have hbad : ParseM l (.returned (.tuple #[.agg #[.int .i64 0, .int .i64 0, .int .i64 0, .int .i64 0, .int .i64 0, .int .i64 0, .int .i64 0, .int .i64 0, .int .i64 0, .int .i64 0, .int .i64 0], .int .i64 3])) := .inr ⟨fun m hm e => (by rw [HCUT.out m hm e, hv] at hm; cases hm), rfl⟩
          have HBAD := Lib.hid hbad
          have HF := Lib.hid hf
          clear hf hv e2 hbad
          go_wp2_with (go_at_call 13; refine (HF.out _ (by (repeat (first | exact Kept.refl _ | assumption | refine Kept.alloc ?_ _ | refine Kept.ext ?_ _ | refine Kept.drew ?_ | refine Kept.drewN ?_ _)))).mono ?_; rintro e w1 ⟨rfl, x4, rfl⟩)
          refine bodyPost_ret (by simp only [results, Tryd.results15]; go_simp; rfl) rfl ?_
          exact ⟨HBAD.out, by (repeat (first | exact Kept.refl _ | assumption | refine Kept.alloc ?_ _ | refine Kept.ext ?_ _ | refine Kept.drew ?_ | refine Kept.drewN ?_ _))⟩
        · have e2 : vmS M = 0 := by unfold vmS; rw [hv]; rfl
          have e3 : fmtM M = jn (mL M) := by unfold fmtM; rw [hv]; rfl
          rw [e2, e3] at hf
          have HF := Lib.hid hf
          have HV := Lib.hid hv
          clear hf hv e2 e3
          go_wp2_with (go_at_call 13; refine (HF.out _ (by (repeat (first | exact Kept.refl _ | assumption | refine Kept.alloc ?_ _ | refine Kept.ext ?_ _ | refine Kept.drew ?_ | refine Kept.drewN ?_ _)))).mono ?_; rintro e w1 ⟨rfl, x4, rfl⟩)
          · rename_i hq
            refine bodyPost_ret (by simp only [results, Tryd.results15]; go_simp; rfl) rfl ?_
            refine ⟨.inr ⟨fun m hm e => ?_, rfl⟩, by (repeat (first | exact Kept.refl _ | assumption | refine Kept.alloc ?_ _ | refine Kept.ext ?_ _ | refine Kept.drew ?_ | refine Kept.drewN ?_ _))⟩
            have e5 := HCUT.out m hm e
            rw [e5] at e
            rw [e] at hq
            simp at hq
          · rename_i hq
            refine bodyPost_ret (by simp only [results, Tryd.results15]; go_simp; rfl) rfl ?_
            refine ⟨.inl ⟨M, HV.out, ?_, by rw [HM.out]⟩, by (repeat (first | exact Kept.refl _ | assumption | refine Kept.alloc ?_ _ | refine Kept.ext ?_ _ | refine Kept.drew ?_ | refine Kept.drewN ?_ _))⟩
            simp at hq
            exact hq.symm
  · have g1 : ((n : Int) == 11) = false := beq_eq_false_iff_ne.2 (by omega)
    have hbad : ParseM l (.returned (.tuple #[.agg #[.int .i64 0, .int .i64 0, .int .i64 0, .int .i64 0, .int .i64 0, .int .i64 0, .int .i64 0, .int .i64 0, .int .i64 0, .int .i64 0, .int .i64 0], .int .i64 3])) := .inr ⟨fun m hm e => h11 (by rw [← hn]; exact (HKEY.out m hm e).1), rfl⟩
    rw [hn] at HSP
    have HBAD := Lib.hid hbad
    clear hbad h11 hn
    go_enter Tryd.func15, Tryd.ntmps15
    go_wp2_with (first | (go_at_call 33; refine (mnum_any _ _ (by simp [adv])).mono ?_; rintro e w1 ⟨b, cp, rfl, ⟨x2, rfl⟩, hob⟩; clear hob) | (go_at_call 25; refine (HSP.out _ (by (repeat (first | exact Kept.refl _ | assumption | refine Kept.alloc ?_ _ | refine Kept.ext ?_ _ | refine Kept.drew ?_ | refine Kept.drewN ?_ _)))).mono ?_; rintro e w1 ⟨gw, rfl, ⟨x3, rfl⟩, hg1, hg2, hcw⟩; clear hcw))
    refine bodyPost_ret (by simp only [results, Tryd.results15]; go_simp; rfl) rfl ?_
    exact ⟨HBAD.out, by (repeat (first | exact Kept.refl _ | assumption | refine Kept.alloc ?_ _ | refine Kept.ext ?_ _ | refine Kept.drew ?_ | refine Kept.drewN ?_ _))⟩
end Go.Proofs.YtbefphfgcbbcpaaDoor
