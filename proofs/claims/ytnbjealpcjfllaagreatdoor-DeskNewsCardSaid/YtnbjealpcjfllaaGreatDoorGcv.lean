/- Contracts: the sides of a face, and how often each side is in the faces, by a map. Conditions: no more than 96 faces. Contracts: the error of the points of a mesh, by a map. Conditions: no more than 64 points. Contracts: the panels of a mesh and 6 times its volume, of the program. Conditions: no more than 96 faces, whose corners are numbers of points. A list of bools that a call makes itself: what it holds. No conditions but those of each theorem. -/
import Derived.Test.YtnbjealpcjfllaaGreatDoorGco
import Derived.Test.YtnbjealpcjfllaaGreatDoorMef
import Derived.Test.YtnbjealpcjfllaaGreatDoorGsf
import Derived.Test.YtnbjealpcjfllaaGreatDoorOpr
import Derived.Laws.OwnMore
import Derived.Deep.OwnRows
namespace Go.Proofs.YtnbjealpcjfllaaGreatDoor
set_option linter.unusedVariables false
set_option linter.unusedSimpArgs false
open Go.RowKit Go.Maps
open Go.ChangeMaps (setBlock)
theorem ssides_any (a b c : Int) (w : World) :
    Calls Tryz.prog 119 #[.agg #[.int .i64 a, .int .i64 b, .int .i64 c]] w fun r w' => r = .returned (.agg #[.int .i64 a, .int .i64 b, .int .i64 b, .int .i64 c, .int .i64 c, .int .i64 a]) ∧ Kept w w' := by
  go_enter Tryz.func119, Tryz.ntmps119
  go_wp2
  refine bodyPost_ret (by simp only [results, Tryz.results119]; go_simp; rfl) rfl ?_
  exact ⟨rfl, by (repeat (first | exact Kept.refl _ | assumption | refine Kept.alloc ?_ _ | refine Kept.ext ?_ _ | refine Kept.drew ?_ | refine Kept.drewN ?_ _))⟩
theorem sback_any (a b : Int) (w : World) :
    Calls Tryz.prog 120 #[.agg #[.int .i64 a, .int .i64 b]] w fun r w' => r = .returned (.agg #[.int .i64 b, .int .i64 a]) ∧ Kept w w' := by
  go_enter Tryz.func120, Tryz.ntmps120
  go_wp2
  refine bodyPost_ret (by simp only [results, Tryz.results120]; go_simp; rfl) rfl ?_
  exact ⟨rfl, by (repeat (first | exact Kept.refl _ | assumption | refine Kept.alloc ?_ _ | refine Kept.ext ?_ _ | refine Kept.drew ?_ | refine Kept.drewN ?_ _))⟩
theorem kept_cell {w w' : World} {a : Addr} {v : Value} (h : w.cell? a = some v) (hk : Kept w w') : w'.cell? a = some v := by
  obtain ⟨x, rfl⟩ := hk
  unfold World.cell? at h ⊢
  cases hb : w.heap[a.block]? with
  | none => rw [hb] at h; cases h
  | some o =>
    rw [ext_block _ _ _ (Array.getElem?_eq_some_iff.1 hb).1]
    exact h
theorem cell_lt {w : World} {b o : Nat} {v : Value} (h : w.cell? ⟨b, o, none⟩ = some v) : b < w.heap.size := by
  unfold World.cell? at h
  cases hb : w.heap[b]? with
  | none => simp [hb] at h
  | some x => exact (Array.getElem?_eq_some_iff.1 hb).1
theorem grown_setBlock {w : World} {b : Nat} {es : Array MapEntry} {clock : Nat} {o' : Obj} (hb : w.heap[b]? = some (.map es clock)) : w.grownBy (setBlock w b o') (some b) :=
  ⟨rfl, rfl, rfl, by simp [setBlock], fun i _ hi => ChangeMaps.heap_setBlock_other hb _ (fun e => hi (by rw [e]))⟩
theorem ind_bd (a b p q : Int) : 0 ≤ ind a b p q ∧ ind a b p q ≤ 1 := by unfold ind; split <;> omega
theorem upd_ind (c : Int × Int → Int) (p q : Int) : (fun j : Int × Int => if j = (p, q) then c (p, q) + 1 else c j) = fun j => c j + ind p q j.1 j.2 := by
  funext j
  unfold ind
  by_cases h : j = (p, q)
  · subst h
    simp
  · rw [if_neg h, if_neg (fun e => h (Prod.ext e.1.symm e.2.symm))]
    omega
abbrev MapS (w : World) (b n : Nat) (c : Int × Int → Int) : Prop := MapI Tryz.prog 190 3 sideV sideOk w b n c
/-- The state of 'm[side]++' in a drawn order: 2 looks the element up, 4 makes the entry, 5 takes its stamp, 6 stores. -/
structure CntI (W : World) (B0 n sb : Nat) (p q : Int) (c : Int × Int → Int) (L : Nat → Bool) (b : Nat → Value) (w' : World) : Prop where
  kept : Kept W w'
  c0 : w'.cell? ⟨sb, 0, none⟩ = some (.int .i64 p)
  c1 : w'.cell? ⟨sb, 1, none⟩ = some (.int .i64 q)
  o5 : L 5 = true → L 4 = true
  o6 : L 6 = true → L 2 = true ∧ L 4 = true ∧ L 5 = true
  m0 : L 4 = false → MapS w' B0 n c
  m4 : L 4 = true → L 6 = false → ∃ (v0 : Value) (st : Nat) (es1 : Array MapEntry) (clock1 : Nat), b 4 = .tuple #[v0, goInt st] ∧ (L 5 = true → b 5 = goInt st) ∧ w'.heap[B0]? = some (.map es1 clock1) ∧
    (∀ w2 : World, w2.heap[B0]? = some (.map es1 clock1) → MapS w2 B0 (n + 1) c) ∧
    ∀ (w2 : World) (z : Int), I64 z → w2.heap[B0]? = some (.map es1 clock1) → ∃ o, (Instr.entryStore 187 (.map (some B0)) (goInt st) (.int .i64 z)).run Tryz.prog w2 = .ok () (setBlock w2 B0 o) ∧
        MapS (setBlock w2 B0 o) B0 (n + 1) (fun j => if j = (p, q) then z else c j)
  m6 : L 6 = true → MapS w' B0 (n + 1) (fun j => c j + ind p q j.1 j.2)
section
variable {W w' w'' : World} {B0 n sb : Nat} {p q : Int} {c : Int × Int → Int} {L : Nat → Bool} {b : Nat → Value}
theorem CntI.on (h : CntI W B0 n sb p q c L b w') (hk : Kept w' w'') : CntI W B0 n sb p q c L b w'' :=
  ⟨h.kept.trans hk, kept_cell h.c0 hk, kept_cell h.c1 hk, h.o5, h.o6, fun e => (h.m0 e).kept hk, fun e e' => by
    obtain ⟨v0, st, es1, k1, h1, h2, h3, h4, h5⟩ := h.m4 e e'
    exact ⟨v0, st, es1, k1, h1, h2, fr_kept h3 hk, h4, h5⟩, fun e => (h.m6 e).kept hk⟩
theorem done_ne {L : Nat → Bool} {i j : Nat} (h : j ≠ i) : doneAt L i j = L j := if_neg h
theorem tell_ne {b : Nat → Value} {i j : Nat} {v : Value} (h : j ≠ i) : tellAt b i v j = b j := if_neg h
theorem CntI.other (h : CntI W B0 n sb p q c L b w') {i : Nat} (hi : i ≠ 4 ∧ i ≠ 5 ∧ i ≠ 6) : CntI W B0 n sb p q c (doneAt L i) b w' := by
  obtain ⟨h4, h5, h6⟩ := hi
  refine ⟨h.kept, h.c0, h.c1, fun e => ?_, fun e => ?_, fun e => ?_, fun e e' => ?_, fun e => ?_⟩
  · rw [done_ne (Ne.symm h5)] at e; rw [done_ne (Ne.symm h4)]; exact h.o5 e
  · rw [done_ne (Ne.symm h6)] at e
    rw [done_ne (Ne.symm h4), done_ne (Ne.symm h5)]
    refine ⟨?_, (h.o6 e).2⟩
    unfold doneAt
    split
    · rfl
    · exact (h.o6 e).1
  · rw [done_ne (Ne.symm h4)] at e; exact h.m0 e
  · rw [done_ne (Ne.symm h4)] at e; rw [done_ne (Ne.symm h6)] at e'; rw [done_ne (Ne.symm h5)]; exact h.m4 e e'
  · rw [done_ne (Ne.symm h6)] at e; exact h.m6 e
theorem CntI.look (h : CntI W B0 n sb p q c L b w') (hL : L 2 = false) (hs : sideOk (p, q)) : ∃ m, MapS w' B0 m c := by
  by_cases h4 : L 4 = true
  · have h6 : L 6 = false := by
      cases e : L 6 with
      | false => rfl
      | true => have := (h.o6 e).1; rw [hL] at this; cases this
    obtain ⟨v0, st, es1, k1, -, -, g3, g4, -⟩ := h.m4 h4 h6
    exact ⟨_, g4 w' g3⟩
  · exact ⟨_, h.m0 (by simpa using h4)⟩
theorem CntI.op2 (h : CntI W B0 n sb p q c L b w') (v : Value) : CntI W B0 n sb p q c (doneAt L 2) (tellAt b 2 v) w' := by
  have := h.other (i := 2) (by omega)
  refine ⟨this.kept, this.c0, this.c1, this.o5, this.o6, this.m0, ?_, this.m6⟩
  rw [tell_ne (show 4 ≠ 2 by omega), tell_ne (show 5 ≠ 2 by omega)]
  exact this.m4
theorem CntI.op4 (h : CntI W B0 n sb p q c L b w') (hL : L 4 = false) (hs : sideOk (p, q)) (hn : n < maxLen) (hB : W.heap.size ≤ B0) (hsb : sb ≠ B0) :
    ∃ v w2, (Instr.mapEntry 187 (.map (some B0)) (.agg #[.int .i64 p, .int .i64 q])).run Tryz.prog w' = .ok v w2 ∧ CntI W B0 n sb p q c (doneAt L 4) (tellAt b 4 v) w2 := by
  have hM := h.m0 hL
  have h5 : L 5 = false := by
    cases e : L 5 with
    | false => rfl
    | true => have := h.o5 e; rw [hL] at this; cases this
  have h6 : L 6 = false := by
    cases e : L 6 with
    | false => rfl
    | true => have := (h.o6 e).2.1; rw [hL] at this; cases this
  obtain ⟨v0, st, es1, k1, hrun, g1, g2⟩ := MapI.entry lawSide Tryz.underlying187 Tryz.underlying3 zeroInt hM hn (p, q) (keyOf_side _ hs) (fun j e => sideV_inj _ _ e) hs
  obtain ⟨D, ⟨es, clock, hb, -⟩, -⟩ := hM
  refine ⟨_, _, hrun, ?_⟩
  have cell : ∀ o v, w'.cell? ⟨sb, o, none⟩ = some v → (setBlock w' B0 (.map es1 k1)).cell? ⟨sb, o, none⟩ = some v := fun o v hv => by
    unfold World.cell? at hv ⊢
    rw [ChangeMaps.heap_setBlock_other hb _ hsb]
    exact hv
  refine ⟨h.kept.map_store hB (grown_setBlock hb), cell _ _ h.c0, cell _ _ h.c1, fun e => rfl, fun e => ?_, fun e => ?_, fun e e' => ?_, fun e => ?_⟩
  · rw [done_ne (show 6 ≠ 4 by omega), h6] at e; cases e
  · simp [doneAt] at e
  · refine ⟨v0, st, es1, k1, if_pos rfl, fun e5 => ?_, ChangeMaps.heap_setBlock_same hb _, g1, g2⟩
    rw [done_ne (show 5 ≠ 4 by omega), h5] at e5; cases e5
  · rw [done_ne (show 6 ≠ 4 by omega), h6] at e; cases e
theorem CntI.at5 (h : CntI W B0 n sb p q c L b w') (h4 : L 4 = true) (hL : L 5 = false) :
    ∃ v0 st, b 4 = .tuple #[v0, .int .i64 (st : Nat)] ∧ CntI W B0 n sb p q c (doneAt L 5) (tellAt b 5 (.int .i64 (st : Nat))) w' := by
  have h6 : L 6 = false := by
    cases e : L 6 with
    | false => rfl
    | true => have := (h.o6 e).2.2; rw [hL] at this; cases this
  obtain ⟨v0, st, es1, k1, e1, e2, g3, g4, g5⟩ := h.m4 h4 h6
  refine ⟨v0, st, e1, h.kept, h.c0, h.c1, fun e => ?_, fun e => ?_, fun e => ?_, fun e e' => ?_, fun e => ?_⟩
  · rw [done_ne (show 4 ≠ 5 by omega)]; exact h4
  · rw [done_ne (show 6 ≠ 5 by omega), h6] at e; cases e
  · rw [done_ne (show 4 ≠ 5 by omega), h4] at e; cases e
  · exact ⟨v0, st, es1, k1, by rw [tell_ne (show 4 ≠ 5 by omega)]; exact e1, fun _ => if_pos rfl, g3, g4, g5⟩
  · rw [done_ne (show 6 ≠ 5 by omega), h6] at e; cases e
theorem CntI.op6 (h : CntI W B0 n sb p q c L b w') (h4 : L 4 = true) (h5 : L 5 = true) (h2 : L 2 = true) (hL : L 6 = false) {z : Int} (hc : c (p, q) = z) (hz : I64 (z + 1)) (hB : W.heap.size ≤ B0) (hsb : sb ≠ B0) :
    ∃ st w2, b 5 = .int .i64 (st : Nat) ∧ (Instr.entryStore 187 (.map (some B0)) (.int .i64 (st : Nat)) (.int .i64 (z + 1))).run Tryz.prog w' = .ok () w2 ∧ CntI W B0 n sb p q c (doneAt L 6) (tellAt b 6 undef) w2 := by
  obtain ⟨v0, st, es1, k1, e1, e2, g3, g4, g5⟩ := h.m4 h4 hL
  obtain ⟨o, hrun, hM⟩ := g5 w' _ hz g3
  refine ⟨st, _, e2 h5, hrun, ?_⟩
  have cell : ∀ o' v, w'.cell? ⟨sb, o', none⟩ = some v → (setBlock w' B0 o).cell? ⟨sb, o', none⟩ = some v := fun o' v hv => by
    unfold World.cell? at hv ⊢
    rw [ChangeMaps.heap_setBlock_other g3 _ hsb]
    exact hv
  refine ⟨h.kept.map_store hB (grown_setBlock g3), cell _ _ h.c0, cell _ _ h.c1, fun e => ?_, fun e => ?_, fun e => ?_, fun e e' => ?_, fun e => ?_⟩
  · rw [done_ne (show 4 ≠ 6 by omega)]; exact h4
  · rw [done_ne (show 4 ≠ 6 by omega), done_ne (show 2 ≠ 6 by omega), done_ne (show 5 ≠ 6 by omega)]; exact ⟨h2, h4, h5⟩
  · rw [done_ne (show 4 ≠ 6 by omega), h4] at e; cases e
  · simp [doneAt] at e'
  · rw [← upd_ind, hc]; exact hM
end
set_option maxRecDepth 100000 in
set_option maxHeartbeats 16000000 in
theorem counted_any (A B : Option Addr) (n cap m cap2 : Nat) (F : Nat → Nat → Int) (w : World) (hm : m ≤ 96) (hF : RowsAt w B m 3 F) :
    Calls Tryz.prog 118 #[.agg #[.slice A n cap, .slice B m cap2]] w fun r w' => ∃ b, r = .returned (.map (some b)) ∧ Kept w w' ∧ MapS w' b (3 * m) (fun s => cnt F m s.1 s.2) := by
  have HF := Lib.hid hF
  have IF : ∀ k, k < m → ∀ j, j < 3 → I64 (F k j) := fun k hk j hj => by
    obtain ⟨b, off, -, -, hc⟩ := hF (by omega)
    exact (hc k hk j hj).2
  clear hF
  have hmm := @run_makeMap Tryz.prog
  go_enter Tryz.func118, Tryz.ntmps118
  go_wp2_with fail
  clear hmm
  go_loopw [12] (fun i wr => ∃ k : Nat, k ≤ m ∧ i = .int .i64 k ∧ (∃ y, wr = ext (w.alloc (.cells #[.slice A n cap, .slice B m cap2] 42)) y) ∧ MapS wr (w.heap.size + 1) (3 * k) (fun s => cnt F k s.1 s.2)) (fun i _ => m - (intOf i).toNat)
  case atStart => exact ⟨0, by omega, rfl, show Kept _ _ by (repeat (first | exact Kept.refl _ | assumption | refine Kept.alloc ?_ _ | refine Kept.ext ?_ _ | refine Kept.drew ?_ | refine Kept.drewN ?_ _)), by
    have := MapI.made (P := Tryz.prog) (k := 190) (e := 3) (kv := sideV) (ok := sideOk) (w.alloc (.cells #[.slice A n cap, .slice B m cap2] 42))
    rw [World.size_alloc] at this
    exact this⟩
  case round =>
    obtain ⟨k, hk, rfl, ⟨y, rfl⟩, hM⟩ := hrel
    have HM := Lib.hid hM
    clear hM
    by_cases hlt : k < m
    · obtain ⟨fb, off, rfl, hb, f0, f1, f2⟩ := rows3 HF.out hlt
      have LB : Lower fb w.heap.size := ⟨hb⟩
      go_wp2_with (first | (go_at_call 119; refine (ssides_any _ _ _ _).mono ?_; rintro e w1 ⟨rfl, x, rfl⟩))
      refine wp_loop_rounds 4 ?_
      have hok0 : sideOk (F k 0, F k 1) := ⟨(IF k hlt 0 (by omega)), (IF k hlt 1 (by omega))⟩
      have hok1 : sideOk (F k 1, F k 2) := ⟨(IF k hlt 1 (by omega)), (IF k hlt 2 (by omega))⟩
      have hok2 : sideOk (F k 2, F k 0) := ⟨(IF k hlt 2 (by omega)), (IF k hlt 0 (by omega))⟩
      rw [rounds_succ]
      go_wp2_with fail
      obtain ⟨z0, ce0⟩ : ∃ z : Int, (fun s : Int × Int => cnt F k s.1 s.2) (F k 0, F k 1) = z := ⟨_, rfl⟩
      have cb0 : 0 ≤ z0 ∧ z0 ≤ 3 * (k : Int) + 0 := by
        rw [← ce0]
        have := cnt_bd F (F k 0) (F k 1) k
        dsimp only
        omega
      refine wp_region_tellC (C := fun W => W.cell? ⟨adv (adv (w.heap.size + 1) y.obs.size + 1) x.obs.size, 0, none⟩ = some (.int .i64 (F k 0)) ∧ W.cell? ⟨adv (adv (w.heap.size + 1) y.obs.size + 1) x.obs.size, 1, none⟩ = some (.int .i64 (F k 1)) ∧ adv (adv (w.heap.size + 1) y.obs.size + 1) x.obs.size < W.heap.size) [.q, .q, .k (.int .i64 z0), .q, .s, .s, .k undef] (CntI (w.alloc (.cells #[.slice A n cap, .slice (some ⟨fb, off, none⟩) m cap2] 42)) (w.heap.size + 1) (3 * k) (adv (adv (w.heap.size + 1) y.obs.size + 1) x.obs.size) (F k 0) (F k 1) (fun s : Int × Int => cnt F k s.1 s.2)) (by kernel_rfl) (by kernel_rfl) (fun b => by kernel_rfl) ?_ ?_ ?_ ?_
      · intro b
        exact ⟨by (repeat (first | exact Kept.refl _ | assumption | refine Kept.alloc ?_ _ | refine Kept.ext ?_ _ | refine Kept.drew ?_ | refine Kept.drewN ?_ _)), by go_simp, by go_simp, fun h => (by cases h), fun h => (by cases h), fun _ => HM.out.kept (by (repeat (first | exact Kept.refl _ | assumption | refine Kept.alloc ?_ _ | refine Kept.ext ?_ _ | refine Kept.drew ?_ | refine Kept.drewN ?_ _))), fun h => (by cases h), fun h => (by cases h)⟩
      · intro i L b w' w'' hs hI hk
        exact (hI.on hk).other (by refine ⟨?_, ?_, ?_⟩ <;> (rintro rfl; cases hs))
      · exact fun L b w' h => ⟨h.c0, h.c1, cell_lt h.c0⟩
      apply Exists.intro
      refine ⟨?_, ?_, ?_, ?_⟩
      · intro b W hk
        obtain ⟨k0, k1, k2⟩ := hk
        haveI : Lower (adv (adv (w.heap.size + 1) y.obs.size + 1) x.obs.size) W.heap.size := ⟨k2⟩
        simp only [swapL, Nat.reduceAdd]
        repeat (go_big_quiet_step (fail))
        refine wpQuiet_nil ?_
        rfl
      · simp only [EachS, and_true]
        refine ⟨?_, ?_, ?_, ?_⟩
        · intro L b w' hd hL hI
          obtain ⟨mm, hM2⟩ := hI.look hL hok0
          have hr : (Instr.lookup 187 (.map (some (w.heap.size + 1))) (.agg #[.int .i64 (F k 0), .int .i64 (F k 1)]) false).run Tryz.prog w' = .ok (.int .i64 z0) w' := by
            rw [← ce0]
            exact hM2.run_look (Keyed.of_law lawSide) Tryz.underlying187 Tryz.underlying3 (zeroInt w') (F k 0, F k 1) hok0 (keyOf_side _ hok0)
          clear hd
          go_simp
          exact ⟨rfl, hI.op2 _⟩
        · intro L b w' hd hL hI
          clear hd
          obtain ⟨v, w2, hr, hI2⟩ := hI.op4 hL hok0 (by unfold maxLen; omega) (by simp) (fun e => by have h := HM.out.lt; rw [ext_size, World.size_alloc] at h; unfold adv at h e; omega)
          go_simp
          exact ⟨rfl, hI2⟩
        · intro L b w' hd hL hI
          have d4 : L 4 = true := hd { on := 4, ground := .data } (by simp) rfl
          clear hd
          obtain ⟨v0, st, e1, hI2⟩ := hI.at5 d4 hL
          go_simp
          exact ⟨rfl, hI2⟩
        · intro L b w' hd hL hI
          have d2 : L 2 = true := hd { on := 2, ground := .phase } (by simp) rfl
          have d4 : L 4 = true := hd { on := 4, ground := .phase } (by simp) rfl
          have d5 : L 5 = true := hd { on := 5, ground := .data } (by simp) rfl
          clear hd
          obtain ⟨st, w2, e1, hr, hI2⟩ := hI.op6 d4 d5 d2 hL ce0 (by unfold I64; omega) (by simp) (fun e => by have h := HM.out.lt; rw [ext_size, World.size_alloc] at h; unfold adv at h e; omega)
          go_simp
          exact ⟨rfl, hI2⟩
      · intro b b' d hd
        simp [callSlots, dullOp] at hd
      · intro L b w' hL hI
        have hM1 := hI.m6 (hL 6 (by decide))
        obtain ⟨y1, rfl⟩ := hI.kept
        clear hI hL
        have HM1 := Lib.hid hM1
        clear hM1
        go_wp2_with fail
        rw [rounds_succ]
        go_wp2_with fail
        obtain ⟨z1, ce1⟩ : ∃ z : Int, (fun s : Int × Int => cnt F k s.1 s.2 + ind (F k 0) (F k 1) s.1 s.2) (F k 1, F k 2) = z := ⟨_, rfl⟩
        have cb1 : 0 ≤ z1 ∧ z1 ≤ 3 * (k : Int) + 1 := by
          rw [← ce1]
          have := cnt_bd F (F k 1) (F k 2) k
          have := ind_bd (F k 0) (F k 1) (F k 1) (F k 2)
          dsimp only
          omega
        refine wp_region_tellC (C := fun W => W.cell? ⟨adv (w.heap.size + 1) y1.obs.size, 0, none⟩ = some (.int .i64 (F k 1)) ∧ W.cell? ⟨adv (w.heap.size + 1) y1.obs.size, 1, none⟩ = some (.int .i64 (F k 2)) ∧ adv (w.heap.size + 1) y1.obs.size < W.heap.size) [.q, .q, .k (.int .i64 z1), .q, .s, .s, .k undef] (CntI (w.alloc (.cells #[.slice A n cap, .slice (some ⟨fb, off, none⟩) m cap2] 42)) (w.heap.size + 1) (3 * k + 1) (adv (w.heap.size + 1) y1.obs.size) (F k 1) (F k 2) (fun s : Int × Int => cnt F k s.1 s.2 + ind (F k 0) (F k 1) s.1 s.2)) (by kernel_rfl) (by kernel_rfl) (fun b => by kernel_rfl) ?_ ?_ ?_ ?_
        · intro b
          exact ⟨by (repeat (first | exact Kept.refl _ | assumption | refine Kept.alloc ?_ _ | refine Kept.ext ?_ _ | refine Kept.drew ?_ | refine Kept.drewN ?_ _)), by go_simp, by go_simp, fun h => (by cases h), fun h => (by cases h), fun _ => HM1.out.kept (by (repeat (first | exact Kept.refl _ | assumption | refine Kept.alloc ?_ _ | refine Kept.ext ?_ _ | refine Kept.drew ?_ | refine Kept.drewN ?_ _))), fun h => (by cases h), fun h => (by cases h)⟩
        · intro i L b w' w'' hs hI hk
          exact (hI.on hk).other (by refine ⟨?_, ?_, ?_⟩ <;> (rintro rfl; cases hs))
        · exact fun L b w' h => ⟨h.c0, h.c1, cell_lt h.c0⟩
        apply Exists.intro
        refine ⟨?_, ?_, ?_, ?_⟩
        · intro b W hk
          obtain ⟨k0, k1, k2⟩ := hk
          haveI : Lower (adv (w.heap.size + 1) y1.obs.size) W.heap.size := ⟨k2⟩
          simp only [swapL, Nat.reduceAdd]
          repeat (go_big_quiet_step (fail))
          refine wpQuiet_nil ?_
          rfl
        · simp only [EachS, and_true]
          refine ⟨?_, ?_, ?_, ?_⟩
          · intro L b w' hd hL hI
            obtain ⟨mm, hM2⟩ := hI.look hL hok1
            have hr : (Instr.lookup 187 (.map (some (w.heap.size + 1))) (.agg #[.int .i64 (F k 1), .int .i64 (F k 2)]) false).run Tryz.prog w' = .ok (.int .i64 z1) w' := by
              rw [← ce1]
              exact hM2.run_look (Keyed.of_law lawSide) Tryz.underlying187 Tryz.underlying3 (zeroInt w') (F k 1, F k 2) hok1 (keyOf_side _ hok1)
            clear hd
            go_simp
            exact ⟨rfl, hI.op2 _⟩
          · intro L b w' hd hL hI
            clear hd
            obtain ⟨v, w2, hr, hI2⟩ := hI.op4 hL hok1 (by unfold maxLen; omega) (by simp) (fun e => by have h := HM1.out.lt; rw [ext_size, World.size_alloc] at h; unfold adv at h e; omega)
            go_simp
            exact ⟨rfl, hI2⟩
          · intro L b w' hd hL hI
            have d4 : L 4 = true := hd { on := 4, ground := .data } (by simp) rfl
            clear hd
            obtain ⟨v0, st, e1, hI2⟩ := hI.at5 d4 hL
            go_simp
            exact ⟨rfl, hI2⟩
          · intro L b w' hd hL hI
            have d2 : L 2 = true := hd { on := 2, ground := .phase } (by simp) rfl
            have d4 : L 4 = true := hd { on := 4, ground := .phase } (by simp) rfl
            have d5 : L 5 = true := hd { on := 5, ground := .data } (by simp) rfl
            clear hd
            obtain ⟨st, w2, e1, hr, hI2⟩ := hI.op6 d4 d5 d2 hL ce1 (by unfold I64; omega) (by simp) (fun e => by have h := HM1.out.lt; rw [ext_size, World.size_alloc] at h; unfold adv at h e; omega)
            go_simp
            exact ⟨rfl, hI2⟩
        · intro b b' d hd
          simp [callSlots, dullOp] at hd
        · intro L b w' hL hI
          have hM1 := hI.m6 (hL 6 (by decide))
          obtain ⟨y2, rfl⟩ := hI.kept
          clear hI hL
          have HM2 := Lib.hid hM1
          clear hM1
          go_wp2_with fail
          rw [rounds_succ]
          go_wp2_with fail
          obtain ⟨z2, ce2⟩ : ∃ z : Int, (fun s : Int × Int => cnt F k s.1 s.2 + ind (F k 0) (F k 1) s.1 s.2 + ind (F k 1) (F k 2) s.1 s.2) (F k 2, F k 0) = z := ⟨_, rfl⟩
          have cb2 : 0 ≤ z2 ∧ z2 ≤ 3 * (k : Int) + 2 := by
            rw [← ce2]
            have := cnt_bd F (F k 2) (F k 0) k
            have := ind_bd (F k 0) (F k 1) (F k 2) (F k 0)
            have := ind_bd (F k 1) (F k 2) (F k 2) (F k 0)
            dsimp only
            omega
          refine wp_region_tellC (C := fun W => W.cell? ⟨adv (w.heap.size + 1) y2.obs.size, 0, none⟩ = some (.int .i64 (F k 2)) ∧ W.cell? ⟨adv (w.heap.size + 1) y2.obs.size, 1, none⟩ = some (.int .i64 (F k 0)) ∧ adv (w.heap.size + 1) y2.obs.size < W.heap.size) [.q, .q, .k (.int .i64 z2), .q, .s, .s, .k undef] (CntI (w.alloc (.cells #[.slice A n cap, .slice (some ⟨fb, off, none⟩) m cap2] 42)) (w.heap.size + 1) (3 * k + 2) (adv (w.heap.size + 1) y2.obs.size) (F k 2) (F k 0) (fun s : Int × Int => cnt F k s.1 s.2 + ind (F k 0) (F k 1) s.1 s.2 + ind (F k 1) (F k 2) s.1 s.2)) (by kernel_rfl) (by kernel_rfl) (fun b => by kernel_rfl) ?_ ?_ ?_ ?_
          · intro b
            exact ⟨by (repeat (first | exact Kept.refl _ | assumption | refine Kept.alloc ?_ _ | refine Kept.ext ?_ _ | refine Kept.drew ?_ | refine Kept.drewN ?_ _)), by go_simp, by go_simp, fun h => (by cases h), fun h => (by cases h), fun _ => HM2.out.kept (by (repeat (first | exact Kept.refl _ | assumption | refine Kept.alloc ?_ _ | refine Kept.ext ?_ _ | refine Kept.drew ?_ | refine Kept.drewN ?_ _))), fun h => (by cases h), fun h => (by cases h)⟩
          · intro i L b w' w'' hs hI hk
            exact (hI.on hk).other (by refine ⟨?_, ?_, ?_⟩ <;> (rintro rfl; cases hs))
          · exact fun L b w' h => ⟨h.c0, h.c1, cell_lt h.c0⟩
          apply Exists.intro
          refine ⟨?_, ?_, ?_, ?_⟩
          · intro b W hk
            obtain ⟨k0, k1, k2⟩ := hk
            haveI : Lower (adv (w.heap.size + 1) y2.obs.size) W.heap.size := ⟨k2⟩
            simp only [swapL, Nat.reduceAdd]
            repeat (go_big_quiet_step (fail))
            refine wpQuiet_nil ?_
            rfl
          · simp only [EachS, and_true]
            refine ⟨?_, ?_, ?_, ?_⟩
            · intro L b w' hd hL hI
              obtain ⟨mm, hM2⟩ := hI.look hL hok2
              have hr : (Instr.lookup 187 (.map (some (w.heap.size + 1))) (.agg #[.int .i64 (F k 2), .int .i64 (F k 0)]) false).run Tryz.prog w' = .ok (.int .i64 z2) w' := by
                rw [← ce2]
                exact hM2.run_look (Keyed.of_law lawSide) Tryz.underlying187 Tryz.underlying3 (zeroInt w') (F k 2, F k 0) hok2 (keyOf_side _ hok2)
              clear hd
              go_simp
              exact ⟨rfl, hI.op2 _⟩
            · intro L b w' hd hL hI
              clear hd
              obtain ⟨v, w2, hr, hI2⟩ := hI.op4 hL hok2 (by unfold maxLen; omega) (by simp) (fun e => by have h := HM2.out.lt; rw [ext_size, World.size_alloc] at h; unfold adv at h e; omega)
              go_simp
              exact ⟨rfl, hI2⟩
            · intro L b w' hd hL hI
              have d4 : L 4 = true := hd { on := 4, ground := .data } (by simp) rfl
              clear hd
              obtain ⟨v0, st, e1, hI2⟩ := hI.at5 d4 hL
              go_simp
              exact ⟨rfl, hI2⟩
            · intro L b w' hd hL hI
              have d2 : L 2 = true := hd { on := 2, ground := .phase } (by simp) rfl
              have d4 : L 4 = true := hd { on := 4, ground := .phase } (by simp) rfl
              have d5 : L 5 = true := hd { on := 5, ground := .data } (by simp) rfl
              clear hd
              obtain ⟨st, w2, e1, hr, hI2⟩ := hI.op6 d4 d5 d2 hL ce2 (by unfold I64; omega) (by simp) (fun e => by have h := HM2.out.lt; rw [ext_size, World.size_alloc] at h; unfold adv at h e; omega)
              go_simp
              exact ⟨rfl, hI2⟩
          · intro b b' d hd
            simp [callSlots, dullOp] at hd
          · intro L b w' hL hI
            have hM1 := hI.m6 (hL 6 (by decide))
            obtain ⟨y3, rfl⟩ := hI.kept
            clear hI hL
            have HM3 := Lib.hid hM1
            clear hM1
            go_wp2_with fail
            rw [rounds_succ]
            go_wp2_with fail
            go_roundw
            case rel => exact ⟨k + 1, by omega, by go_num, ⟨y3, rfl⟩, (by
              have h := HM3.out
              rw [show 3 * (k + 1) = 3 * k + 2 + 1 by omega]
              exact h)⟩
            case measure => simp [intOf]; omega
    · obtain rfl : k = m := by omega
      go_wp2_with fail
      go_ret
      exact ⟨_, rfl, by (repeat (first | exact Kept.refl _ | assumption | refine Kept.alloc ?_ _ | refine Kept.ext ?_ _ | refine Kept.drew ?_ | refine Kept.drewN ?_ _)), HM.out⟩
end Go.Proofs.YtnbjealpcjfllaaGreatDoor
namespace Go.Proofs.YtnbjealpcjfllaaGreatDoor
set_option linter.unusedVariables false
set_option linter.unusedSimpArgs false
open Go.RowKit Go.Maps
abbrev MapP (w : World) (b n : Nat) (c : Int × Int × Int → Bool) : Prop := MapB Tryz.prog 136 4 ptV ptOk w b n c
/-- The points seen so far. -/
def seenF (P : Nat → Nat → Int) (k : Nat) (s : Int × Int × Int) : Bool := (List.range k).any fun i => decide (s = (P i 0, P i 1, P i 2))
theorem seenF_eq (P : Nat → Nat → Int) (k : Nat) : seenF P k (P k 0, P k 1, P k 2) = (List.range k).any fun i => eqPt P k i := by
  unfold seenF
  congr 1
  funext i
  unfold eqPt
  rw [Bool.eq_iff_iff]
  simp
theorem seenF_succ (P : Nat → Nat → Int) (k : Nat) : (fun j => if j = (P k 0, P k 1, P k 2) then true else seenF P k j) = seenF P (k + 1) := by
  funext j
  unfold seenF
  rw [List.range_succ, List.any_append]
  by_cases h : j = (P k 0, P k 1, P k 2)
  · rw [if_pos h]; simp [h]
  · rw [if_neg h]; simp [h]
def ptsE (P : Nat → Nat → Int) (n : Nat) : Int := if ptsBad P n = true then 1 else 0
theorem ptsE_bad {P : Nat → Nat → Int} {n k : Nat} (hk : k < n) (h : ptBad P k = true) : ptsE P n = 1 := if_pos (any_true hk h)
theorem ptsE_ok {P : Nat → Nat → Int} {n : Nat} (h : ∀ k, k < n → ptBad P k = false) : ptsE P n = 0 := if_neg (by unfold ptsBad; rw [any_false h]; simp)
set_option maxRecDepth 100000 in
set_option maxHeartbeats 16000000 in
theorem spoints_any (A B : Option Addr) (n cap m cap2 : Nat) (P : Nat → Nat → Int) (w : World) (hn : n ≤ 64) (hP : RowsAt w A n 3 P) :
    Calls Tryz.prog 116 #[.agg #[.slice A n cap, .slice B m cap2]] w fun r w' => r = .returned (.int .i64 (ptsE P n)) ∧ Kept w w' := by
  have HP := Lib.hid hP
  have IP : ∀ k, k < n → ∀ j, j < 3 → I64 (P k j) := fun k hk j hj => by
    obtain ⟨b, off, -, -, hc⟩ := hP (by omega)
    exact (hc k hk j hj).2
  clear hP
  have hmm := @run_makeMap Tryz.prog
  go_enter Tryz.func116, Tryz.ntmps116
  go_wp2_with fail
  clear hmm
  go_loopw [10] (fun i wr => ∃ k : Nat, k ≤ n ∧ i = .int .i64 k ∧ (∀ i, i < k → ptBad P i = false) ∧ (∃ y, wr = ext (w.alloc (.cells #[.slice A n cap, .slice B m cap2] 42)) y) ∧ MapP wr (w.heap.size + 1) k (seenF P k)) (fun i _ => n - (intOf i).toNat)
  case atStart => exact ⟨0, by omega, rfl, fun i h => by omega, show Kept _ _ by (repeat (first | exact Kept.refl _ | assumption | refine Kept.alloc ?_ _ | refine Kept.ext ?_ _ | refine Kept.drew ?_ | refine Kept.drewN ?_ _)), by
    have := MapB.made (P := Tryz.prog) (k := 136) (e := 4) (kv := ptV) (ok := ptOk) (w.alloc (.cells #[.slice A n cap, .slice B m cap2] 42))
    rw [World.size_alloc] at this
    exact this⟩
  case round =>
    obtain ⟨k, hk, rfl, hgood, ⟨y, rfl⟩, hM⟩ := hrel
    have HM := Lib.hid hM
    have HG := Lib.hid hgood
    clear hM hgood
    by_cases hlt : k < n
    · obtain ⟨fb, off, rfl, hb, f0, f1, f2⟩ := rows3 HP.out hlt
      have LB : Lower fb w.heap.size := ⟨hb⟩
      have hok : ptOk (P k 0, P k 1, P k 2) := ⟨IP k hlt 0 (by omega), IP k hlt 1 (by omega), IP k hlt 2 (by omega)⟩
      cases hin : inB (P k 0) (P k 1) (P k 2) 64
      · have hbad := ptsE_bad (n := n) hlt (show ptBad P k = true by unfold ptBad; rw [hin]; rfl)
        go_wp2_with (first | (go_at_call 174; refine (inRange_any _ _ _ _ _ (by omega)).mono ?_; rintro e w1 ⟨rfl, x, rfl⟩))
        go_ret
        rw [hbad]
        exact ⟨rfl, by (repeat (first | exact Kept.refl _ | assumption | refine Kept.alloc ?_ _ | refine Kept.ext ?_ _ | refine Kept.drew ?_ | refine Kept.drewN ?_ _))⟩
      · cases hs : seenF P k (P k 0, P k 1, P k 2)
        · go_wp2_with (first | (go_at_call 174; refine (inRange_any _ _ _ _ _ (by omega)).mono ?_; rintro e w1 ⟨rfl, x, rfl⟩) | (at_lookup; refine wp_lookB _ rfl _ _ _ rfl (Keyed.of_law lawPoint) Tryz.underlying245 Tryz.underlying4 (zeroBool _) (w.heap.size + 1) k (seenF P k) (HM.out.kept (by (repeat (first | exact Kept.refl _ | assumption | refine Kept.alloc ?_ _ | refine Kept.ext ?_ _ | refine Kept.drew ?_ | refine Kept.drewN ?_ _)))) (P k 0, P k 1, P k 2) rfl rfl hok (keyOf_pt _ hok) ?_; simp only [hs]) | (at_mapUpdate; refine wp_putB _ rfl _ _ _ _ rfl (Keyed.of_law lawPoint) Tryz.underlying245 Tryz.underlying4 (w.heap.size + 1) k (seenF P k) (HM.out.kept (by (repeat (first | exact Kept.refl _ | assumption | refine Kept.alloc ?_ _ | refine Kept.ext ?_ _ | refine Kept.drew ?_ | refine Kept.drewN ?_ _)))) (by unfold maxLen; omega) (P k 0, P k 1, P k 2) true rfl rfl rfl (keyOf_pt _ hok) (fun j e => ptV_inj _ _ e) ?_; intro w2 hM2 hg2))
          rw [seenF_succ] at hM2
          have hk2 : Kept (w.alloc (.cells #[.slice (some ⟨fb, off, none⟩) n cap, .slice B m cap2] 42)) w2 := Kept.map_store (by (repeat (first | exact Kept.refl _ | assumption | refine Kept.alloc ?_ _ | refine Kept.ext ?_ _ | refine Kept.drew ?_ | refine Kept.drewN ?_ _))) (by simp) hg2
          go_roundw
          case rel => exact ⟨k + 1, by omega, by go_num, fun i hi => by
            by_cases e : i = k
            · subst e
              unfold ptBad
              rw [hin, ← seenF_eq, hs]
              rfl
            · exact HG.out i (by omega), hk2, hM2⟩
          case measure => simp [intOf]; omega
        · have hbad := ptsE_bad (n := n) hlt (show ptBad P k = true by unfold ptBad; rw [hin, ← seenF_eq, hs]; rfl)
          go_wp2_with (first | (go_at_call 174; refine (inRange_any _ _ _ _ _ (by omega)).mono ?_; rintro e w1 ⟨rfl, x, rfl⟩) | (at_lookup; refine wp_lookB _ rfl _ _ _ rfl (Keyed.of_law lawPoint) Tryz.underlying245 Tryz.underlying4 (zeroBool _) (w.heap.size + 1) k (seenF P k) (HM.out.kept (by (repeat (first | exact Kept.refl _ | assumption | refine Kept.alloc ?_ _ | refine Kept.ext ?_ _ | refine Kept.drew ?_ | refine Kept.drewN ?_ _)))) (P k 0, P k 1, P k 2) rfl rfl hok (keyOf_pt _ hok) ?_; simp only [hs]))
          go_ret
          rw [hbad]
          exact ⟨rfl, by (repeat (first | exact Kept.refl _ | assumption | refine Kept.alloc ?_ _ | refine Kept.ext ?_ _ | refine Kept.drew ?_ | refine Kept.drewN ?_ _))⟩
    · obtain rfl : k = n := by omega
      have hgood := ptsE_ok HG.out
      go_wp2_with fail
      go_ret
      rw [hgood]
      exact ⟨rfl, by (repeat (first | exact Kept.refl _ | assumption | refine Kept.alloc ?_ _ | refine Kept.ext ?_ _ | refine Kept.drew ?_ | refine Kept.drewN ?_ _))⟩
end Go.Proofs.YtnbjealpcjfllaaGreatDoor
namespace Go.Proofs.YtnbjealpcjfllaaGreatDoor
set_option linter.unusedVariables false
set_option linter.unusedSimpArgs false
open Go.RowKit
/-- The cells of the panels. -/
def pnF (P F : Nat → Nat → Int) (i j : Nat) : Int := co P F i (j / 3) (j % 3)
theorem pnF_row (P F : Nat → Nat → Int) (i : Nat) : ((List.range 9).map fun j => Value.int .i64 (pnF P F i j)) = [.int .i64 (co P F i 0 0), .int .i64 (co P F i 0 1), .int .i64 (co P F i 0 2), .int .i64 (co P F i 1 0), .int .i64 (co P F i 1 1), .int .i64 (co P F i 1 2), .int .i64 (co P F i 2 0), .int .i64 (co P F i 2 1), .int .i64 (co P F i 2 2)] := rfl
theorem rowC_next (c : Nat) (f : Nat → Nat → Int) (n : Nat) : rowC c f (n + 1) = rowC c f n ++ (List.range c).map fun j => Value.int .i64 (f n j) := rfl
theorem own_sl {w : World} {base size n : Nat} {e : TypeId} {v : Value} {xs : List Value} (h : w.ownsRow base e size v n xs) : ∃ A cp, v = .slice A n cp ∧ n ≤ cp := by
  rcases h.2 with ⟨rfl, rfl⟩ | ⟨g, cap, cur, rfl, -, -, h1, -⟩
  · exact ⟨_, _, rfl, Nat.le_refl _⟩
  · exact ⟨_, _, rfl, h1⟩
theorem own_lower {w : World} {base base' size n : Nat} {e : TypeId} {v : Value} {xs : List Value} (h : w.ownsRow base e size v n xs) (hb : base' ≤ base) : w.ownsRow base' e size v n xs := by
  refine ⟨h.1, ?_⟩
  rcases h.2 with h0 | ⟨g, cap, cur, rfl, h1, h2, h3⟩
  · exact .inl h0
  · exact .inr ⟨g, cap, cur, rfl, Nat.le_trans hb h1, h2, h3⟩
theorem pnF_I {P F : Nat → Nat → Int} {n m : Nat} (hP : ∀ k, k < n → ∀ j, j < 3 → I64 (P k j)) (hc : ∀ i, i < m → cornB n F i = true) : ∀ k, k < m → ∀ j, j < 9 → I64 (pnF P F k j) := by
  intro k hk j hj
  obtain ⟨c0, c1, c2⟩ := cornB_true (hc k hk)
  unfold pnF co
  have h3 : j % 3 < 3 := Nat.mod_lt _ (by omega)
  rcases (show j / 3 = 0 ∨ j / 3 = 1 ∨ j / 3 = 2 by omega) with e | e | e
  · rw [e]; exact hP _ (by omega) _ h3
  · rw [e]; exact hP _ (by omega) _ h3
  · rw [e]; exact hP _ (by omega) _ h3
theorem infoPanel : (Tryz.prog.info? 207).map (fun i => (i.zero, i.size, i.bytes)) = some (some (.agg #[.int .i64 0, .int .i64 0, .int .i64 0, .int .i64 0, .int .i64 0, .int .i64 0, .int .i64 0, .int .i64 0, .int .i64 0]), 9, 72) := by kernel_rfl
theorem rows_I {w : World} {A : Option Addr} {n c : Nat} {f : Nat → Nat → Int} (h : RowsAt w A n c f) : ∀ k, k < n → ∀ j, j < c → I64 (f k j) := fun k hk j hj => by
  obtain ⟨b, off, -, -, hc⟩ := h (by omega)
  exact (hc k hk j hj).2
theorem alloc_now (w : World) (o : Obj) (n : Nat) [h : SizeIs w n] : (w.alloc o).heap[n]? = some o := by
  have e := h.eq
  subst e
  exact heap_alloc_new w o
set_option maxRecDepth 100000 in
set_option maxHeartbeats 16000000 in
theorem spanels_any (A B : Option Addr) (n cap m cap2 : Nat) (P F : Nat → Nat → Int) (w : World) (hm : m ≤ 96) (hn : n ≤ 9223372036854775807) (hc : ∀ i, i < m → cornB n F i = true) (hP : RowsAt w A n 3 P) (hF : RowsAt w B m 3 F) :
    Calls Tryz.prog 177 #[.agg #[.slice A n cap, .slice B m cap2]] w fun r w' => ∃ v, r = .returned v ∧ Kept w w' ∧ w'.ownsRow w.heap.size 207 9 v m (rowC 9 (pnF P F) m) := by
  have HP := Lib.hid hP
  have HF := Lib.hid hF
  have HC := Lib.hid hc
  clear hP hF hc
  obtain ⟨i0, hi, hz0, hz1, hz2⟩ := info_parts infoPanel
  have HI := Lib.hid (And.intro hi (And.intro hz0 (And.intro hz1 hz2)))
  clear hi hz0 hz1 hz2
  go_enter Tryz.func177, Tryz.ntmps177
  go_wp2_with fail
  go_loopw [3, 9] (fun v i wr => ∃ k : Nat, k ≤ m ∧ i = .int .i64 k ∧ (∃ y, wr = ext (w.alloc (.cells #[.slice A n cap, .slice B m cap2] 42)) y) ∧ wr.ownsRow (w.heap.size + 1) 207 9 v k (rowC 9 (pnF P F) k)) (fun _ i _ => m - (intOf i).toNat)
  case atStart => exact ⟨0, by omega, rfl, show Kept _ _ by (repeat (first | exact Kept.refl _ | assumption | refine Kept.alloc ?_ _ | refine Kept.ext ?_ _ | refine Kept.drew ?_ | refine Kept.drewN ?_ _)), ⟨rfl, .inl ⟨rfl, rfl⟩⟩⟩
  case round =>
    obtain ⟨k, hk, rfl, ⟨y, rfl⟩, hown⟩ := hrel
    obtain ⟨A2, cp2, rfl, hcp⟩ := own_sl hown
    have HO := Lib.hid hown
    clear hown
    by_cases hlt : k < m
    · obtain ⟨fb, off, rfl, hb, f0, f1, f2⟩ := rows3 HF.out hlt
      have LB : Lower fb w.heap.size := ⟨hb⟩
      have hcB := HC.out k hlt
      go_wp2_with (first | (go_at_call 176; refine (spanelF_any _ _ _ _ _ _ P F k _ hcB hn (HP.out.of (by (repeat (first | exact Kept.refl _ | assumption | refine Kept.alloc ?_ _ | refine Kept.ext ?_ _ | refine Kept.drew ?_ | refine Kept.drewN ?_ _))))).mono ?_; rintro e w1 ⟨rfl, x, rfl⟩; unfold faceV) | (at_builtin; refine wpList_append_lies _ rfl _ _ _ rfl (w.heap.size + 1) 207 i0 _ 9 72 Tryz.underlying247 HI.out.1 HI.out.2.1 HI.out.2.2.1 HI.out.2.2.2 rfl (by omega) _ k (rowC 9 (pnF P F) k) rfl (owns_kept HO.out (by (repeat (first | exact Kept.refl _ | assumption | refine Kept.alloc ?_ _ | refine Kept.ext ?_ _ | refine Kept.drew ?_ | refine Kept.drewN ?_ _)))) _ 1 1 [.int .i64 (co P F k 0 0), .int .i64 (co P F k 0 1), .int .i64 (co P F k 0 2), .int .i64 (co P F k 1 0), .int .i64 (co P F k 1 1), .int .i64 (co P F k 1 2), .int .i64 (co P F k 2 0), .int .i64 (co P F k 2 1), .int .i64 (co P F k 2 2)] rfl rfl (World.news_of_block (alloc_now _ _ _)) (by simp [Value.oneCell']) (by omega) (by unfold maxLen; omega) (by omega) (by simp [adv]; omega) _ rfl ?_; intro g cp w2 hown2 hg2 hat hlt2))
      have hk2 : Kept (w.alloc (.cells #[.slice A n cap, .slice (some ⟨fb, off, none⟩) m cap2] 42)) w2 := by
        refine kept_grown (base := w.heap.size + 1) ?_ (owns_kept HO.out ?_) (by simp) hg2
        · (repeat (first | exact Kept.refl _ | assumption | refine Kept.alloc ?_ _ | refine Kept.ext ?_ _ | refine Kept.drew ?_ | refine Kept.drewN ?_ _))
        · (repeat (first | exact Kept.refl _ | assumption | refine Kept.alloc ?_ _ | refine Kept.ext ?_ _ | refine Kept.drew ?_ | refine Kept.drewN ?_ _))
      have e9 : rowC 9 (pnF P F) (k + 1) = rowC 9 (pnF P F) k ++ [.int .i64 (co P F k 0 0), .int .i64 (co P F k 0 1), .int .i64 (co P F k 0 2), .int .i64 (co P F k 1 0), .int .i64 (co P F k 1 1), .int .i64 (co P F k 1 2), .int .i64 (co P F k 2 0), .int .i64 (co P F k 2 1), .int .i64 (co P F k 2 2)] := by rw [rowC_next, pnF_row]
      go_roundw
      case rel => exact ⟨k + 1, by omega, by go_num, hk2, by rw [e9]; exact hown2⟩
      case measure => simp [intOf]; omega
    · obtain rfl : k = m := by omega
      go_wp2_with fail
      go_ret
      refine ⟨_, rfl, by (repeat (first | exact Kept.refl _ | assumption | refine Kept.alloc ?_ _ | refine Kept.ext ?_ _ | refine Kept.drew ?_ | refine Kept.drewN ?_ _)), ?_⟩
      exact own_lower (owns_kept HO.out (by (repeat (first | exact Kept.refl _ | assumption | refine Kept.alloc ?_ _ | refine Kept.ext ?_ _ | refine Kept.drew ?_ | refine Kept.drewN ?_ _)))) (Nat.le_succ _)
/-- Panel k of a list of panels, read. -/
theorem panel_at {w : World} {A : Option Addr} {m k : Nat} {P F : Nat → Nat → Int} (h : RowsAt w A m 9 (pnF P F)) (hk : k < m) :
    ∃ b off, A = some ⟨b, off, none⟩ ∧ b < w.heap.size ∧ w.cell? ⟨b, off + k * 9, none⟩ = some (.int .i64 (co P F k 0 0)) ∧ w.cell? ⟨b, off + k * 9 + 1, none⟩ = some (.int .i64 (co P F k 0 1)) ∧ w.cell? ⟨b, off + k * 9 + 2, none⟩ = some (.int .i64 (co P F k 0 2)) ∧
      w.cell? ⟨b, off + k * 9 + 3, none⟩ = some (.int .i64 (co P F k 1 0)) ∧ w.cell? ⟨b, off + k * 9 + 4, none⟩ = some (.int .i64 (co P F k 1 1)) ∧ w.cell? ⟨b, off + k * 9 + 5, none⟩ = some (.int .i64 (co P F k 1 2)) ∧
      w.cell? ⟨b, off + k * 9 + 6, none⟩ = some (.int .i64 (co P F k 2 0)) ∧ w.cell? ⟨b, off + k * 9 + 7, none⟩ = some (.int .i64 (co P F k 2 1)) ∧ w.cell? ⟨b, off + k * 9 + 8, none⟩ = some (.int .i64 (co P F k 2 2)) := by
  obtain ⟨b, off, rfl, hb, hc⟩ := h (by omega)
  have h0 := (hc k hk 0 (by omega)).1
  rw [Nat.add_zero] at h0
  exact ⟨b, off, rfl, hb, h0, (hc k hk 1 (by omega)).1, (hc k hk 2 (by omega)).1, (hc k hk 3 (by omega)).1, (hc k hk 4 (by omega)).1, (hc k hk 5 (by omega)).1, (hc k hk 6 (by omega)).1, (hc k hk 7 (by omega)).1, (hc k hk 8 (by omega)).1⟩
set_option maxRecDepth 100000 in
set_option maxHeartbeats 16000000 in
theorem svolume_any (A B : Option Addr) (n cap m cap2 : Nat) (P F : Nat → Nat → Int) (w : World) (hm : m ≤ 96) (hn : n ≤ 9223372036854775807) (hb : ptsBad P n = false) (hc : ∀ i, i < m → cornB n F i = true) (hP : RowsAt w A n 3 P) (hF : RowsAt w B m 3 F) :
    Calls Tryz.prog 121 #[.agg #[.slice A n cap, .slice B m cap2]] w fun r w' => r = .returned (.int .i64 (vol P F m)) ∧ Kept w w' := by
  have HP := Lib.hid hP
  have HF := Lib.hid hF
  have HC := Lib.hid hc
  clear hP hF hc
  go_enter Tryz.func121, Tryz.ntmps121
  go_wp2_with fail
  refine (spanels_any _ _ _ _ _ _ P F _ hm hn HC.out (HP.out.of (by (repeat (first | exact Kept.refl _ | assumption | refine Kept.alloc ?_ _ | refine Kept.ext ?_ _ | refine Kept.drew ?_ | refine Kept.drewN ?_ _)))) (HF.out.of (by (repeat (first | exact Kept.refl _ | assumption | refine Kept.alloc ?_ _ | refine Kept.ext ?_ _ | refine Kept.drew ?_ | refine Kept.drewN ?_ _))))).mono ?_
  rintro r w1 ⟨v, rfl, ⟨x, rfl⟩, hown⟩
  obtain ⟨A2, cp, rfl, hcp⟩ := own_sl hown
  have HR := Lib.hid (rows_of_owns hown (pnF_I (rows_I HP.out) HC.out))
  clear hown
  go_wp2_with fail
  go_loopw [3, 9] (fun v i wr => ∃ k : Nat, k ≤ m ∧ v = .int .i64 (vol P F k) ∧ i = .int .i64 k ∧ (∃ y, wr = ext (ext (w.alloc (.cells #[.slice A n cap, .slice B m cap2] 42)) x) y)) (fun _ i _ => m - (intOf i).toNat)
  case atStart => exact ⟨0, by omega, rfl, rfl, show Kept _ _ by (repeat (first | exact Kept.refl _ | assumption | refine Kept.alloc ?_ _ | refine Kept.ext ?_ _ | refine Kept.drew ?_ | refine Kept.drewN ?_ _))⟩
  case round =>
    obtain ⟨k, hk, rfl, rfl, y, rfl⟩ := hrel
    by_cases hlt : k < m
    · obtain ⟨fb, off, rfl, hfb, f0, f1, f2, f3, f4, f5, f6, f7, f8⟩ := panel_at HR.out hlt
      have LB : Lower fb (adv (w.heap.size + 1) x.obs.size) := ⟨by simpa using hfb⟩
      obtain ⟨c0, c1, c2⟩ := cornB_true (HC.out k hlt)
      have b0 := co_bd hb c0
      have b1 := co_bd hb c1
      have b2 := co_bd hb c2
      have b3 := prF_bd hb (HC.out k hlt)
      have b4 := vol_bd hb HC.out k hk
      clear c0 c1 c2 hfb
      unfold prF at b3
      go_wp2_with (first | (go_at_call 178; refine (sproduct_any _ _ _ _ _ _ _ _ _ _ (by omega)).mono ?_; rintro e w1 ⟨rfl, x, rfl⟩))
      go_roundw
      case rel => exact ⟨k + 1, by omega, rfl, by go_num, show Kept _ _ by (repeat (first | exact Kept.refl _ | assumption | refine Kept.alloc ?_ _ | refine Kept.ext ?_ _ | refine Kept.drew ?_ | refine Kept.drewN ?_ _))⟩
      case measure => simp [intOf]; omega
    · obtain rfl : k = m := by omega
      go_wp2_with fail
      go_ret
      exact ⟨rfl, by (repeat (first | exact Kept.refl _ | assumption | refine Kept.alloc ?_ _ | refine Kept.ext ?_ _ | refine Kept.drew ?_ | refine Kept.drewN ?_ _))⟩
end Go.Proofs.YtnbjealpcjfllaaGreatDoor
namespace Go.Proofs.YtnbjealpcjfllaaGreatDoor
set_option linter.unusedVariables false
set_option linter.unusedSimpArgs false
open Go.RowKit
/-- Block ub holds n bools, u j at place j. -/
structure RowU (w : World) (ub n : Nat) (u : Nat → Bool) : Prop where
  cell : ∀ j, j < n → w.cell? ⟨ub, j, none⟩ = some (.bool (u j))
  froz : ∀ j, j < n → w.frozen? ⟨ub, j, none⟩ = false
  lt : ub < w.heap.size
theorem RowU.kept {w w' : World} {ub n : Nat} {u : Nat → Bool} (h : RowU w ub n u) (hk : Kept w w') : RowU w' ub n u := by
  obtain ⟨x, rfl⟩ := hk
  have L : Lower ub w.heap.size := ⟨h.lt⟩
  exact ⟨fun j hj => by rw [ext_cell]; exact h.cell j hj, fun j hj => by rw [ext_frozen]; exact h.froz j hj, by rw [ext_size]; exact Nat.lt_of_lt_of_le h.lt (adv_le _ _)⟩
theorem RowU.congr {w : World} {ub n : Nat} {u v : Nat → Bool} (h : RowU w ub n u) (he : ∀ j, j < n → u j = v j) : RowU w ub n v :=
  ⟨fun j hj => by rw [h.cell j hj, he j hj], h.froz, h.lt⟩
theorem RowU.made (w : World) (n : Nat) (e : TypeId) : RowU (w.alloc (.cells (madeCells #[.bool false] n) e)) w.heap.size n fun _ => false := by
  refine ⟨fun j hj => ?_, fun j hj => ?_, by simp⟩
  · unfold World.cell?
    simp only [heap_alloc_new]
    simp [madeCells, hj, Nat.mod_one]
  · unfold World.frozen?
    simp only [heap_alloc_new]
    simp
theorem RowU.stored {w : World} {ub n : Nat} {u : Nat → Bool} (h : RowU w ub n u) (j : Nat) (hj : j < n) (b : Bool) :
    RowU (w.setCell ⟨ub, j, none⟩ (.bool b)) ub n (fun i => if i = j then b else u i) ∧ w.grownBy (w.setCell ⟨ub, j, none⟩ (.bool b)) (some ub) := by
  refine ⟨⟨fun i hi => ?_, fun i hi => ?_, by simpa using h.lt⟩, ⟨rfl, rfl, rfl, by simp, fun k _ hk => heap_setCell_other w ⟨ub, j, none⟩ k _ (fun e => hk (by simp [e]))⟩⟩
  · by_cases e : i = j
    · subst e
      rw [if_pos rfl]
      exact World.cell?_setCell_same _ _ _ (h.cell i hi)
    · rw [if_neg e, World.cell?_setCell_other (h := fun q => by injection q with _ q2; exact e q2.symm)]
      exact h.cell i hi
  · rw [World.frozen?_setCell]
    exact h.froz i hi
theorem wp_putU (w : World) {ops : Array Oper} {rest : List Oper} {o : Oper} {a : Act} {Q : Exit → Act → World → Prop}
    (hg : o.guard = none) (x v : Operand) (hop : o.op = Op.store 4 x v) (ub n : Nat) (u : Nat → Bool) (hU : RowU w ub n u) (j : Nat) (b : Bool)
    (hx : a.eval x = .pointer (some ⟨ub, j, none⟩)) (hv : a.eval v = .bool b) (hj : j < n)
    (hK : ∀ w', RowU w' ub n (fun i => if i = j then b else u i) → w.grownBy w' (some ub) → wpList Tryz.prog ops Q rest (a.put o.dst undef) w') : wpList Tryz.prog ops Q (o :: rest) a w := by
  refine wpList_plain hg fun K' hK' => ?_
  obtain ⟨h1, h2⟩ := hU.stored j hj b
  have hc := hU.cell j hj
  have hf := hU.froz j hj
  have := hK' _ _ (hK _ h1 h2)
  clear hK hK' h1 h2
  obtain ⟨dst, op, type, pos, after, guard⟩ := o
  simp only at hop
  subst hop
  unfold Oper.wp
  simp only [execOp, hx, hv]
  go_simp
  exact this
end Go.Proofs.YtnbjealpcjfllaaGreatDoor
