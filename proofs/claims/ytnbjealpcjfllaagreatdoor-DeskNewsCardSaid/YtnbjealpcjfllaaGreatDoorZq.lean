/- Contract: a shape of a desk is proved with even charges, of the program. Conditions: the desk lies in memory. -/
import Derived.Test.YtnbjealpcjfllaaGreatDoorZb
import Derived.Test.YtnbjealpcjfllaaGreatDoorZd
import Derived.Test.YtnbjealpcjfllaaGreatDoorZk
namespace Go.Proofs.YtnbjealpcjfllaaGreatDoor
set_option linter.unusedVariables false
set_option linter.unusedSimpArgs false
open Go.ChangeShapes Go.WideShapes Go.ChangeAt Go.RowKit Go.Deep
/-- The bounds by even charges. -/
def evnB (s : Shp) (d : Int) : R := bndS s.n s.P s.m s.F s.m (fun _ => 1) d
/-- Why a proof is refused; k: how many times the work is asked. -/
def prvE (D : Dsk) (nm : List UInt8) (k : Int) (d : Int) (C : Shp → R) : Int :=
  if idxS D.shapes nm 0 < 0 then 5 else
  match D.shapes[(idxS D.shapes nm 0).toNat]? with
  | none => 5
  | some s => if workE s.n s.P s.m s.F d ≠ 0 then workE s.n s.P s.m s.F d else if D.left < workS s.n s.P s.m s.F d * k then 13 else if 16 ≤ s.prs.length then 4 else (C s).e
/-- The shape with one proof more. -/
def Shp.more (s : Shp) (p : Crp) : Shp := { s with lo := (meetL ((s.prs ++ [p]).map Crp.sp)).1, hi := (meetL ((s.prs ++ [p]).map Crp.sp)).2, prs := s.prs ++ [p] }
def prvD (D : Dsk) (i : Nat) (s : Shp) (p : Crp) (work : Int) : Dsk := { D with shapes := D.shapes.set i (s.more p), left := D.left - work, spent := D.spent + work }
theorem desk_four {w : World} {b : Nat} {st : Int} {sv ov : Value} {day left spent budget : Int} (h : w.heap[b]? = some (deskC st sv day left spent budget ov)) (x : Value) : (w.setCell ⟨b, 4, none⟩ x).heap[b]? = some (.cells #[.int .i32 st, .int .u32 0, sv, .int .i64 day, x, .int .i64 spent, .int .i64 budget, ov] 81 (0, 0)) := by
  simp [World.setCell, Array.getElem?_modify, h, deskC]
theorem desk_five {w : World} {b : Nat} {st : Int} {sv ov : Value} {day left spent budget : Int} (h : w.heap[b]? = some (deskC st sv day left spent budget ov)) (x : Value) : (w.setCell ⟨b, 5, none⟩ x).heap[b]? = some (.cells #[.int .i32 st, .int .u32 0, sv, .int .i64 day, .int .i64 left, x, .int .i64 budget, ov] 81 (0, 0)) := by
  simp [World.setCell, Array.getElem?_modify, h, deskC]
theorem wrap64_small {n : Int} (h1 : -9223372036854775808 ≤ n) (h2 : n ≤ 9223372036854775807) : wrap64 n = n := by unfold wrap64; omega
theorem infoCt : ((Tryz.prog.info? 92).map fun i => (i.zero, i.size, i.bytes)) = some (some (.agg #[.slice none 0 0, .int .i64 0, .int .i64 0, .int .i64 0]), 4, 48) := by kernel_rfl
theorem sp_eq {w : World} {lo : Nat} {O : Nat → Prop} {v : ShV} {l : List Crp} {C : List CtV} (h : CsOk w lo O v l C) : C.map CtV.sp = l.map Crp.sp := by
  apply List.ext_getElem
  · simp [h.len]
  · intro k h1 h2
    have := h.each k (by simpa using h1) (by simpa using h2)
    rw [List.getElem_map, List.getElem_map]
    unfold CtV.sp Crp.sp
    rw [this.lo, this.hi]
theorem workS_bd {n m : Nat} {P F : Nat → Nat → Int} (h : validE n P m F = 0) (d : Int) : 0 ≤ workS n P m F d ∧ workS n P m F d ≤ 2506752 := by
  have hm := (validE_ok h).2.1
  unfold workS
  split
  · rename_i q
    have hd := frB_true q.2
    have mm : (0 : Int) ≤ (m : Int) * m ∧ (m : Int) * m ≤ 9216 := by
      have := Nat.mul_le_mul hm.2 hm.2
      constructor
      · exact Int.mul_nonneg (by omega) (by omega)
      · rw [← Int.natCast_mul]; omega
    rcases (show d = 0 ∨ d = 1 ∨ d = 2 by omega) with rfl | rfl | rfl
    · show 0 ≤ (m : Int) * m * 2 ∧ (m : Int) * m * 2 ≤ 2506752
      omega
    · show 0 ≤ (m : Int) * m * 20 ∧ (m : Int) * m * 20 ≤ 2506752
      omega
    · show 0 ≤ (m : Int) * m * 272 ∧ (m : Int) * m * 272 ≤ 2506752
      omega
  · omega
set_option maxRecDepth 100000 in
set_option maxHeartbeats 8000000 in
theorem dprove_even (nm : List UInt8) (d : Int) (lo db : Nat) (st : Int) (D : Dsk) (sv ov : Value) (V : List ShV) (A B : Option Addr) (capA capB : Nat) (a b : Int) (c : Bool) (w : World) (h : DeskAt w lo st db D sv ov V) (hti : Tight D) (hA : TxAt w A [nm]) (hB : RowsAt w B 1 1 (fun _ _ => d)) (hl : nm.length ≤ 1000000) :
    Calls Tryz.prog 113 #[.pointer (some ⟨db, 0, none⟩), .agg #[.int .i64 9, .int .i64 a, .int .i64 b, .bool c, .slice A 1 capA, .slice B 1 capB]] w fun e w' => e = .returned (refV (prvE D nm 1 d fun s => evnB s d)) ∧ (prvE D nm 1 d (fun s => evnB s d) ≠ 0 → Kept w w') ∧ (prvE D nm 1 d (fun s => evnB s d) = 0 → ∃ (i : Nat) (s : Shp), idxS D.shapes nm 0 = (i : Int) ∧ D.shapes[i]? = some s ∧ Step w w' lo st db (prvD D i s ⟨s.m, fun _ _ => 1, d, (evnB s d).lo, (evnB s d).hi⟩ (workS s.n s.P s.m s.F d)) (own db sv ov V)) := by
  obtain ⟨SA, scap, hsv⟩ := own_slice2 h.sh
  have hfew := h.few
  have hltd := h.ltd
  have hds : w.cell? ⟨db, 2, none⟩ = some (.slice SA V.length scap) := by rw [← hsv]; exact desk_cell h.hd rfl
  have hdl : w.cell? ⟨db, 4, none⟩ = some (.int .i64 D.left) := desk_cell h.hd rfl
  have hsh : ShsAt w SA V := owns_shs (by rw [← hsv]; exact h.sh)
  have q2 : ∀ w', Kept w w' → _ := fun w' hk => dfind_any db SA V scap nm w' (by omega) (cell_old hds hltd hk) (Nat.lt_of_lt_of_le hltd (kept_size hk)) (hsh.of hk)
  rw [h.idx nm] at q2
  obtain ⟨nb, no, eA, hnb, hn0⟩ := hA.at (k := 0) (by simp)
  cases eA
  have hn0 : w.cell? ⟨nb, no, none⟩ = some (.string ⟨nm.toArray⟩) := hn0
  obtain ⟨rb, ro, eB, hrb, hr0⟩ := hB (by omega)
  cases eB
  have hr0 : w.cell? ⟨rb, ro, none⟩ = some (.int .i64 d) := (hr0 0 (by omega) 0 (by omega)).1
  have L1 : Lower db w.heap.size := ⟨hltd⟩
  have L2 : Lower nb w.heap.size := ⟨hnb⟩
  have L3 : Lower rb w.heap.size := ⟨hrb⟩
  have hib := idxS_bd D.shapes nm 0
  obtain ⟨pe, hpe⟩ : ∃ x, prvE D nm 1 d (fun s => evnB s d) = x := ⟨_, rfl⟩
  rw [hpe]
  unfold prvE at hpe
  obtain ⟨ix, hix⟩ : ∃ x, idxS D.shapes nm 0 = x := ⟨_, rfl⟩
  rw [hix] at q2 hib hpe ⊢
  have Q2 := Lib.hid q2
  have HTI := Lib.hid hti
  have H := Lib.hid h
  clear q2 hA hB h hix hti
  by_cases h0 : ix < 0
  · rw [if_pos h0] at hpe
    subst hpe
    clear hsh
    go_enter Tryz.func113, Tryz.ntmps113
    go_wp2_with (first | (go_at_call 35; (with_reducible refine (Q2.out _ (by (repeat (first | exact Kept.refl _ | assumption | refine Kept.alloc ?_ _ | refine Kept.ext ?_ _ | refine Kept.drew ?_ | refine Kept.drewN ?_ _)))).mono ?_); rintro e w2 ⟨rfl, y2, rfl⟩))
    go_ret
    exact ⟨rfl, fun _ => by (repeat (first | exact Kept.refl _ | assumption | refine Kept.alloc ?_ _ | refine Kept.ext ?_ _ | refine Kept.drew ?_ | refine Kept.drewN ?_ _)), fun q => by cases q⟩
  rw [if_neg h0] at hpe
  obtain ⟨i, rfl⟩ : ∃ i : Nat, ix = i := ⟨ix.toNat, by omega⟩
  have hi : i < D.shapes.length := by omega
  have hiV : i < V.length := by rw [H.out.len]; exact hi
  rw [Int.toNat_natCast, List.getElem?_eq_getElem hi] at hpe
  simp only at hpe
  have hsok := H.out.each i hiV hi
  obtain ⟨sb, so, eS, hsb, f0, f1, f2, f3, f4, f5⟩ := hsh.at hiV
  obtain ⟨s, hs⟩ : ∃ s, D.shapes[i] = s := ⟨_, rfl⟩
  obtain ⟨v, hv⟩ : ∃ v, V[i] = v := ⟨_, rfl⟩
  have hsi : D.shapes[i]? = some s := by rw [List.getElem?_eq_getElem hi, hs]
  rw [hs] at hsok hpe
  rw [hv] at hsok f0 f1 f2 f3 f4 f5
  obtain ⟨sb', c', e', -, -⟩ := H.out.sh.form (by omega)
  rw [hsv] at e'
  cases eS
  simp only [Value.slice.injEq, Option.some.injEq, Addr.mk.injEq] at e'
  obtain ⟨⟨rfl, rfl, -⟩, -, rfl⟩ := e'
  subst hsv
  simp only [Nat.zero_add] at f0 f1 f2 f3 f4 f5
  obtain ⟨C, hC⟩ := hsok.q
  have hvm := validE_ok hsok.val
  rw [hsok.n] at f1
  rw [hsok.m] at f2
  have hqn : v.qn = C.length := by
    obtain ⟨A', c', e⟩ := own_slice2 hC.own
    unfold ShV.qv at e
    simp only [Value.slice.injEq] at e
    exact e.2.1
  rw [hqn] at f5
  have hfp := hsok.few
  have hcl := hC.len
  have q3 : ∀ w', Kept w w' → _ := fun w' hk => hWork_any v.pA v.fA s.n v.pc s.m v.fc s.P s.F d w' (by omega) (hsok.p.of hk) (hsok.f.of hk)
  have L4 : Lower sb w.heap.size := ⟨hsb⟩
  obtain ⟨wk, hwk⟩ : ∃ x, workS s.n s.P s.m s.F d = x := ⟨_, rfl⟩
  obtain ⟨we, hwe⟩ : ∃ x, workE s.n s.P s.m s.F d = x := ⟨_, rfl⟩
  rw [hwk, hwe] at q3 hpe
  have Q3 := Lib.hid q3
  have HS := Lib.hid hsok
  have HC := Lib.hid hC
  have HSI := Lib.hid hsi
  have HV := Lib.hid hv
  have HSS := Lib.hid hs
  have HWK := Lib.hid hwk
  have HWE := Lib.hid hwe
  have i0 : (0 : Int) ≤ i := by omega
  have i1 : (i : Int) < V.length := by omega
  clear q3 hsok hC hsi hv hs hsh hwk hwe
  by_cases hwe0 : we = 0
  case neg =>
    rw [if_pos hwe0] at hpe
    subst hpe
    obtain ⟨gf, gt⟩ := no_facts hwe0
    have ev : refV we = .iface 115 (.agg #[.int .i64 we]) := if_neg hwe0
    rw [ev]
    clear ev
    go_enter Tryz.func113, Tryz.ntmps113
    go_wp2_with (first | (go_at_call 35; (with_reducible refine (Q2.out _ (by (repeat (first | exact Kept.refl _ | assumption | refine Kept.alloc ?_ _ | refine Kept.ext ?_ _ | refine Kept.drew ?_ | refine Kept.drewN ?_ _)))).mono ?_); rintro e w2 ⟨rfl, y2, rfl⟩))
    (((with_reducible refine wp_region_kept2 (by kernel_rfl) (by kernel_rfl) ?_)); (repeat (go_big_quiet_step (first | (go_at_call 170; exact Calls.kept_of (Q3.out _ (by (repeat (first | exact Kept.refl _ | assumption | refine Kept.alloc ?_ _ | refine Kept.ext ?_ _ | refine Kept.drew ?_ | refine Kept.drewN ?_ _)))))))); refine wpQuiet_nil ?_; intro x)
    go_wp2_with fail
    go_ret
    exact ⟨rfl, fun _ => by (repeat (first | exact Kept.refl _ | assumption | refine Kept.alloc ?_ _ | refine Kept.ext ?_ _ | refine Kept.drew ?_ | refine Kept.drewN ?_ _)), fun q => absurd q hwe0⟩
  subst hwe0
  rw [if_neg (by simp), Int.mul_one] at hpe
  by_cases hbg : D.left < wk
  · rw [if_pos hbg] at hpe
    subst hpe
    go_enter Tryz.func113, Tryz.ntmps113
    go_wp2_with (first | (go_at_call 35; (with_reducible refine (Q2.out _ (by (repeat (first | exact Kept.refl _ | assumption | refine Kept.alloc ?_ _ | refine Kept.ext ?_ _ | refine Kept.drew ?_ | refine Kept.drewN ?_ _)))).mono ?_); rintro e w2 ⟨rfl, y2, rfl⟩))
    (((with_reducible refine wp_region_kept2 (by kernel_rfl) (by kernel_rfl) ?_)); (repeat (go_big_quiet_step (first | (go_at_call 170; exact Calls.kept_of (Q3.out _ (by (repeat (first | exact Kept.refl _ | assumption | refine Kept.alloc ?_ _ | refine Kept.ext ?_ _ | refine Kept.drew ?_ | refine Kept.drewN ?_ _)))))))); refine wpQuiet_nil ?_; intro x)
    go_wp2_with fail
    go_ret
    exact ⟨rfl, fun _ => by (repeat (first | exact Kept.refl _ | assumption | refine Kept.alloc ?_ _ | refine Kept.ext ?_ _ | refine Kept.drew ?_ | refine Kept.drewN ?_ _)), fun q => by cases q⟩
  rw [if_neg hbg] at hpe
  by_cases h16 : 16 ≤ s.prs.length
  · rw [if_pos h16] at hpe
    subst hpe
    have h16' : (16 : Int) ≤ C.length := by omega
    go_enter Tryz.func113, Tryz.ntmps113
    go_wp2_with (first | (go_at_call 35; (with_reducible refine (Q2.out _ (by (repeat (first | exact Kept.refl _ | assumption | refine Kept.alloc ?_ _ | refine Kept.ext ?_ _ | refine Kept.drew ?_ | refine Kept.drewN ?_ _)))).mono ?_); rintro e w2 ⟨rfl, y2, rfl⟩))
    (((with_reducible refine wp_region_kept2 (by kernel_rfl) (by kernel_rfl) ?_)); (repeat (go_big_quiet_step (first | (go_at_call 170; exact Calls.kept_of (Q3.out _ (by (repeat (first | exact Kept.refl _ | assumption | refine Kept.alloc ?_ _ | refine Kept.ext ?_ _ | refine Kept.drew ?_ | refine Kept.drewN ?_ _)))))))); refine wpQuiet_nil ?_; intro x)
    go_wp2_with fail
    go_ret
    exact ⟨rfl, fun _ => by (repeat (first | exact Kept.refl _ | assumption | refine Kept.alloc ?_ _ | refine Kept.ext ?_ _ | refine Kept.drew ?_ | refine Kept.drewN ?_ _)), fun q => by cases q⟩
  rw [if_neg h16] at hpe
  have h16' : ¬ (16 : Int) ≤ C.length := by omega
  have q4 : ∀ w', _ := fun w' => dchg_even a b c (.slice (some ⟨nb, no, none⟩) 1 capA) (.slice (some ⟨rb, ro, none⟩) 1 capB) v.pA v.fA s.n v.pc s.m v.fc w' (by omega)
  have Q4 := Lib.hid q4
  clear q4
  go_enter Tryz.func113, Tryz.ntmps113
  go_wp2_with (first | (go_at_call 35; (with_reducible refine (Q2.out _ (by (repeat (first | exact Kept.refl _ | assumption | refine Kept.alloc ?_ _ | refine Kept.ext ?_ _ | refine Kept.drew ?_ | refine Kept.drewN ?_ _)))).mono ?_); rintro e w2 ⟨rfl, y2, rfl⟩))
  (((with_reducible refine wp_region_kept2 (by kernel_rfl) (by kernel_rfl) ?_)); (repeat (go_big_quiet_step (first | (go_at_call 170; exact Calls.kept_of (Q3.out _ (by (repeat (first | exact Kept.refl _ | assumption | refine Kept.alloc ?_ _ | refine Kept.ext ?_ _ | refine Kept.drew ?_ | refine Kept.drewN ?_ _)))))))); refine wpQuiet_nil ?_; intro x)
  go_wp2_with fail
  go_region_held3 (fun w' => (w'.cell? ⟨w.heap.size, 0, none⟩ = some (.int .i64 9) ∧ w'.cell? ⟨w.heap.size, 1, none⟩ = some (.int .i64 a) ∧ w'.cell? ⟨w.heap.size, 2, none⟩ = some (.int .i64 b) ∧ w'.cell? ⟨w.heap.size, 3, none⟩ = some (.bool c) ∧ w'.cell? ⟨w.heap.size, 4, none⟩ = some (.slice (some ⟨nb, no, none⟩) 1 capA) ∧ w'.cell? ⟨w.heap.size, 5, none⟩ = some (.slice (some ⟨rb, ro, none⟩) 1 capB)) ∧ w'.cell? ⟨sb, i * 6 + 1, none⟩ = some (.slice v.pA s.n v.pc) ∧ w'.cell? ⟨sb, i * 6 + 2, none⟩ = some (.slice v.fA s.m v.fc)) ((refine ⟨⟨?_, ?_, ?_, ?_, ?_, ?_⟩, ?_, ?_⟩ <;> go_simp)) ((go_at_call 171; (with_reducible refine (Q4.out _).mono ?_); rintro e w4 ⟨g, rfl, ⟨y4, rfl⟩, hg4, hr4⟩; have HG4 := Lib.hid hg4; have HR4 := Lib.hid hr4; clear hg4 hr4))
  go_wp2_with fail
  refine wp_gen (fun W4 hW4 => ?_)
  have kW : Kept w W4 := by rw [hW4]; (repeat (first | exact Kept.refl _ | assumption | refine Kept.alloc ?_ _ | refine Kept.ext ?_ _ | refine Kept.drew ?_ | refine Kept.drewN ?_ _))
  have hr4 : RowsAt W4 (some ⟨g, 0, none⟩) s.m 1 (fun _ _ => 1) := by rw [hW4]; exact HR4.out
  have hob : W4.heap[w.heap.size]? = some (.cells #[.int .i64 9, .int .i64 a, .int .i64 b, .bool c, .slice (some ⟨nb, no, none⟩) 1 capA, .slice (some ⟨rb, ro, none⟩) 1 capB] 122 (0, 0)) := by
    rw [hW4]
    refine fr_kept (heap_alloc_new w _) ?_
    (repeat (first | exact Kept.refl _ | assumption | refine Kept.alloc ?_ _ | refine Kept.ext ?_ _ | refine Kept.drew ?_ | refine Kept.drewN ?_ _))
  have hg0 : w.heap.size ≤ g := by
    have := HG4.out
    simp only [ext_size, World.size_alloc, adv] at this
    omega
  have b5 : W4.cell? ⟨w.heap.size, 5, none⟩ = some (.slice (some ⟨rb, ro, none⟩) 1 capB) := cell_blk hob rfl
  have HR := Lib.hid hr4
  have KW := Lib.hid kW
  have M1 := Lib.hid (cell_old f1 hsb kW)
  have M2 := Lib.hid (cell_old f2 hsb kW)
  have N0 := Lib.hid (cell_old hr0 hrb kW)
  have LW1 : Lower db W4.heap.size := ⟨Nat.lt_of_lt_of_le hltd kW.below.size⟩
  have LW2 : Lower rb W4.heap.size := ⟨Nat.lt_of_lt_of_le hrb kW.below.size⟩
  have LW3 : Lower sb W4.heap.size := ⟨Nat.lt_of_lt_of_le hsb kW.below.size⟩
  have LW4 : Lower w.heap.size W4.heap.size := ⟨cell_lt b5⟩
  clear hr4 kW hob hW4 HR4 HG4 Q2 Q3 Q4
  obtain ⟨be, hbe⟩ : ∃ x, (evnB s d).e = x := ⟨_, rfl⟩
  rw [hbe] at hpe
  by_cases hbe0 : be = 0
  case neg =>
    subst hpe
    obtain ⟨gf, gt⟩ := no_facts hbe0
    have ev : refV be = .iface 115 (.agg #[.int .i64 be]) := if_neg hbe0
    have EV := Lib.hid ev
    have q5 : ∀ w', Kept W4 w' → _ := fun w' hk => hProve_no v.pA v.fA s.n v.pc s.m v.fc s.P s.F (some ⟨g, 0, none⟩) s.m s.m (fun _ _ => 1) d w' (by omega) (by omega) (HS.out.p.of (KW.out.trans hk)) (HS.out.f.of (KW.out.trans hk)) (HR.out.of hk) (by show ¬ (evnB s d).e = 0; rw [hbe]; exact hbe0)
    change ∀ w', Kept W4 w' → Calls _ _ _ _ (fun e w'' => e = .returned (.tuple #[.agg #[.slice none 0 0, .int .i64 0, .int .i64 0, .int .i64 0], .int .i64 (evnB s d).e]) ∧ Kept w' w'') at q5
    rw [hbe] at q5
    have Q5 := Lib.hid q5
    clear q5 ev hbe
    have m1 := M1.out
    have m2 := M2.out
    have n0 := N0.out
    go_region_held3 (fun w' => w'.cell? ⟨w.heap.size, 5, none⟩ = some (.slice (some ⟨rb, ro, none⟩) 1 capB) ∧ w'.cell? ⟨rb, ro, none⟩ = some (.int .i64 d) ∧ w'.cell? ⟨sb, i * 6 + 1, none⟩ = some (.slice v.pA s.n v.pc) ∧ w'.cell? ⟨sb, i * 6 + 2, none⟩ = some (.slice v.fA s.m v.fc)) ((refine ⟨?_, ?_, ?_, ?_⟩ <;> go_simp)) ((go_at_call 172; (with_reducible refine (Q5.out _ (by (repeat (first | exact Kept.refl _ | assumption | refine Kept.alloc ?_ _ | refine Kept.ext ?_ _ | refine Kept.drew ?_ | refine Kept.drewN ?_ _)))).mono ?_); rintro e w5 ⟨rfl, y5, rfl⟩))
    all_goals (
      go_wp2_with fail
      go_ret
      exact ⟨by rw [EV.out]; rfl, fun _ => KW.out.trans (by (repeat (first | exact Kept.refl _ | assumption | refine Kept.alloc ?_ _ | refine Kept.ext ?_ _ | refine Kept.drew ?_ | refine Kept.drewN ?_ _))), fun q => absurd q hbe0⟩)
  subst hbe0
  subst hpe
  have hC16 : C.length < 16 := by omega
  have HCL := Lib.hid hcl
  clear hcl
  have q5 : ∀ w', Kept W4 w' → _ := fun w' hk => hProve_ok v.pA v.fA s.n v.pc s.m v.fc s.P s.F (some ⟨g, 0, none⟩) s.m s.m (fun _ _ => 1) d w' (by omega) (by omega) (HS.out.p.of (KW.out.trans hk)) (HS.out.f.of (KW.out.trans hk)) (HR.out.of hk) hbe
  have q5 : ∀ w', Kept W4 w' → Calls Tryz.prog 172 #[.agg #[.slice v.pA s.n v.pc, .slice v.fA s.m v.fc], .slice (some ⟨g, 0, none⟩) s.m s.m, .int .i64 d] w' (fun e w'' => ∃ cA ccp, e = .returned (.tuple #[.agg #[.slice cA s.m ccp, .int .i64 d, .int .i64 (evnB s d).lo, .int .i64 (evnB s d).hi], .int .i64 0]) ∧ Kept w' w'' ∧ w''.ownsRow w'.heap.size 3 1 (.slice cA s.m ccp) s.m (rowC 1 (fun _ _ => 1) s.m)) := fun w' hk => (q5 w' hk).mono fun e w'' ⟨u, e1, e2, e3⟩ => by
    obtain ⟨cA, ccp, rfl⟩ := own_slice2 e3
    exact ⟨cA, ccp, e1, e2, e3⟩
  obtain ⟨blo, hblo⟩ : ∃ x, (evnB s d).lo = x := ⟨_, rfl⟩
  obtain ⟨bhi, hbhi⟩ : ∃ x, (evnB s d).hi = x := ⟨_, rfl⟩
  rw [hblo, hbhi] at q5
  have Q5 := Lib.hid q5
  have HB := Lib.hid hbe
  clear q5 hbe
  have m1 := M1.out
  have m2 := M2.out
  have n0 := N0.out
  go_region_held3 (fun w' => w'.cell? ⟨w.heap.size, 5, none⟩ = some (.slice (some ⟨rb, ro, none⟩) 1 capB) ∧ w'.cell? ⟨rb, ro, none⟩ = some (.int .i64 d) ∧ w'.cell? ⟨sb, i * 6 + 1, none⟩ = some (.slice v.pA s.n v.pc) ∧ w'.cell? ⟨sb, i * 6 + 2, none⟩ = some (.slice v.fA s.m v.fc)) ((refine ⟨?_, ?_, ?_, ?_⟩ <;> go_simp)) ((go_at_call 172; (with_reducible refine (Q5.out _ (by (repeat (first | exact Kept.refl _ | assumption | refine Kept.alloc ?_ _ | refine Kept.ext ?_ _ | refine Kept.drew ?_ | refine Kept.drewN ?_ _)))).mono ?_); rintro e w5 ⟨cA, ccp, rfl, ⟨y5, rfl⟩, ho⟩; have HO5 := Lib.hid ho; clear ho))
  ·
    go_wp2_with fail
    obtain ⟨n10, hn10⟩ : ∃ x, adv W4.heap.size y5.obs.size = x := ⟨_, rfl⟩
    have hn1 : W4.heap.size ≤ n10 := by rw [← hn10]; exact adv_le _ _
    refine wp_gen (fun W5 hW5 => ?_)
    have k5 : Kept W4 W5 := by rw [hW5]; (repeat (first | exact Kept.refl _ | assumption | refine Kept.alloc ?_ _ | refine Kept.ext ?_ _ | refine Kept.drew ?_ | refine Kept.drewN ?_ _))
    have m10 : W5.heap[n10]? = some (.cells #[.slice cA s.m ccp, .int .i64 d, .int .i64 blo, .int .i64 bhi] 92 (0, 0)) := by
      rw [hW5]
      rw [← hn10]
      exact new_at _ (by simp only [ext_size])
    have hrc : RowsAt W5 cA s.m 1 (fun _ _ => 1) := by
      rw [hW5]
      exact (rows_of_owns HO5.out (fun _ _ _ _ => by show I64 1; unfold I64; omega)).of (by (repeat (first | exact Kept.refl _ | assumption | refine Kept.alloc ?_ _ | refine Kept.ext ?_ _ | refine Kept.drew ?_ | refine Kept.drewN ?_ _)))
    have hcn : ∀ q, cA = some q → w.heap.size ≤ q.block := fun q e => by
      have h1 : W4.heap.size ≤ q.block := (HO5.out.lt q.block (by rw [e]; rfl)).1
      have h2 := KW.out.below.size
      omega
    simp only [hn10]
    have kw5 := KW.out.trans k5
    have hD := H.out.on kw5
    have hno10 : ¬ own db (.slice (some ⟨sb, 0, none⟩) V.length scap) ov V n10 := fun q => by
      have h1 := (H.out.own_lt q).2
      have h2 := KW.out.below.size
      omega
    have hsi5 : i < D.shapes.length := by rw [← H.out.len]; exact hiV
    obtain ⟨e1, e2⟩ : V[i] = v ∧ D.shapes[i] = s := ⟨HV.out, HSS.out⟩
    have hC5 : CsOk W5 lo (own db (.slice (some ⟨sb, 0, none⟩) V.length scap) ov V) v s.prs C := HC.out.kb (S := fun _ => False) (O := own db (.slice (some ⟨sb, 0, none⟩) V.length scap) ov V) (KB.of_kept kw5) (fun _ _ q => q.elim) (fun _ _ q => q) (fun _ _ q => q)
    have hct : CtOk W5 (own db (.slice (some ⟨sb, 0, none⟩) V.length scap) ov V) ⟨cA, s.m, ccp, d, blo, bhi⟩ ⟨s.m, fun _ _ => 1, d, blo, bhi⟩ := ⟨rfl, rfl, rfl, rfl, by show s.m ≤ 1000; omega, hrc, fun _ a ha ho => by
      have h1 := hcn a ha
      have h2 := (H.out.own_lt ho).2
      omega⟩
    have hlo : lo ≤ W5.heap.size := Nat.le_trans hD.lod (Nat.le_of_lt hD.ltd)
    have q5c := cell_old f5 hsb kw5
    obtain ⟨ic, hic, hzc⟩ := Option.map_eq_some_iff.1 infoCt
    simp only [Prod.mk.injEq] at hzc
    have HI := Lib.hid (And.intro hic hzc)
    have HD := Lib.hid hD
    have HC5 := Lib.hid hC5
    have HCT := Lib.hid hct
    have M10 := Lib.hid m10
    have KW5 := Lib.hid kw5
    have HHW := Lib.hid hW5
    have hqv : v.qv = .slice v.qA C.length v.qc := by unfold ShV.qv; rw [hqn]
    have Q5C := Lib.hid q5c
    clear hic hzc hD hC5 hct m10 kw5 hW5 hrc hcn k5 Q5 q5c
    obtain ⟨PB, hPB⟩ : ∃ X : Value → World → Prop, X = fun v' w' => ∃ g' cap, v' = .slice (some ⟨g', 0, none⟩) (C.length + 1) cap ∧ KB (fun k => v.qv.ownBlock = some k) W5 w' ∧ w'.ownsRow lo 92 4 v' (C.length + 1) (ctC C ++ [.slice cA s.m ccp, .int .i64 d, .int .i64 blo, .int .i64 bhi]) ∧ (v.qv.ownBlock = some g' ∨ W5.heap.size ≤ g') := ⟨_, rfl⟩
    obtain ⟨PC, hPC⟩ : ∃ X : Value → World → Prop, X = fun _ w' => ∃ g' cap, (DeskAt w' lo st db { D with shapes := D.shapes.set i { s with prs := s.prs ++ [⟨s.m, fun _ _ => 1, d, blo, bhi⟩] } } (.slice (some ⟨sb, 0, none⟩) V.length scap) ov (V.set i { v with qA := some ⟨g', 0, none⟩, qn := C.length + 1, qc := cap }) ∧ KB (own db (.slice (some ⟨sb, 0, none⟩) V.length scap) ov V) W5 w' ∧ ∀ k, k < W5.heap.size → own db (.slice (some ⟨sb, 0, none⟩) V.length scap) ov (V.set i { v with qA := some ⟨g', 0, none⟩, qn := C.length + 1, qc := cap }) k → own db (.slice (some ⟨sb, 0, none⟩) V.length scap) ov V k) ∧ w'.ownsRow lo 92 4 (.slice (some ⟨g', 0, none⟩) (C.length + 1) cap) (C.length + 1) (ctC C ++ [.slice cA s.m ccp, .int .i64 d, .int .i64 blo, .int .i64 bhi]) := ⟨_, rfl⟩
    have HPB := Lib.hid hPB
    have HPC := Lib.hid hPC
    have hBk : ∀ v x y, PB v x → Kept x y → PB v y := by
      rw [hPB]
      exact fun v x y ⟨g, cap, e1, e2, e3, e4⟩ q => ⟨g, cap, e1, e2.on q, owns_kept e3 q, e4⟩
    have hCk : ∀ v x y, PC v x → Kept x y → PC v y := by
      rw [hPC]
      exact fun _ _ _ ⟨g, cap, ⟨e1, e2, e3⟩, e4⟩ q => ⟨g, cap, ⟨e1.on q, e2.on q, e3⟩, owns_kept e4 q⟩
    have HBK := Lib.hid hBk
    have HCK := Lib.hid hCk
    obtain ⟨O, hO⟩ : ∃ O, O = own db (.slice (some ⟨sb, 0, none⟩) V.length scap) ov V := ⟨_, rfl⟩
    have HO := Lib.hid hO
    rw [← hO] at hno10
    have hOsb : O sb := by rw [hO]; exact .inr (.inl rfl)
    have hOs : ∀ k, v.qv.ownBlock = some k → O k := fun k q => by rw [hO]; exact .inr (.inr (.inr ⟨v, e1 ▸ List.getElem_mem hiV, q⟩))
    have HOS := Lib.hid hOs
    have E1 := Lib.hid e1
    have E2 := Lib.hid e2
    have hse := HD.out.ne_sv (k := sb) rfl
    have HSE := Lib.hid hse
    clear hPB hPC hBk hCk hO hOs e1 e2 hse
    refine wp_region_tellC (C := KB O W5) [.q, .q, .q, .q, .k (.slice v.qA C.length v.qc), .q, .s, .s, .q, .q, .s]
      (AppG 4 6 7 10 W5 O 92 [.slice cA s.m ccp, .int .i64 d, .int .i64 blo, .int .i64 bhi] (Kept W5) PB PC) (by kernel_rfl) (by kernel_rfl) (fun b => by kernel_rfl) ?_ ?_ ?_ ?_
    · exact fun b => AppG.start ((KB.refl _ _).drew) (Kept.refl W5).drew
    · intro i L b w' w'' hs hI hk
      exact (hI.on hk (fun _ _ => Kept.trans) HBK.out HCK.out).other (by rintro rfl; cases hs) (by rintro rfl; cases hs) (by rintro rfl; cases hs) (by rintro rfl; cases hs)
    · exact fun L b w' h => h.z
    apply Exists.intro
    refine ⟨?_, ?_, ?_, ?_⟩
    · rintro b W' hZ
      have g0 := hZ.cell (cell_blk (o := 0) M10.out rfl) hno10
      have g1 := hZ.cell (cell_blk (o := 1) M10.out rfl) hno10
      have g2 := hZ.cell (cell_blk (o := 2) M10.out rfl) hno10
      have g3 := hZ.cell (cell_blk (o := 3) M10.out rfl) hno10
      haveI : Lower n10 W'.heap.size := ⟨cell_lt g0⟩
      haveI : Lower sb W'.heap.size := ⟨Nat.lt_of_lt_of_le (HD.out.own_lt (.inr (.inl rfl))).2 hZ.size⟩
      clear hZ
      simp only [swapL, Nat.reduceAdd]
      repeat (go_big_quiet_step (fail))
      refine wpQuiet_nil ?_
      rfl
    · simp only [EachS, and_true]
      refine ⟨?_, ?_, ?_, ?_⟩
      · intro L b w' hd hL hI
        have h7 : L 7 = false := by
          cases q : L 7 with
          | false => rfl
          | true => have := (hI.a6 q).1; rw [show L 4 = false from hL] at this; cases this
        have kA := hI.p h7
        have c0 : w'.cell? ⟨sb, i * 6 + 5, none⟩ = some (.slice v.qA C.length v.qc) := cell_old Q5C.out (HD.out.own_lt (.inr (.inl rfl))).2 kA
        have LQ : Lower sb w'.heap.size := ⟨cell_lt c0⟩
        have h1 := Lib.hid (hI.op1 (u := .slice v.qA C.length v.qc) (by omega))
        clear hI kA
        go_simp
        exact ⟨rfl, h1.out⟩
      · intro L b w' hd hL hI
        have h5 := Lib.hid (hI.op5 (by omega) hL (fun _ _ => Kept.trans))
        clear hI
        go_simp
        exact ⟨rfl, h5.out⟩
      · intro L b w' hd hL hI
        have d4 : L 4 = true := hd { on := 4, ground := .data } (by simp) rfl
        have d6 : L 6 = true := hd { on := 6, ground := .data } (by simp) rfl
        obtain ⟨g5, e5, e6⟩ := hI.n5 d6
        have kA := hI.p hL
        have how : w'.ownsRow lo 92 4 (.slice v.qA C.length v.qc) C.length (ctC C) := by
          have := owns_kept HC5.out.own kA
          rw [hqv] at this
          exact this
        refine tells_lies (.tmp 102) (.tmp 104) 45 (by rfl) lo 92 ic _ 4 48 Tryz.underlying45 HI.out.1 HI.out.2.1 HI.out.2.2.1 HI.out.2.2.2 (by rfl) (by omega) (Nat.le_trans hlo kA.below.size) _ C.length _ (by rfl) how g5 [.slice cA s.m ccp, .int .i64 d, .int .i64 blo, .int .i64 bhi] e5 (e6 hL) rfl (by simp [Value.oneCell']) (by unfold maxLen; omega) (by omega) ?_
        intro g' cap w'' k1 k2 k3
        rw [← hqv] at k2 k3
        exact ⟨rfl, hI.op6 (by omega) hL d4 d6 (hI.z.grown k2 (fun k e _ => HOS.out k e)) (by rw [HPB.out]; exact ⟨g', cap, rfl, (KB.of_kept kA).grown k2 (fun k e _ => e), k1, k3.imp id (fun e => by rw [e]; exact kA.below.size)⟩)⟩
      · intro L b w' hd hL hI
        have d7 : L 7 = true := hd { on := 7, ground := .data } (by simp) rfl
        have hq := hI.q d7 hL
        rw [HPB.out] at hq
        obtain ⟨g', cap, e9, kb, ow, hn⟩ := hq
        rw [e9] at ow
        have hst := HD.out.addProof hiV hsi5 (C := C) (by rw [E1.out, E2.out]; exact HC5.out) (w1 := w') (g := g') (cap := cap) (ct := ⟨cA, s.m, ccp, d, blo, bhi⟩) (p := ⟨s.m, fun _ _ => 1, d, blo, bhi⟩) (by rw [E1.out]; exact kb) (by rw [E1.out]; exact hn) ow HCT.out (by rw [E2.out]; omega)
        rw [E1.out, E2.out] at hst
        have kbs := kb.block sb (HD.out.own_lt (.inr (.inl rfl))).2 (fun q => HSE.out.2.2 v (E1.out ▸ List.getElem_mem hiV) q)
        have c0 : w'.cell? ⟨sb, i * 6 + 5, none⟩ = some (.slice v.qA C.length v.qc) := (World.cell?_of_block kbs).trans Q5C.out
        have c1 : w'.frozen? ⟨sb, i * 6 + 5, none⟩ = false := (World.frozen?_of_block kbs).trans (HD.out.sh.frozenAt _)
        have LQ : Lower sb w'.heap.size := ⟨cell_lt c0⟩
        have h8 := Lib.hid (hI.op8 (u := undef) (by omega) d7 (hI.z.setCell (p := ⟨sb, i * 6 + 5, none⟩) (fun _ => hOsb) (.slice (some ⟨g', 0, none⟩) (C.length + 1) cap)) (by rw [HPC.out]; exact ⟨g', cap, hst⟩))
        clear hI hst kb ow kbs
        go_simp
        exact ⟨rfl, h8.out⟩
    · intro b b' d9 hd9
      simp [callSlots, dullOp] at hd9
      try (rcases hd9 with rfl | rfl | rfl | rfl <;> rfl)
    intro L b w1 hL hI
    have hs := hI.r (hL 10 (by decide))
    rw [HPC.out] at hs
    obtain ⟨g', cap, ⟨t1, t2, t3⟩, t4⟩ := hs
    have hiV2 : i < (V.set i { v with qA := some ⟨g', 0, none⟩, qn := C.length + 1, qc := cap }).length := by simpa using hiV
    have hsh2 := (owns_shs (w := w1) (lo := lo) (A := some ⟨sb, 0, none⟩) (cap := scap) (V := V.set i { v with qA := some ⟨g', 0, none⟩, qn := C.length + 1, qc := cap }) (by rw [List.length_set]; have := t1.sh; rw [List.length_set] at this; exact this)).at hiV2
    obtain ⟨sb2, so2, eS2, hsb2, u0, u1, u2, u3, u4, u5⟩ := hsh2
    cases eS2
    rw [List.getElem_set_self] at u0 u1 u2 u3 u4 u5
    simp only [Nat.zero_add] at u0 u1 u2 u3 u4 u5
    have tsh := t1.sh
    rw [List.length_set] at tsh
    have z3 : w1.frozen? ⟨sb, i * 6 + 3, none⟩ = false := tsh.frozenAt _
    have z4 : w1.frozen? ⟨sb, i * 6 + 4, none⟩ = false := tsh.frozenAt _
    have y4' : w1.cell? ⟨db, 4, none⟩ = some (.int .i64 D.left) := desk_cell t1.hd rfl
    have y5' : w1.cell? ⟨db, 5, none⟩ = some (.int .i64 D.spent) := desk_cell t1.hd rfl
    have x4 : w1.frozen? ⟨db, 4, none⟩ = false := desk_free t1.hd
    have x5 : w1.frozen? ⟨db, 5, none⟩ = false := desk_free t1.hd
    have hsd : sb ≠ db := HSE.out.1
    have hds' : db ≠ sb := fun q => hsd q.symm
    have hlen4 : (C ++ [(⟨cA, s.m, ccp, d, blo, bhi⟩ : CtV)]).length = C.length + 1 := by simp
    have hcts : CtsAt w1 (some ⟨g', 0, none⟩) (C ++ [(⟨cA, s.m, ccp, d, blo, bhi⟩ : CtV)]) := owns_cts (lo := lo) (cap := cap) (by
      rw [hlen4, ctC_cat]
      have e : ctC C ++ ctC [(⟨cA, s.m, ccp, d, blo, bhi⟩ : CtV)] = ctC C ++ [.slice cA s.m ccp, .int .i64 d, .int .i64 blo, .int .i64 bhi] := by simp [ctC, CtV.cells]
      rw [e]
      exact t4)
    have q6 : ∀ w', Kept w1 w' → _ := fun w' hk => dmeet_any (some ⟨g', 0, none⟩) (C ++ [(⟨cA, s.m, ccp, d, blo, bhi⟩ : CtV)]) cap w' (by rw [hlen4]; omega) (hcts.of hk)
    have hmp : (C ++ [(⟨cA, s.m, ccp, d, blo, bhi⟩ : CtV)]).map CtV.sp = (s.prs ++ [(⟨s.m, fun _ _ => 1, d, blo, bhi⟩ : Crp)]).map Crp.sp := by
      rw [List.map_append, List.map_append]
      have e : C.map CtV.sp = s.prs.map Crp.sp := sp_eq HC5.out
      rw [e]
      rfl
    rw [hlen4, hmp] at q6
    obtain ⟨ml, hml⟩ : ∃ x, (meetL ((s.prs ++ [(⟨s.m, fun _ _ => 1, d, blo, bhi⟩ : Crp)]).map Crp.sp)).1 = x := ⟨_, rfl⟩
    obtain ⟨mh, hmh⟩ : ∃ x, (meetL ((s.prs ++ [(⟨s.m, fun _ _ => 1, d, blo, bhi⟩ : Crp)]).map Crp.sp)).2 = x := ⟨_, rfl⟩
    rw [hml, hmh] at q6
    have Q6 := Lib.hid q6
    have T1 := Lib.hid t1
    have T2 := Lib.hid t2
    have T3 := Lib.hid t3
    have HML := Lib.hid hml
    have HMH := Lib.hid hmh
    have LS : Lower sb w1.heap.size := ⟨hsb2⟩
    have LD : Lower db w1.heap.size := ⟨cell_lt y4'⟩
    have bdl := H.out.bd
    have bds := H.out.bs
    have wkb := workS_bd HS.out.val d
    rw [HWK.out] at wkb
    have hwr : wrap64 (D.spent + wk) = D.spent + wk := by
      have := H.out.few2
      have := H.out.bs
      rw [wrap64_small] <;> omega
    clear hI hL tsh t1 t2 t3 t4 hcts q6 hmp hlen4 hml hmh u0 u1 u2
    go_wp2_with (go_at_call 43; (with_reducible refine (Q6.out _ (by (repeat (first | exact Kept.refl _ | assumption | refine Kept.alloc ?_ _ | refine Kept.ext ?_ _ | refine Kept.drew ?_ | refine Kept.drewN ?_ _)))).mono ?_); rintro e w6 ⟨rfl, y6, rfl⟩)
    go_ret
    refine ⟨rfl, i, rfl, s, HSI.out, ?_⟩
    have hiD2 : i < (D.shapes.set i { s with prs := s.prs ++ [⟨s.m, fun _ _ => 1, d, blo, bhi⟩] }).length := by simpa using hsi5
    have p1 := T1.out.putSpan hiV2 hiD2 ml mh
    obtain ⟨p2, p3, p4⟩ := p1
    have kd : KB (fun k => k = db) ((w1.setCell ⟨sb, i * 6 + 3, none⟩ (.int .i64 ml)).setCell ⟨sb, i * 6 + 4, none⟩ (.int .i64 mh)) ((((w1.setCell ⟨sb, i * 6 + 3, none⟩ (.int .i64 ml)).setCell ⟨sb, i * 6 + 4, none⟩ (.int .i64 mh)).setCell ⟨db, 4, none⟩ (.int .i64 (D.left - wk))).setCell ⟨db, 5, none⟩ (.int .i64 (D.spent + wk))) :=
      ((KB.refl (fun k => k = db) _).setCell (p := ⟨db, 4, none⟩) (fun _ => rfl) _).setCell (p := ⟨db, 5, none⟩) (fun _ => rfl) _
    have hh := desk_five (desk_four p2.hd (.int .i64 (D.left - wk))) (.int .i64 (D.spent + wk))
    have hti := HTI.out.1
    have hf2 := H.out.few2
    have p5 := p2.head (day := D.day) kd hh (by dsimp only; omega) (by dsimp only; omega) (by have := H.out.by'; exact this)
    have p6 := p5.on (w' := ext ((((w1.setCell ⟨sb, i * 6 + 3, none⟩ (.int .i64 ml)).setCell ⟨sb, i * 6 + 4, none⟩ (.int .i64 mh)).setCell ⟨db, 4, none⟩ (.int .i64 (D.left - wk))).setCell ⟨db, 5, none⟩ (.int .i64 (D.spent + wk))) y6) ⟨y6, rfl⟩
    have eD : ({ D with shapes := (D.shapes.set i { s with prs := s.prs ++ [⟨s.m, fun _ _ => 1, d, blo, bhi⟩] }).set i { (D.shapes.set i { s with prs := s.prs ++ [⟨s.m, fun _ _ => 1, d, blo, bhi⟩] })[i] with lo := ml, hi := mh }, day := D.day, left := D.left - wk, spent := D.spent + wk } : Dsk) = prvD D i s ⟨s.m, fun _ _ => 1, d, (evnB s d).lo, (evnB s d).hi⟩ (workS s.n s.P s.m s.F d) := by
      simp only [prvD, Shp.more, List.set_set, List.getElem_set_self, hblo, hbhi, HWK.out, HML.out, HMH.out]
    have p7 : Step W5 (ext ((((w1.setCell ⟨sb, i * 6 + 3, none⟩ (.int .i64 ml)).setCell ⟨sb, i * 6 + 4, none⟩ (.int .i64 mh)).setCell ⟨db, 4, none⟩ (.int .i64 (D.left - wk))).setCell ⟨db, 5, none⟩ (.int .i64 (D.spent + wk))) y6) lo st db (prvD D i s ⟨s.m, fun _ _ => 1, d, (evnB s d).lo, (evnB s d).hi⟩ (workS s.n s.P s.m s.F d)) (own db (.slice (some ⟨sb, 0, none⟩) V.length scap) ov V) := by
      rw [← eD]
      exact ⟨_, _, _, p6, (((T2.out.trans2 p3 fun k hk q => T3.out k hk q).trans (kd.mono fun k _ q => .inl q)).ext y6), fun k hk q => T3.out k hk (p4 k (Nat.lt_of_lt_of_le hk T2.out.size) q)⟩
    exact Step.from KW5.out p7
  ·
    go_wp2_with fail
    obtain ⟨n10, hn10⟩ : ∃ x, W4.heap.size = x := ⟨_, rfl⟩
    have hn1 : W4.heap.size ≤ n10 := by rw [← hn10]; exact Nat.le_refl _
    refine wp_gen (fun W5 hW5 => ?_)
    have k5 : Kept W4 W5 := by rw [hW5]; (repeat (first | exact Kept.refl _ | assumption | refine Kept.alloc ?_ _ | refine Kept.ext ?_ _ | refine Kept.drew ?_ | refine Kept.drewN ?_ _))
    have m10 : W5.heap[n10]? = some (.cells #[.slice cA s.m ccp, .int .i64 d, .int .i64 blo, .int .i64 bhi] 92 (0, 0)) := by
      rw [hW5]
      rw [← hn10]
      exact fr_kept (heap_alloc_new W4 _) (by (repeat (first | exact Kept.refl _ | assumption | refine Kept.alloc ?_ _ | refine Kept.ext ?_ _ | refine Kept.drew ?_ | refine Kept.drewN ?_ _)))
    have hrc : RowsAt W5 cA s.m 1 (fun _ _ => 1) := by
      rw [hW5]
      refine rows_of_owns (owns_same HO5.out fun k hk => swap_heap W4 (.cells #[.slice none 0 0, .int .i64 0, .int .i64 0, .int .i64 0] 92) (.cells #[.slice cA s.m ccp, .int .i64 d, .int .i64 blo, .int .i64 bhi] 92) y5 ?_) (fun _ _ _ _ => by show I64 1; unfold I64; omega)
      have h1 : (W4.alloc (.cells #[.slice none 0 0, .int .i64 0, .int .i64 0, .int .i64 0] 92)).heap.size ≤ k := (HO5.out.lt k hk).1
      rw [World.size_alloc] at h1
      omega
    have hcn : ∀ q, cA = some q → w.heap.size ≤ q.block := fun q e => by
      have h1 : W4.heap.size ≤ q.block := Nat.le_trans (by show W4.heap.size ≤ (W4.alloc (.cells #[.slice none 0 0, .int .i64 0, .int .i64 0, .int .i64 0] 92)).heap.size; rw [World.size_alloc]; exact Nat.le_succ _) (HO5.out.lt q.block (by rw [e]; rfl)).1
      have h2 := KW.out.below.size
      omega
    simp only [hn10]
    have kw5 := KW.out.trans k5
    have hD := H.out.on kw5
    have hno10 : ¬ own db (.slice (some ⟨sb, 0, none⟩) V.length scap) ov V n10 := fun q => by
      have h1 := (H.out.own_lt q).2
      have h2 := KW.out.below.size
      omega
    have hsi5 : i < D.shapes.length := by rw [← H.out.len]; exact hiV
    obtain ⟨e1, e2⟩ : V[i] = v ∧ D.shapes[i] = s := ⟨HV.out, HSS.out⟩
    have hC5 : CsOk W5 lo (own db (.slice (some ⟨sb, 0, none⟩) V.length scap) ov V) v s.prs C := HC.out.kb (S := fun _ => False) (O := own db (.slice (some ⟨sb, 0, none⟩) V.length scap) ov V) (KB.of_kept kw5) (fun _ _ q => q.elim) (fun _ _ q => q) (fun _ _ q => q)
    have hct : CtOk W5 (own db (.slice (some ⟨sb, 0, none⟩) V.length scap) ov V) ⟨cA, s.m, ccp, d, blo, bhi⟩ ⟨s.m, fun _ _ => 1, d, blo, bhi⟩ := ⟨rfl, rfl, rfl, rfl, by show s.m ≤ 1000; omega, hrc, fun _ a ha ho => by
      have h1 := hcn a ha
      have h2 := (H.out.own_lt ho).2
      omega⟩
    have hlo : lo ≤ W5.heap.size := Nat.le_trans hD.lod (Nat.le_of_lt hD.ltd)
    have q5c := cell_old f5 hsb kw5
    obtain ⟨ic, hic, hzc⟩ := Option.map_eq_some_iff.1 infoCt
    simp only [Prod.mk.injEq] at hzc
    have HI := Lib.hid (And.intro hic hzc)
    have HD := Lib.hid hD
    have HC5 := Lib.hid hC5
    have HCT := Lib.hid hct
    have M10 := Lib.hid m10
    have KW5 := Lib.hid kw5
    have HHW := Lib.hid hW5
    have hqv : v.qv = .slice v.qA C.length v.qc := by unfold ShV.qv; rw [hqn]
    have Q5C := Lib.hid q5c
    clear hic hzc hD hC5 hct m10 kw5 hW5 hrc hcn k5 Q5 q5c
    obtain ⟨PB, hPB⟩ : ∃ X : Value → World → Prop, X = fun v' w' => ∃ g' cap, v' = .slice (some ⟨g', 0, none⟩) (C.length + 1) cap ∧ KB (fun k => v.qv.ownBlock = some k) W5 w' ∧ w'.ownsRow lo 92 4 v' (C.length + 1) (ctC C ++ [.slice cA s.m ccp, .int .i64 d, .int .i64 blo, .int .i64 bhi]) ∧ (v.qv.ownBlock = some g' ∨ W5.heap.size ≤ g') := ⟨_, rfl⟩
    obtain ⟨PC, hPC⟩ : ∃ X : Value → World → Prop, X = fun _ w' => ∃ g' cap, (DeskAt w' lo st db { D with shapes := D.shapes.set i { s with prs := s.prs ++ [⟨s.m, fun _ _ => 1, d, blo, bhi⟩] } } (.slice (some ⟨sb, 0, none⟩) V.length scap) ov (V.set i { v with qA := some ⟨g', 0, none⟩, qn := C.length + 1, qc := cap }) ∧ KB (own db (.slice (some ⟨sb, 0, none⟩) V.length scap) ov V) W5 w' ∧ ∀ k, k < W5.heap.size → own db (.slice (some ⟨sb, 0, none⟩) V.length scap) ov (V.set i { v with qA := some ⟨g', 0, none⟩, qn := C.length + 1, qc := cap }) k → own db (.slice (some ⟨sb, 0, none⟩) V.length scap) ov V k) ∧ w'.ownsRow lo 92 4 (.slice (some ⟨g', 0, none⟩) (C.length + 1) cap) (C.length + 1) (ctC C ++ [.slice cA s.m ccp, .int .i64 d, .int .i64 blo, .int .i64 bhi]) := ⟨_, rfl⟩
    have HPB := Lib.hid hPB
    have HPC := Lib.hid hPC
    have hBk : ∀ v x y, PB v x → Kept x y → PB v y := by
      rw [hPB]
      exact fun v x y ⟨g, cap, e1, e2, e3, e4⟩ q => ⟨g, cap, e1, e2.on q, owns_kept e3 q, e4⟩
    have hCk : ∀ v x y, PC v x → Kept x y → PC v y := by
      rw [hPC]
      exact fun _ _ _ ⟨g, cap, ⟨e1, e2, e3⟩, e4⟩ q => ⟨g, cap, ⟨e1.on q, e2.on q, e3⟩, owns_kept e4 q⟩
    have HBK := Lib.hid hBk
    have HCK := Lib.hid hCk
    obtain ⟨O, hO⟩ : ∃ O, O = own db (.slice (some ⟨sb, 0, none⟩) V.length scap) ov V := ⟨_, rfl⟩
    have HO := Lib.hid hO
    rw [← hO] at hno10
    have hOsb : O sb := by rw [hO]; exact .inr (.inl rfl)
    have hOs : ∀ k, v.qv.ownBlock = some k → O k := fun k q => by rw [hO]; exact .inr (.inr (.inr ⟨v, e1 ▸ List.getElem_mem hiV, q⟩))
    have HOS := Lib.hid hOs
    have E1 := Lib.hid e1
    have E2 := Lib.hid e2
    have hse := HD.out.ne_sv (k := sb) rfl
    have HSE := Lib.hid hse
    clear hPB hPC hBk hCk hO hOs e1 e2 hse
    refine wp_region_tellC (C := KB O W5) [.q, .q, .q, .q, .k (.slice v.qA C.length v.qc), .q, .s, .s, .q, .q, .s]
      (AppG 4 6 7 10 W5 O 92 [.slice cA s.m ccp, .int .i64 d, .int .i64 blo, .int .i64 bhi] (Kept W5) PB PC) (by kernel_rfl) (by kernel_rfl) (fun b => by kernel_rfl) ?_ ?_ ?_ ?_
    · exact fun b => AppG.start ((KB.refl _ _).drew) (Kept.refl W5).drew
    · intro i L b w' w'' hs hI hk
      exact (hI.on hk (fun _ _ => Kept.trans) HBK.out HCK.out).other (by rintro rfl; cases hs) (by rintro rfl; cases hs) (by rintro rfl; cases hs) (by rintro rfl; cases hs)
    · exact fun L b w' h => h.z
    apply Exists.intro
    refine ⟨?_, ?_, ?_, ?_⟩
    · rintro b W' hZ
      have g0 := hZ.cell (cell_blk (o := 0) M10.out rfl) hno10
      have g1 := hZ.cell (cell_blk (o := 1) M10.out rfl) hno10
      have g2 := hZ.cell (cell_blk (o := 2) M10.out rfl) hno10
      have g3 := hZ.cell (cell_blk (o := 3) M10.out rfl) hno10
      haveI : Lower n10 W'.heap.size := ⟨cell_lt g0⟩
      haveI : Lower sb W'.heap.size := ⟨Nat.lt_of_lt_of_le (HD.out.own_lt (.inr (.inl rfl))).2 hZ.size⟩
      clear hZ
      simp only [swapL, Nat.reduceAdd]
      repeat (go_big_quiet_step (fail))
      refine wpQuiet_nil ?_
      rfl
    · simp only [EachS, and_true]
      refine ⟨?_, ?_, ?_, ?_⟩
      · intro L b w' hd hL hI
        have h7 : L 7 = false := by
          cases q : L 7 with
          | false => rfl
          | true => have := (hI.a6 q).1; rw [show L 4 = false from hL] at this; cases this
        have kA := hI.p h7
        have c0 : w'.cell? ⟨sb, i * 6 + 5, none⟩ = some (.slice v.qA C.length v.qc) := cell_old Q5C.out (HD.out.own_lt (.inr (.inl rfl))).2 kA
        have LQ : Lower sb w'.heap.size := ⟨cell_lt c0⟩
        have h1 := Lib.hid (hI.op1 (u := .slice v.qA C.length v.qc) (by omega))
        clear hI kA
        go_simp
        exact ⟨rfl, h1.out⟩
      · intro L b w' hd hL hI
        have h5 := Lib.hid (hI.op5 (by omega) hL (fun _ _ => Kept.trans))
        clear hI
        go_simp
        exact ⟨rfl, h5.out⟩
      · intro L b w' hd hL hI
        have d4 : L 4 = true := hd { on := 4, ground := .data } (by simp) rfl
        have d6 : L 6 = true := hd { on := 6, ground := .data } (by simp) rfl
        obtain ⟨g5, e5, e6⟩ := hI.n5 d6
        have kA := hI.p hL
        have how : w'.ownsRow lo 92 4 (.slice v.qA C.length v.qc) C.length (ctC C) := by
          have := owns_kept HC5.out.own kA
          rw [hqv] at this
          exact this
        refine tells_lies (.tmp 102) (.tmp 104) 45 (by rfl) lo 92 ic _ 4 48 Tryz.underlying45 HI.out.1 HI.out.2.1 HI.out.2.2.1 HI.out.2.2.2 (by rfl) (by omega) (Nat.le_trans hlo kA.below.size) _ C.length _ (by rfl) how g5 [.slice cA s.m ccp, .int .i64 d, .int .i64 blo, .int .i64 bhi] e5 (e6 hL) rfl (by simp [Value.oneCell']) (by unfold maxLen; omega) (by omega) ?_
        intro g' cap w'' k1 k2 k3
        rw [← hqv] at k2 k3
        exact ⟨rfl, hI.op6 (by omega) hL d4 d6 (hI.z.grown k2 (fun k e _ => HOS.out k e)) (by rw [HPB.out]; exact ⟨g', cap, rfl, (KB.of_kept kA).grown k2 (fun k e _ => e), k1, k3.imp id (fun e => by rw [e]; exact kA.below.size)⟩)⟩
      · intro L b w' hd hL hI
        have d7 : L 7 = true := hd { on := 7, ground := .data } (by simp) rfl
        have hq := hI.q d7 hL
        rw [HPB.out] at hq
        obtain ⟨g', cap, e9, kb, ow, hn⟩ := hq
        rw [e9] at ow
        have hst := HD.out.addProof hiV hsi5 (C := C) (by rw [E1.out, E2.out]; exact HC5.out) (w1 := w') (g := g') (cap := cap) (ct := ⟨cA, s.m, ccp, d, blo, bhi⟩) (p := ⟨s.m, fun _ _ => 1, d, blo, bhi⟩) (by rw [E1.out]; exact kb) (by rw [E1.out]; exact hn) ow HCT.out (by rw [E2.out]; omega)
        rw [E1.out, E2.out] at hst
        have kbs := kb.block sb (HD.out.own_lt (.inr (.inl rfl))).2 (fun q => HSE.out.2.2 v (E1.out ▸ List.getElem_mem hiV) q)
        have c0 : w'.cell? ⟨sb, i * 6 + 5, none⟩ = some (.slice v.qA C.length v.qc) := (World.cell?_of_block kbs).trans Q5C.out
        have c1 : w'.frozen? ⟨sb, i * 6 + 5, none⟩ = false := (World.frozen?_of_block kbs).trans (HD.out.sh.frozenAt _)
        have LQ : Lower sb w'.heap.size := ⟨cell_lt c0⟩
        have h8 := Lib.hid (hI.op8 (u := undef) (by omega) d7 (hI.z.setCell (p := ⟨sb, i * 6 + 5, none⟩) (fun _ => hOsb) (.slice (some ⟨g', 0, none⟩) (C.length + 1) cap)) (by rw [HPC.out]; exact ⟨g', cap, hst⟩))
        clear hI hst kb ow kbs
        go_simp
        exact ⟨rfl, h8.out⟩
    · intro b b' d9 hd9
      simp [callSlots, dullOp] at hd9
      try (rcases hd9 with rfl | rfl | rfl | rfl <;> rfl)
    intro L b w1 hL hI
    have hs := hI.r (hL 10 (by decide))
    rw [HPC.out] at hs
    obtain ⟨g', cap, ⟨t1, t2, t3⟩, t4⟩ := hs
    have hiV2 : i < (V.set i { v with qA := some ⟨g', 0, none⟩, qn := C.length + 1, qc := cap }).length := by simpa using hiV
    have hsh2 := (owns_shs (w := w1) (lo := lo) (A := some ⟨sb, 0, none⟩) (cap := scap) (V := V.set i { v with qA := some ⟨g', 0, none⟩, qn := C.length + 1, qc := cap }) (by rw [List.length_set]; have := t1.sh; rw [List.length_set] at this; exact this)).at hiV2
    obtain ⟨sb2, so2, eS2, hsb2, u0, u1, u2, u3, u4, u5⟩ := hsh2
    cases eS2
    rw [List.getElem_set_self] at u0 u1 u2 u3 u4 u5
    simp only [Nat.zero_add] at u0 u1 u2 u3 u4 u5
    have tsh := t1.sh
    rw [List.length_set] at tsh
    have z3 : w1.frozen? ⟨sb, i * 6 + 3, none⟩ = false := tsh.frozenAt _
    have z4 : w1.frozen? ⟨sb, i * 6 + 4, none⟩ = false := tsh.frozenAt _
    have y4' : w1.cell? ⟨db, 4, none⟩ = some (.int .i64 D.left) := desk_cell t1.hd rfl
    have y5' : w1.cell? ⟨db, 5, none⟩ = some (.int .i64 D.spent) := desk_cell t1.hd rfl
    have x4 : w1.frozen? ⟨db, 4, none⟩ = false := desk_free t1.hd
    have x5 : w1.frozen? ⟨db, 5, none⟩ = false := desk_free t1.hd
    have hsd : sb ≠ db := HSE.out.1
    have hds' : db ≠ sb := fun q => hsd q.symm
    have hlen4 : (C ++ [(⟨cA, s.m, ccp, d, blo, bhi⟩ : CtV)]).length = C.length + 1 := by simp
    have hcts : CtsAt w1 (some ⟨g', 0, none⟩) (C ++ [(⟨cA, s.m, ccp, d, blo, bhi⟩ : CtV)]) := owns_cts (lo := lo) (cap := cap) (by
      rw [hlen4, ctC_cat]
      have e : ctC C ++ ctC [(⟨cA, s.m, ccp, d, blo, bhi⟩ : CtV)] = ctC C ++ [.slice cA s.m ccp, .int .i64 d, .int .i64 blo, .int .i64 bhi] := by simp [ctC, CtV.cells]
      rw [e]
      exact t4)
    have q6 : ∀ w', Kept w1 w' → _ := fun w' hk => dmeet_any (some ⟨g', 0, none⟩) (C ++ [(⟨cA, s.m, ccp, d, blo, bhi⟩ : CtV)]) cap w' (by rw [hlen4]; omega) (hcts.of hk)
    have hmp : (C ++ [(⟨cA, s.m, ccp, d, blo, bhi⟩ : CtV)]).map CtV.sp = (s.prs ++ [(⟨s.m, fun _ _ => 1, d, blo, bhi⟩ : Crp)]).map Crp.sp := by
      rw [List.map_append, List.map_append]
      have e : C.map CtV.sp = s.prs.map Crp.sp := sp_eq HC5.out
      rw [e]
      rfl
    rw [hlen4, hmp] at q6
    obtain ⟨ml, hml⟩ : ∃ x, (meetL ((s.prs ++ [(⟨s.m, fun _ _ => 1, d, blo, bhi⟩ : Crp)]).map Crp.sp)).1 = x := ⟨_, rfl⟩
    obtain ⟨mh, hmh⟩ : ∃ x, (meetL ((s.prs ++ [(⟨s.m, fun _ _ => 1, d, blo, bhi⟩ : Crp)]).map Crp.sp)).2 = x := ⟨_, rfl⟩
    rw [hml, hmh] at q6
    have Q6 := Lib.hid q6
    have T1 := Lib.hid t1
    have T2 := Lib.hid t2
    have T3 := Lib.hid t3
    have HML := Lib.hid hml
    have HMH := Lib.hid hmh
    have LS : Lower sb w1.heap.size := ⟨hsb2⟩
    have LD : Lower db w1.heap.size := ⟨cell_lt y4'⟩
    have bdl := H.out.bd
    have bds := H.out.bs
    have wkb := workS_bd HS.out.val d
    rw [HWK.out] at wkb
    have hwr : wrap64 (D.spent + wk) = D.spent + wk := by
      have := H.out.few2
      have := H.out.bs
      rw [wrap64_small] <;> omega
    clear hI hL tsh t1 t2 t3 t4 hcts q6 hmp hlen4 hml hmh u0 u1 u2
    go_wp2_with (go_at_call 43; (with_reducible refine (Q6.out _ (by (repeat (first | exact Kept.refl _ | assumption | refine Kept.alloc ?_ _ | refine Kept.ext ?_ _ | refine Kept.drew ?_ | refine Kept.drewN ?_ _)))).mono ?_); rintro e w6 ⟨rfl, y6, rfl⟩)
    go_ret
    refine ⟨rfl, i, rfl, s, HSI.out, ?_⟩
    have hiD2 : i < (D.shapes.set i { s with prs := s.prs ++ [⟨s.m, fun _ _ => 1, d, blo, bhi⟩] }).length := by simpa using hsi5
    have p1 := T1.out.putSpan hiV2 hiD2 ml mh
    obtain ⟨p2, p3, p4⟩ := p1
    have kd : KB (fun k => k = db) ((w1.setCell ⟨sb, i * 6 + 3, none⟩ (.int .i64 ml)).setCell ⟨sb, i * 6 + 4, none⟩ (.int .i64 mh)) ((((w1.setCell ⟨sb, i * 6 + 3, none⟩ (.int .i64 ml)).setCell ⟨sb, i * 6 + 4, none⟩ (.int .i64 mh)).setCell ⟨db, 4, none⟩ (.int .i64 (D.left - wk))).setCell ⟨db, 5, none⟩ (.int .i64 (D.spent + wk))) :=
      ((KB.refl (fun k => k = db) _).setCell (p := ⟨db, 4, none⟩) (fun _ => rfl) _).setCell (p := ⟨db, 5, none⟩) (fun _ => rfl) _
    have hh := desk_five (desk_four p2.hd (.int .i64 (D.left - wk))) (.int .i64 (D.spent + wk))
    have hti := HTI.out.1
    have hf2 := H.out.few2
    have p5 := p2.head (day := D.day) kd hh (by dsimp only; omega) (by dsimp only; omega) (by have := H.out.by'; exact this)
    have p6 := p5.on (w' := ext ((((w1.setCell ⟨sb, i * 6 + 3, none⟩ (.int .i64 ml)).setCell ⟨sb, i * 6 + 4, none⟩ (.int .i64 mh)).setCell ⟨db, 4, none⟩ (.int .i64 (D.left - wk))).setCell ⟨db, 5, none⟩ (.int .i64 (D.spent + wk))) y6) ⟨y6, rfl⟩
    have eD : ({ D with shapes := (D.shapes.set i { s with prs := s.prs ++ [⟨s.m, fun _ _ => 1, d, blo, bhi⟩] }).set i { (D.shapes.set i { s with prs := s.prs ++ [⟨s.m, fun _ _ => 1, d, blo, bhi⟩] })[i] with lo := ml, hi := mh }, day := D.day, left := D.left - wk, spent := D.spent + wk } : Dsk) = prvD D i s ⟨s.m, fun _ _ => 1, d, (evnB s d).lo, (evnB s d).hi⟩ (workS s.n s.P s.m s.F d) := by
      simp only [prvD, Shp.more, List.set_set, List.getElem_set_self, hblo, hbhi, HWK.out, HML.out, HMH.out]
    have p7 : Step W5 (ext ((((w1.setCell ⟨sb, i * 6 + 3, none⟩ (.int .i64 ml)).setCell ⟨sb, i * 6 + 4, none⟩ (.int .i64 mh)).setCell ⟨db, 4, none⟩ (.int .i64 (D.left - wk))).setCell ⟨db, 5, none⟩ (.int .i64 (D.spent + wk))) y6) lo st db (prvD D i s ⟨s.m, fun _ _ => 1, d, (evnB s d).lo, (evnB s d).hi⟩ (workS s.n s.P s.m s.F d)) (own db (.slice (some ⟨sb, 0, none⟩) V.length scap) ov V) := by
      rw [← eD]
      exact ⟨_, _, _, p6, (((T2.out.trans2 p3 fun k hk q => T3.out k hk q).trans (kd.mono fun k _ q => .inl q)).ext y6), fun k hk q => T3.out k hk (p4 k (Nat.lt_of_lt_of_le hk T2.out.size) q)⟩
    exact Step.from KW5.out p7
end Go.Proofs.YtnbjealpcjfllaaGreatDoor

