/- Contract: a panel seen from a triangle, of the program. Conditions: bounds on numbers; the panel is not flat. Contracts: panels seen from each other, of the program. Conditions: both panels are right and the depth is small. An append through a variable in a box, in a region that draws its order. Conditions: those of each theorem. Contract: the mean over two panels, of the program. Conditions: both panels are right and the depth is small. -/
import Derived.Test.YtnbjealpcjfllaaGreatDoorZg
import Derived.Test.YtnbjealpcjfllaaGreatDoorZe
import Derived.Test.YtnbjealpcjfllaaGreatDoorCop
import Derived.Test.YtnbjealpcjfllaaGreatDoorKb
namespace Go.Proofs.YtnbjealpcjfllaaGreatDoor
set_option linter.unusedVariables false
set_option linter.unusedSimpArgs false
open Go.RowKit Go.Shelf
attribute [local go_sem] Oper.semAt_some
theorem rows_pn {w : World} {b : Nat} {T : TypeId} {p : Pn} (h : w.heap[b]? = some (.cells p.cells T (0, 0))) (hb : p.bd 1024) : RowsAt w (some ⟨b, 0, none⟩) 3 3 p.at := by
  intro _
  refine ⟨b, 0, rfl, (Array.getElem?_eq_some_iff.1 h).1, fun k hk j hj => ?_⟩
  obtain ⟨⟨a0, a1, a2⟩, ⟨b0, b1, b2⟩, c0, c1, c2⟩ := hb
  rcases (show k = 0 ∨ k = 1 ∨ k = 2 by omega) with rfl | rfl | rfl <;> rcases (show j = 0 ∨ j = 1 ∨ j = 2 by omega) with rfl | rfl | rfl <;> (refine ⟨cell_blk h rfl, ?_⟩; simp only [Pn.at]; unfold I64; simp; omega)
theorem wpIn_gen {F : Fence} {n : Nat} {P : Program} {c : Code} {Q : Exit → Act → World → Prop} {a : Act} {w : World} (h : ∀ W, W = w → c.wpIn F n P Q a W) : c.wpIn F n P Q a w := h w rfl
theorem frozen_blk {w : World} {b o : Nat} {cs : Array Value} {T : TypeId} (h : w.heap[b]? = some (.cells cs T (0, 0))) : w.frozen? ⟨b, o, none⟩ = false := by
  unfold World.frozen?
  simp [h]
theorem box_put {w : World} {b : Nat} {v0 : Value} {T : TypeId} (h : w.heap[b]? = some (.cells #[v0] T (0, 0))) (v : Value) : (w.setCell ⟨b, 0, none⟩ v).heap[b]? = some (.cells #[v] T (0, 0)) := by
  simp [World.setCell, Array.getElem?_modify, h]
theorem box_other {w : World} {b c i : Nat} {o : Obj} {u : Value} (h : w.heap[b]? = some o) (hne : b ≠ c) : (w.setCell ⟨c, i, none⟩ u).heap[b]? = some o :=
  (Below.heap_setCell w ⟨c, i, none⟩ u b hne).trans h
theorem pair_put {w : World} {b : Nat} {v0 v1 : Value} {T : TypeId} (h : w.heap[b]? = some (.cells #[v0, v1] T (0, 0))) (x y : Value) : ((w.setCell ⟨b, 0, none⟩ x).setCell ⟨b, 1, none⟩ y).heap[b]? = some (.cells #[x, y] T (0, 0)) := by
  simp [World.setCell, Array.getElem?_modify, h]
theorem vals_snoc {G : Pn → Prop} (a : List (PtP G)) (x : PtP G) : valsP (a ++ [x]) = valsP a ++ [x.1] := by simp [valsP]
theorem bd_le {x : Pn} {d : Nat} (h : x.bd (2 ^ d * 64)) (hd : d ≤ 2) : x.bd 1024 := by
  obtain ⟨⟨a, b, c⟩, ⟨e, f, g⟩, h, i, j⟩ := h
  rcases two_pow hd with ⟨w, -, -⟩ | ⟨w, -, -⟩ | ⟨w, -, -⟩ <;> rw [w] at a b c e f g h i j <;> exact ⟨⟨by omega, by omega, by omega⟩, ⟨by omega, by omega, by omega⟩, by omega, by omega, by omega⟩
theorem bd_le2 {x : Pn} (h : x.bd 256) : x.bd 1024 := by
  obtain ⟨⟨a, b, c⟩, ⟨e, f, g⟩, h, i, j⟩ := h
  exact ⟨⟨by omega, by omega, by omega⟩, ⟨by omega, by omega, by omega⟩, by omega, by omega, by omega⟩
theorem sums_bd {d : Nat} {p q : Pn} {r : Int} (h : ∀ x ∈ cutL d p, 0 ≤ lowP d q x ∧ lowP d q x ≤ higP d r q x ∧ higP d r q x ≤ 21040000) (hd : d ≤ 2) (pre : List (PtP fun x => x ∈ cutL d p)) (hl : pre.length < 4 ^ d) :
    (0 ≤ sumP (lowP d q) (valsP pre) ∧ sumP (lowP d q) (valsP pre) ≤ 336640000) ∧ (0 ≤ sumP (higP d r q) (valsP pre) ∧ sumP (higP d r q) (valsP pre) ≤ 336640000) := by
  have h1 := sumP_bd (g := lowP d q) (h := higP d r q) (t := 21040000) (l := valsP pre) (fun x hx => by
    unfold valsP at hx
    obtain ⟨y, -, rfl⟩ := List.mem_map.1 hx
    exact h y.1 y.2)
  have h2 : (valsP pre).length ≤ 16 := by
    rcases two_pow hd with ⟨-, -, e⟩ | ⟨-, -, e⟩ | ⟨-, -, e⟩ <;> rw [e] at hl <;> simp [valsP] <;> omega
  have h3 := Int.mul_le_mul_of_nonneg_right (show ((valsP pre).length : Int) ≤ 16 by omega) (show (0 : Int) ≤ 21040000 by decide)
  omega
set_option maxRecDepth 100000 in
set_option maxHeartbeats 16000000 in
theorem fbetw_any (p q : Pn) (d : Nat) (w : World) (hd : d ≤ 2) (hp : p.bd 64) (hq : q.bd 256) (hn : 1 ≤ p.nn) :
    Calls Tryz.prog 256 #[p.val, q.val, .int .i64 d] w fun e w' => e = .returned (.agg #[.int .i64 (seenS d p q).lo, .int .i64 (seenS d p q).hi]) ∧ Kept w w' := by
  obtain ⟨r, hr⟩ : ∃ r, rimN p.nn d = r := ⟨_, rfl⟩
  have HP := Lib.hid hp
  have HR := Lib.hid hr
  have hpw : wrap64 (2 ^ d) = 2 ^ d := by rcases two_pow hd with ⟨e, -, -⟩ | ⟨e, -, -⟩ | ⟨e, -, -⟩ <;> rw [e] <;> (unfold wrap64; decide)
  have HQ := Lib.hid hq
  have HN := Lib.hid hn
  have hrim : ∀ w', Calls Tryz.prog 288 #[p.val, .int .i64 d] w' fun e w'' => e = .returned (.int .i64 r) ∧ Kept w' w'' := fun w' => by
    have := frim_any p.a0 p.a1 p.a2 p.b0 p.b1 p.b2 p.c0 p.c1 p.c2 d w' (by omega) hp hn
    rw [← hr]
    exact this
  have HRIM := Lib.hid hrim
  have hcut : ∀ w', _ := fun w' => fcut_any p.a0 p.a1 p.a2 p.b0 p.b1 p.b2 p.c0 p.c1 p.c2 d w'
  have HCUT := Lib.hid hcut
  clear hp hq hn hr hrim hcut
  unfold Pn.val at *
  refine (callsIn_wide (n := 9)).1 ?_
  refine callsIn_of_wp_marks Tryz.func256 rfl trivial ?_ rfl
  simp only [Tryz.ntmps256, List.size_toArray, List.length_cons, List.length_nil, Nat.reduceAdd, Nat.reduceSub, Array.replicate_succ, Array.replicate_zero, List.push_toArray, List.append_toArray, List.nil_append, List.cons_append]
  refine wpIn_wide.2 ?_
  go_wp2_with fail
  have hF : frsB [.q, .q, .q, .q, .q, .s, .s, .s, .s] [⟨5, 7, 3, #[.int .i64 0], #[.int .i64 (wrap64 (2 ^ d))]⟩, ⟨6, 8, 3, #[.int .i64 0], #[.int .i64 r]⟩] = true := by kernel_rfl
  refine wp_region_frs _ _ (by kernel_rfl) (by kernel_rfl) hF (fun b => by kernel_rfl) ?_
  apply Exists.intro
  refine ⟨?_, ?_, ?_, ?_⟩
  · rintro b' W9 ⟨yy, rfl⟩
    simp only [swapL, Nat.reduceAdd]
    repeat (go_big_quiet_step (first | (go_at_call 288; exact Calls.kept_of (HRIM.out _))))
    refine wpQuiet_nil ?_
    rfl
  · simp only [EachS, and_true]
    refine ⟨?_, ?_, ?_, ?_⟩
    · exact fun L b' w' hd hL hI => FI.tells_alloc hF 0 rfl hI hL (by go_simp)
    · exact fun L b' w' hd hL hI => FI.tells_alloc hF 1 rfl hI hL (by go_simp)
    · exact fun L b' w' hd hL hI => FI.tells_one hF 0 rfl hI hL (hd { on := 5, ground := .data } (by simp) rfl) 3 (.tmp 7) (.tmp 21) rfl rfl rfl rfl rfl (by kernel_rfl) rfl
    · exact fun L b' w' hd hL hI => FI.tells_one hF 1 rfl hI hL (hd { on := 6, ground := .data } (by simp) rfl) 3 (.tmp 8) (.tmp 24) rfl rfl rfl rfl rfl (by kernel_rfl) rfl
  · intro b1 b2 d9 hd
    simp [callSlots, dullOp] at hd
    all_goals (first | (rcases hd with rfl | rfl <;> rfl) | (subst hd; rfl))
  intro L b' w1 hL hI
  obtain ⟨k0, ek0, lk0, hk0⟩ := hI.ends 0 rfl (hL 5 (by decide)) (hL 7 (by decide))
  have ek0' : b' 5 = _ := ek0
  obtain ⟨k1, ek1, lk1, hk1x⟩ := hI.ends 1 rfl (hL 6 (by decide)) (hL 8 (by decide))
  have ek1' : b' 6 = _ := ek1
  clear hF
  have hk1 := hI.kept
  clear hI hL ek0 ek1
  simp only [ek0', ek1']
  clear ek0' ek1'
  have yq0 : w1.cell? ⟨w.heap.size + 1, 0, none⟩ = some (.int .i64 q.a0) := kp_cell (w := (((w.alloc (.cells #[.int .i64 p.a0, .int .i64 p.a1, .int .i64 p.a2, .int .i64 p.b0, .int .i64 p.b1, .int .i64 p.b2, .int .i64 p.c0, .int .i64 p.c1, .int .i64 p.c2] 207)).alloc (.cells #[.int .i64 q.a0, .int .i64 q.a1, .int .i64 q.a2, .int .i64 q.b0, .int .i64 q.b1, .int .i64 q.b2, .int .i64 q.c0, .int .i64 q.c1, .int .i64 q.c2] 207)).alloc (.cells #[.int .i64 0, .int .i64 0] 44))) (by go_simp) hk1
  have yq1 : w1.cell? ⟨w.heap.size + 1, 1, none⟩ = some (.int .i64 q.a1) := kp_cell (w := (((w.alloc (.cells #[.int .i64 p.a0, .int .i64 p.a1, .int .i64 p.a2, .int .i64 p.b0, .int .i64 p.b1, .int .i64 p.b2, .int .i64 p.c0, .int .i64 p.c1, .int .i64 p.c2] 207)).alloc (.cells #[.int .i64 q.a0, .int .i64 q.a1, .int .i64 q.a2, .int .i64 q.b0, .int .i64 q.b1, .int .i64 q.b2, .int .i64 q.c0, .int .i64 q.c1, .int .i64 q.c2] 207)).alloc (.cells #[.int .i64 0, .int .i64 0] 44))) (by go_simp) hk1
  have yq2 : w1.cell? ⟨w.heap.size + 1, 2, none⟩ = some (.int .i64 q.a2) := kp_cell (w := (((w.alloc (.cells #[.int .i64 p.a0, .int .i64 p.a1, .int .i64 p.a2, .int .i64 p.b0, .int .i64 p.b1, .int .i64 p.b2, .int .i64 p.c0, .int .i64 p.c1, .int .i64 p.c2] 207)).alloc (.cells #[.int .i64 q.a0, .int .i64 q.a1, .int .i64 q.a2, .int .i64 q.b0, .int .i64 q.b1, .int .i64 q.b2, .int .i64 q.c0, .int .i64 q.c1, .int .i64 q.c2] 207)).alloc (.cells #[.int .i64 0, .int .i64 0] 44))) (by go_simp) hk1
  have yq3 : w1.cell? ⟨w.heap.size + 1, 3, none⟩ = some (.int .i64 q.b0) := kp_cell (w := (((w.alloc (.cells #[.int .i64 p.a0, .int .i64 p.a1, .int .i64 p.a2, .int .i64 p.b0, .int .i64 p.b1, .int .i64 p.b2, .int .i64 p.c0, .int .i64 p.c1, .int .i64 p.c2] 207)).alloc (.cells #[.int .i64 q.a0, .int .i64 q.a1, .int .i64 q.a2, .int .i64 q.b0, .int .i64 q.b1, .int .i64 q.b2, .int .i64 q.c0, .int .i64 q.c1, .int .i64 q.c2] 207)).alloc (.cells #[.int .i64 0, .int .i64 0] 44))) (by go_simp) hk1
  have yq4 : w1.cell? ⟨w.heap.size + 1, 4, none⟩ = some (.int .i64 q.b1) := kp_cell (w := (((w.alloc (.cells #[.int .i64 p.a0, .int .i64 p.a1, .int .i64 p.a2, .int .i64 p.b0, .int .i64 p.b1, .int .i64 p.b2, .int .i64 p.c0, .int .i64 p.c1, .int .i64 p.c2] 207)).alloc (.cells #[.int .i64 q.a0, .int .i64 q.a1, .int .i64 q.a2, .int .i64 q.b0, .int .i64 q.b1, .int .i64 q.b2, .int .i64 q.c0, .int .i64 q.c1, .int .i64 q.c2] 207)).alloc (.cells #[.int .i64 0, .int .i64 0] 44))) (by go_simp) hk1
  have yq5 : w1.cell? ⟨w.heap.size + 1, 5, none⟩ = some (.int .i64 q.b2) := kp_cell (w := (((w.alloc (.cells #[.int .i64 p.a0, .int .i64 p.a1, .int .i64 p.a2, .int .i64 p.b0, .int .i64 p.b1, .int .i64 p.b2, .int .i64 p.c0, .int .i64 p.c1, .int .i64 p.c2] 207)).alloc (.cells #[.int .i64 q.a0, .int .i64 q.a1, .int .i64 q.a2, .int .i64 q.b0, .int .i64 q.b1, .int .i64 q.b2, .int .i64 q.c0, .int .i64 q.c1, .int .i64 q.c2] 207)).alloc (.cells #[.int .i64 0, .int .i64 0] 44))) (by go_simp) hk1
  have yq6 : w1.cell? ⟨w.heap.size + 1, 6, none⟩ = some (.int .i64 q.c0) := kp_cell (w := (((w.alloc (.cells #[.int .i64 p.a0, .int .i64 p.a1, .int .i64 p.a2, .int .i64 p.b0, .int .i64 p.b1, .int .i64 p.b2, .int .i64 p.c0, .int .i64 p.c1, .int .i64 p.c2] 207)).alloc (.cells #[.int .i64 q.a0, .int .i64 q.a1, .int .i64 q.a2, .int .i64 q.b0, .int .i64 q.b1, .int .i64 q.b2, .int .i64 q.c0, .int .i64 q.c1, .int .i64 q.c2] 207)).alloc (.cells #[.int .i64 0, .int .i64 0] 44))) (by go_simp) hk1
  have yq7 : w1.cell? ⟨w.heap.size + 1, 7, none⟩ = some (.int .i64 q.c1) := kp_cell (w := (((w.alloc (.cells #[.int .i64 p.a0, .int .i64 p.a1, .int .i64 p.a2, .int .i64 p.b0, .int .i64 p.b1, .int .i64 p.b2, .int .i64 p.c0, .int .i64 p.c1, .int .i64 p.c2] 207)).alloc (.cells #[.int .i64 q.a0, .int .i64 q.a1, .int .i64 q.a2, .int .i64 q.b0, .int .i64 q.b1, .int .i64 q.b2, .int .i64 q.c0, .int .i64 q.c1, .int .i64 q.c2] 207)).alloc (.cells #[.int .i64 0, .int .i64 0] 44))) (by go_simp) hk1
  have yq8 : w1.cell? ⟨w.heap.size + 1, 8, none⟩ = some (.int .i64 q.c2) := kp_cell (w := (((w.alloc (.cells #[.int .i64 p.a0, .int .i64 p.a1, .int .i64 p.a2, .int .i64 p.b0, .int .i64 p.b1, .int .i64 p.b2, .int .i64 p.c0, .int .i64 p.c1, .int .i64 p.c2] 207)).alloc (.cells #[.int .i64 q.a0, .int .i64 q.a1, .int .i64 q.a2, .int .i64 q.b0, .int .i64 q.b1, .int .i64 q.b2, .int .i64 q.c0, .int .i64 q.c1, .int .i64 q.c2] 207)).alloc (.cells #[.int .i64 0, .int .i64 0] 44))) (by go_simp) hk1
  have yp0 : w1.cell? ⟨w.heap.size, 0, none⟩ = some (.int .i64 p.a0) := kp_cell (w := (((w.alloc (.cells #[.int .i64 p.a0, .int .i64 p.a1, .int .i64 p.a2, .int .i64 p.b0, .int .i64 p.b1, .int .i64 p.b2, .int .i64 p.c0, .int .i64 p.c1, .int .i64 p.c2] 207)).alloc (.cells #[.int .i64 q.a0, .int .i64 q.a1, .int .i64 q.a2, .int .i64 q.b0, .int .i64 q.b1, .int .i64 q.b2, .int .i64 q.c0, .int .i64 q.c1, .int .i64 q.c2] 207)).alloc (.cells #[.int .i64 0, .int .i64 0] 44))) (by go_simp) hk1
  have yp1 : w1.cell? ⟨w.heap.size, 1, none⟩ = some (.int .i64 p.a1) := kp_cell (w := (((w.alloc (.cells #[.int .i64 p.a0, .int .i64 p.a1, .int .i64 p.a2, .int .i64 p.b0, .int .i64 p.b1, .int .i64 p.b2, .int .i64 p.c0, .int .i64 p.c1, .int .i64 p.c2] 207)).alloc (.cells #[.int .i64 q.a0, .int .i64 q.a1, .int .i64 q.a2, .int .i64 q.b0, .int .i64 q.b1, .int .i64 q.b2, .int .i64 q.c0, .int .i64 q.c1, .int .i64 q.c2] 207)).alloc (.cells #[.int .i64 0, .int .i64 0] 44))) (by go_simp) hk1
  have yp2 : w1.cell? ⟨w.heap.size, 2, none⟩ = some (.int .i64 p.a2) := kp_cell (w := (((w.alloc (.cells #[.int .i64 p.a0, .int .i64 p.a1, .int .i64 p.a2, .int .i64 p.b0, .int .i64 p.b1, .int .i64 p.b2, .int .i64 p.c0, .int .i64 p.c1, .int .i64 p.c2] 207)).alloc (.cells #[.int .i64 q.a0, .int .i64 q.a1, .int .i64 q.a2, .int .i64 q.b0, .int .i64 q.b1, .int .i64 q.b2, .int .i64 q.c0, .int .i64 q.c1, .int .i64 q.c2] 207)).alloc (.cells #[.int .i64 0, .int .i64 0] 44))) (by go_simp) hk1
  have yp3 : w1.cell? ⟨w.heap.size, 3, none⟩ = some (.int .i64 p.b0) := kp_cell (w := (((w.alloc (.cells #[.int .i64 p.a0, .int .i64 p.a1, .int .i64 p.a2, .int .i64 p.b0, .int .i64 p.b1, .int .i64 p.b2, .int .i64 p.c0, .int .i64 p.c1, .int .i64 p.c2] 207)).alloc (.cells #[.int .i64 q.a0, .int .i64 q.a1, .int .i64 q.a2, .int .i64 q.b0, .int .i64 q.b1, .int .i64 q.b2, .int .i64 q.c0, .int .i64 q.c1, .int .i64 q.c2] 207)).alloc (.cells #[.int .i64 0, .int .i64 0] 44))) (by go_simp) hk1
  have yp4 : w1.cell? ⟨w.heap.size, 4, none⟩ = some (.int .i64 p.b1) := kp_cell (w := (((w.alloc (.cells #[.int .i64 p.a0, .int .i64 p.a1, .int .i64 p.a2, .int .i64 p.b0, .int .i64 p.b1, .int .i64 p.b2, .int .i64 p.c0, .int .i64 p.c1, .int .i64 p.c2] 207)).alloc (.cells #[.int .i64 q.a0, .int .i64 q.a1, .int .i64 q.a2, .int .i64 q.b0, .int .i64 q.b1, .int .i64 q.b2, .int .i64 q.c0, .int .i64 q.c1, .int .i64 q.c2] 207)).alloc (.cells #[.int .i64 0, .int .i64 0] 44))) (by go_simp) hk1
  have yp5 : w1.cell? ⟨w.heap.size, 5, none⟩ = some (.int .i64 p.b2) := kp_cell (w := (((w.alloc (.cells #[.int .i64 p.a0, .int .i64 p.a1, .int .i64 p.a2, .int .i64 p.b0, .int .i64 p.b1, .int .i64 p.b2, .int .i64 p.c0, .int .i64 p.c1, .int .i64 p.c2] 207)).alloc (.cells #[.int .i64 q.a0, .int .i64 q.a1, .int .i64 q.a2, .int .i64 q.b0, .int .i64 q.b1, .int .i64 q.b2, .int .i64 q.c0, .int .i64 q.c1, .int .i64 q.c2] 207)).alloc (.cells #[.int .i64 0, .int .i64 0] 44))) (by go_simp) hk1
  have yp6 : w1.cell? ⟨w.heap.size, 6, none⟩ = some (.int .i64 p.c0) := kp_cell (w := (((w.alloc (.cells #[.int .i64 p.a0, .int .i64 p.a1, .int .i64 p.a2, .int .i64 p.b0, .int .i64 p.b1, .int .i64 p.b2, .int .i64 p.c0, .int .i64 p.c1, .int .i64 p.c2] 207)).alloc (.cells #[.int .i64 q.a0, .int .i64 q.a1, .int .i64 q.a2, .int .i64 q.b0, .int .i64 q.b1, .int .i64 q.b2, .int .i64 q.c0, .int .i64 q.c1, .int .i64 q.c2] 207)).alloc (.cells #[.int .i64 0, .int .i64 0] 44))) (by go_simp) hk1
  have yp7 : w1.cell? ⟨w.heap.size, 7, none⟩ = some (.int .i64 p.c1) := kp_cell (w := (((w.alloc (.cells #[.int .i64 p.a0, .int .i64 p.a1, .int .i64 p.a2, .int .i64 p.b0, .int .i64 p.b1, .int .i64 p.b2, .int .i64 p.c0, .int .i64 p.c1, .int .i64 p.c2] 207)).alloc (.cells #[.int .i64 q.a0, .int .i64 q.a1, .int .i64 q.a2, .int .i64 q.b0, .int .i64 q.b1, .int .i64 q.b2, .int .i64 q.c0, .int .i64 q.c1, .int .i64 q.c2] 207)).alloc (.cells #[.int .i64 0, .int .i64 0] 44))) (by go_simp) hk1
  have yp8 : w1.cell? ⟨w.heap.size, 8, none⟩ = some (.int .i64 p.c2) := kp_cell (w := (((w.alloc (.cells #[.int .i64 p.a0, .int .i64 p.a1, .int .i64 p.a2, .int .i64 p.b0, .int .i64 p.b1, .int .i64 p.b2, .int .i64 p.c0, .int .i64 p.c1, .int .i64 p.c2] 207)).alloc (.cells #[.int .i64 q.a0, .int .i64 q.a1, .int .i64 q.a2, .int .i64 q.b0, .int .i64 q.b1, .int .i64 q.b2, .int .i64 q.c0, .int .i64 q.c1, .int .i64 q.c2] 207)).alloc (.cells #[.int .i64 0, .int .i64 0] 44))) (by go_simp) hk1
  haveI : Lower (w.heap.size + 1) w1.heap.size := ⟨cell_lt yq0⟩
  haveI : Lower w.heap.size w1.heap.size := ⟨cell_lt yp0⟩
  have H0 := Lib.hid hk0
  have H1 := Lib.hid hk1x
  clear hk0 hk1x
  have hrb := heap_kp (alloc_now ((w.alloc (.cells #[.int .i64 p.a0, .int .i64 p.a1, .int .i64 p.a2, .int .i64 p.b0, .int .i64 p.b1, .int .i64 p.b2, .int .i64 p.c0, .int .i64 p.c1, .int .i64 p.c2] 207)).alloc (.cells #[.int .i64 q.a0, .int .i64 q.a1, .int .i64 q.a2, .int .i64 q.b0, .int .i64 q.b1, .int .i64 q.b2, .int .i64 q.c0, .int .i64 q.c1, .int .i64 q.c2] 207)) (.cells #[.int .i64 0, .int .i64 0] 44) (w.heap.size + 1 + 1)) hk1
  have HRB := Lib.hid hrb
  clear hrb
  have hkw : Kept w w1 := (show Kept w (((w.alloc (.cells #[.int .i64 p.a0, .int .i64 p.a1, .int .i64 p.a2, .int .i64 p.b0, .int .i64 p.b1, .int .i64 p.b2, .int .i64 p.c0, .int .i64 p.c1, .int .i64 p.c2] 207)).alloc (.cells #[.int .i64 q.a0, .int .i64 q.a1, .int .i64 q.a2, .int .i64 q.b0, .int .i64 q.b1, .int .i64 q.b2, .int .i64 q.c0, .int .i64 q.c1, .int .i64 q.c2] 207)).alloc (.cells #[.int .i64 0, .int .i64 0] 44)) by (repeat (first | exact Kept.refl _ | assumption | refine Kept.alloc ?_ _ | refine Kept.ext ?_ _ | refine Kept.drew ?_ | refine Kept.drewN ?_ _))).trans hk1
  have HK1 := Lib.hid hkw
  clear hk1 hkw
  go_wp2_with (first | (go_at_call 289; refine (fcorners_any _ _ _ _ _ _ _ _ _ _).mono ?_; rintro e w2 ⟨rfl, x2, rfl⟩) | (go_at_call 258; refine (HCUT.out _).mono ?_; rintro e w3 ⟨rfl, rfl⟩))
  refine wp_gen (fun W2 hW2 => ?_)
  have hT : W2.heap[(adv w1.heap.size x2.obs.size)]? = some (.cells #[.int .i64 q.a0, .int .i64 q.a1, .int .i64 q.a2, .int .i64 q.b0, .int .i64 q.b1, .int .i64 q.b2, .int .i64 q.c0, .int .i64 q.c1, .int .i64 q.c2] 346 (0, 0)) := by rw [hW2]; exact heap_kp (alloc_now (ext w1 x2) _ (adv w1.heap.size x2.obs.size)) (by (repeat (first | exact Kept.refl _ | assumption | refine Kept.alloc ?_ _ | refine Kept.ext ?_ _ | refine Kept.drew ?_ | refine Kept.drewN ?_ _)))
  have hL : W2.heap[(adv w1.heap.size x2.obs.size + 1)]? = some (.cells #[.int .i64 0] 3 (0, 0)) := by rw [hW2]; exact heap_kp (alloc_now (World.alloc (ext w1 x2) (.cells #[.int .i64 q.a0, .int .i64 q.a1, .int .i64 q.a2, .int .i64 q.b0, .int .i64 q.b1, .int .i64 q.b2, .int .i64 q.c0, .int .i64 q.c1, .int .i64 q.c2] 346)) _ (adv w1.heap.size x2.obs.size + 1)) (by (repeat (first | exact Kept.refl _ | assumption | refine Kept.alloc ?_ _ | refine Kept.ext ?_ _ | refine Kept.drew ?_ | refine Kept.drewN ?_ _)))
  have hH : W2.heap[(adv w1.heap.size x2.obs.size + 1 + 1)]? = some (.cells #[.int .i64 0] 3 (0, 0)) := by rw [hW2]; exact heap_kp (alloc_now (World.alloc (World.alloc (ext w1 x2) (.cells #[.int .i64 q.a0, .int .i64 q.a1, .int .i64 q.a2, .int .i64 q.b0, .int .i64 q.b1, .int .i64 q.b2, .int .i64 q.c0, .int .i64 q.c1, .int .i64 q.c2] 346)) (.cells #[.int .i64 0] 3)) _ (adv w1.heap.size x2.obs.size + 1 + 1)) (by (repeat (first | exact Kept.refl _ | assumption | refine Kept.alloc ?_ _ | refine Kept.ext ?_ _ | refine Kept.drew ?_ | refine Kept.drewN ?_ _)))
  have hPB : W2.heap[(adv w1.heap.size x2.obs.size + 1 + 1 + 1)]? = some (.cells #[.int .i64 p.a0, .int .i64 p.a1, .int .i64 p.a2, .int .i64 p.b0, .int .i64 p.b1, .int .i64 p.b2, .int .i64 p.c0, .int .i64 p.c1, .int .i64 p.c2] 207 (0, 0)) := by rw [hW2]; exact heap_kp (alloc_now (World.alloc (World.alloc (World.alloc (ext w1 x2) (.cells #[.int .i64 q.a0, .int .i64 q.a1, .int .i64 q.a2, .int .i64 q.b0, .int .i64 q.b1, .int .i64 q.b2, .int .i64 q.c0, .int .i64 q.c1, .int .i64 q.c2] 346)) (.cells #[.int .i64 0] 3)) (.cells #[.int .i64 0] 3)) _ (adv w1.heap.size x2.obs.size + 1 + 1 + 1)) (by (repeat (first | exact Kept.refl _ | assumption | refine Kept.alloc ?_ _ | refine Kept.ext ?_ _ | refine Kept.drew ?_ | refine Kept.drewN ?_ _)))
  have hDB : W2.heap[(adv w1.heap.size x2.obs.size + 1 + 1 + 1 + 1)]? = some (.cells #[.int .i64 d] 3 (0, 0)) := by rw [hW2]; exact heap_kp (alloc_now (World.alloc (World.alloc (World.alloc (World.alloc (ext w1 x2) (.cells #[.int .i64 q.a0, .int .i64 q.a1, .int .i64 q.a2, .int .i64 q.b0, .int .i64 q.b1, .int .i64 q.b2, .int .i64 q.c0, .int .i64 q.c1, .int .i64 q.c2] 346)) (.cells #[.int .i64 0] 3)) (.cells #[.int .i64 0] 3)) (.cells #[.int .i64 p.a0, .int .i64 p.a1, .int .i64 p.a2, .int .i64 p.b0, .int .i64 p.b1, .int .i64 p.b2, .int .i64 p.c0, .int .i64 p.c1, .int .i64 p.c2] 207)) _ (adv w1.heap.size x2.obs.size + 1 + 1 + 1 + 1)) (by (repeat (first | exact Kept.refl _ | assumption | refine Kept.alloc ?_ _ | refine Kept.ext ?_ _ | refine Kept.drew ?_ | refine Kept.drewN ?_ _)))
  have hS : W2.heap[k0]? = some (.cells #[.int .i64 (wrap64 (2 ^ d))] 3 (0, 0)) := by rw [hW2]; exact heap_kp H0.out (by (repeat (first | exact Kept.refl _ | assumption | refine Kept.alloc ?_ _ | refine Kept.ext ?_ _ | refine Kept.drew ?_ | refine Kept.drewN ?_ _)))
  have hB : W2.heap[k1]? = some (.cells #[.int .i64 r] 3 (0, 0)) := by rw [hW2]; exact heap_kp H1.out (by (repeat (first | exact Kept.refl _ | assumption | refine Kept.alloc ?_ _ | refine Kept.ext ?_ _ | refine Kept.drew ?_ | refine Kept.drewN ?_ _)))
  have hRB : W2.heap[w.heap.size + 1 + 1]? = some (.cells #[.int .i64 0, .int .i64 0] 44 (0, 0)) := by rw [hW2]; exact heap_kp HRB.out (by (repeat (first | exact Kept.refl _ | assumption | refine Kept.alloc ?_ _ | refine Kept.ext ?_ _ | refine Kept.drew ?_ | refine Kept.drewN ?_ _)))
  have lrb : w.heap.size + 1 + 1 < w1.heap.size := (Array.getElem?_eq_some_iff.1 HRB.out).1
  have hkw : Kept w W2 := by rw [hW2]; exact HK1.out.trans (by (repeat (first | exact Kept.refl _ | assumption | refine Kept.alloc ?_ _ | refine Kept.ext ?_ _ | refine Kept.drew ?_ | refine Kept.drewN ?_ _)))
  have l0 : k0 < w1.heap.size := (Array.getElem?_eq_some_iff.1 H0.out).1
  have l1 : k1 < w1.heap.size := (Array.getElem?_eq_some_iff.1 H1.out).1
  have lz : w1.heap.size ≤ (adv w1.heap.size x2.obs.size) := adv_le _ _
  have lw := (HK1.out : Kept w w1).below.size
  have bl := (Array.getElem?_eq_some_iff.1 hL).1
  have bh := (Array.getElem?_eq_some_iff.1 hH).1
  clear hW2 HK1 H0 H1 HRB yq0 yp0 yq1 yp1 yq2 yp2 yq3 yp3 yq4 yp4 yq5 yp5 yq6 yp6 yq7 yp7 yq8 yp8
  revert hT hL hH hPB hDB l0 l1 lz lw lrb bl bh
  generalize (adv w1.heap.size x2.obs.size) = bt
  intro hT hL hH hPB hDB l0 l1 lz lw lrb bl bh
  refine (wpIn_wide (n := 9)).1 ?_
  have hcs := cut_stops (n := 8) (G := fun x => x ∈ cutL d p) (rndS (e1 := bt + 1) (e2 := bt + 1 + 1) (n0 := W2.heap.size) bl bh) (bt + 1 + 1 + 1) (bt + 1 + 1 + 1 + 1) d p 64 W2 (fun x h => h) (by omega) HP.out (by rcases two_pow hd with ⟨e, -, -⟩ | ⟨e, -, -⟩ | ⟨e, -, -⟩ <;> rw [e] <;> decide) (Nat.le_refl _) hPB hDB
  refine range_parts (sx := 12) (sy := 30) (G := fun x => x ∈ cutL d p) (Kp := KpS (bt + 1) (bt + 1 + 1)) rfl hcs (by omega) (fun h k => h.trans k) (fun W l o o' _ h hc _ => kpS_b W l o o' h hc) (Below.refl _ _)
    (fun pre W => W.heap[bt + 1]? = some (.cells #[.int .i64 (sumP (lowP d q) (valsP pre))] 3 (0, 0)) ∧ W.heap[bt + 1 + 1]? = some (.cells #[.int .i64 (sumP (higP d r q) (valsP pre))] 3 (0, 0)) ∧ KpS (bt + 1) (bt + 1 + 1) W2 W ∧ Below w.heap.size w W ∧ W.heap[w.heap.size + 1 + 1]? = some (.cells #[.int .i64 0, .int .i64 0] 44 (0, 0)))
    (fun _ _ _ => False)
    (fun s A B row hs hg hr => ⟨heap_from hg hr hs.1 rfl, heap_from hg hr hs.2.1 rfl, hs.2.2.1.from hg hr, below_from hs.2.2.2.1 (Nat.le_refl _) hkw.below.size hg hr, heap_from hg hr hs.2.2.2.2 rfl⟩)
    (fun _ _ _ _ _ hs _ _ => hs)
    ⟨hL, hH, KpS.refl _ _ _, hkw.below, hRB⟩ ?assign ?body ?done ?stop
  case stop =>
    rintro D c pre W _ _ h _
    exact h.elim
  case assign =>
    rintro l pre x W K ⟨i1, i2, i3, i4, i5⟩ hK
    have hK2 := hK W.heap.size (W.alloc (.cells x.1.cells 207)) ((KeepsOthers.alloc _ _).from _) ((KpS.refl _ _ _).alloc _) ⟨heap_kp i1 (by (repeat (first | exact Kept.refl _ | assumption | refine Kept.alloc ?_ _ | refine Kept.ext ?_ _ | refine Kept.drew ?_ | refine Kept.drewN ?_ _))), heap_kp i2 (by (repeat (first | exact Kept.refl _ | assumption | refine Kept.alloc ?_ _ | refine Kept.ext ?_ _ | refine Kept.drew ?_ | refine Kept.drewN ?_ _))), i3.alloc _, i4.alloc (Nat.le_trans hkw.below.size i3.size) _, heap_kp i5 (by (repeat (first | exact Kept.refl _ | assumption | refine Kept.alloc ?_ _ | refine Kept.ext ?_ _ | refine Kept.drew ?_ | refine Kept.drewN ?_ _)))⟩ (alloc_now W _ _) i3.size
    dsimp only [Pn.val]
    gi_wp2
    exact hK2
  case body =>
    rintro l pre x Bx W hl ⟨i1, i2, i3, i4, i5⟩ hX hBx hlen
    have hx := x.2
    have pb := part_bd hd HP.out HQ.out HN.out hx
    rw [HR.out] at pb
    have sb := sums_bd (HR.out ▸ fun x hx => part_bd hd HP.out HQ.out HN.out hx) hd pre hlen
    have xb := cutL_bd d p 64 HP.out x.1 hx
    obtain ⟨z, hz⟩ := x
    simp only at hX hx pb xb ⊢
    have hT1 := i3.cells _ _ _ _ hT (by omega) (by omega) (by decide)
    have hS1 := i3.cells _ _ _ _ hS (by omega) (by omega) (by decide)
    have hB1 := i3.cells _ _ _ _ hB (by omega) (by omega) (by decide)
    obtain ⟨sl, esl⟩ : ∃ y, sumP (lowP d q) (valsP pre) = y := ⟨_, rfl⟩
    obtain ⟨sh, esh⟩ : ∃ y, sumP (higP d r q) (valsP pre) = y := ⟨_, rfl⟩
    rw [esl] at i1 sb
    rw [esh] at i2 sb
    have nZ := Pn.near1 (bd_le xb hd) (Int.le_refl _)
    have nQ := Pn.near1 HQ.out (by omega)
    obtain ⟨f, ef⟩ : ∃ y, farI z.at q.at 3 3 = y := ⟨_, rfl⟩
    obtain ⟨nn, en⟩ : ∃ y, nearP z.at 3 q.at 3 = y := ⟨_, rfl⟩
    have elow : lowP d q z = (inverseS f (2 ^ d)).lo := by unfold lowP; rw [ef]
    have ehig : higP d r q z = if 0 < nn then min r (inverseS nn (2 ^ d)).hi else r := by unfold higP; rw [en]
    have EF := Lib.hid ef
    have XB := Lib.hid (bd_le xb hd)
    have NZ := Lib.hid nZ
    have NQ := Lib.hid nQ
    obtain ⟨vlo, evl⟩ : ∃ y, (inverseS f (2 ^ d)).lo = y := ⟨_, rfl⟩
    obtain ⟨vhi, evh⟩ : ∃ y, (inverseS f (2 ^ d)).hi = y := ⟨_, rfl⟩
    obtain ⟨ve, eve⟩ : ∃ y, (inverseS f (2 ^ d)).e = y := ⟨_, rfl⟩
    have hinv : ∀ w', _ := fun w' => spanInv_any f (2 ^ d) w'
    rw [evl, evh, eve] at hinv
    rw [elow, ehig, evl] at pb
    have HINV := Lib.hid hinv
    have EL := Lib.hid (elow.trans evl)
    have EH := Lib.hid ehig
    have EN := Lib.hid en
    have ESL := Lib.hid esl
    have ESH := Lib.hid esh
    rw [hpw] at hS1
    have s0 : W.cell? ⟨k0, 0, none⟩ = some (.int .i64 (2 ^ d)) := cell_blk hS1 rfl
    haveI : Lower k0 W.heap.size := ⟨cell_lt s0⟩
    haveI : Lower k1 W.heap.size := ⟨(Array.getElem?_eq_some_iff.1 hB1).1⟩
    haveI : Lower bt W.heap.size := ⟨(Array.getElem?_eq_some_iff.1 hT1).1⟩
    haveI : Lower Bx W.heap.size := ⟨(Array.getElem?_eq_some_iff.1 hX).1⟩
    have f0 : W.cell? ⟨Bx, 0, none⟩ = some (.int .i64 z.a0) := cell_blk hX rfl
    have f1 : W.cell? ⟨Bx, 1, none⟩ = some (.int .i64 z.a1) := cell_blk hX rfl
    have f2 : W.cell? ⟨Bx, 2, none⟩ = some (.int .i64 z.a2) := cell_blk hX rfl
    have f3 : W.cell? ⟨Bx, 3, none⟩ = some (.int .i64 z.b0) := cell_blk hX rfl
    have f4 : W.cell? ⟨Bx, 4, none⟩ = some (.int .i64 z.b1) := cell_blk hX rfl
    have f5 : W.cell? ⟨Bx, 5, none⟩ = some (.int .i64 z.b2) := cell_blk hX rfl
    have f6 : W.cell? ⟨Bx, 6, none⟩ = some (.int .i64 z.c0) := cell_blk hX rfl
    have f7 : W.cell? ⟨Bx, 7, none⟩ = some (.int .i64 z.c1) := cell_blk hX rfl
    have f8 : W.cell? ⟨Bx, 8, none⟩ = some (.int .i64 z.c2) := cell_blk hX rfl
    have I1 := Lib.hid i1
    have I2 := Lib.hid i2
    have I3 := Lib.hid i3
    have I4 := Lib.hid i4
    have I5 := Lib.hid i5
    have T1 := Lib.hid hT1
    have B1 := Lib.hid hB1
    have S1 := Lib.hid hS1
    clear i1 i2 i3 i4 i5 hT1 hB1 hS1 hX hinv elow ehig ef en evl evh eve esl esh nZ nQ xb
    dsimp only [Pn.val]
    gi_wp2_with (refine ⟨trivial, ?_⟩; gi_at_call 289; refine (CallsIn.inRound l (callsIn_wide.2 (fcorners_any _ _ _ _ _ _ _ _ _ _))).mono ?_; rintro e w2 ⟨rfl, x2, rfl⟩)
    refine wpIn_gen (fun W5 hW5 => ?_)
    have hk5 : Kept W W5 := by rw [hW5]; (repeat (first | exact Kept.refl _ | assumption | refine Kept.alloc ?_ _ | refine Kept.ext ?_ _ | refine Kept.drew ?_ | refine Kept.drewN ?_ _))
    have hZ5 : W5.heap[adv W.heap.size x2.obs.size]? = some (.cells z.cells 346 (0, 0)) := by rw [hW5]; exact alloc_now _ _ _
    have hz5 : W.heap.size ≤ adv W.heap.size x2.obs.size := adv_le _ _
    clear hW5
    revert hZ5 hz5
    generalize adv W.heap.size x2.obs.size = bz
    intro hZ5 hz5
    have hZ : RowsAt W5 (some ⟨bz, 0, none⟩) 3 3 z.at := rows_pn hZ5 XB.out
    have hT5 := heap_kp T1.out hk5
    have hQ5 : RowsAt W5 (some ⟨bt, 0, none⟩) 3 3 q.at := rows_pn hT5 (bd_le2 HQ.out)
    have hfar : ∀ w', Kept W5 w' → _ := fun w' hk => ffar_any (some ⟨bz, 0, none⟩) (some ⟨bt, 0, none⟩) 3 3 3 3 z.at q.at w' (by omega) (hZ.of hk) (hQ5.of hk) NZ.out NQ.out
    rw [EF.out] at hfar
    have HFAR := Lib.hid hfar
    have s5 : W5.cell? ⟨k0, 0, none⟩ = some (.int .i64 (2 ^ d)) := kp_cell s0 hk5
    haveI : Lower k0 W5.heap.size := ⟨cell_lt s5⟩
    haveI : Lower bt W5.heap.size := ⟨(Array.getElem?_eq_some_iff.1 hT5).1⟩
    haveI : Lower bz W5.heap.size := ⟨(Array.getElem?_eq_some_iff.1 hZ5).1⟩
    have Z5 := Lib.hid hZ5
    have T5 := Lib.hid hT5
    have K5 := Lib.hid hk5
    clear hk5 hZ5 hT5 hZ hQ5 hfar
    have hF : frsB [.q, .q, .q, .q, .q, .q, .q, .q, .s, .s, .q] [⟨8, 9, 44, #[.int .i64 0, .int .i64 0], #[.int .i64 vlo, .int .i64 vhi]⟩] = true := by kernel_rfl
    refine wpIn_round_frs _ _ (by kernel_rfl) (by kernel_rfl) (by kernel_rfl) hF (fun b => by kernel_rfl) (by rintro ⟨_, _, h⟩; exact h) ?_
    apply Exists.intro
    refine ⟨?_, ?_, ?_, ?_⟩
    · rintro b' W9 ⟨yy, rfl⟩
      simp only [swapL, Nat.reduceAdd]
      repeat (go_big_quiet_step (first | (go_at_call 291; exact Calls.kept_of (HFAR.out _ (by (repeat (first | exact Kept.refl _ | assumption | refine Kept.alloc ?_ _ | refine Kept.ext ?_ _ | refine Kept.drew ?_ | refine Kept.drewN ?_ _))))) | (go_at_call 290; exact Calls.kept_of (HINV.out _))))
      refine wpQuiet_nil ?_
      rfl
    · simp only [EachS, and_true]
      refine ⟨?_, ?_⟩
      · exact fun L b' w' hd hL hI => FI.tells_alloc hF 0 rfl hI hL (by go_simp)
      · exact fun L b' w' hd hL hI => FI.tells_store hF 0 rfl hI hL (hd { on := 8, ground := .data } (by simp) rfl) 44 (.tmp 14) (.tmp 39) rfl rfl rfl (by kernel_rfl) rfl (by kernel_rfl)
    · intro b1 b2 d9 hd
      simp [callSlots, dullOp] at hd
      all_goals (first | (rcases hd with rfl | rfl <;> rfl) | (subst hd; rfl))
    intro L b' w1 hL hI
    obtain ⟨kl, ekl, lkl, hk1x⟩ := hI.ends 0 rfl (hL 8 (by decide)) (hL 9 (by decide))
    have ekl' : b' 8 = _ := ekl
    clear hF
    have hk1 := hI.kept
    clear hI hL ekl
    simp only [ekl']
    clear ekl'
    have kl' : Kept W w1 := K5.out.trans hk1
    have j1 := heap_kp I1.out kl'
    have j2 := heap_kp I2.out kl'
    have jT := heap_kp T5.out hk1
    have jZ := heap_kp Z5.out hk1
    have jS := heap_kp S1.out kl'
    have jB := heap_kp B1.out kl'
    have c1 : w1.cell? ⟨bt + 1, 0, none⟩ = some (.int .i64 sl) := cell_blk j1 rfl
    have c2 : w1.cell? ⟨bt + 1 + 1, 0, none⟩ = some (.int .i64 sh) := cell_blk j2 rfl
    have c3 : w1.cell? ⟨k0, 0, none⟩ = some (.int .i64 (2 ^ d)) := cell_blk jS rfl
    have c4 : w1.cell? ⟨k1, 0, none⟩ = some (.int .i64 r) := cell_blk jB rfl
    have c5 : w1.cell? ⟨kl, 0, none⟩ = some (.int .i64 vlo) := cell_blk hk1x rfl
    have g1 : w1.frozen? ⟨bt + 1, 0, none⟩ = false := frozen_blk j1
    have g2 : w1.frozen? ⟨bt + 1 + 1, 0, none⟩ = false := frozen_blk j2
    haveI : Lower (bt + 1) w1.heap.size := ⟨cell_lt c1⟩
    haveI : Lower (bt + 1 + 1) w1.heap.size := ⟨cell_lt c2⟩
    haveI : Lower k0 w1.heap.size := ⟨cell_lt c3⟩
    haveI : Lower k1 w1.heap.size := ⟨cell_lt c4⟩
    haveI : Lower kl w1.heap.size := ⟨cell_lt c5⟩
    haveI : Lower bz w1.heap.size := ⟨(Array.getElem?_eq_some_iff.1 jZ).1⟩
    haveI : Lower bt w1.heap.size := ⟨(Array.getElem?_eq_some_iff.1 jT).1⟩
    have v1 : bt + 1 < W.heap.size := (Array.getElem?_eq_some_iff.1 I1.out).1
    have v2 : bt + 1 + 1 < W.heap.size := (Array.getElem?_eq_some_iff.1 I2.out).1
    have v3 := K5.out.below.size
    have m1 : ¬ (bt + 1 = k1) := by omega
    have m2 : ¬ (bt + 1 = k0) := by omega
    have m3 : ¬ (bt + 1 = kl) := by omega
    have m4 : ¬ (bt + 1 = bt + 1 + 1) := by omega
    have m5 : ¬ (bt + 1 + 1 = bt + 1) := by omega
    have m6 : ¬ (bt + 1 + 1 = kl) := by omega
    have u1 := box_put j1 (.int .i64 (sl + vlo))
    have u2 := box_other (c := bt + 1) (i := 0) (u := .int .i64 (sl + vlo)) j2 (by omega)
    have uT := box_other (c := bt + 1) (i := 0) (u := .int .i64 (sl + vlo)) jT (by omega)
    have uZ := box_other (c := bt + 1) (i := 0) (u := .int .i64 (sl + vlo)) jZ (by omega)
    have rZ := rows_pn uZ XB.out
    have rT := rows_pn (p := q) uT (bd_le2 HQ.out)
    have hnear : ∀ w', Kept (w1.setCell ⟨bt + 1, 0, none⟩ (.int .i64 (sl + vlo))) w' → _ := fun w' hk => fnear_any (some ⟨bz, 0, none⟩) (some ⟨bt, 0, none⟩) 3 3 3 3 z.at q.at w' (by omega) (rZ.of hk) (rT.of hk) NZ.out NQ.out
    rw [EN.out] at hnear
    have HNEAR := Lib.hid hnear
    have U1 := Lib.hid u1
    have U2 := Lib.hid u2
    have KL := Lib.hid kl'
    clear jT jZ jS jB uT uZ rZ rT hnear u1 u2 kl' hk1x
    gi_wp2_with fail
    refine wpIn_round_kept (by kernel_rfl) (by kernel_rfl) (by kernel_rfl) (by rintro ⟨_, _, h⟩; exact h) ?_
    repeat (go_big_quiet_step (first | (go_at_call 292; exact Calls.kept_of (HNEAR.out _ (by (repeat (first | exact Kept.refl _ | assumption | refine Kept.alloc ?_ _ | refine Kept.ext ?_ _ | refine Kept.drew ?_ | refine Kept.drewN ?_ _)))))))
    refine wpQuiet_nil ?_
    intro x6
    have v0 : w.heap.size ≤ W.heap.size := Nat.le_trans hkw.below.size I3.out.size
    have v4 : w.heap.size ≤ bt + 1 := by omega
    have v5 : w.heap.size ≤ bt + 1 + 1 := by omega
    have v6 : w.heap.size ≤ ((w1.setCell ⟨bt + 1, 0, none⟩ (.int .i64 (sl + vlo))).setCell ⟨bt + 1 + 1, 0, none⟩ (.int .i64 0)).heap.size := by
      rw [World.size_setCell, World.size_setCell]
      have := KL.out.below.size
      omega
    rw [World.size_setCell, World.size_setCell] at v6
    by_cases hgt : 0 < nn
    · obtain ⟨wl, ewl⟩ : ∃ y, (inverseS nn (2 ^ d)).lo = y := ⟨_, rfl⟩
      obtain ⟨wh, ewh⟩ : ∃ y, (inverseS nn (2 ^ d)).hi = y := ⟨_, rfl⟩
      obtain ⟨we, ewe⟩ : ∃ y, (inverseS nn (2 ^ d)).e = y := ⟨_, rfl⟩
      have hinv2 : ∀ w', _ := fun w' => spanInv_any nn (2 ^ d) w'
      rw [ewl, ewh, ewe] at hinv2
      rw [if_pos hgt, ewh] at pb
      have HI2 := Lib.hid hinv2
      have EW := Lib.hid ewh
      have HG := Lib.hid hgt
      have hg1 : decide (0 < nn) = true := decide_eq_true hgt
      clear hinv2 ewl ewh ewe
      gi_wp2_with (refine ⟨trivial, ?_⟩; gi_at_call 290; refine (CallsIn.inRound l (callsIn_wide.2 (HI2.out _))).mono ?_; rintro e w7 ⟨rfl, x7, rfl⟩)
      refine ⟨?_, ?_, ?_, ?_, ?_, ?_, ?_⟩
      · exact ((((others_kept KL.out).trans (KeepsOthers.setCell _ _ _)).trans (KeepsOthers.setCell _ _ _)).trans (others_kept (show Kept ((w1.setCell ⟨bt + 1, 0, none⟩ (.int .i64 (sl + vlo))).setCell ⟨bt + 1 + 1, 0, none⟩ (.int .i64 (sh + min r wh))) _ by (repeat (first | exact Kept.refl _ | assumption | refine Kept.alloc ?_ _ | refine Kept.ext ?_ _ | refine Kept.drew ?_ | refine Kept.drewN ?_ _))))).from _
      · exact ((((KpS.kept KL.out).put (p := ⟨bt + 1, 0, none⟩) (.inl rfl) _).put (p := ⟨bt + 1 + 1, 0, none⟩) (.inr rfl) _).on (show Kept ((w1.setCell ⟨bt + 1, 0, none⟩ (.int .i64 (sl + vlo))).setCell ⟨bt + 1 + 1, 0, none⟩ (.int .i64 (sh + min r wh))) _ by (repeat (first | exact Kept.refl _ | assumption | refine Kept.alloc ?_ _ | refine Kept.ext ?_ _ | refine Kept.drew ?_ | refine Kept.drewN ?_ _))))
      · have e : sumP (lowP d q) (valsP (pre ++ [⟨z, hz⟩])) = sl + vlo := by rw [vals_snoc, sumP_snoc, ESL.out, EL.out]
        rw [e]
        exact heap_kp (box_other (c := bt + 1 + 1) (i := 0) (u := .int .i64 (sh + min r wh)) U1.out (by omega)) (by (repeat (first | exact Kept.refl _ | assumption | refine Kept.alloc ?_ _ | refine Kept.ext ?_ _ | refine Kept.drew ?_ | refine Kept.drewN ?_ _)))
      · have e : sumP (higP d r q) (valsP (pre ++ [⟨z, hz⟩])) = sh + min r wh := by rw [vals_snoc, sumP_snoc, ESH.out, EH.out, if_pos HG.out, EW.out]
        rw [e]
        exact heap_kp (box_put U2.out (.int .i64 (sh + min r wh))) (by (repeat (first | exact Kept.refl _ | assumption | refine Kept.alloc ?_ _ | refine Kept.ext ?_ _ | refine Kept.drew ?_ | refine Kept.drewN ?_ _)))
      · exact I3.out.trans ((((KpS.kept KL.out).put (p := ⟨bt + 1, 0, none⟩) (.inl rfl) _).put (p := ⟨bt + 1 + 1, 0, none⟩) (.inr rfl) _).on (show Kept ((w1.setCell ⟨bt + 1, 0, none⟩ (.int .i64 (sl + vlo))).setCell ⟨bt + 1 + 1, 0, none⟩ (.int .i64 (sh + min r wh))) _ by (repeat (first | exact Kept.refl _ | assumption | refine Kept.alloc ?_ _ | refine Kept.ext ?_ _ | refine Kept.drew ?_ | refine Kept.drewN ?_ _))))
      · exact (((I4.out.trans (KL.out.below.mono v0)).setCell (p := ⟨bt + 1, 0, none⟩) v4 _).setCell (p := ⟨bt + 1 + 1, 0, none⟩) v5 _).trans ((show Kept ((w1.setCell ⟨bt + 1, 0, none⟩ (.int .i64 (sl + vlo))).setCell ⟨bt + 1 + 1, 0, none⟩ (.int .i64 (sh + min r wh))) _ by (repeat (first | exact Kept.refl _ | assumption | refine Kept.alloc ?_ _ | refine Kept.ext ?_ _ | refine Kept.drew ?_ | refine Kept.drewN ?_ _))).below.mono (by rw [World.size_setCell, World.size_setCell]; exact v6))
      · exact heap_kp (box_other (c := bt + 1 + 1) (i := 0) (u := .int .i64 (sh + min r wh)) (box_other (c := bt + 1) (i := 0) (u := .int .i64 (sl + vlo)) (heap_kp I5.out KL.out) (by omega)) (by omega)) (by (repeat (first | exact Kept.refl _ | assumption | refine Kept.alloc ?_ _ | refine Kept.ext ?_ _ | refine Kept.drew ?_ | refine Kept.drewN ?_ _)))
    · rw [if_neg hgt] at pb
      have HG := Lib.hid hgt
      have hg1 : decide (0 < nn) = false := decide_eq_false hgt
      gi_wp2_with fail
      refine ⟨?_, ?_, ?_, ?_, ?_, ?_, ?_⟩
      · exact ((((others_kept KL.out).trans (KeepsOthers.setCell _ _ _)).trans (KeepsOthers.setCell _ _ _)).trans (others_kept (show Kept ((w1.setCell ⟨bt + 1, 0, none⟩ (.int .i64 (sl + vlo))).setCell ⟨bt + 1 + 1, 0, none⟩ (.int .i64 (sh + r))) _ by (repeat (first | exact Kept.refl _ | assumption | refine Kept.alloc ?_ _ | refine Kept.ext ?_ _ | refine Kept.drew ?_ | refine Kept.drewN ?_ _))))).from _
      · exact ((((KpS.kept KL.out).put (p := ⟨bt + 1, 0, none⟩) (.inl rfl) _).put (p := ⟨bt + 1 + 1, 0, none⟩) (.inr rfl) _).on (show Kept ((w1.setCell ⟨bt + 1, 0, none⟩ (.int .i64 (sl + vlo))).setCell ⟨bt + 1 + 1, 0, none⟩ (.int .i64 (sh + r))) _ by (repeat (first | exact Kept.refl _ | assumption | refine Kept.alloc ?_ _ | refine Kept.ext ?_ _ | refine Kept.drew ?_ | refine Kept.drewN ?_ _))))
      · have e : sumP (lowP d q) (valsP (pre ++ [⟨z, hz⟩])) = sl + vlo := by rw [vals_snoc, sumP_snoc, ESL.out, EL.out]
        rw [e]
        exact heap_kp (box_other (c := bt + 1 + 1) (i := 0) (u := .int .i64 (sh + r)) U1.out (by omega)) (by (repeat (first | exact Kept.refl _ | assumption | refine Kept.alloc ?_ _ | refine Kept.ext ?_ _ | refine Kept.drew ?_ | refine Kept.drewN ?_ _)))
      · have e : sumP (higP d r q) (valsP (pre ++ [⟨z, hz⟩])) = sh + r := by rw [vals_snoc, sumP_snoc, ESH.out, EH.out, if_neg (show ¬ (0 < nn) by have := HG.out; omega)]
        rw [e]
        exact heap_kp (box_put U2.out (.int .i64 (sh + r))) (by (repeat (first | exact Kept.refl _ | assumption | refine Kept.alloc ?_ _ | refine Kept.ext ?_ _ | refine Kept.drew ?_ | refine Kept.drewN ?_ _)))
      · exact I3.out.trans ((((KpS.kept KL.out).put (p := ⟨bt + 1, 0, none⟩) (.inl rfl) _).put (p := ⟨bt + 1 + 1, 0, none⟩) (.inr rfl) _).on (show Kept ((w1.setCell ⟨bt + 1, 0, none⟩ (.int .i64 (sl + vlo))).setCell ⟨bt + 1 + 1, 0, none⟩ (.int .i64 (sh + r))) _ by (repeat (first | exact Kept.refl _ | assumption | refine Kept.alloc ?_ _ | refine Kept.ext ?_ _ | refine Kept.drew ?_ | refine Kept.drewN ?_ _))))
      · exact (((I4.out.trans (KL.out.below.mono v0)).setCell (p := ⟨bt + 1, 0, none⟩) v4 _).setCell (p := ⟨bt + 1 + 1, 0, none⟩) v5 _).trans ((show Kept ((w1.setCell ⟨bt + 1, 0, none⟩ (.int .i64 (sl + vlo))).setCell ⟨bt + 1 + 1, 0, none⟩ (.int .i64 (sh + r))) _ by (repeat (first | exact Kept.refl _ | assumption | refine Kept.alloc ?_ _ | refine Kept.ext ?_ _ | refine Kept.drew ?_ | refine Kept.drewN ?_ _))).below.mono (by rw [World.size_setCell, World.size_setCell]; exact v6))
      · exact heap_kp (box_other (c := bt + 1 + 1) (i := 0) (u := .int .i64 (sh + r)) (box_other (c := bt + 1) (i := 0) (u := .int .i64 (sl + vlo)) (heap_kp I5.out KL.out) (by omega)) (by omega)) (by (repeat (first | exact Kept.refl _ | assumption | refine Kept.alloc ?_ _ | refine Kept.ext ?_ _ | refine Kept.drew ?_ | refine Kept.drewN ?_ _)))
  case done =>
    rintro D ys W hD hS ⟨i1, i2, i3, i4, i5⟩ hK
    have b1 : W.cell? ⟨bt + 1, 0, none⟩ = some (.int .i64 (sumP (lowP d q) (valsP ys))) := cell_blk i1 rfl
    have b2 : W.cell? ⟨bt + 1 + 1, 0, none⟩ = some (.int .i64 (sumP (higP d r q) (valsP ys))) := cell_blk i2 rfl
    haveI : Lower (bt + 1) W.heap.size := ⟨cell_lt b1⟩
    haveI : Lower (bt + 1 + 1) W.heap.size := ⟨cell_lt b2⟩
    have b3 : W.cell? ⟨w.heap.size + 1 + 1, 0, none⟩ = some (.int .i64 0) := cell_blk i5 rfl
    have b4 : W.cell? ⟨w.heap.size + 1 + 1, 1, none⟩ = some (.int .i64 0) := cell_blk i5 rfl
    have b5 : W.frozen? ⟨w.heap.size + 1 + 1, 0, none⟩ = false := frozen_blk i5
    have b6 : W.frozen? ⟨w.heap.size + 1 + 1, 1, none⟩ = false := frozen_blk i5
    haveI : Lower (w.heap.size + 1 + 1) W.heap.size := ⟨cell_lt b3⟩
    have I4 := Lib.hid i4
    have I5 := Lib.hid i5
    have HK := Lib.hid hK
    have HYS := Lib.hid (hS : valsP ys = cutL d p)
    clear i1 i2 i3 i4 i5 hK hS
    go_wp2_with fail
    refine wp_region_tail 6 (by kernel_rfl) (by kernel_rfl) ?_
    simp only [List.take_succ_cons, List.take_zero, List.drop_succ_cons, List.drop_zero]
    repeat (go_big_quiet_step (first | (go_at_call 293; exact Calls.kept_of (favg_any _ _ _ _))))
    refine wpQuiet_nil ?_
    intro x9
    go_wp2_with fail
    have p1 := box_other (c := w.heap.size + 1 + 1) (i := 1) (u := .int .i64 (partS (sumP (lowP d q) (valsP ys)) (sumP (higP d r q) (valsP ys)) (wrap64 (2 ^ (2 * d)))).hi) (box_other (c := w.heap.size + 1 + 1) (i := 0) (u := .int .i64 (partS (sumP (lowP d q) (valsP ys)) (sumP (higP d r q) (valsP ys)) (wrap64 (2 ^ (2 * d)))).lo) HK.out (by omega)) (by omega)
    have p2 := heap_kp p1 (show Kept _ (ext _ x9) from ⟨x9, rfl⟩)
    refine ⟨by simp, .inl ⟨_, _, rfl, run_takeDeferred p2, ?_⟩⟩
    have p3 : (((W.setCell ⟨w.heap.size + 1 + 1, 0, none⟩ (.int .i64 (partS (sumP (lowP d q) (valsP ys)) (sumP (higP d r q) (valsP ys)) (wrap64 (2 ^ (2 * d)))).lo)).setCell ⟨w.heap.size + 1 + 1, 1, none⟩ (.int .i64 (partS (sumP (lowP d q) (valsP ys)) (sumP (higP d r q) (valsP ys)) (wrap64 (2 ^ (2 * d)))).hi))).heap[w.heap.size + 1 + 1]? = some (.cells #[(.int .i64 (partS (sumP (lowP d q) (valsP ys)) (sumP (higP d r q) (valsP ys)) (wrap64 (2 ^ (2 * d)))).lo), (.int .i64 (partS (sumP (lowP d q) (valsP ys)) (sumP (higP d r q) (valsP ys)) (wrap64 (2 ^ (2 * d)))).hi)] 44 (0, 0)) := pair_put I5.out _ _
    have p4 := heap_kp p3 (show Kept _ (ext _ x9) from ⟨x9, rfl⟩)
    have p5 := (World.putObj_heap_other (o := .deferred none) (show w.heap.size + 1 + 1 ≠ D by omega)).trans p4
    have q1 := cell_blk (o := 0) p5 rfl
    have q2 := cell_blk (o := 1) p5 rfl
    have hp4 : wrap64 (2 ^ (2 * d)) = (4 : Int) ^ d := by rcases (show d = 0 ∨ d = 1 ∨ d = 2 by omega) with rfl | rfl | rfl <;> (unfold wrap64; decide)
    have eS : seenS d p q = partS (sumP (lowP d q) (valsP ys)) (sumP (higP d r q) (valsP ys)) (wrap64 (2 ^ (2 * d))) := by
      unfold seenS
      rw [HYS.out, HR.out, hp4]
    refine ⟨_, ?_, rfl, ?_⟩
    · rw [eS]
      clear eS hp4
      simp only [results, Tryz.results256]
      go_simp
    · refine Kept.of_below ((((I4.out.setCell (p := ⟨w.heap.size + 1 + 1, 0, none⟩) (show w.heap.size ≤ w.heap.size + 1 + 1 by omega) _).setCell (p := ⟨w.heap.size + 1 + 1, 1, none⟩) (show w.heap.size ≤ w.heap.size + 1 + 1 by omega) _).trans ((show Kept _ (ext _ x9) from ⟨x9, rfl⟩).below.mono (by rw [World.size_setCell, World.size_setCell]; exact I4.out.size))).grown (grownBy_putObj' _ D (.deferred none)) ?_ ?_)
      · rw [ext_size, World.size_setCell, World.size_setCell]
        exact Nat.le_trans I4.out.size (adv_le _ _)
      · intro k e
        cases e
        have := hkw.below.size
        omega
end Go.Proofs.YtnbjealpcjfllaaGreatDoor

namespace Go.Proofs.YtnbjealpcjfllaaGreatDoor
set_option linter.unusedVariables false
set_option linter.unusedSimpArgs false
open Go.RowKit Go.Shelf
theorem vpan_ok {p : Pn} (h : p.bd 64) (hn : 1 ≤ p.nn) : vpanS p.a0 p.a1 p.a2 p.b0 p.b1 p.b2 p.c0 p.c1 p.c2 = 0 := by
  obtain ⟨⟨a0, a1, a2⟩, ⟨b0, b1, b2⟩, c0, c1, c2⟩ := h
  unfold vpanS
  rw [inB_mk (by omega), inB_mk (by omega), inB_mk (by omega)]
  simp only [Bool.true_and, if_true]
  refine if_neg ?_
  rintro ⟨h0, h1, h2⟩
  unfold Pn.nn Pn.nx Pn.ny Pn.nz at hn
  rw [h0, h1, h2] at hn
  omega
theorem dep_ok {d : Nat} (hd : d ≤ 2) : frB d 0 2 = true := by
  unfold frB
  exact decide_eq_true (by omega)
theorem fpair_any (p q : Pn) (d : Nat) (w : World) (hd : d ≤ 2) (hp : p.bd 64 ∧ 1 ≤ p.nn) (hq : q.bd 64 ∧ 1 ≤ q.nn) :
    Calls Tryz.prog 255 #[p.val, q.val, .int .i64 d] w fun e w' => e = .returned (.int .i64 0) ∧ Kept w w' := by
  have h1 : ∀ w', Calls Tryz.prog 286 #[p.val] w' fun e w'' => e = .returned (.int .i64 0) ∧ Kept w' w'' := fun w' => by
    have := svpan_any p.a0 p.a1 p.a2 p.b0 p.b1 p.b2 p.c0 p.c1 p.c2 w'
    rw [vpan_ok hp.1 hp.2] at this
    exact this
  have h2 : ∀ w', Calls Tryz.prog 286 #[q.val] w' fun e w'' => e = .returned (.int .i64 0) ∧ Kept w' w'' := fun w' => by
    have := svpan_any q.a0 q.a1 q.a2 q.b0 q.b1 q.b2 q.c0 q.c1 q.c2 w'
    rw [vpan_ok hq.1 hq.2] at this
    exact this
  have h3 : ∀ w', _ := fun w' => fwithin2_any d 0 2 w'
  rw [dep_ok hd] at h3
  unfold Pn.val at *
  have H1 := Lib.hid h1
  have H2 := Lib.hid h2
  have H3 := Lib.hid h3
  clear h1 h2 h3
  go_enter Tryz.func255, Tryz.ntmps255
  go_wp2_with (first | (go_at_call 286; (with_reducible refine (H1.out _).mono ?_); rintro e w1 ⟨rfl, x1, rfl⟩) | (go_at_call 286; (with_reducible refine (H2.out _).mono ?_); rintro e w1 ⟨rfl, x2, rfl⟩) | (go_at_call 287; refine (H3.out _).mono ?_; rintro e w1 ⟨rfl, rfl⟩))
  go_ret
  exact ⟨rfl, by (repeat (first | exact Kept.refl _ | assumption | refine Kept.alloc ?_ _ | refine Kept.ext ?_ _ | refine Kept.drew ?_ | refine Kept.drewN ?_ _))⟩
set_option maxRecDepth 100000 in
set_option maxHeartbeats 8000000 in
theorem fBetween_any (p q : Pn) (d : Nat) (w : World) (hd : d ≤ 2) (hp : p.bd 64 ∧ 1 ≤ p.nn) (hq : q.bd 64 ∧ 1 ≤ q.nn) :
    Calls Tryz.prog 222 #[p.val, q.val, .int .i64 d] w fun e w' => e = .returned (.tuple #[.agg #[.int .i64 (betP d p q).lo, .int .i64 (betP d p q).hi], .int .i64 0]) ∧ Kept w w' := by
  have h1 : ∀ w', _ := fun w' => fpair_any p q d w' hd hp hq
  have h2 : ∀ w', _ := fun w' => fbetw_any p (q.mul (2 ^ d)) d w' hd hp.1 (mul_bd2 hd hq.1) hp.2
  have h3 : ∀ (x0 x1 x2 : Int) w', (-64 ≤ x0 ∧ x0 ≤ 64) ∧ (-64 ≤ x1 ∧ x1 ≤ 64) ∧ (-64 ≤ x2 ∧ x2 ≤ 64) → _ := fun x0 x1 x2 w' hx => ftimes_any x0 x1 x2 (2 ^ d) w' (by
    rcases two_pow hd with ⟨e, -, -⟩ | ⟨e, -, -⟩ | ⟨e, -, -⟩ <;> rw [e] <;> omega)
  have hpw : wrap64 (2 ^ d) = 2 ^ d := by rcases two_pow hd with ⟨e, -, -⟩ | ⟨e, -, -⟩ | ⟨e, -, -⟩ <;> rw [e] <;> (unfold wrap64; decide)
  obtain ⟨⟨a0, a1, a2⟩, ⟨b0, b1, b2⟩, c0, c1, c2⟩ := hq.1
  unfold betP
  obtain ⟨s, es⟩ : ∃ s, seenS d p (q.mul (2 ^ d)) = s := ⟨_, rfl⟩
  rw [es] at h2 ⊢
  unfold Pn.val Pn.mul at *
  have H1 := Lib.hid h1
  have H2 := Lib.hid h2
  have H3 := Lib.hid h3
  clear h1 h2 h3 es hp hq
  go_enter Tryz.func222, Tryz.ntmps222
  go_wp2_with (first | (go_at_call 255; refine (H1.out _).mono ?_; rintro e w1 ⟨rfl, x1, rfl⟩))
  (first | (with_reducible refine wp_region_tail2 16 (by kernel_rfl) (by kernel_rfl) ?_) | refine wp_region_tail 16 (by kernel_rfl) (by kernel_rfl) ?_)
  simp only [List.take_succ_cons, List.take_zero, List.drop_succ_cons, List.drop_zero]
  repeat (go_big_quiet_step (first | (go_at_call 257; exact Calls.kept_of (H3.out _ _ _ _ (by omega))) | (go_at_call 256; exact Calls.kept_of (H2.out _))))
  refine wpQuiet_nil ?_
  intro x9
  go_wp2_with fail
  refine bodyPost_ret (by simp only [results, Tryz.results222]; go_simp; rfl) rfl ?_
  exact ⟨rfl, by (repeat (first | exact Kept.refl _ | assumption | refine Kept.alloc ?_ _ | refine Kept.ext ?_ _ | refine Kept.drew ?_ | refine Kept.drewN ?_ _))⟩
/-- The cells of a list of spans. -/
def xsP (g : Pn → R) (l : List Pn) : List Value := l.flatMap fun x => [.int .i64 (g x).lo, .int .i64 (g x).hi]
theorem xsP_snoc (g : Pn → R) (l : List Pn) (x : Pn) : xsP g (l ++ [x]) = xsP g l ++ [.int .i64 (g x).lo, .int .i64 (g x).hi] := by simp [xsP]
theorem xsP_row (g : Pn → R) : ∀ (l : List Pn) (n : Nat), n ≤ l.length → xsP g (l.take n) = rowC 2 (fun k j => if j = 0 then (g (l.getD k default)).lo else (g (l.getD k default)).hi) n
  | l, 0, _ => by simp [xsP, rowC]
  | l, n + 1, h => by
    have e : l.take (n + 1) = l.take n ++ [l.getD n default] := by
      rw [List.take_succ_eq_append_getElem (by omega), List.getD_eq_getElem?_getD, List.getElem?_eq_getElem (by omega)]
      rfl
    rw [e, xsP_snoc, xsP_row g l n (by omega)]
    simp [rowC, List.range_succ]
end Go.Proofs.YtnbjealpcjfllaaGreatDoor

namespace Go.Proofs.YtnbjealpcjfllaaGreatDoor
set_option linter.unusedVariables false
set_option linter.unusedSimpArgs false
open Go.RowKit Go.Deep
/-- i1 loads the list, i5 makes the list of one element, i6 appends it, i8 stores the list in the box; Z is what else is known. -/
structure AppB (i1 i5 i6 i8 base mb : Nat) (To e : TypeId) (c : Nat) (v : Value) (k : Nat) (xs news : List Value) (Z : World → Prop) (L : Nat → Bool) (b : Nat → Value) (w' : World) : Prop where
  z : Z w'
  a8 : L i8 = true → L i6 = true ∧ L i1 = true
  n5 : L i5 = true → ∃ g, b i5 = .slice (some ⟨g, 0, none⟩) 1 1 ∧ (L i6 = false → w'.heap[g]? = some (.cells news.toArray e (0, 0)))
  s : L i6 = false → w'.ownsRow base e c v k xs
  t : L i6 = true → w'.ownsRow base e c (b i6) (k + 1) (xs ++ news)
  q : w'.heap[mb]? = some (.cells #[if L i8 = true then b i6 else v] To (0, 0))
section
variable {i1 i5 i6 i8 base mb : Nat} {To e : TypeId} {c : Nat} {v : Value} {k : Nat} {xs news : List Value} {Z : World → Prop} {L : Nat → Bool} {b : Nat → Value} {w' w'' : World}
theorem AppB.start (hz : Z w') (hs : w'.ownsRow base e c v k xs) (hq : w'.heap[mb]? = some (.cells #[v] To (0, 0))) : AppB i1 i5 i6 i8 base mb To e c v k xs news Z (fun _ => false) b w' :=
  ⟨hz, fun e => (by cases e), fun e => (by cases e), fun _ => hs, fun e => (by cases e), hq⟩
theorem AppB.on (h : AppB i1 i5 i6 i8 base mb To e c v k xs news Z L b w') (hz : Z w'') (hk : Kept w' w'') : AppB i1 i5 i6 i8 base mb To e c v k xs news Z L b w'' :=
  ⟨hz, h.a8, fun e => by
    obtain ⟨g, e1, e2⟩ := h.n5 e
    exact ⟨g, e1, fun e3 => fr_kept (e2 e3) hk⟩, fun e => owns_kept (h.s e) hk, fun e => owns_kept (h.t e) hk, fr_kept h.q hk⟩
theorem AppB.other (h : AppB i1 i5 i6 i8 base mb To e c v k xs news Z L b w') {i : Nat} (h1 : i ≠ i1) (h5 : i ≠ i5) (h6 : i ≠ i6) (h8 : i ≠ i8) : AppB i1 i5 i6 i8 base mb To e c v k xs news Z (doneAt L i) b w' := by
  have d1 : doneAt L i i1 = L i1 := if_neg (Ne.symm h1)
  have d5 : doneAt L i i5 = L i5 := if_neg (Ne.symm h5)
  have d6 : doneAt L i i6 = L i6 := if_neg (Ne.symm h6)
  have d8 : doneAt L i i8 = L i8 := if_neg (Ne.symm h8)
  refine ⟨h.z, ?_, ?_, ?_, ?_, ?_⟩
  · rw [d8, d6, d1]; exact h.a8
  · rw [d5, d6]; exact h.n5
  · rw [d6]; exact h.s
  · rw [d6]; exact h.t
  · rw [d8]; exact h.q
theorem AppB.no8 (h : AppB i1 i5 i6 i8 base mb To e c v k xs news Z L b w') (h3 : L i6 = false ∨ L i1 = false) : L i8 = false := by
  cases h8 : L i8 with
  | false => rfl
  | true =>
    have := h.a8 h8
    rw [this.1, this.2] at h3
    simp at h3
theorem AppB.v0 (h : AppB i1 i5 i6 i8 base mb To e c v k xs news Z L b w') (d1 : L i1 = false) : w'.cell? ⟨mb, 0, none⟩ = some v := by
  have hq := h.q
  rw [h.no8 (.inr d1)] at hq
  simp only [Bool.false_eq_true, if_false] at hq
  unfold World.cell?
  simp [hq]
theorem AppB.op1 {u : Value} (h : AppB i1 i5 i6 i8 base mb To e c v k xs news Z L b w') (hi : i1 < i5 ∧ i5 < i6 ∧ i6 < i8) : AppB i1 i5 i6 i8 base mb To e c v k xs news Z (doneAt L i1) (tellAt b i1 u) w' := by
  have d5 : doneAt L i1 i5 = L i5 := if_neg (by omega)
  have d6 : doneAt L i1 i6 = L i6 := if_neg (by omega)
  have d8 : doneAt L i1 i8 = L i8 := if_neg (by omega)
  have t5 : tellAt b i1 u i5 = b i5 := if_neg (by omega)
  have t6 : tellAt b i1 u i6 = b i6 := if_neg (by omega)
  refine ⟨h.z, ?_, ?_, ?_, ?_, ?_⟩
  · rw [d8, d6]; intro e; exact ⟨(h.a8 e).1, if_pos rfl⟩
  · rw [d5, d6, t5]; exact h.n5
  · rw [d6]; exact h.s
  · rw [d6, t6]; exact h.t
  · rw [d8, t6]; exact h.q
theorem AppB.op5 (h : AppB i1 i5 i6 i8 base mb To e c v k xs news Z L b w') (hi : i1 < i5 ∧ i5 < i6 ∧ i6 < i8) (hz : Z (w'.alloc (.cells news.toArray e))) :
    AppB i1 i5 i6 i8 base mb To e c v k xs news Z (doneAt L i5) (tellAt b i5 (.slice (some ⟨w'.heap.size, 0, none⟩) 1 1)) (w'.alloc (.cells news.toArray e)) := by
  have h' := h.on hz ((Kept.refl w').alloc (.cells news.toArray e))
  have d1 : doneAt L i5 i1 = L i1 := if_neg (by omega)
  have d6 : doneAt L i5 i6 = L i6 := if_neg (by omega)
  have d8 : doneAt L i5 i8 = L i8 := if_neg (by omega)
  have t6 : tellAt b i5 (.slice (some ⟨w'.heap.size, 0, none⟩) 1 1) i6 = b i6 := if_neg (by omega)
  refine ⟨h'.z, ?_, ?_, ?_, ?_, ?_⟩
  · rw [d8, d6, d1]; exact h'.a8
  · intro _; exact ⟨_, if_pos rfl, fun _ => heap_alloc_new w' _⟩
  · rw [d6]; exact h'.s
  · rw [d6, t6]; exact h'.t
  · rw [d8, t6]; exact h'.q
theorem AppB.op6 {v' : Value} (h : AppB i1 i5 i6 i8 base mb To e c v k xs news Z L b w') (hi : i1 < i5 ∧ i5 < i6 ∧ i6 < i8) (hT : To ≠ e) (d : L i6 = false) (hz : Z w'') (hown : w''.ownsRow base e c v' (k + 1) (xs ++ news)) (hg : w'.grownBy w'' v.ownBlock) :
    AppB i1 i5 i6 i8 base mb To e c v k xs news Z (doneAt L i6) (tellAt b i6 v') w'' := by
  have e8 := h.no8 (.inl d)
  have hq := h.q
  rw [e8] at hq
  simp only [Bool.false_eq_true, if_false] at hq
  have d1 : doneAt L i6 i1 = L i1 := if_neg (by omega)
  have d5 : doneAt L i6 i5 = L i5 := if_neg (by omega)
  have d6 : doneAt L i6 i6 = true := if_pos rfl
  have d8 : doneAt L i6 i8 = L i8 := if_neg (by omega)
  have t5 : tellAt b i6 v' i5 = b i5 := if_neg (by omega)
  have t6 : tellAt b i6 v' i6 = v' := if_pos rfl
  refine ⟨hz, ?_, ?_, ?_, ?_, ?_⟩
  · rw [d8, e8]; intro e; cases e
  · rw [d5, d6, t5]
    intro e1
    obtain ⟨g, e2, -⟩ := h.n5 e1
    exact ⟨g, e2, fun e3 => by cases e3⟩
  · rw [d6]; intro e; cases e
  · rw [t6]; intro _; exact hown
  · rw [d8, e8]
    simp only [Bool.false_eq_true, if_false]
    exact own_keepsB (h.s d) hg hq hT
theorem AppB.op8 {u : Value} (h : AppB i1 i5 i6 i8 base mb To e c v k xs news Z L b w') (hi : i1 < i5 ∧ i5 < i6 ∧ i6 < i8) (hT : To ≠ e) (d1 : L i1 = true) (d6 : L i6 = true) (hz : Z (w'.setCell ⟨mb, 0, none⟩ (b i6))) :
    AppB i1 i5 i6 i8 base mb To e c v k xs news Z (doneAt L i8) (tellAt b i8 u) (w'.setCell ⟨mb, 0, none⟩ (b i6)) := by
  have e1 : doneAt L i8 i1 = L i1 := if_neg (by omega)
  have e5 : doneAt L i8 i5 = L i5 := if_neg (by omega)
  have e6 : doneAt L i8 i6 = L i6 := if_neg (by omega)
  have e8 : doneAt L i8 i8 = true := if_pos rfl
  have t5 : tellAt b i8 u i5 = b i5 := if_neg (by omega)
  have t6 : tellAt b i8 u i6 = b i6 := if_neg (by omega)
  have ht := h.t d6
  refine ⟨hz, ?_, ?_, ?_, ?_, ?_⟩
  · rw [e6, e1]; intro _; exact ⟨d6, d1⟩
  · rw [e5, e6, t5]
    intro q1
    obtain ⟨g, q2, -⟩ := h.n5 q1
    exact ⟨g, q2, fun q3 => by rw [d6] at q3; cases q3⟩
  · rw [e6, d6]; intro q; cases q
  · rw [t6]
    intro _
    refine owns_same ht fun g hg => Below.heap_setCell w' ⟨mb, 0, none⟩ _ g (fun q => ?_)
    have q : g = mb := q
    subst q
    rcases ht.2 with ⟨e0, -⟩ | ⟨g', cp, cur, e0, -, hc, -⟩
    · rw [e0] at hg; cases hg
    · rw [e0] at hg
      simp only [Value.ownBlock, Option.some.injEq] at hg
      subst hg
      have := h.q
      rw [hc] at this
      simp only [Option.some.injEq, Obj.cells.injEq] at this
      exact hT this.2.1.symm
  · rw [e8, t6]
    simp only [if_true]
    have hq := h.q
    simp [World.setCell, Array.getElem?_modify, hq]
theorem AppB.done (h : AppB i1 i5 i6 i8 base mb To e c v k xs news Z L b w') (d6 : L i6 = true) (d8 : L i8 = true) : ∃ v', w'.ownsRow base e c v' (k + 1) (xs ++ news) ∧ w'.heap[mb]? = some (.cells #[v'] To (0, 0)) ∧ Z w' := by
  refine ⟨b i6, h.t d6, ?_, h.z⟩
  have := h.q
  rw [d8] at this
  simpa using this
end
/-- One element of two ints in a block of its own. -/
theorem one_rows2 {w : World} {g : Nat} {x y : Int} {T : TypeId} (h : w.heap[g]? = some (.cells [Value.int .i64 x, Value.int .i64 y].toArray T (0, 0))) (hx : I64 x ∧ I64 y) : RowsAt w (some ⟨g, 0, none⟩) 1 2 (fun _ j => if j = 0 then x else y) := by
  intro _
  refine ⟨g, 0, rfl, (Array.getElem?_eq_some_iff.1 h).1, fun k hk j hj => ?_⟩
  obtain rfl : k = 0 := by omega
  rcases (show j = 0 ∨ j = 1 by omega) with rfl | rfl
  · exact ⟨cell_blk h rfl, hx.1⟩
  · exact ⟨cell_blk h rfl, hx.2⟩
theorem rowC_one2 (x y : Int) : rowC 2 (fun _ j => if j = 0 then x else y) 1 = [.int .i64 x, .int .i64 y] := by simp [rowC, List.range_succ]
end Go.Proofs.YtnbjealpcjfllaaGreatDoor

namespace Go.Proofs.YtnbjealpcjfllaaGreatDoor
set_option linter.unusedVariables false
set_option linter.unusedSimpArgs false
open Go.RowKit Go.Shelf
attribute [local go_sem] Oper.semAt_some
theorem info_spn : (Tryz.prog.info? 44).map (fun i => (i.zero, i.size, i.bytes)) = some (some (.agg #[.int .i64 0, .int .i64 0]), 2, 16) := by kernel_rfl
theorem spans_rows {w : World} {A : Option Addr} {n : Nat} {f : Nat → Nat → Int} (h : RowsAt w A n 2 f) : SpansAt w A n (fun k => f k 0) (fun k => f k 1) := by
  intro h0
  obtain ⟨b, off, rfl, hb, hc⟩ := h h0
  refine ⟨b, off, rfl, hb, fun k hk => ⟨?_, (hc k hk 1 (by omega)).1⟩⟩
  have := (hc k hk 0 (by omega)).1
  simpa using this
theorem wpIn_round_tellC {P : Program} {Q : Exit → Act → World → Prop} {w : World} {C : World → Prop} {l : List Oper} {id l0 n : Nat} {a : Act} (sp : List Tk) (I : (Nat → Bool) → (Nat → Value) → World → Prop) (hm : P.follows .mixedOrders = true) (hnd : noDeferB l = true) (hB : tellB l sp = true) (hL : ∀ b, Region.lexB .any (swapL b sp 0 l).toArray = true) (hO : ¬ LetsOut Q)
    (h0 : ∀ b, I (fun _ => false) b w.drew)
    (hq : ∀ (i : Nat) (L : Nat → Bool) (b : Nat → Value) (w' w'' : World), spAt sp i = false → I L b w' → Kept w' w'' → I (doneAt L i) b w'')
    (hK : ∀ L b w', I L b w' → C w')
    (h : ∃ aF : (Nat → Value) → Act,
      (∀ b W, C W → wpQuiet P (swapL b sp 0 l).toArray (fun w' => ∃ x, w' = ext W x) (fun a' => a' = aF b) (swapL b sp 0 l) a) ∧
      EachS (fun i o => ∀ (L : Nat → Bool) (b : Nat → Value) (w' : World), (∀ e ∈ o.after, Region.binds .any e = true → L e.on = true) → L i = false → I L b w' →
        tellsUpon P (fun v w'' => v = (sp.getD i .q).val v ∧ I (doneAt L i) (tellAt b i v) w'') ((execOp (aF b).eval o).run P w')) sp 0 l ∧
      (∀ b b', ∀ d ∈ callSlots sp l, (aF b).tmps[d]? = (aF b').tmps[d]?) ∧
      (∀ L b w', (∀ i, i < l.length → L i = true) → I L b w' → Q .normal (aF b) w')) : (Code.region id l.toArray true).wpIn (Fence.wide.inRound l0) n P Q a w :=
  wpIn_region_any hm (any_round (noDefer_spec hnd) hO _ _ _ _ (any_region_tellC sp I hB hL h0 hq hK h))
/-- What a round that appends keeps. -/
structure MutZ (nf nb bo rb : Nat) (w W W' : World) : Prop where
  k : KpS bo bo W W'
  f : KeepsFrom nf W W'
  b : Below nb w W'
  r : W'.heap[rb]? = some (.cells #[.int .i64 0, .int .i64 0] 44 (0, 0))
theorem MutZ.on {nf nb bo rb : Nat} {w W A B : World} (h : MutZ nf nb bo rb w W A) (hnb : nb ≤ A.heap.size) (hk : Kept A B) : MutZ nf nb bo rb w W B :=
  ⟨h.k.on hk, h.f.trans ((others_kept hk).from _), h.b.trans (hk.below.mono hnb), heap_kp h.r hk⟩
theorem MutZ.put {nf nb bo rb : Nat} {w W A : World} (h : MutZ nf nb bo rb w W A) (hb : nb ≤ bo) (hne : rb ≠ bo) (u : Value) : MutZ nf nb bo rb w W (A.setCell ⟨bo, 0, none⟩ u) :=
  ⟨h.k.put (p := ⟨bo, 0, none⟩) (.inl rfl) u, h.f.trans ((KeepsOthers.setCell _ _ _).from _), h.b.setCell (p := ⟨bo, 0, none⟩) hb u, box_other h.r hne⟩
theorem MutZ.grown {nf nb bo rb base n : Nat} {w W A B : World} {v : Value} {xs : List Value} (h : MutZ nf nb bo rb w W A) (hnb : nb ≤ A.heap.size) (hv : A.ownsRow base 44 2 v n xs) (hg : A.grownBy B v.ownBlock) (hb : nb ≤ base) (hr : rb < base) : MutZ nf nb bo rb w W B := by
  refine ⟨h.k.grown hv hg, h.f.trans ((KeepsOthers.of_grownBy hg (fun j o e ho => ?_)).from _), h.b.grown hg hnb (fun k hk => Nat.le_trans hb (hv.lt k hk).1), ?_⟩
  · rcases hv.2 with ⟨rfl, -⟩ | ⟨g, cap, cur, rfl, -, hgc, -⟩
    · cases e
    · simp only [Value.ownBlock, Option.some.injEq] at e
      subst e
      rw [hgc] at ho
      cases ho
      rfl
  · refine (hg.block rb (Array.getElem?_eq_some_iff.1 h.r).1 (fun e => ?_)).trans h.r
    have := (hv.lt rb e.symm).1
    omega
set_option maxRecDepth 100000 in
set_option maxHeartbeats 16000000 in
theorem fMutual_any (p q : Pn) (d : Nat) (w : World) (hd : d ≤ 2) (hp : p.bd 64 ∧ 1 ≤ p.nn) (hq : q.bd 64 ∧ 1 ≤ q.nn) :
    Calls Tryz.prog 223 #[p.val, q.val, .int .i64 d] w fun e w' => e = .returned (.tuple #[.agg #[.int .i64 (mutP d p q).lo, .int .i64 (mutP d p q).hi], .int .i64 (mutP d p q).e]) ∧ Kept w w' := by
  have h1 : ∀ w', _ := fun w' => fpair_any p q d w' hd hp hq
  have h2 : ∀ (z : Pn) (w' : World), z ∈ cutL d q → _ := fun z w' hz => fbetw_any p z d w' hd hp.1 (part_256 hd hq.1 hz) hp.2
  have h3 : ∀ w', _ := fun w' => fcut_any q.a0 q.a1 q.a2 q.b0 q.b1 q.b2 q.c0 q.c1 q.c2 d w'
  have hse : ∀ z ∈ cutL d q, 0 ≤ (seenS d p z).lo ∧ (seenS d p z).lo ≤ (seenS d p z).hi ∧ (seenS d p z).hi ≤ 336640000 := fun z hz => (seen_eq hd hp.1 (part_256 hd hq.1 hz) hp.2).2
  obtain ⟨i0, hi, hz0, hz1, hz2⟩ := info_parts info_spn
  have HI := Lib.hid (And.intro hi (And.intro hz0 (And.intro hz1 hz2)))
  unfold Pn.val at *
  have H1 := Lib.hid h1
  have H2 := Lib.hid h2
  have H3 := Lib.hid h3
  have HSE := Lib.hid hse
  have HP := Lib.hid hp
  have HQ := Lib.hid hq
  clear h1 h2 h3 hp hq hi hz0 hz1 hz2 hse
  refine (callsIn_wide (n := 9)).1 ?_
  refine callsIn_of_wp_marks Tryz.func223 rfl trivial ?_ rfl
  simp only [Tryz.ntmps223, List.size_toArray, List.length_cons, List.length_nil, Nat.reduceAdd, Nat.reduceSub, Array.replicate_succ, Array.replicate_zero, List.push_toArray, List.append_toArray, List.nil_append, List.cons_append]
  refine wpIn_wide.2 ?_
  go_wp2_with (first | (go_at_call 255; refine (H1.out _).mono ?_; rintro e w1 ⟨rfl, x1, rfl⟩) | (go_at_call 258; refine (H3.out _).mono ?_; rintro e w3 ⟨rfl, rfl⟩))
  refine wp_gen (fun W2 hW2 => ?_)
  have hPb : W2.heap[(w.heap.size)]? = some (.cells #[.int .i64 p.a0, .int .i64 p.a1, .int .i64 p.a2, .int .i64 p.b0, .int .i64 p.b1, .int .i64 p.b2, .int .i64 p.c0, .int .i64 p.c1, .int .i64 p.c2] 207 (0, 0)) := by rw [hW2]; exact heap_kp (alloc_now w _ (w.heap.size)) (by (repeat (first | exact Kept.refl _ | assumption | refine Kept.alloc ?_ _ | refine Kept.ext ?_ _ | refine Kept.drew ?_ | refine Kept.drewN ?_ _)))
  have hDb : W2.heap[(w.heap.size + 1 + 1)]? = some (.cells #[.int .i64 d] 3 (0, 0)) := by rw [hW2]; exact heap_kp (alloc_now (World.alloc (w.alloc (.cells #[.int .i64 p.a0, .int .i64 p.a1, .int .i64 p.a2, .int .i64 p.b0, .int .i64 p.b1, .int .i64 p.b2, .int .i64 p.c0, .int .i64 p.c1, .int .i64 p.c2] 207)) (.cells #[.int .i64 q.a0, .int .i64 q.a1, .int .i64 q.a2, .int .i64 q.b0, .int .i64 q.b1, .int .i64 q.b2, .int .i64 q.c0, .int .i64 q.c1, .int .i64 q.c2] 207)) _ (w.heap.size + 1 + 1)) (by (repeat (first | exact Kept.refl _ | assumption | refine Kept.alloc ?_ _ | refine Kept.ext ?_ _ | refine Kept.drew ?_ | refine Kept.drewN ?_ _)))
  have hRb : W2.heap[(w.heap.size + 1 + 1 + 1)]? = some (.cells #[.int .i64 0, .int .i64 0] 44 (0, 0)) := by rw [hW2]; exact heap_kp (alloc_now (World.alloc (World.alloc (w.alloc (.cells #[.int .i64 p.a0, .int .i64 p.a1, .int .i64 p.a2, .int .i64 p.b0, .int .i64 p.b1, .int .i64 p.b2, .int .i64 p.c0, .int .i64 p.c1, .int .i64 p.c2] 207)) (.cells #[.int .i64 q.a0, .int .i64 q.a1, .int .i64 q.a2, .int .i64 q.b0, .int .i64 q.b1, .int .i64 q.b2, .int .i64 q.c0, .int .i64 q.c1, .int .i64 q.c2] 207)) (.cells #[.int .i64 d] 3)) _ (w.heap.size + 1 + 1 + 1)) (by (repeat (first | exact Kept.refl _ | assumption | refine Kept.alloc ?_ _ | refine Kept.ext ?_ _ | refine Kept.drew ?_ | refine Kept.drewN ?_ _)))
  have hO : W2.heap[(adv (w.heap.size + 1 + 1 + 1 + 1) x1.obs.size)]? = some (.cells #[.slice none 0 0] 257 (0, 0)) := by rw [hW2]; exact heap_kp (alloc_now (ext (World.alloc (World.alloc (World.alloc (w.alloc (.cells #[.int .i64 p.a0, .int .i64 p.a1, .int .i64 p.a2, .int .i64 p.b0, .int .i64 p.b1, .int .i64 p.b2, .int .i64 p.c0, .int .i64 p.c1, .int .i64 p.c2] 207)) (.cells #[.int .i64 q.a0, .int .i64 q.a1, .int .i64 q.a2, .int .i64 q.b0, .int .i64 q.b1, .int .i64 q.b2, .int .i64 q.c0, .int .i64 q.c1, .int .i64 q.c2] 207)) (.cells #[.int .i64 d] 3)) (.cells #[.int .i64 0, .int .i64 0] 44)) x1) _ (adv (w.heap.size + 1 + 1 + 1 + 1) x1.obs.size)) (by (repeat (first | exact Kept.refl _ | assumption | refine Kept.alloc ?_ _ | refine Kept.ext ?_ _ | refine Kept.drew ?_ | refine Kept.drewN ?_ _)))
  have hQb : W2.heap[((adv (w.heap.size + 1 + 1 + 1 + 1) x1.obs.size) + 1)]? = some (.cells #[.int .i64 q.a0, .int .i64 q.a1, .int .i64 q.a2, .int .i64 q.b0, .int .i64 q.b1, .int .i64 q.b2, .int .i64 q.c0, .int .i64 q.c1, .int .i64 q.c2] 207 (0, 0)) := by rw [hW2]; exact heap_kp (alloc_now (World.alloc (ext (World.alloc (World.alloc (World.alloc (w.alloc (.cells #[.int .i64 p.a0, .int .i64 p.a1, .int .i64 p.a2, .int .i64 p.b0, .int .i64 p.b1, .int .i64 p.b2, .int .i64 p.c0, .int .i64 p.c1, .int .i64 p.c2] 207)) (.cells #[.int .i64 q.a0, .int .i64 q.a1, .int .i64 q.a2, .int .i64 q.b0, .int .i64 q.b1, .int .i64 q.b2, .int .i64 q.c0, .int .i64 q.c1, .int .i64 q.c2] 207)) (.cells #[.int .i64 d] 3)) (.cells #[.int .i64 0, .int .i64 0] 44)) x1) (.cells #[.slice none 0 0] 257)) _ ((adv (w.heap.size + 1 + 1 + 1 + 1) x1.obs.size) + 1)) (by (repeat (first | exact Kept.refl _ | assumption | refine Kept.alloc ?_ _ | refine Kept.ext ?_ _ | refine Kept.drew ?_ | refine Kept.drewN ?_ _)))
  have hQd : W2.heap[((adv (w.heap.size + 1 + 1 + 1 + 1) x1.obs.size) + 1 + 1)]? = some (.cells #[.int .i64 d] 3 (0, 0)) := by rw [hW2]; exact heap_kp (alloc_now (World.alloc (World.alloc (ext (World.alloc (World.alloc (World.alloc (w.alloc (.cells #[.int .i64 p.a0, .int .i64 p.a1, .int .i64 p.a2, .int .i64 p.b0, .int .i64 p.b1, .int .i64 p.b2, .int .i64 p.c0, .int .i64 p.c1, .int .i64 p.c2] 207)) (.cells #[.int .i64 q.a0, .int .i64 q.a1, .int .i64 q.a2, .int .i64 q.b0, .int .i64 q.b1, .int .i64 q.b2, .int .i64 q.c0, .int .i64 q.c1, .int .i64 q.c2] 207)) (.cells #[.int .i64 d] 3)) (.cells #[.int .i64 0, .int .i64 0] 44)) x1) (.cells #[.slice none 0 0] 257)) (.cells #[.int .i64 q.a0, .int .i64 q.a1, .int .i64 q.a2, .int .i64 q.b0, .int .i64 q.b1, .int .i64 q.b2, .int .i64 q.c0, .int .i64 q.c1, .int .i64 q.c2] 207)) _ ((adv (w.heap.size + 1 + 1 + 1 + 1) x1.obs.size) + 1 + 1)) (by (repeat (first | exact Kept.refl _ | assumption | refine Kept.alloc ?_ _ | refine Kept.ext ?_ _ | refine Kept.drew ?_ | refine Kept.drewN ?_ _)))
  have hkw : Kept w W2 := by rw [hW2]; (repeat (first | exact Kept.refl _ | assumption | refine Kept.alloc ?_ _ | refine Kept.ext ?_ _ | refine Kept.drew ?_ | refine Kept.drewN ?_ _))
  have lz : w.heap.size + 1 + 1 + 1 + 1 ≤ (adv (w.heap.size + 1 + 1 + 1 + 1) x1.obs.size) := adv_le _ _
  have bl := (Array.getElem?_eq_some_iff.1 hO).1
  clear hW2
  revert hO hQb hQd lz bl
  generalize (adv (w.heap.size + 1 + 1 + 1 + 1) x1.obs.size) = bo
  intro hO hQb hQd lz bl
  refine (wpIn_wide (n := 9)).1 ?_
  have hcs := cut_stops (n := 8) (G := fun x => x ∈ cutL d q) (rndS (e1 := bo) (e2 := bo) (n0 := W2.heap.size) bl bl) (bo + 1) (bo + 1 + 1) d q 64 W2 (fun x h => h) (by omega) HQ.out.1 (by rcases two_pow hd with ⟨e, -, -⟩ | ⟨e, -, -⟩ | ⟨e, -, -⟩ <;> rw [e] <;> decide) (Nat.le_refl _) hQb hQd
  refine range_parts (sx := 10) (sy := 22) (G := fun x => x ∈ cutL d q) (Kp := KpS bo bo) rfl hcs (by omega) (fun h k => h.trans k) (fun W l o o' _ h hc _ => kpS_b W l o o' h hc) (Below.refl _ _)
    (fun pre W => ∃ v, W.heap[bo]? = some (.cells #[v] 257 (0, 0)) ∧ W.ownsRow W2.heap.size 44 2 v pre.length (xsP (seenS d p) (valsP pre)) ∧ KpS bo bo W2 W ∧ Below w.heap.size w W ∧ W.heap[w.heap.size + 1 + 1 + 1]? = some (.cells #[.int .i64 0, .int .i64 0] 44 (0, 0)))
    (fun _ _ _ => False)
    (fun s A B row hs hg hr => by
      obtain ⟨v, i1, i2, i3, i4, i5⟩ := hs
      exact ⟨v, heap_from hg hr i1 rfl, owns_from i2 hg hr, i3.from hg hr, below_from i4 (Nat.le_refl _) hkw.below.size hg hr, heap_from hg hr i5 rfl⟩)
    (fun _ _ _ _ _ hs _ _ => hs)
    ⟨_, hO, World.ownsRow_nil _ _ _ _, KpS.refl _ _ _, hkw.below, hRb⟩ ?assign ?body ?done ?stop
  case stop =>
    rintro D c pre W _ _ h _
    exact h.elim
  case assign =>
    rintro l pre x W K ⟨v, i1, i2, i3, i4, i5⟩ hK
    have hK2 := hK W.heap.size (W.alloc (.cells x.1.cells 207)) ((KeepsOthers.alloc _ _).from _) ((KpS.refl _ _ _).alloc _) ⟨v, heap_kp i1 (by (repeat (first | exact Kept.refl _ | assumption | refine Kept.alloc ?_ _ | refine Kept.ext ?_ _ | refine Kept.drew ?_ | refine Kept.drewN ?_ _))), owns_kept i2 (by (repeat (first | exact Kept.refl _ | assumption | refine Kept.alloc ?_ _ | refine Kept.ext ?_ _ | refine Kept.drew ?_ | refine Kept.drewN ?_ _))), i3.alloc _, i4.alloc (Nat.le_trans hkw.below.size i3.size) _, heap_kp i5 (by (repeat (first | exact Kept.refl _ | assumption | refine Kept.alloc ?_ _ | refine Kept.ext ?_ _ | refine Kept.drew ?_ | refine Kept.drewN ?_ _)))⟩ (alloc_now W _ _) i3.size
    dsimp only [Pn.val]
    gi_wp2
    exact hK2
  case body =>
    rintro l pre x Bx W hl ⟨v, i1, i2, i3, i4, i5⟩ hX hBx hlen
    obtain ⟨z, hz⟩ := x
    simp only at hX ⊢
    have hb : ∀ w', _ := fun w' => H2.out z w' hz
    have hs := HSE.out z hz
    have es : valsP (pre ++ [⟨z, hz⟩]) = valsP pre ++ [z] := vals_snoc _ _
    have hxs : xsP (seenS d p) (valsP pre ++ [z]) = xsP (seenS d p) (valsP pre) ++ [.int .i64 (seenS d p z).lo, .int .i64 (seenS d p z).hi] := xsP_snoc _ _ _
    obtain ⟨slo, e1⟩ : ∃ y, (seenS d p z).lo = y := ⟨_, rfl⟩
    obtain ⟨shi, e2⟩ : ∃ y, (seenS d p z).hi = y := ⟨_, rfl⟩
    rw [e1, e2] at hb hs hxs
    have h16 : pre.length < 16 := by rcases two_pow hd with ⟨-, -, e⟩ | ⟨-, -, e⟩ | ⟨-, -, e⟩ <;> rw [e] at hlen <;> omega
    have HB := Lib.hid hb
    have ES := Lib.hid es
    have HXS := Lib.hid hxs
    obtain ⟨A2, cp2, rfl⟩ := own_slice2 i2
    have pb := i3.cells _ _ _ _ hPb (by omega) (by omega) (by decide)
    have db := i3.cells _ _ _ _ hDb (by omega) (by omega) (by decide)
    have v0 : w.heap.size ≤ W.heap.size := Nat.le_trans hkw.below.size i3.size
    have l1 : bo < W.heap.size := (Array.getElem?_eq_some_iff.1 i1).1
    have l2 : Bx < W.heap.size := (Array.getElem?_eq_some_iff.1 hX).1
    have lx : w.heap.size + 1 + 1 + 1 < W2.heap.size := (Array.getElem?_eq_some_iff.1 hRb).1
    have ly : W2.heap.size ≤ W.heap.size := i3.size
    have I1 := Lib.hid i1
    have I2 := Lib.hid i2
    have I3 := Lib.hid i3
    have I4 := Lib.hid i4
    have I5 := Lib.hid i5
    have PB := Lib.hid pb
    have DB := Lib.hid db
    have HX := Lib.hid hX
    clear i1 i2 i3 i4 i5 pb db hX hb es hxs e1 e2
    dsimp only [Pn.val]
    gi_wp2_with fail
    refine wpIn_round_tellC (C := MutZ W2.heap.size w.heap.size bo (w.heap.size + 1 + 1 + 1) w W) [.k (.slice A2 pre.length cp2), .q, .q, .q, .q, .s, .s, .s]
      (AppB 0 5 6 7 W2.heap.size bo 257 44 2 (.slice A2 pre.length cp2) pre.length (xsP (seenS d p) (valsP pre)) [.int .i64 slo, .int .i64 shi] (MutZ W2.heap.size w.heap.size bo (w.heap.size + 1 + 1 + 1) w W)) (by kernel_rfl) (by kernel_rfl) (by kernel_rfl) (fun b => by kernel_rfl) (by rintro ⟨_, _, h⟩; exact h) ?_ ?_ ?_ ?_
    · intro b
      exact AppB.start ⟨(KpS.refl _ _ _).on (Kept.refl W).drew, ((others_kept (Kept.refl W).drew).from _), I4.out.drew, heap_kp I5.out (Kept.refl W).drew⟩ (owns_kept I2.out (Kept.refl W).drew) (heap_kp I1.out (Kept.refl W).drew)
    · intro i L b w' w'' hsp hI hk
      have hz2 := hI.z.on (Nat.le_trans v0 hI.z.k.size) hk
      exact (hI.on hz2 hk).other (by rintro rfl; cases hsp) (by rintro rfl; cases hsp) (by rintro rfl; cases hsp) (by rintro rfl; cases hsp)
    · exact fun L b w' h => h.z
    apply Exists.intro
    refine ⟨?_, ?_, ?_, ?_⟩
    · rintro b W' hZ
      have cp := hZ.k.cells _ _ _ _ PB.out (by omega) (by omega) (by decide)
      have cd := hZ.k.cells _ _ _ _ DB.out (by omega) (by omega) (by decide)
      have cx := hZ.k.cells _ _ _ _ HX.out (by omega) (by omega) (by decide)
      have f0 : W'.cell? ⟨w.heap.size, 0, none⟩ = some (.int .i64 p.a0) := cell_blk cp rfl
      have f1 : W'.cell? ⟨w.heap.size, 1, none⟩ = some (.int .i64 p.a1) := cell_blk cp rfl
      have f2 : W'.cell? ⟨w.heap.size, 2, none⟩ = some (.int .i64 p.a2) := cell_blk cp rfl
      have f3 : W'.cell? ⟨w.heap.size, 3, none⟩ = some (.int .i64 p.b0) := cell_blk cp rfl
      have f4 : W'.cell? ⟨w.heap.size, 4, none⟩ = some (.int .i64 p.b1) := cell_blk cp rfl
      have f5 : W'.cell? ⟨w.heap.size, 5, none⟩ = some (.int .i64 p.b2) := cell_blk cp rfl
      have f6 : W'.cell? ⟨w.heap.size, 6, none⟩ = some (.int .i64 p.c0) := cell_blk cp rfl
      have f7 : W'.cell? ⟨w.heap.size, 7, none⟩ = some (.int .i64 p.c1) := cell_blk cp rfl
      have f8 : W'.cell? ⟨w.heap.size, 8, none⟩ = some (.int .i64 p.c2) := cell_blk cp rfl
      have g0 : W'.cell? ⟨Bx, 0, none⟩ = some (.int .i64 z.a0) := cell_blk cx rfl
      have g1 : W'.cell? ⟨Bx, 1, none⟩ = some (.int .i64 z.a1) := cell_blk cx rfl
      have g2 : W'.cell? ⟨Bx, 2, none⟩ = some (.int .i64 z.a2) := cell_blk cx rfl
      have g3 : W'.cell? ⟨Bx, 3, none⟩ = some (.int .i64 z.b0) := cell_blk cx rfl
      have g4 : W'.cell? ⟨Bx, 4, none⟩ = some (.int .i64 z.b1) := cell_blk cx rfl
      have g5 : W'.cell? ⟨Bx, 5, none⟩ = some (.int .i64 z.b2) := cell_blk cx rfl
      have g6 : W'.cell? ⟨Bx, 6, none⟩ = some (.int .i64 z.c0) := cell_blk cx rfl
      have g7 : W'.cell? ⟨Bx, 7, none⟩ = some (.int .i64 z.c1) := cell_blk cx rfl
      have g8 : W'.cell? ⟨Bx, 8, none⟩ = some (.int .i64 z.c2) := cell_blk cx rfl
      have g9 : W'.cell? ⟨w.heap.size + 1 + 1, 0, none⟩ = some (.int .i64 d) := cell_blk cd rfl
      haveI : Lower w.heap.size W'.heap.size := ⟨cell_lt f0⟩
      haveI : Lower Bx W'.heap.size := ⟨cell_lt g0⟩
      haveI : Lower (w.heap.size + 1 + 1) W'.heap.size := ⟨cell_lt g9⟩
      clear cp cd cx hZ
      simp only [swapL, Nat.reduceAdd]
      repeat (go_big_quiet_step (first | (go_at_call 256; exact Calls.kept_of (HB.out _))))
      refine wpQuiet_nil ?_
      rfl
    · simp only [EachS, and_true]
      refine ⟨?_, ?_, ?_, ?_⟩
      · intro L b w' hd hL hI
        have h0 := hI.v0 hL
        have LQ : Lower bo w'.heap.size := ⟨cell_lt h0⟩
        go_simp
        exact ⟨rfl, hI.op1 (by omega)⟩
      · intro L b w' hd hL hI
        have h5 := hI.op5 (by omega) (hI.z.on (Nat.le_trans v0 hI.z.k.size) (by (repeat (first | exact Kept.refl _ | assumption | refine Kept.alloc ?_ _ | refine Kept.ext ?_ _ | refine Kept.drew ?_ | refine Kept.drewN ?_ _))))
        go_simp
        exact ⟨rfl, h5⟩
      · intro L b w' hd hL hI
        have d5 : L 5 = true := hd { on := 5, ground := .data } (by simp) rfl
        obtain ⟨g5, e5, e6⟩ := hI.n5 d5
        have hs5 := hI.s hL
        refine tells_append (.tmp 23) (.tmp 28) 257 (by rfl) W2.heap.size 44 i0 _ 2 16 Tryz.underlying257 HI.out.1 HI.out.2.1 HI.out.2.2.1 HI.out.2.2.2 (by rfl) (by omega) (Nat.le_trans ly hI.z.k.size) _ pre.length _ (by rfl) hs5 (some ⟨g5, 0, none⟩) 1 1 _ e5 (one_rows2 (e6 hL) ⟨by unfold I64; omega, by unfold I64; omega⟩) (by unfold maxLen; omega) (by omega) ?_
        intro v' w'' k1 k2 k3
        rw [rowC_one2] at k1
        exact ⟨rfl, hI.op6 (by omega) (by decide) hL (hI.z.grown (Nat.le_trans v0 hI.z.k.size) hs5 k2 (by omega) lx) k1 k2⟩
      · intro L b w' hd hL hI
        have d1 : L 0 = true := hd { on := 0, ground := .phase } (by simp) rfl
        have d6 : L 6 = true := hd { on := 6, ground := .phase } (by simp) rfl
        have h8 := hI.op8 (u := undef) (by omega) (by decide) d1 d6 (hI.z.put (by omega) (by omega) _)
        have q0 := cell_blk (o := 0) hI.q rfl
        have q1 : w'.frozen? ⟨bo, 0, none⟩ = false := frozen_blk hI.q
        obtain ⟨A6, c6, e6⟩ := own_slice2 (hI.t d6)
        rw [e6] at h8
        have LQ : Lower bo w'.heap.size := ⟨cell_lt q0⟩
        go_simp
        exact ⟨rfl, h8⟩
    · intro b b' d9 hd9
      simp [callSlots, dullOp] at hd9
      try (subst hd9; rfl)
    intro L b' w1 hL hI
    obtain ⟨v', j1, j2, jz⟩ := hI.done (hL 6 (by decide)) (hL 7 (by decide))
    have J1 := Lib.hid j1
    have J2 := Lib.hid j2
    have JZ := Lib.hid jz
    clear j1 j2 jz hI hL
    gi_wp2_with fail
    refine ⟨JZ.out.f, JZ.out.k, v', J2.out, ?_, I3.out.trans JZ.out.k, JZ.out.b, JZ.out.r⟩
    rw [ES.out, HXS.out, List.length_append]
    exact J1.out
  case done =>
    rintro D ys W hD hS ⟨v, i1, i2, i3, i4, i5⟩ hK
    obtain ⟨A2, cp2, rfl⟩ := own_slice2 i2
    have hS : valsP ys = cutL d q := hS
    have hl : ys.length = 4 ^ d := by
      have := congrArg List.length hS
      rw [cutL_len] at this
      simpa [valsP] using this
    rw [hl] at i1 i2
    obtain ⟨F, hF⟩ : ∃ F : Nat → Nat → Int, F = fun k j => if j = 0 then (seenS d p ((cutL d q).getD k default)).lo else (seenS d p ((cutL d q).getD k default)).hi := ⟨_, rfl⟩
    have hrow : xsP (seenS d p) (valsP ys) = rowC 2 F (4 ^ d) := by
      have := xsP_row (seenS d p) (cutL d q) (4 ^ d) (by rw [cutL_len]; exact Nat.le_refl _)
      rw [List.take_of_length_le (by rw [cutL_len]; exact Nat.le_refl _)] at this
      rw [hS, hF]
      exact this
    rw [hrow] at i2
    have h16 : 4 ^ d ≤ 16 := by rcases two_pow hd with ⟨-, -, e⟩ | ⟨-, -, e⟩ | ⟨-, -, e⟩ <;> rw [e] <;> decide
    have hr : RowsAt W A2 (4 ^ d) 2 F := rows_of_owns i2 fun k hk j hj => by
      have hm : (cutL d q).getD k default ∈ cutL d q := by
        rw [List.getD_eq_getElem?_getD, List.getElem?_eq_getElem (by rw [cutL_len]; exact hk)]
        exact List.getElem_mem _
      have := HSE.out _ hm
      rw [hF]
      simp only
      unfold I64
      split <;> omega
    have hme : ∀ w', Kept W w' → _ := fun w' hk => mean_any A2 (4 ^ d) cp2 (fun k => F k 0) (fun k => F k 1) w' (by omega) (spans_rows (hr.of hk))
    have em : meanS (4 ^ d) (fun k => F k 0) (fun k => F k 1) = mutP d p q := by rw [hF]; rfl
    rw [em] at hme
    obtain ⟨rlo, e1⟩ : ∃ y, (mutP d p q).lo = y := ⟨_, rfl⟩
    obtain ⟨rhi, e2⟩ : ∃ y, (mutP d p q).hi = y := ⟨_, rfl⟩
    obtain ⟨re, e3⟩ : ∃ y, (mutP d p q).e = y := ⟨_, rfl⟩
    rw [e1, e2, e3] at hme
    have E1 := Lib.hid e1
    have E2 := Lib.hid e2
    have E3 := Lib.hid e3
    have HME := Lib.hid hme
    have b1 : W.cell? ⟨bo, 0, none⟩ = some (.slice A2 (4 ^ d : Nat) cp2) := cell_blk i1 rfl
    haveI : Lower bo W.heap.size := ⟨cell_lt b1⟩
    have b3 : W.cell? ⟨w.heap.size + 1 + 1 + 1, 0, none⟩ = some (.int .i64 0) := cell_blk i5 rfl
    have b4 : W.cell? ⟨w.heap.size + 1 + 1 + 1, 1, none⟩ = some (.int .i64 0) := cell_blk i5 rfl
    have b5 : W.frozen? ⟨w.heap.size + 1 + 1 + 1, 0, none⟩ = false := frozen_blk i5
    have b6 : W.frozen? ⟨w.heap.size + 1 + 1 + 1, 1, none⟩ = false := frozen_blk i5
    haveI : Lower (w.heap.size + 1 + 1 + 1) W.heap.size := ⟨cell_lt b3⟩
    have lx : w.heap.size + 1 + 1 + 1 < W2.heap.size := (Array.getElem?_eq_some_iff.1 hRb).1
    have I4 := Lib.hid i4
    have I5 := Lib.hid i5
    have HK := Lib.hid hK
    clear i1 i2 i3 i4 i5 hK hS hl hF hrow hr hme em e1 e2 e3
    go_wp2_with (go_at_call 259; refine (HME.out _ (by (repeat (first | exact Kept.refl _ | assumption | refine Kept.alloc ?_ _ | refine Kept.ext ?_ _ | refine Kept.drew ?_ | refine Kept.drewN ?_ _)))).mono ?_; rintro e w5 ⟨rfl, x5, rfl⟩)
    have p1 := box_other (c := w.heap.size + 1 + 1 + 1) (i := 1) (u := .int .i64 rhi) (box_other (c := w.heap.size + 1 + 1 + 1) (i := 0) (u := .int .i64 rlo) HK.out (by omega)) (by omega)
    have p2 := heap_kp p1 (show Kept _ (ext _ x5) from ⟨x5, rfl⟩)
    refine ⟨by simp, .inl ⟨_, _, rfl, run_takeDeferred p2, ?_⟩⟩
    have p3 : ((W.setCell ⟨w.heap.size + 1 + 1 + 1, 0, none⟩ (.int .i64 rlo)).setCell ⟨w.heap.size + 1 + 1 + 1, 1, none⟩ (.int .i64 rhi)).heap[w.heap.size + 1 + 1 + 1]? = some (.cells #[.int .i64 rlo, .int .i64 rhi] 44 (0, 0)) := pair_put I5.out _ _
    have p4 := heap_kp p3 (show Kept _ (ext _ x5) from ⟨x5, rfl⟩)
    have p5 := (World.putObj_heap_other (o := .deferred none) (show w.heap.size + 1 + 1 + 1 ≠ D by omega)).trans p4
    have q1 := cell_blk (o := 0) p5 rfl
    have q2 := cell_blk (o := 1) p5 rfl
    refine ⟨_, ?_, rfl, ?_⟩
    · rw [E1.out, E2.out, E3.out]
      simp only [results, Tryz.results223]
      go_simp
    · refine Kept.of_below ((((I4.out.setCell (p := ⟨w.heap.size + 1 + 1 + 1, 0, none⟩) (show w.heap.size ≤ w.heap.size + 1 + 1 + 1 by omega) _).setCell (p := ⟨w.heap.size + 1 + 1 + 1, 1, none⟩) (show w.heap.size ≤ w.heap.size + 1 + 1 + 1 by omega) _).trans ((show Kept _ (ext _ x5) from ⟨x5, rfl⟩).below.mono (by rw [World.size_setCell, World.size_setCell]; exact I4.out.size))).grown (grownBy_putObj' _ D (.deferred none)) ?_ ?_)
      · rw [ext_size, World.size_setCell, World.size_setCell]
        exact Nat.le_trans I4.out.size (adv_le _ _)
      · intro k e
        cases e
        omega
end Go.Proofs.YtnbjealpcjfllaaGreatDoor

