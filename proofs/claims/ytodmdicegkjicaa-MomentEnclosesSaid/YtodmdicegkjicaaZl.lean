/- Contract: the parts of a panel, of the program, as an iterator. Conditions: bounds on numbers; what the rounds keep. Contract: the parts of a panel, of the program, as an iterator, and what rounds keep. Conditions: bounds on numbers. Regions that draw their order, in a round of a range over a function. Conditions: those of each theorem. A loop over the parts of a panel: the law, with the loop's variable in a box. Conditions: those of each theorem. Boxes, panels and lists of parts in memory: small facts. Conditions: those of each theorem. -/
import Derived.Test.YtodmdicegkjicaaZk
import Derived.Shelf.Abstract
import Derived.Shelf.RegionOpen
import Derived.WalkKit
import Derived.OwnWalkIn
import Derived.TacticsInMore
import Derived.LoopNIn
import Derived.LoopIn
import Derived.Laws.EntriesVeiled
import Derived.Test.YtodmdicegkjicaaZf
import Derived.RangeFuncNested
import Derived.Great.BuildSlice
import Derived.Test.YtodmdicegkjicaaZe
namespace Go.Proofs.Ytodmdicegkjicaa
set_option linter.unusedVariables false
set_option linter.unusedSimpArgs false
open Go.RowKit Go.Shelf
attribute [local go_sem] Oper.semAt_some
def Pn.val (p : Pn) : Value := .agg #[.int .i64 (p).a0, .int .i64 (p).a1, .int .i64 (p).a2, .int .i64 (p).b0, .int .i64 (p).b1, .int .i64 (p).b2, .int .i64 (p).c0, .int .i64 (p).c1, .int .i64 (p).c2]
/-- What the rounds of a loop over parts keep: blocks that are set apart. -/
structure Rnd (n0 : Nat) (Kp : World → World → Prop) (Sp : World → Nat → Prop) : Prop where
  tr : ∀ {A B C : World}, Kp A B → Kp B C → Kp A C
  kept : ∀ {A B : World}, Kept A B → Kp A B
  le : ∀ {A B : World}, Kp A B → A.heap.size ≤ B.heap.size
  new : ∀ {B : World} {k : Nat} {cs : Array Value} {T : TypeId}, n0 ≤ k → B.heap[k]? = some (.cells cs T (0, 0)) → T ≠ 39 → Sp B k
  same : ∀ {A B : World} {k : Nat} {o : Obj}, Kp A B → Sp A k → A.heap[k]? = some o → o.isCells = true → B.heap[k]? = some o ∧ Sp B k
def JOn (J : List Pn → World → Prop) : Prop := ∀ (s : List Pn) (A B : World), J s A → Kept A B → J s B
theorem cells_of {w : World} {a : Addr} {v : Value} (hv : w.cell? a = some v) : ∃ o, w.heap[a.block]? = some o ∧ o.isCells = true := by
  unfold World.cell? at hv
  cases ho : w.heap[a.block]? with
  | none => rw [ho] at hv; simp at hv
  | some o =>
    refine ⟨o, rfl, ?_⟩
    rw [ho] at hv
    cases o <;> first | rfl | (simp at hv)
section
variable {n0 : Nat} {Kp : World → World → Prop} {Sp : World → Nat → Prop}
theorem Rnd.cell (R : Rnd n0 Kp Sp) {A B : World} (h : Kp A B) {p : Addr} (hs : Sp A p.block) {v : Value} (hv : A.cell? p = some v) : B.cell? p = some v ∧ Sp B p.block := by
  obtain ⟨o, ho, hc⟩ := cells_of hv
  obtain ⟨h1, h2⟩ := R.same h hs ho hc
  exact ⟨(World.cell?_of_block (w := A) (w' := B) (h1.trans ho.symm)).trans hv, h2⟩
end
theorem wide_room (k : Nat) : Fence.wide.room k := fun d h => by cases h
theorem YieldAt.any {m : Nat} (m' : Nat) {P : Program} {l : Nat} {args : Array Value} {W : World} {R : Ending → World → Prop} (h : YieldAt Fence.wide m P l args W R) : YieldAt Fence.wide m' P l args W R := by
  obtain ⟨fn, tmps, assign, body, hy, hR⟩ := h
  exact ⟨fn, tmps, assign, body, hy, hR.1, fun c cs _ => hR.2 c cs (wide_room _)⟩
/-- The closure that visits, with its boxes. -/
def visitV (Yb Vb : Nat) : Value := .func (.func 64) #[] #[.pointer (some ⟨Yb, 0, none⟩), .pointer (some ⟨Vb, 0, none⟩)]
structure VisI (n0 : Nat) (Sp : World → Nat → Prop) (l Yb Vb : Nat) (W : World) : Prop where
  n : n0 ≤ W.heap.size
  y : W.cell? ⟨Yb, 0, none⟩ = some (.func (.yield l) #[] #[])
  ys : Sp W Yb
  v : W.cell? ⟨Vb, 0, none⟩ = some (visitV Yb Vb)
  vs : Sp W Vb
theorem VisI.on {n0 : Nat} {Kp : World → World → Prop} {Sp : World → Nat → Prop} (R : Rnd n0 Kp Sp) {l Yb Vb : Nat} {A B : World} (h : VisI n0 Sp l Yb Vb A) (k : Kp A B) : VisI n0 Sp l Yb Vb B :=
  ⟨Nat.le_trans h.n (R.le k), (R.cell k h.ys h.y).1, (R.cell k h.ys h.y).2, (R.cell k h.vs h.v).1, (R.cell k h.vs h.v).2⟩
def VisR (Kp : World → World → Prop) (J Jx : List Pn → World → Prop) (pre xs : List Pn) (W : World) (e : Ending) (W' : World) : Prop :=
  (e = .returned (.bool true) ∧ J (pre ++ xs) W' ∧ Kp W W') ∨ (e = .returned (.bool false) ∧ ∃ q, q <+: xs ∧ Jx (pre ++ q) W')
def Visits (n0 : Nat) (Kp : World → World → Prop) (Sp : World → Nat → Prop) (J Jx : List Pn → World → Prop) (G : Pn → Prop) (l Yb Vb N : Nat) (d : Nat) : Prop :=
  d ≤ 3 → ∀ (p : Pn) (m : Int) (pre : List Pn) (W : World), (∀ x ∈ cutL d p, G x) → p.bd m → m * 2 ^ d ≤ 1024 → VisI n0 Sp l Yb Vb W → J pre W → pre.length + 4 ^ d ≤ N →
    Calls Try.prog 64 #[p.val, .int .i64 d, .pointer (some ⟨Yb, 0, none⟩), .pointer (some ⟨Vb, 0, none⟩)] W (VisR Kp J Jx pre (cutL d p) W)
set_option maxRecDepth 100000 in
set_option maxHeartbeats 4000000 in
theorem visit_zero {n0 : Nat} {Kp : World → World → Prop} {Sp : World → Nat → Prop} {J Jx : List Pn → World → Prop} {G : Pn → Prop} (R : Rnd n0 Kp Sp) (JO : JOn J) (l Yb Vb N : Nat)
    (hY : ∀ m pre x W, J pre W → G x → pre.length < N → YieldAt Fence.wide m Try.prog l #[Pn.val x] W fun e W' => (e = .returned (.bool true) ∧ J (pre ++ [x]) W' ∧ Kp W W') ∨ (e = .returned (.bool false) ∧ Jx (pre ++ [x]) W')) :
    Visits n0 Kp Sp J Jx G l Yb Vb N 0 := by
  intro _ p m pre W hG hb hm hV hJ hN
  obtain ⟨-, cy, -, -, -⟩ := hV
  have LY : Lower Yb W.heap.size := ⟨cell_lt cy⟩
  have hk : Kept W (W.alloc (.cells #[.int .i64 p.a0, .int .i64 p.a1, .int .i64 p.a2, .int .i64 p.b0, .int .i64 p.b1, .int .i64 p.b2, .int .i64 p.c0, .int .i64 p.c1, .int .i64 p.c2] 49)) := by (repeat (first | exact Kept.refl _ | assumption | refine Kept.alloc ?_ _ | refine Kept.ext ?_ _ | refine Kept.drew ?_ | refine Kept.drewN ?_ _))
  refine (callsIn_wide (n := 9)).1 ?_
  obtain ⟨fn, tmps, assign, body, hy, hR⟩ := hY 8 pre p _ (JO _ _ _ hJ hk) (hG p (by simp [cutL])) (by simp at hN; omega)
  dsimp only [Pn.val] at hy
  have hd : Fence.wide.fn 64 := trivial
  refine callsIn_of_wp Try.func64 rfl hd ?_ rfl
  simp only [Try.ntmps64, List.size_toArray, List.length_cons, List.length_nil, Nat.reduceAdd, Nat.reduceSub, Array.replicate_succ, Array.replicate_zero, List.push_toArray, List.append_toArray, List.nil_append, List.cons_append]
  unfold Pn.val
  gi_wp2
  refine hR.mono ?_
  rintro e W' (⟨rfl, hJ', hk'⟩ | ⟨rfl, hJx'⟩)
  · gi_wp2
    go_ret
    exact .inl ⟨rfl, hJ', R.tr (R.kept hk) hk'⟩
  · gi_wp2
    go_ret
    exact .inr ⟨rfl, [p], List.prefix_refl _, hJx'⟩
/-- The parts of the first q parts. -/
def someC (d : Nat) (p : Pn) : Nat → List Pn
  | 0 => []
  | 1 => cutL d p.s0
  | 2 => cutL d p.s0 ++ cutL d p.s1
  | 3 => cutL d p.s0 ++ (cutL d p.s1 ++ cutL d p.s2)
  | _ => cutL (d + 1) p
theorem someC_len (d : Nat) (p : Pn) (q : Nat) (h : q ≤ 4) : (someC d p q).length = q * 4 ^ d := by
  rcases (show q = 0 ∨ q = 1 ∨ q = 2 ∨ q = 3 ∨ q = 4 by omega) with rfl | rfl | rfl | rfl | rfl
  · simp [someC]
  · simp [someC, cutL_len]
  · simp [someC, cutL_len]; omega
  · simp [someC, cutL_len]; omega
  · simp [someC, cutL_len]; rw [Nat.pow_succ]; omega
def Pn.part (p : Pn) : Nat → Pn
  | 0 => p.s0
  | 1 => p.s1
  | 2 => p.s2
  | _ => p.s3
theorem someC_step (d : Nat) (p : Pn) (q : Nat) (h : q < 4) : someC d p q ++ cutL d (p.part q) = someC d p (q + 1) := by
  rcases (show q = 0 ∨ q = 1 ∨ q = 2 ∨ q = 3 by omega) with rfl | rfl | rfl | rfl
  · rfl
  · rfl
  · exact List.append_assoc _ _ _
  · show (cutL d p.s0 ++ (cutL d p.s1 ++ cutL d p.s2)) ++ cutL d p.s3 = cutL d p.s0 ++ (cutL d p.s1 ++ (cutL d p.s2 ++ cutL d p.s3))
    simp only [List.append_assoc]
theorem someC_le (d : Nat) (p : Pn) (q : Nat) (h : q ≤ 4) : someC d p q <+: cutL (d + 1) p := by
  show someC d p q <+: cutL d p.s0 ++ (cutL d p.s1 ++ (cutL d p.s2 ++ cutL d p.s3))
  rcases (show q = 0 ∨ q = 1 ∨ q = 2 ∨ q = 3 ∨ q = 4 by omega) with rfl | rfl | rfl | rfl | rfl
  · exact List.nil_prefix
  · exact List.prefix_append _ _
  · exact ⟨cutL d p.s2 ++ cutL d p.s3, by simp [someC]⟩
  · exact ⟨cutL d p.s3, by simp [someC]⟩
  · exact List.prefix_refl _
theorem someC_pre {d : Nat} {p : Pn} {q : Nat} {x : List Pn} (h : q < 4) (hx : x <+: cutL d (p.part q)) : someC d p q ++ x <+: cutL (d + 1) p := by
  obtain ⟨r, hr⟩ := hx
  refine List.IsPrefix.trans ⟨r, ?_⟩ (someC_le d p (q + 1) (by omega))
  rw [List.append_assoc, hr, someC_step d p q h]
theorem mem_part (d : Nat) (p : Pn) (q : Nat) {x : Pn} (hx : x ∈ cutL d (p.part q)) : x ∈ cutL (d + 1) p := by
  show x ∈ cutL d p.s0 ++ (cutL d p.s1 ++ (cutL d p.s2 ++ cutL d p.s3))
  simp only [List.mem_append]
  match q, hx with
  | 0, h => exact .inl h
  | 1, h => exact .inr (.inl h)
  | 2, h => exact .inr (.inr (.inl h))
  | _ + 3, h => exact .inr (.inr (.inr h))
theorem cell_blk {w : World} {b o : Nat} {cs : Array Value} {T : TypeId} {v : Value} (h : w.heap[b]? = some (.cells cs T (0, 0))) (hv : cs[o]? = some v) : w.cell? ⟨b, o, none⟩ = some v := by
  unfold World.cell?
  simp [h, hv]
set_option maxRecDepth 100000 in
set_option maxHeartbeats 16000000 in
theorem visit_succ {n0 : Nat} {Kp : World → World → Prop} {Sp : World → Nat → Prop} {J Jx : List Pn → World → Prop} {G : Pn → Prop} (R : Rnd n0 Kp Sp) (JO : JOn J) (l Yb Vb N d : Nat) (ih : Visits n0 Kp Sp J Jx G l Yb Vb N d) : Visits n0 Kp Sp J Jx G l Yb Vb N (d + 1) := by
  intro d3 p m pre W hG hb hm hV hJ hN
  have HG := Lib.hid hG
  have IH := Lib.hid (ih (by omega))
  have HJ := Lib.hid hJ
  have HV := Lib.hid hV
  have RR := Lib.hid R
  have JJ := Lib.hid JO
  have HN := Lib.hid hN
  have hm0 : 0 ≤ m := by have := hb.1.1; omega
  have hd1 : (1 : Int) ≤ 2 ^ d := by
    have : (0 : Int) < 2 ^ d := Int.pow_pos (by decide)
    omega
  have hm2 : m ≤ 512 := by
    rw [Int.pow_succ, ← Int.mul_assoc] at hm
    have := Int.mul_le_mul_of_nonneg_left hd1 hm0
    omega
  have hsub := Pn.bd_sub hb
  have hmd : 2 * m * 2 ^ d ≤ 1024 := by
    rw [Int.pow_succ] at hm
    have e : 2 * m * 2 ^ d = m * (2 ^ d * 2) := by rw [Int.mul_comm 2 m, Int.mul_assoc, Int.mul_comm 2 (2 ^ d)]
    omega
  have HS := Lib.hid hsub
  have HMD := Lib.hid hmd
  have bb : p.bd 512 := by
    obtain ⟨⟨a, b, c⟩, ⟨e, f, g⟩, x, y, z⟩ := hb
    exact ⟨⟨by omega, by omega, by omega⟩, ⟨by omega, by omega, by omega⟩, by omega, by omega, by omega⟩
  obtain ⟨⟨a0, a1, a2⟩, ⟨b0, b1, b2⟩, c0, c1, c2⟩ := bb
  have hdd : (((d + 1 : Nat) : Int) == 0) = false := by simp; omega
  have hd2 : ((d + 1 : Nat) : Int) - 1 = d := by omega
  clear ih hV hJ R JO hN hG hsub hmd hm hb hd1 hm2 hm0
  unfold Pn.val
  go_enter Try.func64, Try.ntmps64
  go_wp2_with fail
  have hF : frsB [.q, .q, .q, .q, .q, .q, .q, .q, .q, .s, .s, .s, .s, .s, .s] [⟨9, 12, 24, #[.int .i64 0, .int .i64 0, .int .i64 0], #[.int .i64 (2 * p.a0), .int .i64 (2 * p.a1), .int .i64 (2 * p.a2)]⟩, ⟨10, 13, 24, #[.int .i64 0, .int .i64 0, .int .i64 0], #[.int .i64 (2 * p.b0), .int .i64 (2 * p.b1), .int .i64 (2 * p.b2)]⟩, ⟨11, 14, 24, #[.int .i64 0, .int .i64 0, .int .i64 0], #[.int .i64 (2 * p.c0), .int .i64 (2 * p.c1), .int .i64 (2 * p.c2)]⟩] = true := by kernel_rfl
  refine wp_region_frs _ _ (by kernel_rfl) (by kernel_rfl) hF (fun b => by kernel_rfl) ?_
  apply Exists.intro
  refine ⟨?_, ?_, ?_, ?_⟩
  · rintro b' W9 ⟨yy, rfl⟩
    simp only [swapL, Nat.reduceAdd]
    repeat (go_big_quiet_step ((go_at_call 49; exact Calls.kept_of (ftimes_any _ _ _ _ _ (by omega)))))
    refine wpQuiet_nil ?_
    rfl
  · simp only [EachS, and_true]
    refine ⟨?_, ?_, ?_, ?_, ?_, ?_⟩
    · exact fun L b' w' hd hL hI => FI.tells_alloc hF 0 rfl hI hL (by go_simp)
    · exact fun L b' w' hd hL hI => FI.tells_alloc hF 1 rfl hI hL (by go_simp)
    · exact fun L b' w' hd hL hI => FI.tells_alloc hF 2 rfl hI hL (by go_simp)
    · exact fun L b' w' hd hL hI => FI.tells_store hF 0 rfl hI hL (hd { on := 9, ground := .data } (by simp) rfl) 24 (.tmp 7) (.tmp 22) rfl rfl rfl (by kernel_rfl) rfl (by kernel_rfl)
    · exact fun L b' w' hd hL hI => FI.tells_store hF 1 rfl hI hL (hd { on := 10, ground := .data } (by simp) rfl) 24 (.tmp 8) (.tmp 25) rfl rfl rfl (by kernel_rfl) rfl (by kernel_rfl)
    · exact fun L b' w' hd hL hI => FI.tells_store hF 2 rfl hI hL (hd { on := 11, ground := .data } (by simp) rfl) 24 (.tmp 9) (.tmp 28) rfl rfl rfl (by kernel_rfl) rfl (by kernel_rfl)
  · intro b1 b2 d hd
    simp [callSlots, dullOp] at hd
    rcases hd with rfl | rfl | rfl <;> rfl
  intro L b' w1 hL hI
  obtain ⟨k0, e0, l0, h0⟩ := hI.ends 0 rfl (hL 9 (by decide)) (hL 12 (by decide))
  have e0' : b' 9 = _ := e0
  obtain ⟨k1, e1, l1, h1⟩ := hI.ends 1 rfl (hL 10 (by decide)) (hL 13 (by decide))
  have e1' : b' 10 = _ := e1
  obtain ⟨k2, e2, l2, h2⟩ := hI.ends 2 rfl (hL 11 (by decide)) (hL 14 (by decide))
  have e2' : b' 11 = _ := e2
  clear hF
  have hk1 := hI.kept
  clear hI hL e0 e1 e2 l0 l1 l2
  simp only [e0', e1', e2']
  clear e0' e1' e2'
  obtain ⟨x00, x01, x02⟩ := cells3 h0
  have H0 := Lib.hid h0
  haveI : Lower k0 w1.heap.size := ⟨cell_lt x00⟩
  obtain ⟨x10, x11, x12⟩ := cells3 h1
  have H1 := Lib.hid h1
  haveI : Lower k1 w1.heap.size := ⟨cell_lt x10⟩
  obtain ⟨x20, x21, x22⟩ := cells3 h2
  have H2 := Lib.hid h2
  haveI : Lower k2 w1.heap.size := ⟨cell_lt x20⟩
  have y00 : w1.cell? ⟨W.heap.size, 0, none⟩ = some (.int .i64 p.a0) := kp_cell (w := W.alloc (.cells #[.int .i64 p.a0, .int .i64 p.a1, .int .i64 p.a2, .int .i64 p.b0, .int .i64 p.b1, .int .i64 p.b2, .int .i64 p.c0, .int .i64 p.c1, .int .i64 p.c2] 49)) (by go_simp) hk1
  have y01 : w1.cell? ⟨W.heap.size, 1, none⟩ = some (.int .i64 p.a1) := kp_cell (w := W.alloc (.cells #[.int .i64 p.a0, .int .i64 p.a1, .int .i64 p.a2, .int .i64 p.b0, .int .i64 p.b1, .int .i64 p.b2, .int .i64 p.c0, .int .i64 p.c1, .int .i64 p.c2] 49)) (by go_simp) hk1
  have y02 : w1.cell? ⟨W.heap.size, 2, none⟩ = some (.int .i64 p.a2) := kp_cell (w := W.alloc (.cells #[.int .i64 p.a0, .int .i64 p.a1, .int .i64 p.a2, .int .i64 p.b0, .int .i64 p.b1, .int .i64 p.b2, .int .i64 p.c0, .int .i64 p.c1, .int .i64 p.c2] 49)) (by go_simp) hk1
  have y10 : w1.cell? ⟨W.heap.size, 3, none⟩ = some (.int .i64 p.b0) := kp_cell (w := W.alloc (.cells #[.int .i64 p.a0, .int .i64 p.a1, .int .i64 p.a2, .int .i64 p.b0, .int .i64 p.b1, .int .i64 p.b2, .int .i64 p.c0, .int .i64 p.c1, .int .i64 p.c2] 49)) (by go_simp) hk1
  have y11 : w1.cell? ⟨W.heap.size, 4, none⟩ = some (.int .i64 p.b1) := kp_cell (w := W.alloc (.cells #[.int .i64 p.a0, .int .i64 p.a1, .int .i64 p.a2, .int .i64 p.b0, .int .i64 p.b1, .int .i64 p.b2, .int .i64 p.c0, .int .i64 p.c1, .int .i64 p.c2] 49)) (by go_simp) hk1
  have y12 : w1.cell? ⟨W.heap.size, 5, none⟩ = some (.int .i64 p.b2) := kp_cell (w := W.alloc (.cells #[.int .i64 p.a0, .int .i64 p.a1, .int .i64 p.a2, .int .i64 p.b0, .int .i64 p.b1, .int .i64 p.b2, .int .i64 p.c0, .int .i64 p.c1, .int .i64 p.c2] 49)) (by go_simp) hk1
  have y20 : w1.cell? ⟨W.heap.size, 6, none⟩ = some (.int .i64 p.c0) := kp_cell (w := W.alloc (.cells #[.int .i64 p.a0, .int .i64 p.a1, .int .i64 p.a2, .int .i64 p.b0, .int .i64 p.b1, .int .i64 p.b2, .int .i64 p.c0, .int .i64 p.c1, .int .i64 p.c2] 49)) (by go_simp) hk1
  have y21 : w1.cell? ⟨W.heap.size, 7, none⟩ = some (.int .i64 p.c1) := kp_cell (w := W.alloc (.cells #[.int .i64 p.a0, .int .i64 p.a1, .int .i64 p.a2, .int .i64 p.b0, .int .i64 p.b1, .int .i64 p.b2, .int .i64 p.c0, .int .i64 p.c1, .int .i64 p.c2] 49)) (by go_simp) hk1
  have y22 : w1.cell? ⟨W.heap.size, 8, none⟩ = some (.int .i64 p.c2) := kp_cell (w := W.alloc (.cells #[.int .i64 p.a0, .int .i64 p.a1, .int .i64 p.a2, .int .i64 p.b0, .int .i64 p.b1, .int .i64 p.b2, .int .i64 p.c0, .int .i64 p.c1, .int .i64 p.c2] 49)) (by go_simp) hk1
  haveI : Lower W.heap.size w1.heap.size := ⟨cell_lt y00⟩
  have HK1 := Lib.hid hk1
  clear hk1 h0 h1 h2
  go_wp2_with fail
  have hF : frsB [.q, .q, .q, .q, .q, .q, .q, .q, .q, .q, .q, .q, .q, .q, .q, .s, .s, .s, .s, .s, .s] [⟨15, 18, 24, #[.int .i64 0, .int .i64 0, .int .i64 0], #[.int .i64 (p.a0 + p.b0), .int .i64 (p.a1 + p.b1), .int .i64 (p.a2 + p.b2)]⟩, ⟨16, 19, 24, #[.int .i64 0, .int .i64 0, .int .i64 0], #[.int .i64 (p.b0 + p.c0), .int .i64 (p.b1 + p.c1), .int .i64 (p.b2 + p.c2)]⟩, ⟨17, 20, 24, #[.int .i64 0, .int .i64 0, .int .i64 0], #[.int .i64 (p.c0 + p.a0), .int .i64 (p.c1 + p.a1), .int .i64 (p.c2 + p.a2)]⟩] = true := by kernel_rfl
  refine wp_region_frs _ _ (by kernel_rfl) (by kernel_rfl) hF (fun b => by kernel_rfl) ?_
  apply Exists.intro
  refine ⟨?_, ?_, ?_, ?_⟩
  · rintro b' W9 ⟨yy, rfl⟩
    simp only [swapL, Nat.reduceAdd]
    repeat (go_big_quiet_step ((go_at_call 65; exact Calls.kept_of (fmid_any _ _ _ _ _ _ _ (by omega)))))
    refine wpQuiet_nil ?_
    rfl
  · simp only [EachS, and_true]
    refine ⟨?_, ?_, ?_, ?_, ?_, ?_⟩
    · exact fun L b' w' hd hL hI => FI.tells_alloc hF 0 rfl hI hL (by go_simp)
    · exact fun L b' w' hd hL hI => FI.tells_alloc hF 1 rfl hI hL (by go_simp)
    · exact fun L b' w' hd hL hI => FI.tells_alloc hF 2 rfl hI hL (by go_simp)
    · exact fun L b' w' hd hL hI => FI.tells_store hF 0 rfl hI hL (hd { on := 15, ground := .data } (by simp) rfl) 24 (.tmp 10) (.tmp 33) rfl rfl rfl (by kernel_rfl) rfl (by kernel_rfl)
    · exact fun L b' w' hd hL hI => FI.tells_store hF 1 rfl hI hL (hd { on := 16, ground := .data } (by simp) rfl) 24 (.tmp 11) (.tmp 38) rfl rfl rfl (by kernel_rfl) rfl (by kernel_rfl)
    · exact fun L b' w' hd hL hI => FI.tells_store hF 2 rfl hI hL (hd { on := 17, ground := .data } (by simp) rfl) 24 (.tmp 12) (.tmp 43) rfl rfl rfl (by kernel_rfl) rfl (by kernel_rfl)
  · intro b1 b2 d hd
    simp [callSlots, dullOp] at hd
    rcases hd with rfl | rfl | rfl <;> rfl
  intro L b' w2 hL hI
  obtain ⟨g0, e0, l0, h0⟩ := hI.ends 0 rfl (hL 15 (by decide)) (hL 18 (by decide))
  have e0' : b' 15 = _ := e0
  obtain ⟨g1, e1, l1, h1⟩ := hI.ends 1 rfl (hL 16 (by decide)) (hL 19 (by decide))
  have e1' : b' 16 = _ := e1
  obtain ⟨g2, e2, l2, h2⟩ := hI.ends 2 rfl (hL 17 (by decide)) (hL 20 (by decide))
  have e2' : b' 17 = _ := e2
  clear hF
  have hk2 := hI.kept
  clear hI hL e0 e1 e2 l0 l1 l2
  simp only [e0', e1', e2']
  clear e0' e1' e2'
  obtain ⟨z00, z01, z02⟩ := cells3 h0
  haveI : Lower g0 w2.heap.size := ⟨cell_lt z00⟩
  obtain ⟨u00, u01, u02⟩ := cells3 (fr_kept H0.out hk2)
  haveI : Lower k0 w2.heap.size := ⟨cell_lt u00⟩
  obtain ⟨z10, z11, z12⟩ := cells3 h1
  haveI : Lower g1 w2.heap.size := ⟨cell_lt z10⟩
  obtain ⟨u10, u11, u12⟩ := cells3 (fr_kept H1.out hk2)
  haveI : Lower k1 w2.heap.size := ⟨cell_lt u10⟩
  obtain ⟨z20, z21, z22⟩ := cells3 h2
  haveI : Lower g2 w2.heap.size := ⟨cell_lt z20⟩
  obtain ⟨u20, u21, u22⟩ := cells3 (fr_kept H2.out hk2)
  haveI : Lower k2 w2.heap.size := ⟨cell_lt u20⟩
  have hk3 := HK1.out.trans hk2
  have hkw : Kept W w2 := ((Kept.refl W).alloc _).trans hk3
  clear hk2 hk3 h0 h1 h2 H0 H1 H2 HK1 x00 y00 x01 y01 x02 y02 x10 y10 x11 y11 x12 y12 x20 y20 x21 y21 x22 y22
  have hv2 : VisI n0 Sp l Yb Vb (w2.alloc (.cells #[.int .i64 (2 * p.a0), .int .i64 (2 * p.a1), .int .i64 (2 * p.a2), .int .i64 (p.a0 + p.b0), .int .i64 (p.a1 + p.b1), .int .i64 (p.a2 + p.b2), .int .i64 (p.c0 + p.a0), .int .i64 (p.c1 + p.a1), .int .i64 (p.c2 + p.a2), .int .i64 (p.a0 + p.b0), .int .i64 (p.a1 + p.b1), .int .i64 (p.a2 + p.b2), .int .i64 (2 * p.b0), .int .i64 (2 * p.b1), .int .i64 (2 * p.b2), .int .i64 (p.b0 + p.c0), .int .i64 (p.b1 + p.c1), .int .i64 (p.b2 + p.c2), .int .i64 (p.c0 + p.a0), .int .i64 (p.c1 + p.a1), .int .i64 (p.c2 + p.a2), .int .i64 (p.b0 + p.c0), .int .i64 (p.b1 + p.c1), .int .i64 (p.b2 + p.c2), .int .i64 (2 * p.c0), .int .i64 (2 * p.c1), .int .i64 (2 * p.c2), .int .i64 (p.a0 + p.b0), .int .i64 (p.a1 + p.b1), .int .i64 (p.a2 + p.b2), .int .i64 (p.b0 + p.c0), .int .i64 (p.b1 + p.c1), .int .i64 (p.b2 + p.c2), .int .i64 (p.c0 + p.a0), .int .i64 (p.c1 + p.a1), .int .i64 (p.c2 + p.a2)] 49)) := HV.out.on RR.out (RR.out.kept (hkw.alloc _))
  have hj2 : J pre (w2.alloc (.cells #[.int .i64 (2 * p.a0), .int .i64 (2 * p.a1), .int .i64 (2 * p.a2), .int .i64 (p.a0 + p.b0), .int .i64 (p.a1 + p.b1), .int .i64 (p.a2 + p.b2), .int .i64 (p.c0 + p.a0), .int .i64 (p.c1 + p.a1), .int .i64 (p.c2 + p.a2), .int .i64 (p.a0 + p.b0), .int .i64 (p.a1 + p.b1), .int .i64 (p.a2 + p.b2), .int .i64 (2 * p.b0), .int .i64 (2 * p.b1), .int .i64 (2 * p.b2), .int .i64 (p.b0 + p.c0), .int .i64 (p.b1 + p.c1), .int .i64 (p.b2 + p.c2), .int .i64 (p.c0 + p.a0), .int .i64 (p.c1 + p.a1), .int .i64 (p.c2 + p.a2), .int .i64 (p.b0 + p.c0), .int .i64 (p.b1 + p.c1), .int .i64 (p.b2 + p.c2), .int .i64 (2 * p.c0), .int .i64 (2 * p.c1), .int .i64 (2 * p.c2), .int .i64 (p.a0 + p.b0), .int .i64 (p.a1 + p.b1), .int .i64 (p.a2 + p.b2), .int .i64 (p.b0 + p.c0), .int .i64 (p.b1 + p.c1), .int .i64 (p.b2 + p.c2), .int .i64 (p.c0 + p.a0), .int .i64 (p.c1 + p.a1), .int .i64 (p.c2 + p.a2)] 49)) := JJ.out _ _ _ HJ.out (hkw.alloc _)
  have hp2 : Kp W (w2.alloc (.cells #[.int .i64 (2 * p.a0), .int .i64 (2 * p.a1), .int .i64 (2 * p.a2), .int .i64 (p.a0 + p.b0), .int .i64 (p.a1 + p.b1), .int .i64 (p.a2 + p.b2), .int .i64 (p.c0 + p.a0), .int .i64 (p.c1 + p.a1), .int .i64 (p.c2 + p.a2), .int .i64 (p.a0 + p.b0), .int .i64 (p.a1 + p.b1), .int .i64 (p.a2 + p.b2), .int .i64 (2 * p.b0), .int .i64 (2 * p.b1), .int .i64 (2 * p.b2), .int .i64 (p.b0 + p.c0), .int .i64 (p.b1 + p.c1), .int .i64 (p.b2 + p.c2), .int .i64 (p.c0 + p.a0), .int .i64 (p.c1 + p.a1), .int .i64 (p.c2 + p.a2), .int .i64 (p.b0 + p.c0), .int .i64 (p.b1 + p.c1), .int .i64 (p.b2 + p.c2), .int .i64 (2 * p.c0), .int .i64 (2 * p.c1), .int .i64 (2 * p.c2), .int .i64 (p.a0 + p.b0), .int .i64 (p.a1 + p.b1), .int .i64 (p.a2 + p.b2), .int .i64 (p.b0 + p.c0), .int .i64 (p.b1 + p.c1), .int .i64 (p.b2 + p.c2), .int .i64 (p.c0 + p.a0), .int .i64 (p.c1 + p.a1), .int .i64 (p.c2 + p.a2)] 49)) := RR.out.kept (hkw.alloc _)
  have hs2 : Sp (w2.alloc (.cells #[.int .i64 (2 * p.a0), .int .i64 (2 * p.a1), .int .i64 (2 * p.a2), .int .i64 (p.a0 + p.b0), .int .i64 (p.a1 + p.b1), .int .i64 (p.a2 + p.b2), .int .i64 (p.c0 + p.a0), .int .i64 (p.c1 + p.a1), .int .i64 (p.c2 + p.a2), .int .i64 (p.a0 + p.b0), .int .i64 (p.a1 + p.b1), .int .i64 (p.a2 + p.b2), .int .i64 (2 * p.b0), .int .i64 (2 * p.b1), .int .i64 (2 * p.b2), .int .i64 (p.b0 + p.c0), .int .i64 (p.b1 + p.c1), .int .i64 (p.b2 + p.c2), .int .i64 (p.c0 + p.a0), .int .i64 (p.c1 + p.a1), .int .i64 (p.c2 + p.a2), .int .i64 (p.b0 + p.c0), .int .i64 (p.b1 + p.c1), .int .i64 (p.b2 + p.c2), .int .i64 (2 * p.c0), .int .i64 (2 * p.c1), .int .i64 (2 * p.c2), .int .i64 (p.a0 + p.b0), .int .i64 (p.a1 + p.b1), .int .i64 (p.a2 + p.b2), .int .i64 (p.b0 + p.c0), .int .i64 (p.b1 + p.c1), .int .i64 (p.b2 + p.c2), .int .i64 (p.c0 + p.a0), .int .i64 (p.c1 + p.a1), .int .i64 (p.c2 + p.a2)] 49)) w2.heap.size := RR.out.new (Nat.le_trans HV.out.n hkw.below.size) (alloc_now w2 _ _) (by decide)
  have HV2 := Lib.hid hv2
  have HJ2 := Lib.hid hj2
  have HP2 := Lib.hid hp2
  have HS2 := Lib.hid hs2
  clear hv2 hj2 hp2 hs2 hkw
  go_wp2_with fail
  go_loopw [62] (fun i wr => ∃ q : Nat, q ≤ 4 ∧ i = .int .i64 q ∧ J (pre ++ someC d p q) wr ∧ Kp W wr ∧ VisI n0 Sp l Yb Vb wr ∧ wr.heap[w2.heap.size]? = some (.cells #[.int .i64 (2 * p.a0), .int .i64 (2 * p.a1), .int .i64 (2 * p.a2), .int .i64 (p.a0 + p.b0), .int .i64 (p.a1 + p.b1), .int .i64 (p.a2 + p.b2), .int .i64 (p.c0 + p.a0), .int .i64 (p.c1 + p.a1), .int .i64 (p.c2 + p.a2), .int .i64 (p.a0 + p.b0), .int .i64 (p.a1 + p.b1), .int .i64 (p.a2 + p.b2), .int .i64 (2 * p.b0), .int .i64 (2 * p.b1), .int .i64 (2 * p.b2), .int .i64 (p.b0 + p.c0), .int .i64 (p.b1 + p.c1), .int .i64 (p.b2 + p.c2), .int .i64 (p.c0 + p.a0), .int .i64 (p.c1 + p.a1), .int .i64 (p.c2 + p.a2), .int .i64 (p.b0 + p.c0), .int .i64 (p.b1 + p.c1), .int .i64 (p.b2 + p.c2), .int .i64 (2 * p.c0), .int .i64 (2 * p.c1), .int .i64 (2 * p.c2), .int .i64 (p.a0 + p.b0), .int .i64 (p.a1 + p.b1), .int .i64 (p.a2 + p.b2), .int .i64 (p.b0 + p.c0), .int .i64 (p.b1 + p.c1), .int .i64 (p.b2 + p.c2), .int .i64 (p.c0 + p.a0), .int .i64 (p.c1 + p.a1), .int .i64 (p.c2 + p.a2)] 49 (0, 0)) ∧ Sp wr w2.heap.size) (fun i _ => 4 - (intOf i).toNat)
  case atStart => exact ⟨0, by omega, rfl, by simpa [someC] using HJ2.out, HP2.out, HV2.out, alloc_now _ _ _, HS2.out⟩
  case round =>
    obtain ⟨q, hq, rfl, hj, hp, hv, hl, hs⟩ := hrel
    have HJ3 := Lib.hid hj
    have HP3 := Lib.hid hp
    have HV3 := Lib.hid hv
    have HL3 := Lib.hid hl
    have HS3 := Lib.hid hs
    have cv := hv.v
    have cy := hv.y
    unfold visitV at cv
    haveI : Lower Yb wr.heap.size := ⟨cell_lt cy⟩
    haveI : Lower Vb wr.heap.size := ⟨cell_lt cv⟩
    clear hj hp hv hs HJ2 HP2 HV2 HS2 HJ HV
    rcases (show q = 0 ∨ q = 1 ∨ q = 2 ∨ q = 3 ∨ q = 4 by omega) with rfl | rfl | rfl | rfl | rfl
    · haveI : Lower w2.heap.size wr.heap.size := ⟨(Array.getElem?_eq_some_iff.1 hl).1⟩
      have f0 : wr.cell? ⟨w2.heap.size, 0, none⟩ = some (.int .i64 (2 * p.a0)) := cell_blk hl rfl
      have f1 : wr.cell? ⟨w2.heap.size, 1, none⟩ = some (.int .i64 (2 * p.a1)) := cell_blk hl rfl
      have f2 : wr.cell? ⟨w2.heap.size, 2, none⟩ = some (.int .i64 (2 * p.a2)) := cell_blk hl rfl
      have f3 : wr.cell? ⟨w2.heap.size, 3, none⟩ = some (.int .i64 (p.a0 + p.b0)) := cell_blk hl rfl
      have f4 : wr.cell? ⟨w2.heap.size, 4, none⟩ = some (.int .i64 (p.a1 + p.b1)) := cell_blk hl rfl
      have f5 : wr.cell? ⟨w2.heap.size, 5, none⟩ = some (.int .i64 (p.a2 + p.b2)) := cell_blk hl rfl
      have f6 : wr.cell? ⟨w2.heap.size, 6, none⟩ = some (.int .i64 (p.c0 + p.a0)) := cell_blk hl rfl
      have f7 : wr.cell? ⟨w2.heap.size, 7, none⟩ = some (.int .i64 (p.c1 + p.a1)) := cell_blk hl rfl
      have f8 : wr.cell? ⟨w2.heap.size, 8, none⟩ = some (.int .i64 (p.c2 + p.a2)) := cell_blk hl rfl
      have hc : ∀ w', Kept wr w' → Calls Try.prog 64 #[.agg #[.int .i64 (2 * p.a0), .int .i64 (2 * p.a1), .int .i64 (2 * p.a2), .int .i64 (p.a0 + p.b0), .int .i64 (p.a1 + p.b1), .int .i64 (p.a2 + p.b2), .int .i64 (p.c0 + p.a0), .int .i64 (p.c1 + p.a1), .int .i64 (p.c2 + p.a2)], .int .i64 d, .pointer (some ⟨Yb, 0, none⟩), .pointer (some ⟨Vb, 0, none⟩)] w' (VisR Kp J Jx (pre ++ someC d p 0) (cutL d p.s0) w') := fun w' hk => IH.out p.s0 (2 * m) _ w' (fun x hx => HG.out x (mem_part d p 0 hx)) HS.out.1 HMD.out (HV3.out.on RR.out (RR.out.kept hk)) (JJ.out _ _ _ HJ3.out hk) (by have := HN.out; rw [List.length_append, someC_len d p 0 (by omega), Nat.add_assoc]; rw [Nat.pow_succ] at this; omega)
      have HC := Lib.hid hc
      clear hc hl
      go_wp2_with (go_at_call 64; refine (HC.out _ (by (repeat (first | exact Kept.refl _ | assumption | refine Kept.alloc ?_ _ | refine Kept.ext ?_ _ | refine Kept.drew ?_ | refine Kept.drewN ?_ _)))).mono ?_; rintro e w3 (⟨rfl, hJ3, hk3⟩ | ⟨rfl, q3, hq3, hx3⟩))
      · go_roundw
        case rel =>
          have hk4 := RR.out.tr (RR.out.kept (show Kept wr (wr.alloc (.cells #[.int .i64 (2 * p.a0), .int .i64 (2 * p.a1), .int .i64 (2 * p.a2), .int .i64 (p.a0 + p.b0), .int .i64 (p.a1 + p.b1), .int .i64 (p.a2 + p.b2), .int .i64 (p.c0 + p.a0), .int .i64 (p.c1 + p.a1), .int .i64 (p.c2 + p.a2)] 49)) by (repeat (first | exact Kept.refl _ | assumption | refine Kept.alloc ?_ _ | refine Kept.ext ?_ _ | refine Kept.drew ?_ | refine Kept.drewN ?_ _)))) hk3
          have hl4 := RR.out.same hk4 HS3.out HL3.out rfl
          exact ⟨1, by omega, by go_num, by rw [← someC_step d p 0 (by omega), ← List.append_assoc]; exact hJ3, RR.out.tr HP3.out hk4, HV3.out.on RR.out hk4, hl4.1, hl4.2⟩
        case measure =>
          simp [intOf]
      · go_ret
        exact .inr ⟨rfl, someC d p 0 ++ q3, someC_pre (by omega) hq3, by rw [← List.append_assoc]; exact hx3⟩
    · haveI : Lower w2.heap.size wr.heap.size := ⟨(Array.getElem?_eq_some_iff.1 hl).1⟩
      have f0 : wr.cell? ⟨w2.heap.size, 9, none⟩ = some (.int .i64 (p.a0 + p.b0)) := cell_blk hl rfl
      have f1 : wr.cell? ⟨w2.heap.size, 10, none⟩ = some (.int .i64 (p.a1 + p.b1)) := cell_blk hl rfl
      have f2 : wr.cell? ⟨w2.heap.size, 11, none⟩ = some (.int .i64 (p.a2 + p.b2)) := cell_blk hl rfl
      have f3 : wr.cell? ⟨w2.heap.size, 12, none⟩ = some (.int .i64 (2 * p.b0)) := cell_blk hl rfl
      have f4 : wr.cell? ⟨w2.heap.size, 13, none⟩ = some (.int .i64 (2 * p.b1)) := cell_blk hl rfl
      have f5 : wr.cell? ⟨w2.heap.size, 14, none⟩ = some (.int .i64 (2 * p.b2)) := cell_blk hl rfl
      have f6 : wr.cell? ⟨w2.heap.size, 15, none⟩ = some (.int .i64 (p.b0 + p.c0)) := cell_blk hl rfl
      have f7 : wr.cell? ⟨w2.heap.size, 16, none⟩ = some (.int .i64 (p.b1 + p.c1)) := cell_blk hl rfl
      have f8 : wr.cell? ⟨w2.heap.size, 17, none⟩ = some (.int .i64 (p.b2 + p.c2)) := cell_blk hl rfl
      have hc : ∀ w', Kept wr w' → Calls Try.prog 64 #[.agg #[.int .i64 (p.a0 + p.b0), .int .i64 (p.a1 + p.b1), .int .i64 (p.a2 + p.b2), .int .i64 (2 * p.b0), .int .i64 (2 * p.b1), .int .i64 (2 * p.b2), .int .i64 (p.b0 + p.c0), .int .i64 (p.b1 + p.c1), .int .i64 (p.b2 + p.c2)], .int .i64 d, .pointer (some ⟨Yb, 0, none⟩), .pointer (some ⟨Vb, 0, none⟩)] w' (VisR Kp J Jx (pre ++ someC d p 1) (cutL d p.s1) w') := fun w' hk => IH.out p.s1 (2 * m) _ w' (fun x hx => HG.out x (mem_part d p 1 hx)) HS.out.2.1 HMD.out (HV3.out.on RR.out (RR.out.kept hk)) (JJ.out _ _ _ HJ3.out hk) (by have := HN.out; rw [List.length_append, someC_len d p 1 (by omega), Nat.add_assoc]; rw [Nat.pow_succ] at this; omega)
      have HC := Lib.hid hc
      clear hc hl
      go_wp2_with (go_at_call 64; refine (HC.out _ (by (repeat (first | exact Kept.refl _ | assumption | refine Kept.alloc ?_ _ | refine Kept.ext ?_ _ | refine Kept.drew ?_ | refine Kept.drewN ?_ _)))).mono ?_; rintro e w3 (⟨rfl, hJ3, hk3⟩ | ⟨rfl, q3, hq3, hx3⟩))
      · go_roundw
        case rel =>
          have hk4 := RR.out.tr (RR.out.kept (show Kept wr (wr.alloc (.cells #[.int .i64 (p.a0 + p.b0), .int .i64 (p.a1 + p.b1), .int .i64 (p.a2 + p.b2), .int .i64 (2 * p.b0), .int .i64 (2 * p.b1), .int .i64 (2 * p.b2), .int .i64 (p.b0 + p.c0), .int .i64 (p.b1 + p.c1), .int .i64 (p.b2 + p.c2)] 49)) by (repeat (first | exact Kept.refl _ | assumption | refine Kept.alloc ?_ _ | refine Kept.ext ?_ _ | refine Kept.drew ?_ | refine Kept.drewN ?_ _)))) hk3
          have hl4 := RR.out.same hk4 HS3.out HL3.out rfl
          exact ⟨2, by omega, by go_num, by rw [← someC_step d p 1 (by omega), ← List.append_assoc]; exact hJ3, RR.out.tr HP3.out hk4, HV3.out.on RR.out hk4, hl4.1, hl4.2⟩
        case measure =>
          simp [intOf]
      · go_ret
        exact .inr ⟨rfl, someC d p 1 ++ q3, someC_pre (by omega) hq3, by rw [← List.append_assoc]; exact hx3⟩
    · haveI : Lower w2.heap.size wr.heap.size := ⟨(Array.getElem?_eq_some_iff.1 hl).1⟩
      have f0 : wr.cell? ⟨w2.heap.size, 18, none⟩ = some (.int .i64 (p.c0 + p.a0)) := cell_blk hl rfl
      have f1 : wr.cell? ⟨w2.heap.size, 19, none⟩ = some (.int .i64 (p.c1 + p.a1)) := cell_blk hl rfl
      have f2 : wr.cell? ⟨w2.heap.size, 20, none⟩ = some (.int .i64 (p.c2 + p.a2)) := cell_blk hl rfl
      have f3 : wr.cell? ⟨w2.heap.size, 21, none⟩ = some (.int .i64 (p.b0 + p.c0)) := cell_blk hl rfl
      have f4 : wr.cell? ⟨w2.heap.size, 22, none⟩ = some (.int .i64 (p.b1 + p.c1)) := cell_blk hl rfl
      have f5 : wr.cell? ⟨w2.heap.size, 23, none⟩ = some (.int .i64 (p.b2 + p.c2)) := cell_blk hl rfl
      have f6 : wr.cell? ⟨w2.heap.size, 24, none⟩ = some (.int .i64 (2 * p.c0)) := cell_blk hl rfl
      have f7 : wr.cell? ⟨w2.heap.size, 25, none⟩ = some (.int .i64 (2 * p.c1)) := cell_blk hl rfl
      have f8 : wr.cell? ⟨w2.heap.size, 26, none⟩ = some (.int .i64 (2 * p.c2)) := cell_blk hl rfl
      have hc : ∀ w', Kept wr w' → Calls Try.prog 64 #[.agg #[.int .i64 (p.c0 + p.a0), .int .i64 (p.c1 + p.a1), .int .i64 (p.c2 + p.a2), .int .i64 (p.b0 + p.c0), .int .i64 (p.b1 + p.c1), .int .i64 (p.b2 + p.c2), .int .i64 (2 * p.c0), .int .i64 (2 * p.c1), .int .i64 (2 * p.c2)], .int .i64 d, .pointer (some ⟨Yb, 0, none⟩), .pointer (some ⟨Vb, 0, none⟩)] w' (VisR Kp J Jx (pre ++ someC d p 2) (cutL d p.s2) w') := fun w' hk => IH.out p.s2 (2 * m) _ w' (fun x hx => HG.out x (mem_part d p 2 hx)) HS.out.2.2.1 HMD.out (HV3.out.on RR.out (RR.out.kept hk)) (JJ.out _ _ _ HJ3.out hk) (by have := HN.out; rw [List.length_append, someC_len d p 2 (by omega), Nat.add_assoc]; rw [Nat.pow_succ] at this; omega)
      have HC := Lib.hid hc
      clear hc hl
      go_wp2_with (go_at_call 64; refine (HC.out _ (by (repeat (first | exact Kept.refl _ | assumption | refine Kept.alloc ?_ _ | refine Kept.ext ?_ _ | refine Kept.drew ?_ | refine Kept.drewN ?_ _)))).mono ?_; rintro e w3 (⟨rfl, hJ3, hk3⟩ | ⟨rfl, q3, hq3, hx3⟩))
      · go_roundw
        case rel =>
          have hk4 := RR.out.tr (RR.out.kept (show Kept wr (wr.alloc (.cells #[.int .i64 (p.c0 + p.a0), .int .i64 (p.c1 + p.a1), .int .i64 (p.c2 + p.a2), .int .i64 (p.b0 + p.c0), .int .i64 (p.b1 + p.c1), .int .i64 (p.b2 + p.c2), .int .i64 (2 * p.c0), .int .i64 (2 * p.c1), .int .i64 (2 * p.c2)] 49)) by (repeat (first | exact Kept.refl _ | assumption | refine Kept.alloc ?_ _ | refine Kept.ext ?_ _ | refine Kept.drew ?_ | refine Kept.drewN ?_ _)))) hk3
          have hl4 := RR.out.same hk4 HS3.out HL3.out rfl
          exact ⟨3, by omega, by go_num, by rw [← someC_step d p 2 (by omega), ← List.append_assoc]; exact hJ3, RR.out.tr HP3.out hk4, HV3.out.on RR.out hk4, hl4.1, hl4.2⟩
        case measure =>
          simp [intOf]
      · go_ret
        exact .inr ⟨rfl, someC d p 2 ++ q3, someC_pre (by omega) hq3, by rw [← List.append_assoc]; exact hx3⟩
    · haveI : Lower w2.heap.size wr.heap.size := ⟨(Array.getElem?_eq_some_iff.1 hl).1⟩
      have f0 : wr.cell? ⟨w2.heap.size, 27, none⟩ = some (.int .i64 (p.a0 + p.b0)) := cell_blk hl rfl
      have f1 : wr.cell? ⟨w2.heap.size, 28, none⟩ = some (.int .i64 (p.a1 + p.b1)) := cell_blk hl rfl
      have f2 : wr.cell? ⟨w2.heap.size, 29, none⟩ = some (.int .i64 (p.a2 + p.b2)) := cell_blk hl rfl
      have f3 : wr.cell? ⟨w2.heap.size, 30, none⟩ = some (.int .i64 (p.b0 + p.c0)) := cell_blk hl rfl
      have f4 : wr.cell? ⟨w2.heap.size, 31, none⟩ = some (.int .i64 (p.b1 + p.c1)) := cell_blk hl rfl
      have f5 : wr.cell? ⟨w2.heap.size, 32, none⟩ = some (.int .i64 (p.b2 + p.c2)) := cell_blk hl rfl
      have f6 : wr.cell? ⟨w2.heap.size, 33, none⟩ = some (.int .i64 (p.c0 + p.a0)) := cell_blk hl rfl
      have f7 : wr.cell? ⟨w2.heap.size, 34, none⟩ = some (.int .i64 (p.c1 + p.a1)) := cell_blk hl rfl
      have f8 : wr.cell? ⟨w2.heap.size, 35, none⟩ = some (.int .i64 (p.c2 + p.a2)) := cell_blk hl rfl
      have hc : ∀ w', Kept wr w' → Calls Try.prog 64 #[.agg #[.int .i64 (p.a0 + p.b0), .int .i64 (p.a1 + p.b1), .int .i64 (p.a2 + p.b2), .int .i64 (p.b0 + p.c0), .int .i64 (p.b1 + p.c1), .int .i64 (p.b2 + p.c2), .int .i64 (p.c0 + p.a0), .int .i64 (p.c1 + p.a1), .int .i64 (p.c2 + p.a2)], .int .i64 d, .pointer (some ⟨Yb, 0, none⟩), .pointer (some ⟨Vb, 0, none⟩)] w' (VisR Kp J Jx (pre ++ someC d p 3) (cutL d p.s3) w') := fun w' hk => IH.out p.s3 (2 * m) _ w' (fun x hx => HG.out x (mem_part d p 3 hx)) HS.out.2.2.2 HMD.out (HV3.out.on RR.out (RR.out.kept hk)) (JJ.out _ _ _ HJ3.out hk) (by have := HN.out; rw [List.length_append, someC_len d p 3 (by omega), Nat.add_assoc]; rw [Nat.pow_succ] at this; omega)
      have HC := Lib.hid hc
      clear hc hl
      go_wp2_with (go_at_call 64; refine (HC.out _ (by (repeat (first | exact Kept.refl _ | assumption | refine Kept.alloc ?_ _ | refine Kept.ext ?_ _ | refine Kept.drew ?_ | refine Kept.drewN ?_ _)))).mono ?_; rintro e w3 (⟨rfl, hJ3, hk3⟩ | ⟨rfl, q3, hq3, hx3⟩))
      · go_roundw
        case rel =>
          have hk4 := RR.out.tr (RR.out.kept (show Kept wr (wr.alloc (.cells #[.int .i64 (p.a0 + p.b0), .int .i64 (p.a1 + p.b1), .int .i64 (p.a2 + p.b2), .int .i64 (p.b0 + p.c0), .int .i64 (p.b1 + p.c1), .int .i64 (p.b2 + p.c2), .int .i64 (p.c0 + p.a0), .int .i64 (p.c1 + p.a1), .int .i64 (p.c2 + p.a2)] 49)) by (repeat (first | exact Kept.refl _ | assumption | refine Kept.alloc ?_ _ | refine Kept.ext ?_ _ | refine Kept.drew ?_ | refine Kept.drewN ?_ _)))) hk3
          have hl4 := RR.out.same hk4 HS3.out HL3.out rfl
          exact ⟨4, by omega, by go_num, by rw [← someC_step d p 3 (by omega), ← List.append_assoc]; exact hJ3, RR.out.tr HP3.out hk4, HV3.out.on RR.out hk4, hl4.1, hl4.2⟩
        case measure =>
          simp [intOf]
      · go_ret
        exact .inr ⟨rfl, someC d p 3 ++ q3, someC_pre (by omega) hq3, by rw [← List.append_assoc]; exact hx3⟩
    · clear hl
      go_wp2_with fail
      go_ret
      exact .inl ⟨rfl, HJ3.out, HP3.out⟩
theorem visits_all {n0 : Nat} {Kp : World → World → Prop} {Sp : World → Nat → Prop} {J Jx : List Pn → World → Prop} {G : Pn → Prop} (R : Rnd n0 Kp Sp) (JO : JOn J) (l Yb Vb N : Nat)
    (hY : ∀ m pre x W, J pre W → G x → pre.length < N → YieldAt Fence.wide m Try.prog l #[Pn.val x] W fun e W' => (e = .returned (.bool true) ∧ J (pre ++ [x]) W' ∧ Kp W W') ∨ (e = .returned (.bool false) ∧ Jx (pre ++ [x]) W')) :
    ∀ d, Visits n0 Kp Sp J Jx G l Yb Vb N d
  | 0 => visit_zero R JO l Yb Vb N hY
  | d + 1 => visit_succ R JO l Yb Vb N d (visits_all R JO l Yb Vb N hY d)
end Go.Proofs.Ytodmdicegkjicaa

namespace Go.Proofs.Ytodmdicegkjicaa
set_option linter.unusedVariables false
set_option linter.unusedSimpArgs false
open Go.RowKit Go.Shelf
attribute [local go_sem] Oper.semAt_some
/-- What a round keeps that stores into two boxes, and into lists of spans. -/
structure KpS (e1 e2 : Nat) (A B : World) : Prop where
  os : B.os = A.os
  tape : B.tape = A.tape
  output : B.output = A.output
  size : A.heap.size ≤ B.heap.size
  cells : ∀ k cs T o, A.heap[k]? = some (.cells cs T o) → k ≠ e1 → k ≠ e2 → T ≠ 39 → B.heap[k]? = some (.cells cs T o)
theorem KpS.refl (e1 e2 : Nat) (A : World) : KpS e1 e2 A A := ⟨rfl, rfl, rfl, Nat.le_refl _, fun _ _ _ _ h _ _ _ => h⟩
theorem KpS.trans {e1 e2 : Nat} {A B C : World} (h : KpS e1 e2 A B) (k : KpS e1 e2 B C) : KpS e1 e2 A C :=
  ⟨k.os.trans h.os, k.tape.trans h.tape, k.output.trans h.output, Nat.le_trans h.size k.size, fun i cs T o hi h1 h2 h3 => k.cells i cs T o (h.cells i cs T o hi h1 h2 h3) h1 h2 h3⟩
theorem KpS.kept {e1 e2 : Nat} {A B : World} (h : Kept A B) : KpS e1 e2 A B :=
  ⟨h.below.os, h.below.tape, h.below.output, h.below.size, fun k _ _ _ hk _ _ _ => (h.below.block k (Array.getElem?_eq_some_iff.1 hk).1).trans hk⟩
theorem KpS.alloc {e1 e2 : Nat} {A B : World} (h : KpS e1 e2 A B) (o : Obj) : KpS e1 e2 A (B.alloc o) := h.trans (KpS.kept ((Kept.refl B).alloc o))
theorem KpS.on {e1 e2 : Nat} {A B C : World} (h : KpS e1 e2 A B) (k : Kept B C) : KpS e1 e2 A C := h.trans (KpS.kept k)
theorem KpS.put {e1 e2 : Nat} {A B : World} (h : KpS e1 e2 A B) {p : Addr} (hp : p.block = e1 ∨ p.block = e2) (u : Value) : KpS e1 e2 A (B.setCell p u) :=
  h.trans ⟨((Below.refl 0 B).setCell (p := p) (Nat.zero_le _) u).os, ((Below.refl 0 B).setCell (p := p) (Nat.zero_le _) u).tape, ((Below.refl 0 B).setCell (p := p) (Nat.zero_le _) u).output, ((Below.refl 0 B).setCell (p := p) (Nat.zero_le _) u).size,
    fun k _ _ _ hk h1 h2 _ => (Below.heap_setCell B p u k (by rcases hp with e | e <;> rw [e] <;> assumption)).trans hk⟩
/-- A list of spans that grows. -/
theorem KpS.grown {e1 e2 : Nat} {A B C : World} (h : KpS e1 e2 A B) {base c n : Nat} {v : Value} {xs : List Value} (hv : B.ownsRow base 39 c v n xs) (hg : B.grownBy C v.ownBlock) : KpS e1 e2 A C :=
  h.trans ⟨hg.os, hg.tape, hg.output, hg.size, fun k cs T o hk _ _ h3 => by
    refine (hg.block k (Array.getElem?_eq_some_iff.1 hk).1 (fun e => ?_)).trans hk
    rcases hv.2 with ⟨rfl, -⟩ | ⟨g, cap, cur, rfl, -, hgc, -⟩
    · cases e
    · simp only [Value.ownBlock, Option.some.injEq] at e
      subst e
      rw [hgc] at hk
      simp only [Option.some.injEq, Obj.cells.injEq] at hk
      exact h3 hk.2.1.symm⟩
theorem kpS_b {e1 e2 : Nat} (W : World) (l : Nat) (o o' : Obj) (h : W.heap[l]? = some o) (hc : o.isCells = false) : KpS e1 e2 W (W.putObj l o') := by
  have g := grownBy_putObj' W l o'
  have b := (Below.refl 0 W).grown g (Nat.zero_le _) (fun _ _ => Nat.zero_le _)
  refine ⟨b.os, b.tape, b.output, b.size, fun k cs T q hk _ _ _ => ?_⟩
  refine (World.putObj_heap_other (fun e => ?_)).trans hk
  subst e
  rw [h] at hk
  cases hk
  cases hc
theorem KpS.cell {e1 e2 : Nat} {A B : World} (h : KpS e1 e2 A B) {b : Nat} {cs : Array Value} {T : TypeId} {o : Nat × Nat} (hb : A.heap[b]? = some (.cells cs T o)) (h1 : b ≠ e1) (h2 : b ≠ e2) (h3 : T ≠ 39) : B.heap[b]? = some (.cells cs T o) := h.cells b cs T o hb h1 h2 h3
def SpS (n0 : Nat) (A : World) (k : Nat) : Prop := n0 ≤ k ∧ ∃ cs T o, A.heap[k]? = some (.cells cs T o) ∧ T ≠ 39
theorem rndS {e1 e2 n0 : Nat} (h1 : e1 < n0) (h2 : e2 < n0) : Rnd n0 (KpS e1 e2) (SpS n0) where
  tr h k := h.trans k
  kept h := KpS.kept h
  le h := h.size
  new hk hb hT := ⟨hk, _, _, _, hb, hT⟩
  same h hs hk _ := by
    obtain ⟨hn, cs, T, o, hb, hT⟩ := hs
    have := h.cells _ _ _ _ hb (by omega) (by omega) hT
    refine ⟨?_, hn, cs, T, o, this, hT⟩
    rw [this, ← hb]
    exact hk
set_option maxRecDepth 100000 in
set_option maxHeartbeats 4000000 in
theorem cut1_any {n0 : Nat} {Kp : World → World → Prop} {Sp : World → Nat → Prop} {J Jx : List Pn → World → Prop} {G : Pn → Prop} (R : Rnd n0 Kp Sp) (JO : JOn J) (l Bp Bd N d : Nat) (p : Pn) (m : Int) (W : World)
    (hY : ∀ m pre x W, J pre W → G x → pre.length < N → YieldAt Fence.wide m Try.prog l #[Pn.val x] W fun e W' => (e = .returned (.bool true) ∧ J (pre ++ [x]) W' ∧ Kp W W') ∨ (e = .returned (.bool false) ∧ Jx (pre ++ [x]) W'))
    (hG : ∀ x ∈ cutL d p, G x) (hd : d ≤ 3) (hb : p.bd m) (hm : m * 2 ^ d ≤ 1024) (hN : 4 ^ d ≤ N) (hn : n0 ≤ W.heap.size) (h0 : J [] W)
    (hp : W.heap[Bp]? = some (.cells #[.int .i64 p.a0, .int .i64 p.a1, .int .i64 p.a2, .int .i64 p.b0, .int .i64 p.b1, .int .i64 p.b2, .int .i64 p.c0, .int .i64 p.c1, .int .i64 p.c2] 49 (0, 0))) (hdb : W.heap[Bd]? = some (.cells #[.int .i64 d] 3 (0, 0))) :
    Calls Try.prog 63 #[.func (.yield l) #[] #[], .pointer (some ⟨Bp, 0, none⟩), .pointer (some ⟨Bd, 0, none⟩)] W fun e W' => (∃ v, e = .returned v) ∧ ((∃ xs, xs = cutL d p ∧ J xs W') ∨ (∃ pre, pre <+: cutL d p ∧ Jx pre W')) := by
  have hall := visits_all (Jx := Jx) R JO l W.heap.size (W.heap.size + 1) N hY d hd p m [] 
  have x0 : W.cell? ⟨Bd, 0, none⟩ = some (.int .i64 d) := cell_blk hdb rfl
  have y0 : W.cell? ⟨Bp, 0, none⟩ = some (.int .i64 p.a0) := cell_blk hp rfl
  have y1 : W.cell? ⟨Bp, 1, none⟩ = some (.int .i64 p.a1) := cell_blk hp rfl
  have y2 : W.cell? ⟨Bp, 2, none⟩ = some (.int .i64 p.a2) := cell_blk hp rfl
  have y3 : W.cell? ⟨Bp, 3, none⟩ = some (.int .i64 p.b0) := cell_blk hp rfl
  have y4 : W.cell? ⟨Bp, 4, none⟩ = some (.int .i64 p.b1) := cell_blk hp rfl
  have y5 : W.cell? ⟨Bp, 5, none⟩ = some (.int .i64 p.b2) := cell_blk hp rfl
  have y6 : W.cell? ⟨Bp, 6, none⟩ = some (.int .i64 p.c0) := cell_blk hp rfl
  have y7 : W.cell? ⟨Bp, 7, none⟩ = some (.int .i64 p.c1) := cell_blk hp rfl
  have y8 : W.cell? ⟨Bp, 8, none⟩ = some (.int .i64 p.c2) := cell_blk hp rfl
  haveI : Lower Bp W.heap.size := ⟨cell_lt y0⟩
  haveI : Lower Bd W.heap.size := ⟨cell_lt x0⟩
  have HALL := Lib.hid hall
  have HJ := Lib.hid h0
  have hmf : ∀ (fn : Fn) (first cap : Array Value) (w : World), (Instr.makeFunc fn first cap).run Try.prog w = .ok (.func fn first cap) w := fun _ _ _ _ => rfl
  clear hall h0 hp hdb hY
  go_enter Try.func63, Try.ntmps63
  go_wp2_with fail
  refine (HALL.out _ hG hb hm ?hv ?hj (by simpa using hN)).mono ?_
  case hv =>
    refine ⟨?_, ?_, ?_, ?_, ?_⟩
    · simp; omega
    · go_simp
    · exact R.new hn (T := 101) (cs := #[.func (.yield l) #[] #[]]) (fr_kept (alloc_now W _ _) (by (repeat (first | exact Kept.refl _ | assumption | refine Kept.alloc ?_ _ | refine Kept.ext ?_ _ | refine Kept.drew ?_ | refine Kept.drewN ?_ _)))) (by decide)
    · go_simp
      rfl
    · exact R.new (by omega) (T := 102) (cs := #[visitV W.heap.size (W.heap.size + 1)]) (by exact alloc_now (W.alloc (.cells #[.func (.yield l) #[] #[]] 101)) _ (W.heap.size + 1)) (by decide)
  case hj => exact JO _ _ _ HJ.out (by (repeat (first | exact Kept.refl _ | assumption | refine Kept.alloc ?_ _ | refine Kept.ext ?_ _ | refine Kept.drew ?_ | refine Kept.drewN ?_ _)))
  rintro e w3 (⟨rfl, hJ3, hk3⟩ | ⟨rfl, q3, hq3, hx3⟩)
  · go_wp2_with fail
    go_end0
    exact ⟨⟨_, rfl⟩, .inl ⟨_, rfl, hJ3⟩⟩
  · go_wp2_with fail
    go_end0
    exact ⟨⟨_, rfl⟩, .inr ⟨q3, hq3, hx3⟩⟩
theorem fcut_any (p0 p1 p2 p3 p4 p5 p6 p7 p8 d : Int) (w : World) :
    Calls Try.prog 50 #[.agg #[.int .i64 p0, .int .i64 p1, .int .i64 p2, .int .i64 p3, .int .i64 p4, .int .i64 p5, .int .i64 p6, .int .i64 p7, .int .i64 p8], .int .i64 d] w fun e w' => e = .returned (.func (.func 63) #[] #[.pointer (some ⟨w.heap.size, 0, none⟩), .pointer (some ⟨w.heap.size + 1, 0, none⟩)]) ∧ w' = (w.alloc (.cells #[.int .i64 p0, .int .i64 p1, .int .i64 p2, .int .i64 p3, .int .i64 p4, .int .i64 p5, .int .i64 p6, .int .i64 p7, .int .i64 p8] 49)).alloc (.cells #[.int .i64 d] 3) := by
  have hmf : ∀ (fn : Fn) (first cap : Array Value) (w : World), (Instr.makeFunc fn first cap).run Try.prog w = .ok (.func fn first cap) w := fun _ _ _ _ => rfl
  go_enter Try.func50, Try.ntmps50
  go_wp2_with fail
  go_ret
  exact ⟨rfl, rfl⟩
/-- A part of a panel. -/
abbrev PtP (G : Pn → Prop) := { x : Pn // G x }
def valsP {G : Pn → Prop} (l : List (PtP G)) : List Pn := l.map (·.1)
/-- The parts of a panel, one a round. -/
theorem cut_stops {n0 n : Nat} {Kp : World → World → Prop} {Sp : World → Nat → Prop} {G : Pn → Prop} (R : Rnd n0 Kp Sp) (Bp Bd d : Nat) (p : Pn) (m : Int) (w : World) (hG : ∀ x ∈ cutL d p, G x) (hd : d ≤ 3) (hb : p.bd m) (hm : m * 2 ^ d ≤ 1024) (hn : n0 ≤ w.heap.size)
    (hp : w.heap[Bp]? = some (.cells #[.int .i64 p.a0, .int .i64 p.a1, .int .i64 p.a2, .int .i64 p.b0, .int .i64 p.b1, .int .i64 p.b2, .int .i64 p.c0, .int .i64 p.c1, .int .i64 p.c2] 49 (0, 0))) (hdb : w.heap[Bd]? = some (.cells #[.int .i64 d] 3 (0, 0))) :
    SeqStopsK Fence.wide n Try.prog 63 #[.pointer (some ⟨Bp, 0, none⟩), .pointer (some ⟨Bd, 0, none⟩)] (fun x : PtP G => #[x.1.val]) Kp (fun ys => valsP ys = cutL d p) (fun pre => valsP pre <+: cutL d p) (4 ^ d) w := fun l J Jx W hW hJ _ hY h0 => by
  refine callsIn_wide.2 ((cut1_any (J := fun s w => ∃ s' : List (PtP G), valsP s' = s ∧ J s' w) (Jx := fun s w => ∃ s' : List (PtP G), valsP s' = s ∧ Jx s' w) (G := G) R ?_ l Bp Bd (4 ^ d) d p m W ?_ hG hd hb hm (Nat.le_refl _) (Nat.le_trans hn hW.size) ⟨[], rfl, h0⟩
    ((hW.block Bp (Array.getElem?_eq_some_iff.1 hp).1).trans hp) ((hW.block Bd (Array.getElem?_eq_some_iff.1 hdb).1).trans hdb)).mono ?_)
  · rintro s A B ⟨s', e, hs⟩ hk
    exact ⟨s', e, hJ s' A B none hs hk.grown (fun r e => by cases e)⟩
  · rintro m pre x W ⟨s', rfl, h1⟩ hx h2
    refine YieldAt.any m (YieldAt.mono (hY s' ⟨x, hx⟩ W h1 (by simpa [valsP] using h2)) fun e w' h => ?_)
    rcases h with ⟨he, hj, hk⟩ | ⟨he, hj⟩
    · exact .inl ⟨he, ⟨_, by simp [valsP], hj⟩, hk⟩
    · exact .inr ⟨he, ⟨_, by simp [valsP], hj⟩⟩
  · rintro e w' ⟨hv, ⟨xs, hx, s', hs, hj⟩ | ⟨pre, hp, s', hs, hj⟩⟩
    · exact ⟨hv, .inl ⟨s', hs.trans hx, hj⟩⟩
    · exact ⟨hv, .inr ⟨s', by show valsP s' <+: _; rw [hs]; exact hp, hj⟩⟩
end Go.Proofs.Ytodmdicegkjicaa

namespace Go.Proofs.Ytodmdicegkjicaa
set_option linter.unusedVariables false
set_option linter.unusedSimpArgs false
open Go.RowKit
section
variable {P : Program} {Q : Exit → Act → World → Prop}
theorem rows_round {l n : Nat} {row : String} {args : Array Value} {w : World} {R : Value → World → Prop} (h : Rows P row args w R) : RowsIn (Fence.wide.inRound l) n P row args w R := fun c cs _ => by
  obtain ⟨v, w', hr, hs⟩ := h c cs
  exact ⟨v, w', hr, stepsIn_wide.2 hs⟩
theorem upon_round {l n : Nat} {o : Oper} {a : Act} {K K' : Act → World → Prop} (hk : ∀ a w, K a w → K' a w) {r : Result Next} (h : o.upon P a K Q r) : o.uponIn (Fence.wide.inRound l) n P a K' Q r := by
  have hd : (Fence.wide.inRound l).depth.isSome = true → 1 ≤ n := fun h => by cases h
  cases r with
  | ok x w =>
    cases x with
    | value v => exact hk _ _ h
    | skip => exact hk _ _ h
    | defer d => exact hk _ _ h
    | enter f args => exact ⟨hd, CallsIn.mono (callsIn_wide.2 h) (fun e w' he => by cases e <;> first | exact hk _ _ he | exact he)⟩
    | row r args => exact ⟨hd, rows_round (Rows.mono h fun v w' he => hk _ _ he)⟩
    | round => exact h.elim
    | _ => exact h.elim
  | halt x w => cases x <;> first | exact h | exact h.elim
theorem op_round {l n i : Nat} {ops : Array Oper} (hnd : ∀ (i : Nat) (o : Oper) c, ops[i]? = some o → o.op ≠ .defer c) (hQ : ¬ LetsOut Q) {a : Act} {w : World} {K K' : Act → World → Prop} (hk : ∀ a w, K a w → K' a w) (h : wpOp P ops Q i K a w) : wpOpIn (Fence.wide.inRound l) n P ops Q i K' a w := by
  unfold wpOp at h
  unfold wpOpIn
  cases ho : ops[i]? with
  | none => rw [ho] at h; exact hk _ _ h
  | some o =>
    rw [ho] at h
    simp only at h ⊢
    split
    · rename_i hw
      rw [if_pos hw] at h
      rcases h with h | h
      · refine ⟨fun _ _ => trivial, ?_⟩
        rw [Oper.semAt_eq _ _ _ (fun c => hnd i o c ho)]
        exact upon_round hk h
      · exact absurd h.2 hQ
    · rename_i hw
      rw [if_neg hw] at h
      exact ⟨fun _ _ => trivial, hk _ _ h⟩
theorem any_round {l n : Nat} {md : Region.Mode} {ops : Array Oper} (hnd : ∀ (i : Nat) (o : Oper) c, ops[i]? = some o → o.op ≠ .defer c) (hQ : ¬ LetsOut Q) : ∀ (f : Nat) (listed : Array Bool) (a : Act) (w : World), wpAny P md ops Q f listed a w → wpAnyIn (Fence.wide.inRound l) n P md ops Q f listed a w
  | 0, _, _, _, h => h
  | f + 1, _, _, _, h => ⟨h.1, fun i hi => op_round hnd hQ (fun a w => any_round hnd hQ f _ a w) (h.2 i hi)⟩
def noDeferB (l : List Oper) : Bool := l.all fun o => match o.op with
  | .defer _ => false
  | _ => true
theorem noDefer_spec {l : List Oper} (h : noDeferB l = true) : ∀ (i : Nat) (o : Oper) c, l.toArray[i]? = some o → o.op ≠ .defer c := fun i o c ho e => by
  have hm : o ∈ l := List.mem_of_getElem? (by simpa using ho)
  have := List.all_eq_true.1 h o hm
  rw [e] at this
  cases this
end
section
variable {P : Program} {Q : Exit → Act → World → Prop} {w : World} {C : World → Prop} {l : List Oper} {sp : List Tk} {aF : (Nat → Value) → Act} {I : (Nat → Bool) → (Nat → Value) → World → Prop}
theorem any_region_tellC {a : Act} (sp : List Tk) (I : (Nat → Bool) → (Nat → Value) → World → Prop) (hB : tellB l sp = true) (hL : ∀ b, Region.lexB .any (swapL b sp 0 l).toArray = true)
    (h0 : ∀ b, I (fun _ => false) b w.drew)
    (hq : ∀ (i : Nat) (L : Nat → Bool) (b : Nat → Value) (w' w'' : World), spAt sp i = false → I L b w' → Kept w' w'' → I (doneAt L i) b w'')
    (hK : ∀ L b w', I L b w' → C w')
    (h : ∃ aF : (Nat → Value) → Act,
      (∀ b W, C W → wpQuiet P (swapL b sp 0 l).toArray (fun w' => ∃ x, w' = ext W x) (fun a' => a' = aF b) (swapL b sp 0 l) a) ∧
      EachS (fun i o => ∀ (L : Nat → Bool) (b : Nat → Value) (w' : World), (∀ e ∈ o.after, Region.binds .any e = true → L e.on = true) → L i = false → I L b w' →
        tellsUpon P (fun v w'' => v = (sp.getD i .q).val v ∧ I (doneAt L i) (tellAt b i v) w'') ((execOp (aF b).eval o).run P w')) sp 0 l ∧
      (∀ b b', ∀ d ∈ callSlots sp l, (aF b).tmps[d]? = (aF b').tmps[d]?) ∧
      (∀ L b w', (∀ i, i < l.length → L i = true) → I L b w' → Q .normal (aF b) w')) : wpAny P .any l.toArray Q l.toArray.size (Array.replicate l.toArray.size false) a { w with drawn := w.drawn + 1 } := by
  obtain ⟨aF, hW, hs, hc, hQ⟩ := h
  unfold tellB at hB
  rw [Bool.and_eq_true] at hB
  obtain ⟨hsel, hB⟩ := hB
  have hB2 : ∀ (i : Nat) (oi : Oper), l[i]? = some oi → (∀ e ∈ oi.after, Region.binds .any e = true → e.on < i) ∧ (spAt sp i = true → oi.guard = none) ∧
      ∀ (j : Nat) (oj : Oper) (d : Nat), l[j]? = some oj → oj.dst = some d → (i = j ∨ oi.dst ≠ some d) ∧ (spAt sp i = true → d ∈ oi.looksAt l.toArray → ∃ e ∈ oi.after, Region.binds .any e = true ∧ e.on = j) := by
    intro i oi hi
    have hil := (List.getElem?_eq_some_iff.1 hi).1
    have h := List.all_eq_true.1 hB i (List.mem_range.2 hil)
    simp only [hi] at h
    rw [Bool.and_eq_true, Bool.and_eq_true] at h
    obtain ⟨⟨h1, h2⟩, h3⟩ := h
    refine ⟨fun e he hb => ?_, fun hsp => ?_, fun j oj d hj hd => ?_⟩
    · rw [Array.all_eq_true'] at h1
      have := h1 e he
      rw [hb] at this
      simpa using this
    · rw [hsp] at h2
      simpa using h2
    · have hjl := (List.getElem?_eq_some_iff.1 hj).1
      have h4 := List.all_eq_true.1 h3 j (List.mem_range.2 hjl)
      simp only [hj, hd] at h4
      rw [Bool.and_eq_true] at h4
      obtain ⟨h4, h5⟩ := h4
      refine ⟨?_, fun hsp hmem => ?_⟩
      · rw [Bool.or_eq_true] at h4
        rcases h4 with h4 | h4
        · exact .inl (by simpa using h4)
        · exact .inr (by simpa using h4)
      · rw [hsp] at h5
        have hm' : (oi.looksAt l.toArray).contains d = true := by simpa using hmem
        rw [hm'] at h5
        simp only [Bool.not_true, Bool.false_or] at h5
        obtain ⟨e, he, hb⟩ := Array.any_eq_true'.1 h5
        simp only [Bool.and_eq_true, beq_iff_eq] at hb
        exact ⟨e, he, hb.1, hb.2⟩
  have key := any_of_tell (P := P) (Q := Q) (C := C) (l := l) (sp := sp) (aF := aF) (I := I) (Region.noSelect_spec hsel)
    (fun i o h => (hB2 i o h).1) (fun i o h => (hB2 i o h).2.1)
    (fun i j oi oj d hi hj hij hd => ((hB2 i oi hi).2.2 j oj d hj hd).1.resolve_left hij)
    (fun i j oi oj d hi hj hsp hd hmem => ((hB2 i oi hi).2.2 j oj d hj hd).2 hsp hmem)
    (fun i o L b w' hi hsp => by have := eachS_at sp 0 l i o hs hi hsp; rw [Nat.zero_add] at this; exact this L b w') (fun i o L b w' w'' _ hsp => hq i L b w' w'' hsp) hK hc hQ l.length (Array.replicate l.length false) a w.drew (fun _ => undef) (by simp)
    (by
      have e : (fun i => (Array.replicate l.length false).getD i false) = fun _ => false := by
        funext i
        exact getD_replicate_false _ _
      rw [e]; exact h0 _)
    (by
      intro b _ W hk
      have hLb := hL b
      simp only [Region.lexB, Bool.and_eq_true] at hLb
      have := wpAnyQ_lex (C := Kept W) (md := .any) (Q := fun a' => a' = aF b) hLb.1 (swapL b sp 0 l) 0 (Array.replicate (swapL b sp 0 l).toArray.size false) a (by simp) (by simpa using hLb.2) (hW b W hk)
      simpa [swapL_len] using this)
  simpa using key
/-- The law for such a region in a round. -/
theorem wpIn_round_frs {id l0 n : Nat} {a : Act} (sp : List Tk) (frs : List Fr) (hm : P.follows .mixedOrders = true) (hnd : noDeferB l = true) (hB : tellB l sp = true) (hF : frsB sp frs = true)
    (hL : ∀ b, Region.lexB .any (swapL b sp 0 l).toArray = true) (hO : ¬ LetsOut Q)
    (h : ∃ aF : (Nat → Value) → Act,
      (∀ b W, Kept w W → wpQuiet P (swapL b sp 0 l).toArray (fun w' => ∃ x, w' = ext W x) (fun a' => a' = aF b) (swapL b sp 0 l) a) ∧
      EachS (fun i o => ∀ (L : Nat → Bool) (b : Nat → Value) (w' : World), (∀ e ∈ o.after, Region.binds .any e = true → L e.on = true) → L i = false → FI w frs L b w' →
        tellsUpon P (fun v w'' => v = (sp.getD i .q).val v ∧ FI w frs (doneAt L i) (tellAt b i v) w'') ((execOp (aF b).eval o).run P w')) sp 0 l ∧
      (∀ b b', ∀ d ∈ callSlots sp l, (aF b).tmps[d]? = (aF b').tmps[d]?) ∧
      (∀ L b w', (∀ i, i < l.length → L i = true) → FI w frs L b w' → Q .normal (aF b) w')) : (Code.region id l.toArray true).wpIn (Fence.wide.inRound l0) n P Q a w :=
  wpIn_region_any hm (any_round (noDefer_spec hnd) hO _ _ _ _ (any_region_tellC (C := Kept w) sp (FI w frs) hB hL (fun b => FI.start b) (fun _ _ _ _ _ hs hI hk => (hI.on hk).other hF hs) (fun _ _ _ h => h.kept) h))
/-- A region that only reads and calls. -/
theorem wpIn_round_kept {id l0 n : Nat} {a : Act} (hm : P.follows .mixedOrders = true) (hnd : noDeferB l = true) (hB : Region.lexB .any l.toArray = true) (hO : ¬ LetsOut Q)
    (h : wpQuiet P l.toArray (fun w' => ∃ x, w' = ext w x) (fun a' => ∀ x, Q .normal a' (ext w x)) l a) : (Code.region id l.toArray true).wpIn (Fence.wide.inRound l0) n P Q a w := by
  refine wpIn_region_any hm (any_round (noDefer_spec hnd) hO _ _ _ _ ?_)
  simp only [Region.lexB, Bool.and_eq_true] at hB
  refine wpAny_of_quiet (C := fun w' => ∃ x, w' = ext w x) (Q := fun a' => ∀ w', (∃ x, w' = ext w x) → Q .normal a' w') (fun _ w' hw' h => h w' hw') _ _ _ _ (Kept.refl w).drew ?_
  have e : (fun a' => ∀ w', (∃ x, w' = ext w x) → Q .normal a' w') = (fun a' => ∀ x, Q .normal a' (ext w x)) := by
    funext a'
    exact propext ⟨fun h x => h _ ⟨x, rfl⟩, fun h w' ⟨x, hx⟩ => hx ▸ h x⟩
  rw [e]
  have := wpAnyQ_lex (C := fun w' => ∃ x, w' = ext w x) (md := .any) hB.1 l 0 (Array.replicate l.toArray.size false) a (by simp) (by simpa using hB.2) h
  simpa using this
end
end Go.Proofs.Ytodmdicegkjicaa

namespace Go.Proofs.Ytodmdicegkjicaa
set_option linter.unusedVariables false
set_option linter.unusedSimpArgs false
open Go.RowKit Go.Shelf
def Pn.cells (p : Pn) : Array Value := #[.int .i64 p.a0, .int .i64 p.a1, .int .i64 p.a2, .int .i64 p.b0, .int .i64 p.b1, .int .i64 p.b2, .int .i64 p.c0, .int .i64 p.c1, .int .i64 p.c2]
theorem others_kept {A B : World} (h : Kept A B) : KeepsOthers A B := ⟨h.below.size, fun k _ hk _ => (h.below.block k (Array.getElem?_eq_some_iff.1 hk).1).trans hk⟩
theorem heap_from {n : Nat} {A B : World} {row : Option Nat} (hg : A.grownBy B row) (hr : ∀ r, row = some r → n ≤ r ∧ ∃ o : Obj, A.heap[r]? = some o ∧ o.isCells = false) {k : Nat} {o : Obj} (h : A.heap[k]? = some o) (hc : o.isCells = true) : B.heap[k]? = some o := by
  refine (hg.block k (Array.getElem?_eq_some_iff.1 h).1 (fun e => ?_)).trans h
  obtain ⟨-, o', ho, hn⟩ := hr k e.symm
  rw [h] at ho
  cases ho
  rw [hc] at hn
  cases hn
theorem KpS.from {e1 e2 n : Nat} {W A B : World} {row : Option Nat} (h : KpS e1 e2 W A) (hg : A.grownBy B row) (hr : ∀ r, row = some r → n ≤ r ∧ ∃ o : Obj, A.heap[r]? = some o ∧ o.isCells = false) : KpS e1 e2 W B :=
  ⟨hg.os.trans h.os, hg.tape.trans h.tape, hg.output.trans h.output, Nat.le_trans h.size hg.size, fun k cs T o hk h1 h2 h3 => heap_from hg hr (h.cells k cs T o hk h1 h2 h3) rfl⟩
theorem below_from {n m : Nat} {W A B : World} {row : Option Nat} (h : Below m W A) (hm : m ≤ W.heap.size) (hn : m ≤ n) (hg : A.grownBy B row) (hr : ∀ r, row = some r → n ≤ r ∧ ∃ o : Obj, A.heap[r]? = some o ∧ o.isCells = false) : Below m W B :=
  h.grown hg (Nat.le_trans hm h.size) (fun k hk => Nat.le_trans hn (hr k hk).1)
/-- The law: the assign code puts the part into a new box, in slot sx; the round's value comes in slot sy. -/
theorem range_parts {G : Pn → Prop} {g : Operand} {sx sy : Nat} {assign body : Code} {Q : Exit → Act → World → Prop} {a : Act} {w : World} {n : Nat}
    {lb : Array Value} (hg : a.eval g = .func (.func 63) #[] lb)
    {Kp : World → World → Prop} {S Sp : List (PtP G) → Prop} {N : Nat} {w0 : World} (hseq : SeqStopsK Fence.wide (n - 1) Try.prog 63 lb (fun x : PtP G => #[x.1.val]) Kp S Sp N w0) (h1 : 1 ≤ n)
    (hKt : ∀ {A B C : World}, Kp A B → Kp B C → Kp A C) (hKb : ∀ (W : World) (l : Nat) (o o' : Obj), w.heap.size ≤ l → W.heap[l]? = some o → o.isCells = false → o.isWalk = false → Kp W (W.putObj l o')) (hb0 : Below w0.heap.size w0 w)
    (I : List (PtP G) → World → Prop) (Ix : Code → List (PtP G) → World → Prop) (hI : OwnFrom w.heap.size I) (hIx : ∀ c, OwnFrom w.heap.size (Ix c)) (h0 : I [] w)
    (hassign : ∀ (l : Nat) (pre : List (PtP G)) (x : PtP G) (W : World) (K : Act → World → Prop), I pre W → (∀ Bx W', KeepsFrom w.heap.size W W' → Kp W W' → I pre W' → W'.heap[Bx]? = some (.cells x.1.cells 49 (0, 0)) → w.heap.size ≤ Bx → K { tmps := (a.tmps.setIfInBounds sy x.1.val).setIfInBounds sx (.pointer (some ⟨Bx, 0, none⟩)), defers := [] } W') →
      assign.wpIn (Fence.wide.inRound l) (n - 1 - 1) Try.prog (Exit.then K (fun _ _ _ => False)) { tmps := a.tmps.setIfInBounds sy x.1.val, defers := [] } W)
    (hbody : ∀ (l : Nat) (pre : List (PtP G)) (x : PtP G) (Bx : Nat) (W : World), w.heap.size ≤ l → I pre W → W.heap[Bx]? = some (.cells x.1.cells 49 (0, 0)) → w.heap.size ≤ Bx → pre.length < N → body.wpIn (Fence.wide.inRound l) (n - 1 - 1) Try.prog (ownPostG w.heap.size Kp I Ix (pre ++ [x]) W) { tmps := (a.tmps.setIfInBounds sy x.1.val).setIfInBounds sx (.pointer (some ⟨Bx, 0, none⟩)), defers := [] } W)
    (hdone : ∀ (D : Nat) (xs : List (PtP G)) (W : World), w.heap.size ≤ D → S xs → I xs W → W.heap[D]? = some (.deferred (some [])) → Q .normal { a with defers := { target := .collected D, args := #[] } :: a.defers } W)
    (hstop : ∀ (D : Nat) (c : Code) (pre : List (PtP G)) (W : World), w.heap.size ≤ D → Sp pre → Ix c pre W → W.heap[D]? = some (.deferred (some [])) → c.wpIn Fence.wide n Try.prog Q { a with defers := { target := .collected D, args := #[] } :: a.defers } W) :
    (Code.rangeFunc g #[sy] assign body).wpIn Fence.wide n Try.prog Q a w :=
  wpIn_rangeFunc_ownH rfl h1 (gf := 63) (lb := lb) hg trivial (enters_of Try.func63 (by kernel_rfl) rfl) hseq hKt hKb hb0 (fun _ => rfl) I Ix hI hIx h0
    (fun x a' W => ∃ Bx, W.heap[Bx]? = some (.cells x.1.cells 49 (0, 0)) ∧ w.heap.size ≤ Bx ∧ a' = { tmps := (a.tmps.setIfInBounds sy x.1.val).setIfInBounds sx (.pointer (some ⟨Bx, 0, none⟩)), defers := [] })
    (fun x a' _ A B row hs hg hr => by
      obtain ⟨Bx, h1, h2, h3⟩ := hs
      exact ⟨Bx, heap_from hg hr h1 rfl, h2, h3⟩)
    (fun l pre x W K hi hK => by
      have := hassign l pre x W K hi (fun Bx W' k1 k2 k3 k4 k5 => hK _ _ k1 k2 k3 ⟨Bx, k4, k5, rfl⟩)
      simpa using this)
    (fun l pre x a' W hl _ hi ⟨Bx, k4, k5, e⟩ hlen => by
      subst e
      exact hbody l pre x Bx W hl hi k4 k5 hlen)
    hdone hstop
end Go.Proofs.Ytodmdicegkjicaa

namespace Go.Proofs.Ytodmdicegkjicaa
set_option linter.unusedVariables false
set_option linter.unusedSimpArgs false
open Go.RowKit Go.Shelf
theorem rows_pn {w : World} {b : Nat} {T : TypeId} {p : Pn} (h : w.heap[b]? = some (.cells p.cells T (0, 0))) (hb : p.bd 1024) : RowsAt w (some ⟨b, 0, none⟩) 3 3 p.at := by
  intro _
  refine ⟨b, 0, rfl, (Array.getElem?_eq_some_iff.1 h).1, fun k hk j hj => ?_⟩
  obtain ⟨⟨a0, a1, a2⟩, ⟨b0, b1, b2⟩, c0, c1, c2⟩ := hb
  rcases (show k = 0 ∨ k = 1 ∨ k = 2 by omega) with rfl | rfl | rfl <;> rcases (show j = 0 ∨ j = 1 ∨ j = 2 by omega) with rfl | rfl | rfl <;> (refine ⟨cell_blk h rfl, ?_⟩; simp only [Pn.at]; unfold I64; simp; omega)
theorem wpIn_gen {F : Fence} {n : Nat} {P : Program} {c : Code} {Q : Exit → Act → World → Prop} {a : Act} {w : World} (h : ∀ W, W = w → c.wpIn F n P Q a W) : c.wpIn F n P Q a w := h w rfl
theorem frozen_blk {w : World} {b o : Nat} {cs : Array Value} {T : TypeId} (h : w.heap[b]? = some (.cells cs T (0, 0))) : w.frozen? ⟨b, o, none⟩ = false := by
  unfold World.frozen?
  simp [h]
theorem box_put {w : World} {b : Nat} {v0 : Value} {T : TypeId} (h : w.heap[b]? = some (.cells #[v0] T (0, 0))) (v : Value) : (w.setCell ⟨b, 0, none⟩ v).heap[b]? = some (.cells #[v] T (0, 0)) := by
  simp [World.setCell, Array.getElem?_modify, h]
theorem box_other {w : World} {b c i : Nat} {o : Obj} {u : Value} (h : w.heap[b]? = some o) (hne : b ≠ c) : (w.setCell ⟨c, i, none⟩ u).heap[b]? = some o :=
  (Below.heap_setCell w ⟨c, i, none⟩ u b hne).trans h
theorem pair_put {w : World} {b : Nat} {v0 v1 : Value} {T : TypeId} (h : w.heap[b]? = some (.cells #[v0, v1] T (0, 0))) (x y : Value) : ((w.setCell ⟨b, 0, none⟩ x).setCell ⟨b, 1, none⟩ y).heap[b]? = some (.cells #[x, y] T (0, 0)) := by
  simp [World.setCell, Array.getElem?_modify, h]
theorem vals_snoc {G : Pn → Prop} (a : List (PtP G)) (x : PtP G) : valsP (a ++ [x]) = valsP a ++ [x.1] := by simp [valsP]
end Go.Proofs.Ytodmdicegkjicaa

