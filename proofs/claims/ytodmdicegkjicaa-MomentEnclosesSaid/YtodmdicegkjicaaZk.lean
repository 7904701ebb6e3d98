/- Contracts: vectors, sums and roots of package field. Conditions: bounds on numbers. Contracts: the scalar product and the square root of package field. Conditions: bounds on numbers. Contract: the rim of a panel, of the program. Conditions: bounds on numbers; the panel is not flat. Ranges over a function: what a round keeps that stores into two boxes of its own. Conditions: those of each theorem. What a mesh is worth: the error of its lists, panels and volume, as plain functions of points and faces. No conditions. Contracts: the panel of a face, products of corners, of the program and of the reference. Conditions: corners are numbers of points. Contracts: the error of a face. Conditions: the points are small. Contracts: the sides of a face, and how often each side is in the faces. Conditions: no more than 96 faces. Contracts: the sides of a face, and how often each side is in the faces, by a map. Conditions: no more than 96 faces. Contracts: the error of the points of a mesh, by a map. Conditions: no more than 64 points. Contracts: the panels of a mesh and 6 times its volume, of the program. Conditions: no more than 96 faces, whose corners are numbers of points. A list of bools that a call makes itself: what it holds. No conditions but those of each theorem. Tables: lists of lists of spans that a call makes by append, and how they are read. Conditions: those of each theorem. Contract: the error of a mesh, of the program. Conditions: the lists' lengths are ints. Contracts: how often a side is in the faces, and 6 times the volume, of the reference. Conditions: no more than 96 faces. Comparisons of points and panels. No conditions. Contract: the error of a mesh, of the reference. Conditions: the lists' lengths are ints. Contracts: a mesh or its error, of the program and of the reference; whether lists are long. Conditions: the lists' lengths are ints. Contract: 24 times the integral of the position, of the program. Conditions: the lists' lengths are ints. -/
import Derived.Test.YtodmdicegkjicaaZa
import Derived.Test.YtodmdicegkjicaaZb
import Derived.Test.YtodmdicegkjicaaZf
import Derived.Deep.DeepCutAuto
import Derived.Deep.RegionHeld3
import Derived.RangeFuncNested
import Derived.RangeFuncBound
import Derived.RangeFuncCalls
import Derived.RangeFuncLeaves
import Derived.RangeFuncFrom
import Derived.LoopN
import Derived.Deep.DrawnRows
import Derived.WideKeyEntry
import Derived.Laws.OwnMore
import Derived.Deep.OwnRows
import Derived.Test.YtodmdicegkjicaaZg
import Derived.Laws.StructEq
namespace Go.Proofs.Ytodmdicegkjicaa
set_option linter.unusedVariables false
set_option linter.unusedSimpArgs false
open Go.RowKit
theorem ftimes_any (a0 a1 a2 k : Int) (w : World) (h : (-1099511627776 ≤ k * a0 ∧ k * a0 ≤ 1099511627776) ∧ (-1099511627776 ≤ k * a1 ∧ k * a1 ≤ 1099511627776) ∧ (-1099511627776 ≤ k * a2 ∧ k * a2 ≤ 1099511627776)) :
    Calls Try.prog 49 #[.agg #[.int .i64 a0, .int .i64 a1, .int .i64 a2], .int .i64 k] w fun e w' => e = .returned (.agg #[.int .i64 (k * a0), .int .i64 (k * a1), .int .i64 (k * a2)]) ∧ Kept w w' := by
  obtain ⟨⟨h0, h1⟩, ⟨h2, h3⟩, h4, h5⟩ := h
  go_enter Try.func49, Try.ntmps49
  go_wp2
  refine bodyPost_ret (by simp only [results, Try.results49]; go_simp; rfl) rfl ?_
  exact ⟨rfl, by (repeat (first | exact Kept.refl _ | assumption | refine Kept.alloc ?_ _ | refine Kept.ext ?_ _ | refine Kept.drew ?_ | refine Kept.drewN ?_ _))⟩
theorem fmid_any (a0 a1 a2 b0 b1 b2 : Int) (w : World) (h : (-1073741824 ≤ a0 ∧ a0 ≤ 1073741824) ∧ (-1073741824 ≤ a1 ∧ a1 ≤ 1073741824) ∧ (-1073741824 ≤ a2 ∧ a2 ≤ 1073741824) ∧ (-1073741824 ≤ b0 ∧ b0 ≤ 1073741824) ∧ (-1073741824 ≤ b1 ∧ b1 ≤ 1073741824) ∧ (-1073741824 ≤ b2 ∧ b2 ≤ 1073741824)) :
    Calls Try.prog 65 #[.agg #[.int .i64 a0, .int .i64 a1, .int .i64 a2], .agg #[.int .i64 b0, .int .i64 b1, .int .i64 b2]] w fun e w' => e = .returned (.agg #[.int .i64 (a0 + b0), .int .i64 (a1 + b1), .int .i64 (a2 + b2)]) ∧ Kept w w' := by
  go_enter Try.func65, Try.ntmps65
  go_wp2
  refine bodyPost_ret (by simp only [results, Try.results65]; go_simp; rfl) rfl ?_
  exact ⟨rfl, by (repeat (first | exact Kept.refl _ | assumption | refine Kept.alloc ?_ _ | refine Kept.ext ?_ _ | refine Kept.drew ?_ | refine Kept.drewN ?_ _))⟩
theorem fvec_any (a0 a1 a2 b0 b1 b2 : Int) (w : World) (h : (-1073741824 ≤ a0 ∧ a0 ≤ 1073741824) ∧ (-1073741824 ≤ a1 ∧ a1 ≤ 1073741824) ∧ (-1073741824 ≤ a2 ∧ a2 ≤ 1073741824) ∧ (-1073741824 ≤ b0 ∧ b0 ≤ 1073741824) ∧ (-1073741824 ≤ b1 ∧ b1 ≤ 1073741824) ∧ (-1073741824 ≤ b2 ∧ b2 ≤ 1073741824)) :
    Calls Try.prog 69 #[.agg #[.int .i64 a0, .int .i64 a1, .int .i64 a2], .agg #[.int .i64 b0, .int .i64 b1, .int .i64 b2]] w fun e w' => e = .returned (.agg #[.int .i64 (a0 - b0), .int .i64 (a1 - b1), .int .i64 (a2 - b2)]) ∧ Kept w w' := by
  go_enter Try.func69, Try.ntmps69
  go_wp2
  refine bodyPost_ret (by simp only [results, Try.results69]; go_simp; rfl) rfl ?_
  exact ⟨rfl, by (repeat (first | exact Kept.refl _ | assumption | refine Kept.alloc ?_ _ | refine Kept.ext ?_ _ | refine Kept.drew ?_ | refine Kept.drewN ?_ _))⟩
theorem fgap_any (a b c d : Int) (w : World) (h : (-1073741824 ≤ a ∧ a ≤ 1073741824) ∧ (-1073741824 ≤ b ∧ b ≤ 1073741824) ∧ (-1073741824 ≤ c ∧ c ≤ 1073741824) ∧ (-1073741824 ≤ d ∧ d ≤ 1073741824)) :
    Calls Try.prog 67 #[.int .i64 a, .int .i64 b, .int .i64 c, .int .i64 d] w fun e w' => e = .returned (.int .i64 (gapS a b c d)) ∧ w = w' := by
  go_enter Try.func67, Try.ntmps67
  go_wp2
  all_goals (go_ret; exact ⟨ret_int (by unfold gapS; omega), rfl⟩)

/-- The sum of three numbers in memory. -/
theorem fsum_any (g : Nat) (x y z : Int) (w : World) (h0 : w.cell? ⟨g, 0, none⟩ = some (.int .i64 x)) (h1 : w.cell? ⟨g, 1, none⟩ = some (.int .i64 y)) (h2 : w.cell? ⟨g, 2, none⟩ = some (.int .i64 z)) (hb : (-1099511627776 ≤ x ∧ x ≤ 1099511627776) ∧ (-1099511627776 ≤ y ∧ y ≤ 1099511627776) ∧ (-1099511627776 ≤ z ∧ z ≤ 1099511627776)) :
    Calls Try.prog 75 #[.slice (some ⟨g, 0, none⟩) 3 3] w fun e w' => e = .returned (.int .i64 (x + y + z)) ∧ w = w' := by
  go_enter Try.func75, Try.ntmps75
  go_wp2_with fail
  refine wp_loop_rounds 4 ?_
  rw [rounds_succ]
  go_wp2_with fail
  rw [rounds_succ]
  go_wp2_with fail
  rw [rounds_succ]
  go_wp2_with fail
  rw [rounds_succ]
  go_wp2_with fail
  go_ret
  exact ⟨ret_int (by omega), rfl⟩
end Go.Proofs.Ytodmdicegkjicaa

namespace Go.Proofs.Ytodmdicegkjicaa
set_option linter.unusedVariables false
set_option linter.unusedSimpArgs false
open Go.RowKit
theorem fdot_any (a0 a1 a2 b0 b1 b2 : Int) (w : World) (h : (-1099511627776 ≤ a0 * b0 ∧ a0 * b0 ≤ 1099511627776) ∧ (-1099511627776 ≤ a1 * b1 ∧ a1 * b1 ≤ 1099511627776) ∧ (-1099511627776 ≤ a2 * b2 ∧ a2 * b2 ≤ 1099511627776)) :
    Calls Try.prog 68 #[.agg #[.int .i64 a0, .int .i64 a1, .int .i64 a2], .agg #[.int .i64 b0, .int .i64 b1, .int .i64 b2]] w fun e w' => e = .returned (.int .i64 (a0 * b0 + a1 * b1 + a2 * b2)) ∧ Kept w w' := by
  obtain ⟨⟨h0, h1⟩, ⟨h2, h3⟩, h4, h5⟩ := h
  go_enter Try.func68, Try.ntmps68
  go_wp2_with (go_at_call 75; refine (fsum_any _ _ _ _ _ (by go_simp) (by go_simp) (by go_simp) ⟨⟨h0, h1⟩, ⟨h2, h3⟩, h4, h5⟩).mono ?_; rintro e w1 ⟨rfl, rfl⟩)
  go_ret
  exact ⟨rfl, by (repeat (first | exact Kept.refl _ | assumption | refine Kept.alloc ?_ _ | refine Kept.ext ?_ _ | refine Kept.drew ?_ | refine Kept.drewN ?_ _))⟩
end Go.Proofs.Ytodmdicegkjicaa

namespace Go.Proofs.Ytodmdicegkjicaa
set_option linter.unusedVariables false
set_option linter.unusedSimpArgs false
open Go.RowKit
end Go.Proofs.Ytodmdicegkjicaa

namespace Go.Proofs.Ytodmdicegkjicaa
set_option linter.unusedVariables false
set_option linter.unusedSimpArgs false
open Go.RowKit
/-- All blocks of cells but two lie as they lay. -/
structure KpE (e1 e2 : Nat) (A B : World) : Prop where
  os : B.os = A.os
  tape : B.tape = A.tape
  output : B.output = A.output
  size : A.heap.size ≤ B.heap.size
  cells : ∀ k o, A.heap[k]? = some o → o.isCells = true → k ≠ e1 → k ≠ e2 → B.heap[k]? = some o
theorem KpE.refl (e1 e2 : Nat) (A : World) : KpE e1 e2 A A := ⟨rfl, rfl, rfl, Nat.le_refl _, fun _ _ h _ _ _ => h⟩
theorem KpE.trans {e1 e2 : Nat} {A B C : World} (h : KpE e1 e2 A B) (k : KpE e1 e2 B C) : KpE e1 e2 A C :=
  ⟨k.os.trans h.os, k.tape.trans h.tape, k.output.trans h.output, Nat.le_trans h.size k.size, fun i o hi ho h1 h2 => k.cells i o (h.cells i o hi ho h1 h2) ho h1 h2⟩
theorem KpE.of_below {e1 e2 : Nat} {A B : World} (h : Below A.heap.size A B) : KpE e1 e2 A B :=
  ⟨h.os, h.tape, h.output, h.size, fun k o hk _ _ _ => (h.block k (Array.getElem?_eq_some_iff.1 hk).1).trans hk⟩
theorem KpE.alloc {e1 e2 : Nat} {A B : World} (h : KpE e1 e2 A B) (o : Obj) : KpE e1 e2 A (B.alloc o) :=
  h.trans (KpE.of_below ((Below.refl _ B).alloc (Nat.le_refl _) o))
theorem KpE.drew {e1 e2 : Nat} {A B : World} (h : KpE e1 e2 A B) : KpE e1 e2 A B.drew :=
  h.trans (KpE.of_below (Below.refl _ B).drew)
theorem KpE.put {e1 e2 : Nat} {A B : World} (h : KpE e1 e2 A B) {p : Addr} (hp : p.block = e1 ∨ p.block = e2) (u : Value) : KpE e1 e2 A (B.setCell p u) :=
  h.trans ⟨((Below.refl 0 B).setCell (p := p) (Nat.zero_le _) u).os, ((Below.refl 0 B).setCell (p := p) (Nat.zero_le _) u).tape, ((Below.refl 0 B).setCell (p := p) (Nat.zero_le _) u).output, ((Below.refl 0 B).setCell (p := p) (Nat.zero_le _) u).size,
    fun k o hk _ h1 h2 => (Below.heap_setCell B p u k (by rcases hp with e | e <;> rw [e] <;> assumption)).trans hk⟩
theorem KpE.kept {e1 e2 : Nat} {A B : World} (h : Kept A B) : KpE e1 e2 A B := KpE.of_below h.below
theorem KpE.cell {e1 e2 : Nat} {A B : World} (h : KpE e1 e2 A B) {p : Addr} {v : Value} (hv : A.cell? p = some v) (h1 : p.block ≠ e1) (h2 : p.block ≠ e2) : B.cell? p = some v := by
  have hb : ∃ o, A.heap[p.block]? = some o ∧ o.isCells = true := by
    unfold World.cell? at hv
    cases ho : A.heap[p.block]? with
    | none => rw [ho] at hv; simp at hv
    | some o =>
      refine ⟨o, rfl, ?_⟩
      rw [ho] at hv
      cases o <;> first | rfl | (simp at hv)
  obtain ⟨o, ho, hc⟩ := hb
  exact (World.cell?_of_block (w := A) (w' := B) ((h.cells _ o ho hc h1 h2).trans ho.symm)).trans hv
end Go.Proofs.Ytodmdicegkjicaa

namespace Go.Proofs.Ytodmdicegkjicaa
set_option linter.unusedVariables false
set_option linter.unusedSimpArgs false
open Go.RowKit
end Go.Proofs.Ytodmdicegkjicaa
namespace Go.Proofs.Ytodmdicegkjicaa
set_option linter.unusedVariables false
set_option linter.unusedSimpArgs false
open Go.RowKit
@[go_sem] theorem idx3_0 (a b c : Int) (w : World) : (Instr.index 71 (.agg #[.int .i64 a, .int .i64 b, .int .i64 c]) (.int .i64 0)).run Try.prog w = .ok (.int .i64 a) w := by kernel_rfl
@[go_sem] theorem idx3_1 (a b c : Int) (w : World) : (Instr.index 71 (.agg #[.int .i64 a, .int .i64 b, .int .i64 c]) (.int .i64 1)).run Try.prog w = .ok (.int .i64 b) w := by kernel_rfl
@[go_sem] theorem idx3_2 (a b c : Int) (w : World) : (Instr.index 71 (.agg #[.int .i64 a, .int .i64 b, .int .i64 c]) (.int .i64 2)).run Try.prog w = .ok (.int .i64 c) w := by kernel_rfl
/-- What is at hand of a list of elements of three cells, at a Nat. -/
theorem rows3 {w : World} {A : Option Addr} {n k : Nat} {f : Nat → Nat → Int} (h : RowsAt w A n 3 f) (hk : k < n) :
    ∃ b off, A = some ⟨b, off, none⟩ ∧ b < w.heap.size ∧ w.cell? ⟨b, off + k * 3, none⟩ = some (.int .i64 (f k 0)) ∧ w.cell? ⟨b, off + k * 3 + 1, none⟩ = some (.int .i64 (f k 1)) ∧ w.cell? ⟨b, off + k * 3 + 2, none⟩ = some (.int .i64 (f k 2)) := by
  obtain ⟨b, off, rfl, hb, hc⟩ := h (by omega)
  have h0 := (hc k hk 0 (by omega)).1
  have h1 := (hc k hk 1 (by omega)).1
  have h2 := (hc k hk 2 (by omega)).1
  rw [Nat.add_zero] at h0
  exact ⟨b, off, rfl, hb, h0, h1, h2⟩
end Go.Proofs.Ytodmdicegkjicaa
namespace Go.Proofs.Ytodmdicegkjicaa
set_option linter.unusedVariables false
set_option linter.unusedSimpArgs false
open Go.RowKit
attribute [local go_sem ↓] Go.wp_at_zero Go.wp_at_succ
end Go.Proofs.Ytodmdicegkjicaa

namespace Go.Proofs.Ytodmdicegkjicaa
set_option linter.unusedVariables false
set_option linter.unusedSimpArgs false
open Go.RowKit Go.Maps
open Go.WideElems (Fit rd rg pl findIdx_born findIdx_arr modify_last set_self)
open Go.ChangeMaps (setBlock)
open Go.WideMaps (KeyLaw)
section
variable {ι : Type} [DecidableEq ι] {P : Program} {k e : TypeId} {kv : ι → Value} {ok : ι → Prop}
end
end Go.Proofs.Ytodmdicegkjicaa

namespace Go.Proofs.Ytodmdicegkjicaa
set_option linter.unusedVariables false
set_option linter.unusedSimpArgs false
open Go.RowKit Go.Maps
open Go.ChangeMaps (setBlock)
theorem cell_lt {w : World} {b o : Nat} {v : Value} (h : w.cell? ⟨b, o, none⟩ = some v) : b < w.heap.size := by
  unfold World.cell? at h
  cases hb : w.heap[b]? with
  | none => simp [hb] at h
  | some x => exact (Array.getElem?_eq_some_iff.1 hb).1
section
variable {W w' w'' : World} {B0 n sb : Nat} {p q : Int} {c : Int × Int → Int} {L : Nat → Bool} {b : Nat → Value}
end
end Go.Proofs.Ytodmdicegkjicaa
namespace Go.Proofs.Ytodmdicegkjicaa
set_option linter.unusedVariables false
set_option linter.unusedSimpArgs false
open Go.RowKit Go.Maps
end Go.Proofs.Ytodmdicegkjicaa
namespace Go.Proofs.Ytodmdicegkjicaa
set_option linter.unusedVariables false
set_option linter.unusedSimpArgs false
open Go.RowKit
theorem alloc_now (w : World) (o : Obj) (n : Nat) [h : SizeIs w n] : (w.alloc o).heap[n]? = some o := by
  have e := h.eq
  subst e
  exact heap_alloc_new w o
end Go.Proofs.Ytodmdicegkjicaa
namespace Go.Proofs.Ytodmdicegkjicaa
set_option linter.unusedVariables false
set_option linter.unusedSimpArgs false
open Go.RowKit
/-- Block ub holds n bools, u j at place j. -/
structure RowU (w : World) (ub n : Nat) (u : Nat → Bool) : Prop where
  cell : ∀ j, j < n → w.cell? ⟨ub, j, none⟩ = some (.bool (u j))
  froz : ∀ j, j < n → w.frozen? ⟨ub, j, none⟩ = false
  lt : ub < w.heap.size
theorem RowU.kept {w w' : World} {ub n : Nat} {u : Nat → Bool} (h : RowU w ub n u) (hk : Kept w w') : RowU w' ub n u := by
  obtain ⟨x, rfl⟩ := hk
  have L : Lower ub w.heap.size := ⟨h.lt⟩
  exact ⟨fun j hj => by rw [ext_cell]; exact h.cell j hj, fun j hj => by rw [ext_frozen]; exact h.froz j hj, by rw [ext_size]; exact Nat.lt_of_lt_of_le h.lt (adv_le _ _)⟩
theorem RowU.congr {w : World} {ub n : Nat} {u v : Nat → Bool} (h : RowU w ub n u) (he : ∀ j, j < n → u j = v j) : RowU w ub n v :=
  ⟨fun j hj => by rw [h.cell j hj, he j hj], h.froz, h.lt⟩
theorem RowU.made (w : World) (n : Nat) (e : TypeId) : RowU (w.alloc (.cells (madeCells #[.bool false] n) e)) w.heap.size n fun _ => false := by
  refine ⟨fun j hj => ?_, fun j hj => ?_, by simp⟩
  · unfold World.cell?
    simp only [heap_alloc_new]
    simp [madeCells, hj, Nat.mod_one]
  · unfold World.frozen?
    simp only [heap_alloc_new]
    simp
theorem RowU.stored {w : World} {ub n : Nat} {u : Nat → Bool} (h : RowU w ub n u) (j : Nat) (hj : j < n) (b : Bool) :
    RowU (w.setCell ⟨ub, j, none⟩ (.bool b)) ub n (fun i => if i = j then b else u i) ∧ w.grownBy (w.setCell ⟨ub, j, none⟩ (.bool b)) (some ub) := by
  refine ⟨⟨fun i hi => ?_, fun i hi => ?_, by simpa using h.lt⟩, ⟨rfl, rfl, rfl, by simp, fun k _ hk => heap_setCell_other w ⟨ub, j, none⟩ k _ (fun e => hk (by simp [e]))⟩⟩
  · by_cases e : i = j
    · subst e
      rw [if_pos rfl]
      exact World.cell?_setCell_same _ _ _ (h.cell i hi)
    · rw [if_neg e, World.cell?_setCell_other (h := fun q => by injection q with _ q2; exact e q2.symm)]
      exact h.cell i hi
  · rw [World.frozen?_setCell]
    exact h.froz i hi
end Go.Proofs.Ytodmdicegkjicaa

namespace Go.Proofs.Ytodmdicegkjicaa
set_option linter.unusedVariables false
set_option linter.unusedSimpArgs false
open Go.RowKit Go.Deep
theorem kp_le {w w' : World} (h : Kept w w') : w.heap.size ≤ w'.heap.size := h.below.size
theorem kp_cell {w w' : World} {a : Addr} {v : Value} (h : w.cell? a = some v) (hk : Kept w w') : w'.cell? a = some v := by
  have hl := World.block_lt_of_cell? w a h
  exact (World.cell?_of_block (w := w) (w' := w') (hk.below.block _ hl)).trans h
theorem own_grown {w w' : World} {base base2 c c2 n m : Nat} {e e2 : TypeId} {v v2 : Value} {xs ys : List Value} (h : w.ownsRow base e c v n xs) (hg : w.grownBy w' v.ownBlock) (h2 : w.ownsRow base2 e2 c2 v2 m ys) (hne : e2 ≠ e) : w'.ownsRow base2 e2 c2 v2 m ys := by
  refine ⟨h2.1, ?_⟩
  rcases h2.2 with h0 | ⟨g, cap, cur, hv, hb, hgc, h3⟩
  · exact .inl h0
  · exact .inr ⟨g, cap, cur, hv, hb, own_keepsB h hg hgc hne, h3⟩
/-- A list of N lists, all of the call's own: list i has m elements of c cells each. -/
def TabL (base : Nat) (eo e : TypeId) (c N m : Nat) (F : Nat → Nat → Nat → Int) (v : Value) (w : World) : Prop :=
  ∃ V : Nat → Value, w.ownsRow base eo 1 v N ((List.range N).map V) ∧ ∀ i, i < N → w.ownsRow base e c (V i) m (rowC c (F i) m)
theorem TabL.nil (base : Nat) (eo e : TypeId) (c m : Nat) (F : Nat → Nat → Nat → Int) (w : World) : TabL base eo e c 0 m F (.slice none 0 0) w :=
  ⟨fun _ => undef, World.ownsRow_nil _ _ _ _, fun i hi => absurd hi (by omega)⟩
theorem TabL.on {base : Nat} {eo e : TypeId} {c N m : Nat} {F : Nat → Nat → Nat → Int} {v : Value} {w w' : World} (h : TabL base eo e c N m F v w) (hk : Kept w w') : TabL base eo e c N m F v w' := by
  obtain ⟨V, h1, h2⟩ := h
  exact ⟨V, owns_kept h1 hk, fun i hi => owns_kept (h2 i hi) hk⟩
theorem TabL.push {base : Nat} {eo e : TypeId} {c N m : Nat} {F : Nat → Nat → Nat → Int} {v v' u : Value} {w w' : World} {V : Nat → Value} (h1 : w.ownsRow base eo 1 v N ((List.range N).map V)) (h2 : ∀ i, i < N → w.ownsRow base e c (V i) m (rowC c (F i) m)) (hne : e ≠ eo)
    (hu : w.ownsRow base e c u m (rowC c (F N) m)) (hg : w.grownBy w' v.ownBlock) (ho : w'.ownsRow base eo 1 v' (N + 1) ((List.range N).map V ++ [u])) : TabL base eo e c (N + 1) m F v' w' := by
  refine ⟨fun i => if i = N then u else V i, ?_, fun i hi => ?_⟩
  · rw [List.range_succ, List.map_append]
    have e1 : (List.range N).map (fun i => if i = N then u else V i) = (List.range N).map V := List.map_congr_left fun i hi => if_neg (by have := List.mem_range.1 hi; omega)
    rw [e1]
    simpa using ho
  · show w'.ownsRow base e c (if i = N then u else V i) m (rowC c (F i) m)
    by_cases q : i = N
    · subst q
      rw [if_pos rfl]
      exact own_grown h1 hg hu hne
    · rw [if_neg q]
      exact own_grown h1 hg (h2 i (by omega)) hne
/-- A table that can be read, in blocks from lo on: n lists of m elements of c cells. -/
def TabA (lo : Nat) (w : World) (A : Option Addr) (n m c : Nat) (F : Nat → Nat → Nat → Int) : Prop :=
  ∀ k, k < n → ∃ b Bk cp, A = some ⟨b, 0, none⟩ ∧ b < w.heap.size ∧ w.cell? ⟨b, k, none⟩ = some (.slice Bk m cp) ∧ RowsAt w Bk m c (F k) ∧ lo ≤ b ∧ ∀ a, Bk = some a → lo ≤ a.block
theorem TabA.on {lo : Nat} {w w' : World} {A : Option Addr} {n m c : Nat} {F : Nat → Nat → Nat → Int} (h : TabA lo w A n m c F) (hk : Kept w w') : TabA lo w' A n m c F := by
  intro k hkn
  obtain ⟨b, Bk, cp, h1, h2, h3, h4, h5⟩ := h k hkn
  exact ⟨b, Bk, cp, h1, Nat.lt_of_lt_of_le h2 (kp_le hk), kp_cell h3 hk, h4.of hk, h5⟩
theorem TabA.low {lo lo' : Nat} {w : World} {A : Option Addr} {n m c : Nat} {F : Nat → Nat → Nat → Int} (h : TabA lo w A n m c F) (hl : lo' ≤ lo) : TabA lo' w A n m c F := by
  intro k hkn
  obtain ⟨b, Bk, cp, h1, h2, h3, h4, h5, h6⟩ := h k hkn
  exact ⟨b, Bk, cp, h1, h2, h3, h4, Nat.le_trans hl h5, fun a ha => Nat.le_trans hl (h6 a ha)⟩
/-- From block lo on, the worlds are one. -/
structure Late (lo : Nat) (W W' : World) : Prop where
  size : W'.heap.size = W.heap.size
  late : ∀ k, lo ≤ k → W'.heap[k]? = W.heap[k]?
theorem Late.ext {lo : Nat} {W W' : World} (h : Late lo W W') (y : More) : Late lo (ext W y) (ext W' y) := by
  refine ⟨by rw [ext_size, ext_size, h.size], fun k hk => ?_⟩
  show (W'.heap ++ y.obs)[k]? = (W.heap ++ y.obs)[k]?
  rw [Array.getElem?_append, Array.getElem?_append, h.size, h.late k hk]
theorem Late.base {W W' : World} (h : W'.heap.size = W.heap.size) : Late W.heap.size W W' :=
  ⟨h, fun k hk => by rw [Array.getElem?_eq_none (by omega), Array.getElem?_eq_none hk]⟩
theorem TabA.late {lo : Nat} {w w' : World} {A : Option Addr} {n m c : Nat} {F : Nat → Nat → Nat → Int} (h : TabA lo w A n m c F) (hl : Late lo w w') : TabA lo w' A n m c F := by
  intro k hkn
  obtain ⟨b, Bk, cp, h1, h2, h3, h4, h5, h6⟩ := h k hkn
  refine ⟨b, Bk, cp, h1, by rw [hl.size]; exact h2, (World.cell?_of_block (w := w) (w' := w') (hl.late b h5)).trans h3, fun h0 => ?_, h5, h6⟩
  obtain ⟨b', off, e, hb, hc⟩ := h4 h0
  refine ⟨b', off, e, by rw [hl.size]; exact hb, fun i hi j hj => ⟨(World.cell?_of_block (w := w) (w' := w') (hl.late b' (h6 _ e))).trans (hc i hi j hj).1, (hc i hi j hj).2⟩⟩
theorem TabL.slice {base : Nat} {eo e : TypeId} {c N m : Nat} {F : Nat → Nat → Nat → Int} {v : Value} {w : World} (h : TabL base eo e c N m F v w) : ∃ A cp, v = .slice A N cp := by
  obtain ⟨V, h1, -⟩ := h
  exact own_slice2 h1
theorem TabL.read {base : Nat} {eo e : TypeId} {c N m cp : Nat} {F : Nat → Nat → Nat → Int} {A : Option Addr} {w : World} (h : TabL base eo e c N m F (.slice A N cp) w) (hI : ∀ i, i < N → ∀ k, k < m → ∀ j, j < c → I64 (F i k j)) : TabA base w A N m c F := by
  intro k hk
  obtain ⟨V, h1, h2⟩ := h
  rcases h1.2 with ⟨h0, h00⟩ | ⟨g, cap, cur, hv, hb, hg, h3, h4, h5, h6⟩
  · omega
  · simp only [Value.slice.injEq] at hv
    obtain ⟨rfl, -, rfl⟩ := hv
    obtain ⟨A2, c2, e2⟩ := own_slice2 (h2 k hk)
    refine ⟨g, A2, c2, rfl, (Array.getElem?_eq_some_iff.1 hg).1, ?_, ?_, hb, fun a ha => ?_⟩
    · have h7 : cur[k]? = some (V k) := by
        have h8 : (cur.toList.take (N * 1))[k]? = some (V k) := by
          rw [h6]
          simp [hk]
        rw [List.getElem?_take, if_pos (by omega)] at h8
        simpa using h8
      unfold World.cell?
      simp [hg, h7, e2]
    · have := h2 k hk
      rw [e2] at this
      exact rows_of_owns this (hI k hk)
    · have := (h2 k hk).lt a.block
      rw [e2, ha] at this
      exact (this rfl).1
end Go.Proofs.Ytodmdicegkjicaa

namespace Go.Proofs.Ytodmdicegkjicaa
set_option linter.unusedVariables false
set_option linter.unusedSimpArgs false
open Go.RowKit Go.Maps
end Go.Proofs.Ytodmdicegkjicaa

namespace Go.Proofs.Ytodmdicegkjicaa
set_option linter.unusedVariables false
set_option linter.unusedSimpArgs false
open Go.RowKit
end Go.Proofs.Ytodmdicegkjicaa
namespace Go.Proofs.Ytodmdicegkjicaa
set_option linter.unusedVariables false
set_option linter.unusedSimpArgs false
open Go.RowKit
@[go_sem] theorem eq_pt (d : Nat) (a0 a1 a2 b0 b1 b2 : Int) (w : World) : (Op.equalIn (d + 1 + 1) 24 (.agg #[.int .i64 a0, .int .i64 a1, .int .i64 a2]) (.agg #[.int .i64 b0, .int .i64 b1, .int .i64 b2])).run Try.prog w = .ok (a0 == b0 && (a1 == b1 && a2 == b2)) w := by
  cases h0 : a0 == b0 <;> cases h1 : a1 == b1 <;> cases h2 : a2 == b2 <;> go_simp
@[go_sem] theorem eq_pn (d : Nat) (a0 a1 a2 a3 a4 a5 a6 a7 a8 b0 b1 b2 b3 b4 b5 b6 b7 b8 : Int) (w : World) : (Op.equalIn (d + 1 + 1 + 1) 49 (.agg #[.int .i64 a0, .int .i64 a1, .int .i64 a2, .int .i64 a3, .int .i64 a4, .int .i64 a5, .int .i64 a6, .int .i64 a7, .int .i64 a8]) (.agg #[.int .i64 b0, .int .i64 b1, .int .i64 b2, .int .i64 b3, .int .i64 b4, .int .i64 b5, .int .i64 b6, .int .i64 b7, .int .i64 b8])).run Try.prog w = .ok ((a0 == b0 && (a1 == b1 && a2 == b2)) && ((a3 == b3 && (a4 == b4 && a5 == b5)) && (a6 == b6 && (a7 == b7 && a8 == b8)))) w := by
  cases h0 : a0 == b0 && (a1 == b1 && a2 == b2) <;> cases h1 : a3 == b3 && (a4 == b4 && a5 == b5) <;> cases h2 : a6 == b6 && (a7 == b7 && a8 == b8) <;> (go_simp; try (intros; simp_all))
end Go.Proofs.Ytodmdicegkjicaa

namespace Go.Proofs.Ytodmdicegkjicaa
set_option linter.unusedVariables false
set_option linter.unusedSimpArgs false
open Go.RowKit Go.Maps
end Go.Proofs.Ytodmdicegkjicaa

namespace Go.Proofs.Ytodmdicegkjicaa
set_option linter.unusedVariables false
set_option linter.unusedSimpArgs false
open Go.RowKit
theorem RowsAt.congr {w : World} {A : Option Addr} {n c : Nat} {f g : Nat → Nat → Int} (h : RowsAt w A n c f) (e : ∀ i, i < n → ∀ j, j < c → f i j = g i j) : RowsAt w A n c g := by
  intro h0
  obtain ⟨b, off, rfl, hb, hc⟩ := h h0
  exact ⟨b, off, rfl, hb, fun k hk j hj => by rw [← e k hk j hj]; exact hc k hk j hj⟩
end Go.Proofs.Ytodmdicegkjicaa
namespace Go.Proofs.Ytodmdicegkjicaa
set_option linter.unusedVariables false
set_option linter.unusedSimpArgs false
open Go.RowKit
theorem cells3 {V : World} {g : Nat} {T : TypeId} {a b c : Value} (h : V.heap[g]? = some (.cells #[a, b, c] T (0, 0))) : V.cell? ⟨g, 0, none⟩ = some a ∧ V.cell? ⟨g, 1, none⟩ = some b ∧ V.cell? ⟨g, 2, none⟩ = some c := by
  refine ⟨?_, ?_, ?_⟩ <;> (unfold World.cell?; simp only [h]; rfl)
theorem RowsAt.grown {w w' : World} {A : Option Addr} {n c g : Nat} {f : Nat → Nat → Int} (h : RowsAt w A n c f) (hg : w.grownBy w' (some g)) (hne : ∀ b off, A = some ⟨b, off, none⟩ → b ≠ g) : RowsAt w' A n c f := by
  intro h0
  obtain ⟨b, off, rfl, hb, hc⟩ := h h0
  refine ⟨b, off, rfl, Nat.lt_of_lt_of_le hb hg.size, fun k hk j hj => ⟨?_, (hc k hk j hj).2⟩⟩
  rw [World.cell?_of_block (hg.block b hb (fun e => hne b off rfl (Option.some.inj e)))]
  exact (hc k hk j hj).1
theorem grown_setRow (w : World) (g : Nat) (cs : Array Value) : w.grownBy (w.setRow g cs) (some g) :=
  ⟨rfl, rfl, rfl, by simp, fun k _ hk => setRow_other w g k _ (fun e => hk (by simp [e]))⟩
end Go.Proofs.Ytodmdicegkjicaa

