/- Small lemmas for the walks of this seat: what a call keeps, and how results are compared. No conditions. Small lemmas for the walks of this seat, more of them. No conditions. A region that draws its order, whose operations only read and whose callees keep what was there, but for a last few operations in one forced order (a store into the result): one walk in the order of the text. No conditions. -/
import Derived.Test.YtnbjealpcjfllaaGreatDoorRows
import Derived.Handy
import Derived.WalkKit
import Derived.WalkSpells
import Derived.WalkLawsBesides
import Derived.Lib.Hide
import Derived.Deep.QuietTactic
import Derived.BigQuiet
import Derived.ProofKit
import Derived.OpenShut
import Derived.ShutString
import Derived.ChangeOld
import Derived.Below
import Derived.Deep.RegionHeld3
import Derived.StillTail
namespace Go.Proofs.YtnbjealpcjfllaaGreatDoor
set_option linter.unusedVariables false
set_option linter.unusedSimpArgs false
open Go.RowKit

/-- More blocks, and a count of draws. -/
structure More where
  draws : Nat
  obs : Array Obj
instance : Inhabited More := ⟨⟨0, #[]⟩⟩
/-- A sum under a name of its own: sums of many parts are slow to compare. -/
def adv (n k : Nat) : Nat := n + k
theorem adv_le (n k : Nat) : n ≤ adv n k := Nat.le_add_right _ _
/-- The world w with more blocks behind those that it has, and another count of draws. -/
def ext (w : World) (x : More) : World := { w with heap := w.heap ++ x.obs, drawn := x.draws }
/-- Everything that was there before the call is as it was. -/
def Kept (w w' : World) : Prop := ∃ x, w' = ext w x

/-- 'b < n', found by the make of n. -/
class Lower (b n : Nat) : Prop where
  lt : b < n
instance Lower.self (b : Nat) : Lower b (b + 1) := ⟨Nat.lt_succ_self b⟩
instance Lower.more (b n : Nat) [h : Lower b n] : Lower b (n + 1) := ⟨Nat.lt_of_lt_of_le h.lt (Nat.le_add_right n 1)⟩
instance Lower.adv (b n k : Nat) [h : Lower b n] : Lower b (adv n k) := ⟨Nat.lt_of_lt_of_le h.lt (adv_le n k)⟩
@[simp, go_sem] theorem ext_size (w : World) (x : More) : (ext w x).heap.size = adv w.heap.size x.obs.size := by simp [ext, adv]
@[simp, go_sem] theorem ext_tape (w : World) (x : More) : (ext w x).tape = w.tape := rfl
@[simp, go_sem] theorem ext_drawn (w : World) (x : More) : (ext w x).drawn = x.draws := rfl
@[go_sem] theorem ext_drew (w : World) (x : More) : (ext w x).drew = ext w ⟨x.draws + 1, x.obs⟩ := rfl
@[go_sem] theorem ext_of_drew (w : World) (x : More) : ext w.drew x = ext w x := rfl
@[go_sem] theorem ext_of_drewN (w : World) (n : Nat) (x : More) : ext (w.drewN n) x = ext w x := rfl
theorem ext_ext (w : World) (x y : More) : ext (ext w x) y = ext w ⟨y.draws, x.obs ++ y.obs⟩ := by simp [ext, Array.append_assoc]
theorem ext_block (w : World) (x : More) (b : Nat) (h : b < w.heap.size) : (ext w x).heap[b]? = w.heap[b]? := by
  simp [ext, Array.getElem?_append_left h]
/-- The number of w's blocks, found by the make of w. -/
class SizeIs (w : World) (n : outParam Nat) : Prop where
  eq : w.heap.size = n
instance (priority := low) SizeIs.any (w : World) : SizeIs w w.heap.size := ⟨rfl⟩
instance SizeIs.alloc (w : World) (o : Obj) (n : Nat) [h : SizeIs w n] : SizeIs (w.alloc o) (n + 1) := ⟨by rw [World.size_alloc, h.eq]⟩
instance SizeIs.ext (w : World) (x : More) (n : Nat) [h : SizeIs w n] : SizeIs (ext w x) (adv n x.obs.size) := ⟨by rw [ext_size, h.eq]⟩
instance SizeIs.drew (w : World) (n : Nat) [h : SizeIs w n] : SizeIs w.drew n := ⟨h.eq⟩
instance SizeIs.drewN (w : World) (k n : Nat) [h : SizeIs w n] : SizeIs (w.drewN k) n := ⟨h.eq⟩
instance SizeIs.setCell (w : World) (a : Addr) (v : Value) (n : Nat) [h : SizeIs w n] : SizeIs (w.setCell a v) n := ⟨by rw [World.size_setCell, h.eq]⟩
theorem low {w : World} {n b : Nat} [h : SizeIs w n] [k : Lower b n] : b < w.heap.size := by rw [h.eq]; exact k.lt
@[go_sem] theorem ext_cell (w : World) (x : More) (b o n : Nat) [SizeIs w n] [Lower b n] : (ext w x).cell? ⟨b, o, none⟩ = w.cell? ⟨b, o, none⟩ := by
  unfold World.cell?; rw [ext_block _ _ _ low]
@[go_sem] theorem ext_frozen (w : World) (x : More) (b o n : Nat) [SizeIs w n] [Lower b n] : (ext w x).frozen? ⟨b, o, none⟩ = w.frozen? ⟨b, o, none⟩ := by
  unfold World.frozen?; rw [ext_block _ _ _ low]
theorem ext_store' (w : World) (x : More) (b o : Nat) (v : Value) (h : b < w.heap.size) : (ext w x).setCell ⟨b, o, none⟩ v = ext (w.setCell ⟨b, o, none⟩ v) x := by
  unfold ext World.setCell
  simp only [World.mk.injEq, and_true, true_and]
  apply Array.ext_getElem?
  intro k
  rw [Array.getElem?_modify, Array.getElem?_append, Array.getElem?_append, Array.getElem?_modify, Array.size_modify]
  by_cases hk : b = k
  · subst hk; simp [h]
  · simp [hk]
@[go_sem] theorem ext_store (w : World) (x : More) (b o n : Nat) (v : Value) [SizeIs w n] [Lower b n] : (ext w x).setCell ⟨b, o, none⟩ v = ext (w.setCell ⟨b, o, none⟩ v) x :=
  ext_store' w x b o v low
@[go_sem] theorem cell_older (w : World) (x : Obj) (b o n : Nat) [SizeIs w n] [Lower b n] : (w.alloc x).cell? ⟨b, o, none⟩ = w.cell? ⟨b, o, none⟩ :=
  World.cell?_alloc_lt w x ⟨b, o, none⟩ low
@[go_sem] theorem frozen_older (w : World) (x : Obj) (b o n : Nat) [SizeIs w n] [Lower b n] : (w.alloc x).frozen? ⟨b, o, none⟩ = w.frozen? ⟨b, o, none⟩ :=
  World.frozen?_alloc_old w x ⟨b, o, none⟩ (Nat.ne_of_lt low)
@[go_sem] theorem store_older (w : World) (x : Obj) (b o n : Nat) (v : Value) [SizeIs w n] [Lower b n] : (w.alloc x).setCell ⟨b, o, none⟩ v = (w.setCell ⟨b, o, none⟩ v).alloc x :=
  World.setCell_alloc_past x b o v low

/-- A cell that was just stored holds what was stored, if it was there. -/
@[go_sem] theorem cell_stored (w : World) (b o : Nat) (v : Value) : (w.setCell ⟨b, o, none⟩ v).cell? ⟨b, o, none⟩ = (w.cell? ⟨b, o, none⟩).map fun _ => v := by
  cases h : w.cell? ⟨b, o, none⟩ with
  | some u => exact World.cell?_setCell_same _ _ _ h
  | none =>
    have h' := h
    unfold World.cell? at h'
    unfold World.cell? World.setCell
    simp only [Array.getElem?_modify, if_true]
    cases hb : w.heap[b]? with
    | none => simp
    | some x =>
      rw [hb] at h'
      cases x <;> simp_all
theorem Kept.refl (w : World) : Kept w w := ⟨⟨w.drawn, #[]⟩, by simp [ext]⟩
theorem Kept.alloc {a w : World} (h : Kept a w) (o : Obj) : Kept a (w.alloc o) := by
  obtain ⟨x, rfl⟩ := h
  exact ⟨⟨x.draws, x.obs.push o⟩, by simp [ext, World.alloc]⟩
theorem Kept.ext {a w : World} (h : Kept a w) (x : More) : Kept a (ext w x) := by
  obtain ⟨y, rfl⟩ := h
  exact ⟨_, ext_ext _ _ _⟩
theorem Kept.drew {a w : World} (h : Kept a w) : Kept a w.drew := by
  obtain ⟨y, rfl⟩ := h
  exact ⟨_, ext_drew _ _⟩
theorem Kept.drewN {a w : World} (h : Kept a w) (n : Nat) : Kept a (w.drewN n) := by
  obtain ⟨y, rfl⟩ := h
  exact ⟨⟨y.draws + n, y.obs⟩, rfl⟩
theorem Kept.trans {a b c : World} (h : Kept a b) (k : Kept b c) : Kept a c := by
  obtain ⟨y, rfl⟩ := k
  exact h.ext y
theorem Kept.below {a w : World} (h : Kept a w) : Below a.heap.size a w := by
  obtain ⟨x, rfl⟩ := h
  exact ⟨rfl, rfl, rfl, by simp [adv], fun k hk => ext_block _ _ _ hk⟩
theorem Kept.of_below {a w : World} (h : Below a.heap.size a w) : Kept a w := by
  refine ⟨⟨w.drawn, w.heap.extract a.heap.size w.heap.size⟩, ?_⟩
  obtain ⟨h1, h2, h3, h4, h5⟩ := h
  cases w with
  | mk hp tp dr os out =>
    cases a with
    | mk hp' tp' dr' os' out' =>
      simp only at h1 h2 h3 h4 h5
      subst h1 h2 h3
      simp only [Go.Proofs.YtnbjealpcjfllaaGreatDoor.ext, World.mk.injEq, and_true]
      apply Array.ext_getElem?
      intro k
      rw [Array.getElem?_append]
      split
      · rename_i hk; exact h5 k hk
      · rename_i hk
        rw [Array.getElem?_extract]
        split
        · rw [show hp'.size + (k - hp'.size) = k from by omega]
        · rw [Array.getElem?_eq_none]; omega

/-- A region that draws its order, whose operations only read and whose callees keep what was there: one walk in the order of the text. -/
theorem wp_region_kept {P : Program} {id : Nat} {Q : Exit → Act → World → Prop} {a : Act} {w : World} {l : List Oper} (hm : P.follows .mixedOrders = true) (hB : Region.lexB .any l.toArray = true)
    (h : wpQuiet P l.toArray (fun w' => ∃ x, w' = ext w x) (fun a' => ∀ x, Q .normal a' (ext w x)) l a) : (Code.region id l.toArray true).wp P Q a w :=
  wp_region_quiet (C := fun w' => ∃ x, w' = ext w x) hm hB (Kept.refl w).drew (by
    have e : (fun a' => ∀ w', (∃ x, w' = ext w x) → Q .normal a' w') = (fun a' => ∀ x, Q .normal a' (ext w x)) := by
      funext a'; exact propext ⟨fun h x => h _ ⟨x, rfl⟩, fun h w' ⟨x, hx⟩ => hx ▸ h x⟩
    rw [e]; simpa using h)
/-- As wp_region_kept, where the world is already one that has grown. -/
theorem wp_region_kept2 {P : Program} {id : Nat} {Q : Exit → Act → World → Prop} {a : Act} {w : World} {y : More} {l : List Oper} (hm : P.follows .mixedOrders = true) (hB : Region.lexB .any l.toArray = true)
    (h : wpQuiet P l.toArray (fun w' => ∃ x, w' = ext w x) (fun a' => ∀ x, Q .normal a' (ext w x)) l a) : (Code.region id l.toArray true).wp P Q a (ext w y) :=
  wp_region_quiet (C := fun w' => ∃ x, w' = ext w x) hm hB ⟨_, ext_drew w y⟩ (by
    have e : (fun a' => ∀ w', (∃ x, w' = ext w x) → Q .normal a' w') = (fun a' => ∀ x, Q .normal a' (ext w x)) := by
      funext a'; exact propext ⟨fun h x => h _ ⟨x, rfl⟩, fun h w' ⟨x, hx⟩ => hx ▸ h x⟩
    rw [e]; simpa using h)
/-- The world under a name of its own. -/
theorem wp_gen {P : Program} {c : Code} {Q : Exit → Act → World → Prop} {a : Act} {w : World} (h : ∀ W, W = w → c.wp P Q a W) : c.wp P Q a w := h w rfl
/-- At a call in such a region: the callee's contract. -/
theorem Calls.kept_of {P : Program} {f : FuncId} {args : Array Value} {w : World} {x : More} {v : Value}
    (h : Calls P f args (ext w x) fun e w' => e = .returned v ∧ Kept (ext w x) w') : Calls P f args (ext w x) fun e w'' => e = .returned v ∧ ∃ y, w'' = ext w y :=
  h.mono fun _ _ ⟨he, hk⟩ => ⟨he, ((Kept.refl w).ext x).trans hk⟩
theorem Calls.kept_same {P : Program} {f : FuncId} {args : Array Value} {w : World} {x : More} {v : Value}
    (h : Calls P f args (ext w x) fun e w' => e = .returned v ∧ ext w x = w') : Calls P f args (ext w x) fun e w'' => e = .returned v ∧ ∃ y, w'' = ext w y :=
  h.mono fun _ _ ⟨he, hk⟩ => ⟨he, x, hk.symm⟩

/-! ### min and max stay whole -/
@[go_sem] theorem ite_min (x y : Int) : (if y < x then y else x) = min x y := by rw [Int.min_def]; split <;> split <;> omega
@[go_sem] theorem ite_max (x y : Int) : (if x < y then y else x) = max x y := by rw [Int.max_def]; split <;> split <;> omega
@[go_sem] theorem run_min4 {P : Program} {w : World} (ts : Array TypeId) (t : TypeId) (a b c d : Int) : (Builtin.min_ ts t #[.int .i64 a, .int .i64 b, .int .i64 c, .int .i64 d]).run P w = .ok (.int .i64 (min (min (min a b) c) d)) w := by
  simp [Builtin.min_, Builtin.min2, ite_min]
@[go_sem] theorem run_max4 {P : Program} {w : World} (ts : Array TypeId) (t : TypeId) (a b c d : Int) : (Builtin.max_ ts t #[.int .i64 a, .int .i64 b, .int .i64 c, .int .i64 d]).run P w = .ok (.int .i64 (max (max (max a b) c) d)) w := by
  simp [Builtin.max_, Builtin.max2, ite_max]
theorem ret_bool {a b : Bool} (h : a = b) : Ending.returned (.bool a) = Ending.returned (.bool b) := by rw [h]
theorem ret_int {k : IntKind} {a b : Int} (h : a = b) : Ending.returned (.int k a) = .returned (.int k b) := by rw [h]

/-! ### Arguments by value whose cells are all of kind int -/
theorem len2 {zs : List Int} (h : zs.length = 2) : ∃ a0 a1, zs = [a0, a1] :=
  match zs, h with
  | [a0, a1], _ => ⟨a0, a1, rfl⟩
theorem len3 {zs : List Int} (h : zs.length = 3) : ∃ a0 a1 a2, zs = [a0, a1, a2] :=
  match zs, h with
  | [a0, a1, a2], _ => ⟨a0, a1, a2, rfl⟩
theorem len4 {zs : List Int} (h : zs.length = 4) : ∃ a0 a1 a2 a3, zs = [a0, a1, a2, a3] :=
  match zs, h with
  | [a0, a1, a2, a3], _ => ⟨a0, a1, a2, a3, rfl⟩
theorem len6 {zs : List Int} (h : zs.length = 6) : ∃ a0 a1 a2 a3 a4 a5, zs = [a0, a1, a2, a3, a4, a5] :=
  match zs, h with
  | [a0, a1, a2, a3, a4, a5], _ => ⟨a0, a1, a2, a3, a4, a5, rfl⟩
theorem len9 {zs : List Int} (h : zs.length = 9) : ∃ a0 a1 a2 a3 a4 a5 a6 a7 a8, zs = [a0, a1, a2, a3, a4, a5, a6, a7, a8] :=
  match zs, h with
  | [a0, a1, a2, a3, a4, a5, a6, a7, a8], _ => ⟨a0, a1, a2, a3, a4, a5, a6, a7, a8, rfl⟩
theorem len10 {zs : List Int} (h : zs.length = 10) : ∃ a0 a1 a2 a3 a4 a5 a6 a7 a8 a9, zs = [a0, a1, a2, a3, a4, a5, a6, a7, a8, a9] :=
  match zs, h with
  | [a0, a1, a2, a3, a4, a5, a6, a7, a8, a9], _ => ⟨a0, a1, a2, a3, a4, a5, a6, a7, a8, a9, rfl⟩
theorem len11 {zs : List Int} (h : zs.length = 11) : ∃ a0 a1 a2 a3 a4 a5 a6 a7 a8 a9 a10, zs = [a0, a1, a2, a3, a4, a5, a6, a7, a8, a9, a10] :=
  match zs, h with
  | [a0, a1, a2, a3, a4, a5, a6, a7, a8, a9, a10], _ => ⟨a0, a1, a2, a3, a4, a5, a6, a7, a8, a9, a10, rfl⟩
def I64 (n : Int) : Prop := -9223372036854775808 ≤ n ∧ n ≤ 9223372036854775807
theorem cell_int {P : Program} {w : World} {r : Reach} {base : Nat} {t : TypeId} {v : Value} (ht : P.underlying t = some (.int .i64)) (h : Cell.okWide P w r base t v) : ∃ n, v = .int .i64 n ∧ I64 n := by
  unfold Cell.okWide at h
  rw [ht] at h
  simp only [Cell.ok, ht] at h
  cases v <;> simp at h
  rename_i k n
  obtain ⟨rfl, h1, h2⟩ := h
  exact ⟨n, rfl, h1, h2⟩
theorem row_ints : ∀ (cs : List Value), (∀ (i : Nat) (v : Value), cs[i]? = some v → ∃ n, v = Value.int .i64 n ∧ I64 n) → ∃ zs : List Int, cs = zs.map (Value.int .i64) ∧ zs.length = cs.length ∧ ∀ z ∈ zs, I64 z
  | [], _ => ⟨[], rfl, rfl, by simp⟩
  | c :: cs, h => by
    obtain ⟨n, rfl, hn⟩ := h 0 c rfl
    obtain ⟨zs, h1, h2, h3⟩ := row_ints cs (fun i v hv => h (i + 1) v (by simpa using hv))
    exact ⟨n :: zs, by rw [h1]; rfl, by simp [h2], by simpa using ⟨hn, h3⟩⟩
theorem open_agg_ints {P : Program} {w : World} {r : Reach} {base : Nat} {t : TypeId} {v : Value} {ts : List TypeId} (n : Nat)
    (hu : (match P.underlying t with | some (.struct _) => true | some (.array _ _) => true | _ => false) = true) (hC : P.cellsOf t = n)
    (hts : P.cellTypes P.depth t = some ts) (hall : ∀ u ∈ ts, P.underlying u = some (.int .i64)) (hv : Value.okWide P w r base t v) :
    ∃ zs : List Int, v = .agg (zs.map (Value.int .i64)).toArray ∧ zs.length = n ∧ ∀ z ∈ zs, I64 z := by
  have key : ∀ cs : Array Value, cs.size = P.cellsOf t → Row.okWide P w r base t cs → ∃ zs : List Int, (Value.agg cs) = .agg (zs.map (Value.int .i64)).toArray ∧ zs.length = n ∧ ∀ z ∈ zs, I64 z := by
    intro cs hsz ⟨ts', h1, _, h3⟩
    rw [hts] at h1
    obtain rfl := Option.some.inj h1
    obtain ⟨zs, e1, e2, e3⟩ := row_ints cs.toList (fun i v hv => by
      obtain ⟨u, hu', hc⟩ := h3 i v (by simpa using hv)
      exact cell_int (hall u (List.mem_of_getElem? hu')) hc)
    refine ⟨zs, by rw [← e1], by rw [e2, Array.length_toList, hsz, hC], e3⟩
  unfold Value.okWide at hv
  split at hv
  · obtain ⟨cs, rfl, h1, h2⟩ := hv; exact key cs h1 h2
  · obtain ⟨cs, rfl, h1, h2⟩ := hv; exact key cs h1 h2
  · rename_i a b
    split at hu
    · rename_i fs hf; exact absurd hf (a fs)
    · rename_i n' e hf; exact absurd hf (b n' e)
    · cases hu
theorem okWide_int_bd {P : Program} {w : World} {r : Reach} {base : Nat} {t : TypeId} {v : Value} (ht : P.underlying t = some (.int .i64)) (hv : Value.okWide P w r base t v) : ∃ n, v = .int .i64 n ∧ I64 n := by
  unfold Value.okWide at hv
  rw [ht] at hv
  exact cell_int ht hv

theorem ret_two {a b : Bool} {x y : Int} (h : a = b) (k : x = y) : Ending.returned (.tuple #[.bool a, .int .i64 x]) = Ending.returned (.tuple #[.bool b, .int .i64 y]) := by rw [h, k]
theorem ret_int2 {a b : Int} {x y : Int} (h : a = b) (k : x = y) : Ending.returned (.tuple #[.int .i64 a, .int .i64 x]) = Ending.returned (.tuple #[.int .i64 b, .int .i64 y]) := by rw [h, k]
/-- A span with an error number. -/
structure R where
  lo : Int
  hi : Int
  e : Int
theorem ret_R3 {a : R} {x y z : Int} (h : ⟨x, y, z⟩ = a) : Ending.returned (.tuple #[.agg #[.int .i64 x, .int .i64 y], .int .i64 z]) = Ending.returned (.tuple #[.agg #[.int .i64 a.lo, .int .i64 a.hi], .int .i64 a.e]) := by rw [← h]
end Go.Proofs.YtnbjealpcjfllaaGreatDoor
namespace Go.Proofs.YtnbjealpcjfllaaGreatDoor
set_option linter.unusedVariables false
set_option linter.unusedSimpArgs false
open Go.RowKit
/-- A store into a block that the call itself has made. -/
theorem Kept.setCell {a w : World} (h : Kept a w) {p : Addr} (hp : a.heap.size ≤ p.block) (u : Value) : Kept a (w.setCell p u) :=
  Kept.of_below (h.below.setCell hp u)
theorem val_eq {k : IntKind} {a b : Int} (h : a = b) : Value.int k a = Value.int k b := by rw [h]
end Go.Proofs.YtnbjealpcjfllaaGreatDoor
namespace Go.Proofs.YtnbjealpcjfllaaGreatDoor
set_option linter.unusedVariables false
set_option linter.unusedSimpArgs false
open Go.RowKit
section
variable {P : Program} {ops : Array Oper} {md : Region.Mode} {C : World → Prop}
/-- f operations of the head (numbers below n) come up in whatever order, each quiet; then L. -/
def headQ (P : Program) (md : Region.Mode) (ops : Array Oper) (C : World → Prop) (n : Nat) (L : Array Bool → Act → Prop) : Nat → Array Bool → Act → Prop
  | 0, listed, a => L listed a
  | f + 1, listed, a => Region.ready md ops listed ≠ [] ∧ ∀ i ∈ Region.ready md ops listed, i < n ∧ qOp P ops C i (headQ P md ops C n L f (listed.setIfInBounds i true)) a
theorem any_of_headQ {n g : Nat} {L : Array Bool → Act → Prop} {Q' : Exit → Act → World → Prop} (hL : ∀ listed a, L listed a → ∀ w, C w → wpAny P md ops Q' g listed a w) :
    ∀ (f : Nat) (listed : Array Bool) (a : Act), headQ P md ops C n L f listed a → ∀ w, C w → wpAny P md ops Q' (f + g) listed a w
  | 0, listed, a, h, w, hw => by rw [Nat.zero_add]; exact hL _ _ h w hw
  | f + 1, listed, a, h, w, hw => by
    rw [show f + 1 + g = (f + g) + 1 by omega]
    exact ⟨fun h0 => absurd h0 h.1, fun i hi => wpOp_of_qOp hw (fun a' w' hw' h' => any_of_headQ hL f _ a' h' w' hw') (h.2 i hi).2⟩
theorem headQ_first {n i : Nat} {oi : Oper} {v : Value} {L : Array Bool → Act → Prop} (hi : ops[i]? = some oi) (hsel : ∀ (j : Nat) (o : Oper) cs b, ops[j]? = some o → o.op ≠ .select cs b)
    (hs : Region.sinkB md ops n = true) (hc : Region.chainB md ops n = true) (hn : n < ops.size) (hin : i < n)
    (hdone : ∀ listed a, L listed a → ∀ j ∈ Region.ready md ops listed, n ≤ j) :
    ∀ (f : Nat) (listed : Array Bool) (a : Act), HeadInv md ops n listed →
      (∀ j oj, ops[j]? = some oj → j ≠ i → listed.getD j true = false → (∀ e ∈ oj.after, Region.binds md e = true → e.on ≠ i) → oi.apart ops oj = true) →
      i ∈ Region.ready md ops listed → YieldsIn P ops C oi v a →
      headQ P md ops C n L f (listed.setIfInBounds i true) (a.put oi.dst v) → headQ P md ops C n L (f + 1) listed a := by
  intro f
  induction f with
  | zero =>
    intro listed a inv _ hr hy H
    have hun := (mem_ready.1 hr).1
    refine ⟨List.ne_nil_of_mem hr, fun j hj => ?_⟩
    have hjn : j < n := Nat.lt_of_not_le fun h => tail_waits hs hc hn inv _ i rfl hin hun j h hj
    by_cases hji : j = i
    · subst hji; exact ⟨hjn, hy.qOp hi H⟩
    · exact absurd (hdone _ _ H j (ready_mono hj hji)) (by omega)
  | succ f ih =>
    intro listed a inv hfree hr hy H
    have hun := (mem_ready.1 hr).1
    refine ⟨List.ne_nil_of_mem hr, fun j hj => ?_⟩
    have hjn : j < n := Nat.lt_of_not_le fun h => tail_waits hs hc hn inv _ i rfl hin hun j h hj
    refine ⟨hjn, ?_⟩
    by_cases hji : j = i
    · subst hji; exact hy.qOp hi H
    · obtain ⟨hjun, oj, hoj, hall⟩ := mem_ready.1 hj
      have hnot : ∀ e ∈ oj.after, Region.binds md e = true → e.on ≠ i := fun e he hb heq => by
        have h1 := hall e he hb
        rw [heq, getD_both hun] at h1
        cases h1
      have h2 := qOp_put hoj (hfree j oj hoj hji hjun hnot) (fun cs b => hsel i oi cs b hi) (fun cs b => hsel j oj cs b hoj) hy (H.2 j (ready_mono hj hji)).2
      refine qOp_mono (fun a' h3 => ih (listed.setIfInBounds j true) a' (inv.set hj hjn) ?_ (ready_mono hr (Ne.symm hji)) h3.1 ?_) h2
      · intro k ok hk hki hunk hno
        refine hfree k ok hk hki ?_ hno
        by_cases hjk : j = k
        · subst hjk; exact hjun
        · rw [getD_set_ne true hjk] at hunk; exact hunk
      · rw [Array.setIfInBounds_comm _ _ hji]; exact h3.2
theorem headQ_lex {n g : Nat} {Lq : Act → Prop} (hsel : Region.noSelect ops = true) (hs : Region.sinkB md ops n = true) (hc : Region.chainB md ops n = true) (hn : n < ops.size) :
    ∀ (l : List Oper) (k : Nat) (listed : Array Bool) (a : Act), (∀ j, j < l.length → l[j]? = ops[k + j]?) → k + l.length = n → HeadInv md ops n listed →
    Region.lexHead md ops g l.length k listed = true → wpQuiet P ops C Lq l a →
    headQ P md ops C n (fun listed' a' => Region.seqB md ops g n listed' = true ∧ Lq a') l.length listed a
  | [], k, listed, a, _, hk, _, hB, h => by
    obtain rfl : k = n := by simpa using hk
    exact ⟨by simpa [Region.lexHead] using hB, h⟩
  | o :: l, k, listed, a, hl, hk, inv, hB, h => by
    have h0 : ops[k]? = some o := by simpa using (hl 0 (by simp)).symm
    simp only [List.length_cons, Region.lexHead, Bool.and_eq_true] at hB
    obtain ⟨⟨hr, hf⟩, hB'⟩ := hB
    have hkn : k < n := by simp only [List.length_cons] at hk; omega
    have hr' : k ∈ Region.ready md ops listed := by simpa using hr
    have hst : qOp P ops C k (wpQuiet P ops C Lq l) a := by unfold qOp; simp only [h0]; exact h
    obtain ⟨v, hy, hK⟩ := yieldsIn_of_qOp h0 hst
    exact headQ_first h0 (Region.noSelect_spec hsel) hs hc hn hkn (fun listed' a' hL => seqB_ready hL.1) l.length listed a inv (Region.free_spec h0 hf) hr' hy
      (headQ_lex hsel hs hc hn l (k + 1) _ _ (fun j hj => by have := hl (j + 1) (by simp; omega); simpa [Nat.add_assoc, Nat.add_comm 1 j] using this) (by simp only [List.length_cons] at hk; omega) (inv.set hr' hkn) hB' hK)
theorem wp_region_quiet_tail {id : Nat} {Q : Exit → Act → World → Prop} {a : Act} {w : World} {l : List Oper} (n : Nat) (hm : P.follows .mixedOrders = true) (hB : Region.lexTailB .any l.toArray n = true) (hC : C w.drew)
    (h : wpQuiet P l.toArray C (fun a' => ∀ w', C w' → wpList P l.toArray Q (l.drop n) a' w') (l.take n) a) : (Code.region id l.toArray true).wp P Q a w := by
  simp only [Region.lexTailB, Bool.and_eq_true, decide_eq_true_eq] at hB
  obtain ⟨⟨⟨⟨hsel, hn⟩, hs⟩, hc⟩, hlex⟩ := hB
  have hn' : n < l.length := by simpa using hn
  have htl : (l.take n).length = n := by simp; omega
  have hdl : (l.drop n).length = l.toArray.size - n := by simp
  have inv0 : HeadInv .any l.toArray n (Array.replicate l.toArray.size false) :=
    ⟨by simp, fun j oj _ hl => (by rw [getD_replicate_false] at hl; cases hl), fun t _ ht => getD_in (by simpa using ht) (getD_replicate_false _ _)⟩
  have H := headQ_lex (md := .any) (g := l.toArray.size - n) hsel hs hc hn (l.take n) 0 _ a (fun j hj => by
    have hj' : j < n := by rw [htl] at hj; exact hj
    simp [hj']) (by simpa using htl) inv0 (by rw [htl]; exact hlex) h
  refine wp_region_any hm ?_
  have := any_of_headQ (Q' := Q) (g := l.toArray.size - n) (fun listed a' hL w' hw' => by
    have := wpAny_of_seq (md := .any) (Q' := Q) (l.drop n) n listed a' w' (fun j => by simp [List.getElem?_drop]) (by rw [hdl]; exact hL.1) (hL.2 w' hw')
    rwa [hdl] at this) _ _ _ H _ hC
  rw [htl, show n + (l.toArray.size - n) = l.toArray.size by omega] at this
  exact this
theorem wp_region_tail {id : Nat} {Q : Exit → Act → World → Prop} {a : Act} {w : World} {l : List Oper} (n : Nat) (hm : P.follows .mixedOrders = true) (hB : Region.lexTailB .any l.toArray n = true)
    (h : wpQuiet P l.toArray (fun w' => ∃ x, w' = ext w x) (fun a' => ∀ x, wpList P l.toArray Q (l.drop n) a' (ext w x)) (l.take n) a) : (Code.region id l.toArray true).wp P Q a w :=
  wp_region_quiet_tail (C := fun w' => ∃ x, w' = ext w x) n hm hB (Kept.refl w).drew (by
    have e : (fun a' => ∀ w', (∃ x, w' = ext w x) → wpList P l.toArray Q (l.drop n) a' w') = (fun a' => ∀ x, wpList P l.toArray Q (l.drop n) a' (ext w x)) := by
      funext a'; exact propext ⟨fun h x => h _ ⟨x, rfl⟩, fun h w' ⟨x, hx⟩ => hx ▸ h x⟩
    rw [e]; exact h)
theorem wp_region_tail2 {id : Nat} {Q : Exit → Act → World → Prop} {a : Act} {w : World} {y : More} {l : List Oper} (n : Nat) (hm : P.follows .mixedOrders = true) (hB : Region.lexTailB .any l.toArray n = true)
    (h : wpQuiet P l.toArray (fun w' => ∃ x, w' = ext w x) (fun a' => ∀ x, wpList P l.toArray Q (l.drop n) a' (ext w x)) (l.take n) a) : (Code.region id l.toArray true).wp P Q a (ext w y) :=
  wp_region_quiet_tail (C := fun w' => ∃ x, w' = ext w x) n hm hB ⟨_, ext_drew w y⟩ (by
    have e : (fun a' => ∀ w', (∃ x, w' = ext w x) → wpList P l.toArray Q (l.drop n) a' w') = (fun a' => ∀ x, wpList P l.toArray Q (l.drop n) a' (ext w x)) := by
      funext a'; exact propext ⟨fun h x => h _ ⟨x, rfl⟩, fun h w' ⟨x, hx⟩ => hx ▸ h x⟩
    rw [e]; exact h)
end
end Go.Proofs.YtnbjealpcjfllaaGreatDoor
