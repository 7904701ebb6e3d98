/- Contracts: where a shape of a name lies among shapes, of the program. Conditions: the shapes lie in memory. Contract: the number of a shape of a desk, of the program. Conditions: the desk lies in memory. (Types are the numbers of seat Ytnbjealpcjfllaa (s13; in s11 they were 73 71 99 143 145 147 68 69 for tMutex tIMutex tPMutex tPIMutex tPI32 tUP tNoCopy tU32): f35's parameter, its fieldAddr, f57's parameter and fieldAddr, f83's and f85's parameters, the fields' types.) The numbers under which this dump holds sync.Mutex, and that it holds it. No conditions. Contracts: what is left of a day, of the program: the lock taken, a closure called, the lock given back. Conditions: the desk lies in memory, its lock is free. A desk in memory: shapes, proofs, orders, what is its own, and what stays where other blocks change. Conditions: those of each theorem. A drawn region that loads a list, makes a list of one element, appends it and stores the list: phases ahead of the append, between, behind the store. Conditions: those of each theorem. Contracts: errors.As at an error that a desk made, and the reason of such an error, of the program. Conditions: the library's variable of the type of errors holds what start-up lays. Contract: the reason of an error, of the program: no error. No conditions. Contract: the reason of an error that a desk made, of the program. Conditions: the library's variable of the type of errors holds what start-up lays. Contract: an octahedron of a name is made on a desk, of the program. Conditions: the desk lies in memory, the name is short. Contract: an octahedron of a name is made on a desk, of the program. Conditions: the desk lies in memory, the name is short. Contracts: what was spent, the day, of the program. Conditions: the desk lies in memory, its lock is free. -/
import Derived.Test.YtnbjealpcjfllaaGreatDoorJh
import Derived.Test.YtnbjealpcjfllaaGreatDoorOpr
import Derived.Conc.MuLone
import Derived.KernelRfl
import Derived.Test.YtnbjealpcjfllaaGreatDoorKb
import Derived.WalkKit
import Derived.Test.YtnbjealpcjfllaaGreatDoorGrc
import Derived.Test.YtnbjealpcjfllaaGreatDoorMef
import Derived.Test.YtnbjealpcjfllaaGreatDoorCop
import Derived.Deep.AppendLies
import Derived.LaidEql
import Derived.Stop.Asserts
import Derived.RowKitTokens
import Derived.Test.YtnbjealpcjfllaaGreatDoorSv
import Derived.Test.YtnbjealpcjfllaaGreatDoorZa
import Derived.Test.YtnbjealpcjfllaaGreatDoorJf
namespace Go.Proofs.YtnbjealpcjfllaaGreatDoor
set_option linter.unusedVariables false
set_option linter.unusedSimpArgs false
open Go.ChangeShapes Go.WideShapes Go.ChangeAt Go.RowKit Go.Deep
/-- A shape of a desk as it lies in memory. -/
structure ShV where
  name : List UInt8
  pA : Option Addr
  pn : Nat
  pc : Nat
  fA : Option Addr
  fn : Nat
  fc : Nat
  lo : Int
  hi : Int
  qA : Option Addr
  qn : Nat
  qc : Nat
def ShV.cells (s : ShV) : Array Value := #[.string ⟨s.name.toArray⟩, .slice s.pA s.pn s.pc, .slice s.fA s.fn s.fc, .int .i64 s.lo, .int .i64 s.hi, .slice s.qA s.qn s.qc]
def ShsAt (w : World) (A : Option Addr) (l : List ShV) : Prop :=
  0 < l.length → ∃ b off, A = some ⟨b, off, none⟩ ∧ b < w.heap.size ∧ ∀ k (h : k < l.length), ∀ j, j < 6 → w.cell? ⟨b, off + k * 6 + j, none⟩ = (l[k]).cells[j]?
theorem ShsAt.of {w w' : World} {A : Option Addr} {l : List ShV} (h : ShsAt w A l) (hk : Kept w w') : ShsAt w' A l := fun h0 => by
  obtain ⟨b, off, e, hb, hc⟩ := h h0
  refine ⟨b, off, e, Nat.lt_of_lt_of_le hb (kept_size hk), fun k hkl j hj => ?_⟩
  have := hc k hkl j hj
  obtain ⟨v, hv⟩ : ∃ v, (l[k]).cells[j]? = some v := by
    rcases (show j = 0 ∨ j = 1 ∨ j = 2 ∨ j = 3 ∨ j = 4 ∨ j = 5 by omega) with rfl | rfl | rfl | rfl | rfl | rfl <;> exact ⟨_, rfl⟩
  rw [hv] at this ⊢
  exact cell_old this hb hk
theorem ShsAt.at {w : World} {A : Option Addr} {l : List ShV} (h : ShsAt w A l) {k : Nat} (hk : k < l.length) : ∃ b off, A = some ⟨b, off, none⟩ ∧ b < w.heap.size ∧ w.cell? ⟨b, off + k * 6, none⟩ = some (.string ⟨(l[k]).name.toArray⟩) ∧ w.cell? ⟨b, off + k * 6 + 1, none⟩ = some (.slice (l[k]).pA (l[k]).pn (l[k]).pc) ∧ w.cell? ⟨b, off + k * 6 + 2, none⟩ = some (.slice (l[k]).fA (l[k]).fn (l[k]).fc) ∧ w.cell? ⟨b, off + k * 6 + 3, none⟩ = some (.int .i64 (l[k]).lo) ∧ w.cell? ⟨b, off + k * 6 + 4, none⟩ = some (.int .i64 (l[k]).hi) ∧ w.cell? ⟨b, off + k * 6 + 5, none⟩ = some (.slice (l[k]).qA (l[k]).qn (l[k]).qc) := by
  obtain ⟨b, off, e, hb, hc⟩ := h (by omega)
  exact ⟨b, off, e, hb, hc k hk 0 (by omega), hc k hk 1 (by omega), hc k hk 2 (by omega), hc k hk 3 (by omega), hc k hk 4 (by omega), hc k hk 5 (by omega)⟩
/-- The number of the first shape of a name, or -1. -/
def idxN : List ShV → List UInt8 → Nat → Int
  | [], _, _ => -1
  | s :: r, nm, k => if (s.name == nm) = true then k else idxN r nm (k + 1)
set_option maxRecDepth 100000 in
theorem dfind1_any (s : ShV) (nm : List UInt8) (bn : Nat) (w : World) (hn : w.cell? ⟨bn, 0, none⟩ = some (.string ⟨nm.toArray⟩)) (hb : bn < w.heap.size) :
    Calls Tryz.prog 66 #[.agg #[.string ⟨s.name.toArray⟩, .slice s.pA s.pn s.pc, .slice s.fA s.fn s.fc, .int .i64 s.lo, .int .i64 s.hi, .slice s.qA s.qn s.qc], .pointer (some ⟨bn, 0, none⟩)] w fun e w' => e = .returned (.bool (s.name == nm)) ∧ Kept w w' := by
  have LB : Lower bn w.heap.size := ⟨hb⟩
  obtain ⟨name, pA, pn, pc, fA, fn, fc, lo, hi, qA, qn, qc⟩ := s
  simp only
  clear hb
  go_enter Tryz.func66, Tryz.ntmps66
  go_wp2_with fail
  go_ret
  exact ⟨rfl, by (repeat (first | exact Kept.refl _ | assumption | refine Kept.alloc ?_ _ | refine Kept.ext ?_ _ | refine Kept.drew ?_ | refine Kept.drewN ?_ _))⟩
set_option maxRecDepth 100000 in
set_option maxHeartbeats 4000000 in
theorem dindex_any (A : Option Addr) (l : List ShV) (cap : Nat) (nm : List UInt8) (bn : Nat) (w : World) (hl : l.length ≤ 1000) (hA : ShsAt w A l) (hn : w.cell? ⟨bn, 0, none⟩ = some (.string ⟨nm.toArray⟩)) (hb : bn < w.heap.size) :
    Calls Tryz.prog 65 #[.slice A l.length cap, .func (.func 66) #[] #[.pointer (some ⟨bn, 0, none⟩)]] w fun e w' => e = .returned (.int .i64 (idxN l nm 0)) ∧ Kept w w' := by
  have q : ∀ s w', Kept w w' → _ := fun s w' hk => dfind1_any s nm bn w' (cell_old hn hb hk) (Nat.lt_of_lt_of_le hb (kept_size hk))
  have Q := Lib.hid q
  have HA := Lib.hid hA
  obtain ⟨R, hR⟩ : ∃ R, idxN l nm 0 = R := ⟨_, rfl⟩
  rw [hR]
  have HR := Lib.hid hR
  clear q hA hn hb hR
  go_enter Tryz.func65, Tryz.ntmps65
  go_wp2_with fail
  go_loopw [8] (fun i wr => ∃ k : Nat, k ≤ l.length ∧ i = .int .i64 k ∧ (∃ y, wr = ext w y) ∧ idxN (l.drop k) nm k = R) (fun i _ => l.length - (intOf i).toNat)
  case atStart => exact ⟨0, by omega, rfl, show Kept _ _ by (repeat (first | exact Kept.refl _ | assumption | refine Kept.alloc ?_ _ | refine Kept.ext ?_ _ | refine Kept.drew ?_ | refine Kept.drewN ?_ _)), HR.out⟩
  case round =>
    obtain ⟨k, hk, rfl, ⟨y, rfl⟩, hT⟩ := hrel
    by_cases hlt : k < l.length
    · rw [List.drop_eq_getElem_cons hlt] at hT
      obtain ⟨b, off, rfl, hb1, f0, f1, f2, f3, f4, f5⟩ := HA.out.at hlt
      have LB : Lower b w.heap.size := ⟨hb1⟩
      obtain ⟨s, hs⟩ : ∃ s, l[k] = s := ⟨_, rfl⟩
      rw [hs] at hT f0 f1 f2 f3 f4 f5
      have hT : (if (s.name == nm) = true then (k : Int) else idxN (l.drop (k + 1)) nm (k + 1)) = R := hT
      have hq := Q.out s
      cases hc : s.name == nm
      · rw [hc, if_neg (by simp)] at hT
        rw [hc] at hq
        have HQ := Lib.hid hq
        have HT := Lib.hid hT
        clear hq hT hs hc
        go_wp2_with (go_at_call 66; (with_reducible refine (HQ.out _ (by (repeat (first | exact Kept.refl _ | assumption | refine Kept.alloc ?_ _ | refine Kept.ext ?_ _ | refine Kept.drew ?_ | refine Kept.drewN ?_ _)))).mono ?_); rintro e w1 ⟨rfl, y1, rfl⟩)
        go_roundw
        case rel => exact ⟨k + 1, by omega, by go_num, show Kept _ _ by (repeat (first | exact Kept.refl _ | assumption | refine Kept.alloc ?_ _ | refine Kept.ext ?_ _ | refine Kept.drew ?_ | refine Kept.drewN ?_ _)), HT.out⟩
        case measure => simp [intOf]; omega
      · rw [hc, if_pos rfl] at hT
        rw [hc] at hq
        have HQ := Lib.hid hq
        subst hT
        clear hq hs hc
        go_wp2_with (go_at_call 66; (with_reducible refine (HQ.out _ (by (repeat (first | exact Kept.refl _ | assumption | refine Kept.alloc ?_ _ | refine Kept.ext ?_ _ | refine Kept.drew ?_ | refine Kept.drewN ?_ _)))).mono ?_); rintro e w1 ⟨rfl, y1, rfl⟩)
        go_ret
        exact ⟨rfl, by (repeat (first | exact Kept.refl _ | assumption | refine Kept.alloc ?_ _ | refine Kept.ext ?_ _ | refine Kept.drew ?_ | refine Kept.drewN ?_ _))⟩
    · rw [List.drop_of_length_le (by omega)] at hT
      have hT : (-1 : Int) = R := hT
      subst hT
      go_wp2_with fail
      go_ret
      exact ⟨rfl, by (repeat (first | exact Kept.refl _ | assumption | refine Kept.alloc ?_ _ | refine Kept.ext ?_ _ | refine Kept.drew ?_ | refine Kept.drewN ?_ _))⟩
end Go.Proofs.YtnbjealpcjfllaaGreatDoor

namespace Go.Proofs.YtnbjealpcjfllaaGreatDoor
set_option linter.unusedVariables false
set_option linter.unusedSimpArgs false
open Go.ChangeShapes Go.WideShapes Go.ChangeAt Go.RowKit Go.Deep
set_option maxRecDepth 100000 in
set_option maxHeartbeats 4000000 in
theorem dfind_any (db : Nat) (A : Option Addr) (l : List ShV) (cap : Nat) (nm : List UInt8) (w : World) (hl : l.length ≤ 1000) (hd : w.cell? ⟨db, 2, none⟩ = some (.slice A l.length cap)) (hb : db < w.heap.size) (hA : ShsAt w A l) :
    Calls Tryz.prog 35 #[.pointer (some ⟨db, 0, none⟩), .string ⟨nm.toArray⟩] w fun e w' => e = .returned (.int .i64 (idxN l nm 0)) ∧ Kept w w' := by
  have LB : Lower db w.heap.size := ⟨hb⟩
  have q : ∀ w', Kept w w' → ∀ bn, w'.cell? ⟨bn, 0, none⟩ = some (.string ⟨nm.toArray⟩) → bn < w'.heap.size → _ := fun w' hk bn h1 h2 => dindex_any A l cap nm bn w' hl (hA.of hk) h1 h2
  have Q := Lib.hid q
  obtain ⟨R, hR⟩ : ∃ R, idxN l nm 0 = R := ⟨_, rfl⟩
  rw [hR] at Q ⊢
  clear q hA hb hR
  go_enter Tryz.func35, Tryz.ntmps35
  go_wp2_with fail
  refine (Q.out _ (show Kept _ _ by (repeat (first | exact Kept.refl _ | assumption | refine Kept.alloc ?_ _ | refine Kept.ext ?_ _ | refine Kept.drew ?_ | refine Kept.drewN ?_ _))) _ ?c1 ?c2).mono ?c3
  case c1 => go_simp
  case c2 => go_simp
  case c3 =>
    rintro e w1 ⟨rfl, y1, rfl⟩
    go_wp2_with fail
    go_ret
    exact ⟨rfl, by (repeat (first | exact Kept.refl _ | assumption | refine Kept.alloc ?_ _ | refine Kept.ext ?_ _ | refine Kept.drew ?_ | refine Kept.drewN ?_ _))⟩
end Go.Proofs.YtnbjealpcjfllaaGreatDoor

namespace Go.Proofs.YtnbjealpcjfllaaGreatDoor
set_option linter.unusedVariables false
set_option linter.unusedSimpArgs false
abbrev muLink : Go.Conc.Locks.MuLink := { lock := 30, unlock := 31, ilock := 58, iunlock := 59, lockSlow := 99, unlockSlow := 102, disable := 95, enable := 97, acquire := 98, relMerge := 100, cas32 := 96, add32 := 101, tMutex := 79, tIMutex := 77, tPMutex := 113, tPIMutex := 162, tPI32 := 164, tUP := 166, tNoCopy := 74, tU32 := 75 }
theorem muLib : Go.Conc.Locks.MuLib Tryz.prog muLink :=
  ⟨Tryz.func30, Tryz.func31, Tryz.func58, Tryz.func59, Tryz.func95, Tryz.func97, Tryz.func98, Tryz.func100, Tryz.func96, Tryz.func101,
  Tryz.underlying77, Tryz.runUnderlying77, Tryz.sizeOf77, Tryz.isAgg77, Tryz.zeroValue77, Tryz.underlying79, Tryz.runUnderlying79, Tryz.sizeOf79, Tryz.isAgg79, Tryz.zeroValue79, Tryz.underlying113, Tryz.runUnderlying113, Tryz.sizeOf113, Tryz.isAgg113, Tryz.zeroValue113, Tryz.underlying162, Tryz.runUnderlying162, Tryz.sizeOf162, Tryz.isAgg162, Tryz.zeroValue162, Tryz.underlying164, Tryz.runUnderlying164, Tryz.sizeOf164, Tryz.isAgg164, Tryz.zeroValue164, Tryz.underlying166, Tryz.runUnderlying166, Tryz.sizeOf166, Tryz.isAgg166, Tryz.zeroValue166, Tryz.underlying74, Tryz.runUnderlying74, Tryz.sizeOf74, Tryz.isAgg74, Tryz.zeroValue74, Tryz.underlying21, Tryz.runUnderlying21, Tryz.sizeOf21, Tryz.isAgg21, Tryz.zeroValue21, (by kernel_rfl)⟩
end Go.Proofs.YtnbjealpcjfllaaGreatDoor

namespace Go.Proofs.YtnbjealpcjfllaaGreatDoor
set_option linter.unusedVariables false
set_option linter.unusedSimpArgs false
open Go.ChangeShapes Go.WideShapes Go.ChangeAt Go.RowKit Go.Deep Go.MuLone
/-- A desk in memory. -/
def deskC (st : Int) (sv : Value) (day left spent budget : Int) (ov : Value) : Obj := .cells #[.int .i32 st, .int .u32 0, sv, .int .i64 day, .int .i64 left, .int .i64 spent, .int .i64 budget, ov] 81 (0, 0)
theorem desk_put {w : World} {b : Nat} {st : Int} {sv : Value} {day left spent budget : Int} {ov : Value} (h : w.heap[b]? = some (deskC st sv day left spent budget ov)) (st' : Int) : (w.setCell ⟨b, 0, none⟩ (.int .i32 st')).heap[b]? = some (deskC st' sv day left spent budget ov) := by
  simp [World.setCell, Array.getElem?_modify, h, deskC]
theorem desk_free {w : World} {b j : Nat} {st : Int} {sv : Value} {day left spent budget : Int} {ov : Value} (h : w.heap[b]? = some (deskC st sv day left spent budget ov)) : w.frozen? ⟨b, j, none⟩ = false := by
  unfold World.frozen?
  simp [h, deskC]
theorem desk_cell {w : World} {b j : Nat} {st : Int} {sv : Value} {day left spent budget : Int} {ov v : Value} (h : w.heap[b]? = some (deskC st sv day left spent budget ov)) (hv : (#[.int .i32 st, .int .u32 0, sv, .int .i64 day, .int .i64 left, .int .i64 spent, .int .i64 budget, ov] : Array Value)[j]? = some v) : w.cell? ⟨b, j, none⟩ = some v := by
  unfold World.cell?
  simp only [h, deskC]
  exact hv
theorem lock_back {w : World} {b : Nat} {sv : Value} {day left spent budget : Int} {ov : Value} (h : w.heap[b]? = some (deskC 0 sv day left spent budget ov)) (x : More) : Kept w ((ext (w.setCell ⟨b, 0, none⟩ (.int .i32 1)) x).setCell ⟨b, 0, none⟩ (.int .i32 0)) := by
  have hb := (Array.getElem?_eq_some_iff.1 h).1
  have k1 : KB (fun k => k = b) w (w.setCell ⟨b, 0, none⟩ (.int .i32 1)) := (KB.refl (fun k => k = b) w).setCell (p := ⟨b, 0, none⟩) (fun _ => rfl) _
  have k2 := (k1.ext x).setCell (p := ⟨b, 0, none⟩) (fun _ => rfl) (.int .i32 0)
  have e1 := desk_put h 1
  have e2 : (ext (w.setCell ⟨b, 0, none⟩ (.int .i32 1)) x).heap[b]? = some (deskC 1 sv day left spent budget ov) := by
    rw [ext_block _ _ _ (Array.getElem?_eq_some_iff.1 e1).1]
    exact e1
  have e3 := desk_put e2 0
  refine Kept.of_below ⟨k2.os, k2.tape, k2.output, k2.size, fun k hk => ?_⟩
  by_cases hkb : k = b
  · subst hkb
    rw [e3, h]
  · exact k2.block k hk hkb
theorem lock_off {w w1 : World} {b : Nat} {sv : Value} {day left spent budget : Int} {ov : Value} (h : w.heap[b]? = some (deskC 0 sv day left spent budget ov)) (hk : Kept (w.setCell ⟨b, 0, none⟩ (.int .i32 1)) w1) : Kept w (w1.setCell ⟨b, 0, none⟩ (.int .i32 0)) := by
  obtain ⟨x, rfl⟩ := hk
  exact lock_back h x
theorem dleft1_any (db pb : Nat) (v : Int) (w : World) (hp : w.cell? ⟨pb, 0, none⟩ = some (.pointer (some ⟨db, 0, none⟩))) (hv : w.cell? ⟨db, 4, none⟩ = some (.int .i64 v)) :
    Calls Tryz.prog 40 #[.pointer (some ⟨pb, 0, none⟩)] w fun e w' => e = .returned (.int .i64 v) ∧ w = w' := by
  go_enter Tryz.func40, Tryz.ntmps40
  go_wp2_with fail
  go_ret
  exact ⟨rfl, rfl⟩
set_option maxRecDepth 100000 in
set_option maxHeartbeats 4000000 in
theorem dnumleft_any (db pb : Nat) (sv : Value) (day left spent budget : Int) (ov : Value) (w : World) (h : w.heap[db]? = some (deskC 0 sv day left spent budget ov)) (hp : w.cell? ⟨pb, 0, none⟩ = some (.pointer (some ⟨db, 0, none⟩))) (hne : pb ≠ db) :
    Calls Tryz.prog 38 #[.pointer (some ⟨db, 0, none⟩), .func (.func 40) #[] #[.pointer (some ⟨pb, 0, none⟩)]] w fun e w' => e = .returned (.int .i64 left) ∧ Kept w w' := by
  have e1 := desk_put h 1
  have hq := dleft1_any db pb left (w.setCell ⟨db, 0, none⟩ (.int .i32 1)) ((World.cell?_setCell_other _ ⟨db, 0, none⟩ ⟨pb, 0, none⟩ _ (by simp [hne])).trans hp) (desk_cell e1 rfl)
  have h0 : w.cell? ⟨db, 0, none⟩ = some (.int .i32 0) := desk_cell h rfl
  have f0 : w.frozen? ⟨db, 0, none⟩ = false := desk_free h
  have g0 : (w.setCell ⟨db, 0, none⟩ (.int .i32 1)).cell? ⟨db, 0, none⟩ = some (.int .i32 1) := desk_cell e1 rfl
  have g1 : (w.setCell ⟨db, 0, none⟩ (.int .i32 1)).frozen? ⟨db, 0, none⟩ = false := desk_free e1
  have HQ := Lib.hid hq
  have H := Lib.hid h
  clear hq e1 hp h hne
  go_enter_defers Tryz.func38, Tryz.ntmps38
  go_wp2_with (first | (go_at_call 30; refine (lock_free muLib ⟨db, 0, none⟩ _ h0 f0).mono ?_; rintro e w' ⟨rfl, rfl⟩) | (go_at_call 40; refine HQ.out.mono ?_; rintro e w1 ⟨rfl, rfl⟩))
  refine leaves_cons (f := 31) (args := #[.pointer (some ⟨db, 0, none⟩)]) (by simp) (by simp [go_sem]) ?_
  refine (unlock_deferred muLib ⟨db, 0, none⟩ .returning _ g0 g1).mono ?_
  rintro e u' w'' ⟨rfl, rfl, rfl⟩
  exact ⟨_, results_tmp rfl _ _ _, rfl, lock_off H.out (Kept.refl _)⟩
set_option maxRecDepth 100000 in
set_option maxHeartbeats 4000000 in
theorem dleft_any (db : Nat) (sv : Value) (day left spent budget : Int) (ov : Value) (w : World) (h : w.heap[db]? = some (deskC 0 sv day left spent budget ov)) :
    Calls Tryz.prog 17 #[.pointer (some ⟨db, 0, none⟩)] w fun e w' => e = .returned (.int .i64 left) ∧ Kept w w' := by
  have hb := (Array.getElem?_eq_some_iff.1 h).1
  have q : ∀ w', Kept w w' → ∀ pb, w'.cell? ⟨pb, 0, none⟩ = some (.pointer (some ⟨db, 0, none⟩)) → pb ≠ db → _ := fun w' hk pb h1 h2 => dnumleft_any db pb sv day left spent budget ov w' (by obtain ⟨x, rfl⟩ := hk; rw [ext_block _ _ _ hb]; exact h) h1 h2
  have Q := Lib.hid q
  clear q
  have hne : w.heap.size ≠ db := by omega
  clear h
  go_enter Tryz.func17, Tryz.ntmps17
  go_wp2_with fail
  refine (Q.out _ (show Kept _ _ by (repeat (first | exact Kept.refl _ | assumption | refine Kept.alloc ?_ _ | refine Kept.ext ?_ _ | refine Kept.drew ?_ | refine Kept.drewN ?_ _))) _ ?c1 ?c2).mono ?c3
  case c1 => go_simp
  case c2 => exact hne
  case c3 =>
    rintro e w1 ⟨rfl, y1, rfl⟩
    go_wp2_with fail
    go_ret
    exact ⟨rfl, by (repeat (first | exact Kept.refl _ | assumption | refine Kept.alloc ?_ _ | refine Kept.ext ?_ _ | refine Kept.drew ?_ | refine Kept.drewN ?_ _))⟩
end Go.Proofs.YtnbjealpcjfllaaGreatDoor

namespace Go.Proofs.YtnbjealpcjfllaaGreatDoor
set_option linter.unusedVariables false
set_option linter.unusedSimpArgs false
open Go.RowKit
/-- A proof of a shape. -/
structure Crp where
  n : Nat
  f : Nat → Nat → Int
  d : Int
  lo : Int
  hi : Int
/-- A shape of a desk. -/
structure Shp where
  name : List UInt8
  n : Nat
  P : Nat → Nat → Int
  m : Nat
  F : Nat → Nat → Int
  lo : Int
  hi : Int
  prs : List Crp
/-- A desk. -/
structure Dsk where
  shapes : List Shp
  day : Int
  left : Int
  spent : Int
  budget : Int
  orders : List (List UInt8)
/-- What is so between two orders. -/
def Tight (D : Dsk) : Prop := D.spent ≤ 10000000 * D.orders.length ∧ D.day ≤ D.orders.length
/-- A proof as it lies in memory. -/
structure CtV where
  A : Option Addr
  n : Nat
  cap : Nat
  d : Int
  lo : Int
  hi : Int
def CtV.cells (c : CtV) : List Value := [.slice c.A c.n c.cap, .int .i64 c.d, .int .i64 c.lo, .int .i64 c.hi]
def ctC (C : List CtV) : List Value := C.flatMap CtV.cells
def shC (V : List ShV) : List Value := V.flatMap fun v => v.cells.toList
def ShV.qv (v : ShV) : Value := .slice v.qA v.qn v.qc
theorem ctC_len (C : List CtV) : (ctC C).length = C.length * 4 := by
  induction C with
  | nil => rfl
  | cons c C ih =>
    show (c.cells ++ ctC C).length = (C.length + 1) * 4
    rw [List.length_append, ih]
    show 4 + _ = _
    omega
theorem ctC_cat (C D : List CtV) : ctC (C ++ D) = ctC C ++ ctC D := List.flatMap_append
theorem shC_cat (C D : List ShV) : shC (C ++ D) = shC C ++ shC D := List.flatMap_append
theorem ctC_at : ∀ (C : List CtV) (k j : Nat) (h : k < C.length), j < 4 → (ctC C)[k * 4 + j]? = (C[k]).cells[j]?
  | c :: C, 0, j, h, hj => by
    show (c.cells ++ ctC C)[0 * 4 + j]? = c.cells[j]?
    rw [show 0 * 4 + j = j by omega, List.getElem?_append_left (show j < 4 from hj)]
  | c :: C, k + 1, j, h, hj => by
    show (c.cells ++ ctC C)[(k + 1) * 4 + j]? = _
    rw [List.getElem?_append_right (show 4 ≤ _ by omega), show (k + 1) * 4 + j - c.cells.length = k * 4 + j by show _ - 4 = _; omega]
    exact ctC_at C k j (by simpa using h) hj
theorem shC_at : ∀ (C : List ShV) (k j : Nat) (h : k < C.length), j < 6 → (shC C)[k * 6 + j]? = (C[k]).cells[j]?
  | c :: C, 0, j, h, hj => by
    show (c.cells.toList ++ shC C)[0 * 6 + j]? = c.cells[j]?
    rw [show 0 * 6 + j = j by omega, List.getElem?_append_left (show j < 6 from hj)]
    simp
  | c :: C, k + 1, j, h, hj => by
    show (c.cells.toList ++ shC C)[(k + 1) * 6 + j]? = _
    rw [List.getElem?_append_right (show 6 ≤ _ by omega), show (k + 1) * 6 + j - c.cells.toList.length = k * 6 + j by show _ - 6 = _; omega]
    exact shC_at C k j (by simpa using h) hj
/-- What a desk writes to. -/
def own (db : Nat) (sv ov : Value) (V : List ShV) (k : Nat) : Prop := k = db ∨ sv.ownBlock = some k ∨ ov.ownBlock = some k ∨ ∃ v, v ∈ V ∧ v.qv.ownBlock = some k
/-- A proof in memory. -/
structure CtOk (w : World) (O : Nat → Prop) (c : CtV) (p : Crp) : Prop where
  n : c.n = p.n
  d : c.d = p.d
  lo : c.lo = p.lo
  hi : c.hi = p.hi
  sm : p.n ≤ 1000
  f : RowsAt w c.A p.n 1 p.f
  off : 0 < p.n → Off O c.A
/-- The proofs of a shape in memory. -/
structure CsOk (w : World) (lo : Nat) (O : Nat → Prop) (v : ShV) (l : List Crp) (C : List CtV) : Prop where
  own : w.ownsRow lo 92 4 v.qv C.length (ctC C)
  len : C.length = l.length
  each : ∀ k (h : k < C.length) (h' : k < l.length), CtOk w O C[k] l[k]
/-- A shape in memory. -/
structure ShOk (w : World) (lo : Nat) (O : Nat → Prop) (v : ShV) (s : Shp) : Prop where
  name : v.name = s.name
  nl : s.name.length ≤ 1000000
  n : v.pn = s.n
  m : v.fn = s.m
  slo : v.lo = s.lo
  shi : v.hi = s.hi
  val : validE s.n s.P s.m s.F = 0
  p : RowsAt w v.pA s.n 3 s.P
  poff : 0 < s.n → Off O v.pA
  f : RowsAt w v.fA s.m 3 s.F
  foff : 0 < s.m → Off O v.fA
  few : s.prs.length ≤ 16
  q : ∃ C, CsOk w lo O v s.prs C
/-- A desk in memory. -/
structure DeskAt (w : World) (lo : Nat) (st : Int) (db : Nat) (D : Dsk) (sv ov : Value) (V : List ShV) : Prop where
  hd : w.heap[db]? = some (deskC st sv D.day D.left D.spent D.budget ov)
  lod : lo ≤ db
  sh : w.ownsRow lo 47 6 sv V.length (shC V)
  od : w.ownsRow lo 9 1 ov D.orders.length (D.orders.map strV)
  len : V.length = D.shapes.length
  few : V.length ≤ 8
  few2 : D.orders.length ≤ 100
  each : ∀ k (h : k < V.length) (h' : k < D.shapes.length), ShOk w lo (own db sv ov V) V[k] D.shapes[k]
  sep : ∀ i j (h : i < V.length) (h' : j < V.length), i ≠ j → ∀ b, (V[i]).qv.ownBlock = some b → (V[j]).qv.ownBlock ≠ some b
  bd : 0 ≤ D.left ∧ D.left ≤ D.budget ∧ D.budget ≤ 10000000
  bs : 0 ≤ D.spent ∧ D.spent ≤ 10000000 * (D.orders.length + 1)
  by' : 0 ≤ D.day ∧ D.day ≤ D.orders.length + 1
theorem owns_lt {w : World} {base size n : Nat} {e : TypeId} {v : Value} {xs : List Value} (h : w.ownsRow base e size v n xs) {k : Nat} (hk : v.ownBlock = some k) : base ≤ k ∧ k < w.heap.size := h.lt k hk
/-- The element type of a row's block. -/
theorem owns_ty {w : World} {base size n : Nat} {e : TypeId} {v : Value} {xs : List Value} (h : w.ownsRow base e size v n xs) {k : Nat} (hk : v.ownBlock = some k) : ∃ cs, w.heap[k]? = some (.cells cs e (0, 0)) := by
  rcases h.2 with ⟨rfl, -⟩ | ⟨g, cap, cur, rfl, hg, hh, r⟩
  · cases hk
  · simp only [Value.ownBlock, Option.some.injEq] at hk
    subst hk
    exact ⟨_, hh⟩
theorem CtOk.kb {w w' : World} {O O' S : Nat → Prop} {c : CtV} {p : Crp} (h : CtOk w O c p) (hk : KB S w w') (hS : ∀ k, k < w.heap.size → S k → O k) (hO : ∀ k, k < w.heap.size → O' k → O k) : CtOk w' O' c p := by
  refine ⟨h.n, h.d, h.lo, h.hi, h.sm, hk.rows h.f fun h0 a ha hs => ?_, fun h0 a ha hs => ?_⟩
  · obtain ⟨b, off, e, hb, -⟩ := h.f h0
    have := h.off h0 a ha
    rw [ha] at e
    cases e
    exact this (hS _ hb hs)
  · obtain ⟨b, off, e, hb, -⟩ := h.f h0
    have := h.off h0 a ha
    rw [ha] at e
    cases e
    exact this (hO _ hb hs)
theorem CsOk.kb {w w' : World} {lo : Nat} {O O' S : Nat → Prop} {v : ShV} {l : List Crp} {C : List CtV} (h : CsOk w lo O v l C) (hk : KB S w w') (hS : ∀ k, k < w.heap.size → S k → O k) (hO : ∀ k, k < w.heap.size → O' k → O k) (hq : ∀ k, v.qv.ownBlock = some k → ¬ S k) : CsOk w' lo O' v l C :=
  ⟨hk.owns h.own hq, h.len, fun k h1 h2 => (h.each k h1 h2).kb hk hS hO⟩
theorem rows_off {w : World} {A : Option Addr} {n c : Nat} {f : Nat → Nat → Int} {O O' : Nat → Prop} (h : RowsAt w A n c f) (ho : 0 < n → Off O A) (hO : ∀ k, k < w.heap.size → O' k → O k) : 0 < n → Off O' A := fun h0 a ha hs => by
  obtain ⟨b, off, e, hb, -⟩ := h h0
  have := ho h0 a ha
  rw [ha] at e
  cases e
  exact this (hO _ hb hs)
theorem rows_kb {w w' : World} {A : Option Addr} {n c : Nat} {f : Nat → Nat → Int} {O S : Nat → Prop} (h : RowsAt w A n c f) (ho : 0 < n → Off O A) (hk : KB S w w') (hS : ∀ k, k < w.heap.size → S k → O k) : RowsAt w' A n c f :=
  hk.rows h (rows_off h ho hS)
theorem ShOk.kb {w w' : World} {lo : Nat} {O O' S : Nat → Prop} {v : ShV} {s : Shp} (h : ShOk w lo O v s) (hk : KB S w w') (hS : ∀ k, k < w.heap.size → S k → O k) (hO : ∀ k, k < w.heap.size → O' k → O k) (hq : ∀ k, v.qv.ownBlock = some k → ¬ S k) : ShOk w' lo O' v s := by
  obtain ⟨C, hC⟩ := h.q
  exact ⟨h.name, h.nl, h.n, h.m, h.slo, h.shi, h.val, rows_kb h.p h.poff hk hS, rows_off h.p h.poff hO, rows_kb h.f h.foff hk hS, rows_off h.f h.foff hO, h.few, C, hC.kb hk hS hO hq⟩
section
variable {w w' : World} {lo db : Nat} {st : Int} {D : Dsk} {sv ov : Value} {V : List ShV}
theorem DeskAt.ltd (h : DeskAt w lo st db D sv ov V) : db < w.heap.size := (Array.getElem?_eq_some_iff.1 h.hd).1
theorem DeskAt.own_lt (h : DeskAt w lo st db D sv ov V) {k : Nat} (hk : own db sv ov V k) : lo ≤ k ∧ k < w.heap.size := by
  rcases hk with rfl | hk | hk | ⟨v, hv, hk⟩
  · exact ⟨h.lod, h.ltd⟩
  · exact owns_lt h.sh hk
  · exact owns_lt h.od hk
  · obtain ⟨i, hi, rfl⟩ := List.mem_iff_getElem.1 hv
    obtain ⟨C, hC⟩ := (h.each i hi (h.len ▸ hi)).q
    exact owns_lt hC.own hk
theorem DeskAt.ne_sv (h : DeskAt w lo st db D sv ov V) {k : Nat} (hk : sv.ownBlock = some k) : k ≠ db ∧ ov.ownBlock ≠ some k ∧ ∀ v, v ∈ V → v.qv.ownBlock ≠ some k := by
  obtain ⟨cs, hc⟩ := owns_ty h.sh hk
  refine ⟨?_, fun e => ?_, fun v hv e => ?_⟩
  · rintro rfl
    rw [h.hd] at hc
    unfold deskC at hc
    injection hc with hc
    injection hc with _ hc _
    exact absurd hc (by decide)
  · obtain ⟨cs', hc'⟩ := owns_ty h.od e
    rw [hc] at hc'
    injection hc' with hc'
    injection hc' with _ hc' _
    exact absurd hc' (by decide)
  · obtain ⟨i, hi, rfl⟩ := List.mem_iff_getElem.1 hv
    obtain ⟨C, hC⟩ := (h.each i hi (h.len ▸ hi)).q
    obtain ⟨cs', hc'⟩ := owns_ty hC.own e
    rw [hc] at hc'
    injection hc' with hc'
    injection hc' with _ hc' _
    exact absurd hc' (by decide)
theorem DeskAt.ne_ov (h : DeskAt w lo st db D sv ov V) {k : Nat} (hk : ov.ownBlock = some k) : k ≠ db ∧ sv.ownBlock ≠ some k ∧ ∀ v, v ∈ V → v.qv.ownBlock ≠ some k := by
  obtain ⟨cs, hc⟩ := owns_ty h.od hk
  refine ⟨?_, fun e => (h.ne_sv e).2.1 hk, fun v hv e => ?_⟩
  · rintro rfl
    rw [h.hd] at hc
    unfold deskC at hc
    injection hc with hc
    injection hc with _ hc _
    exact absurd hc (by decide)
  · obtain ⟨i, hi, rfl⟩ := List.mem_iff_getElem.1 hv
    obtain ⟨C, hC⟩ := (h.each i hi (h.len ▸ hi)).q
    obtain ⟨cs', hc'⟩ := owns_ty hC.own e
    rw [hc] at hc'
    injection hc' with hc'
    injection hc' with _ hc' _
    exact absurd hc' (by decide)
theorem DeskAt.ne_qv (h : DeskAt w lo st db D sv ov V) {v : ShV} (hv : v ∈ V) {k : Nat} (hk : v.qv.ownBlock = some k) : k ≠ db ∧ sv.ownBlock ≠ some k ∧ ov.ownBlock ≠ some k := by
  refine ⟨?_, fun e => (h.ne_sv e).2.2 v hv hk, fun e => (h.ne_ov e).2.2 v hv hk⟩
  rintro rfl
  obtain ⟨i, hi, rfl⟩ := List.mem_iff_getElem.1 hv
  obtain ⟨C, hC⟩ := (h.each i hi (h.len ▸ hi)).q
  obtain ⟨cs', hc'⟩ := owns_ty hC.own hk
  rw [h.hd] at hc'
  unfold deskC at hc'
  injection hc' with hc'
  injection hc' with _ hc' _
  exact absurd hc' (by decide)
theorem DeskAt.on (h : DeskAt w lo st db D sv ov V) (hk : Kept w w') : DeskAt w' lo st db D sv ov V := by
  have k : KB (fun _ => False) w w' := KB.of_kept hk
  refine ⟨k.at h.hd (fun q => q), h.lod, k.owns h.sh fun _ _ q => q, k.owns h.od fun _ _ q => q, h.len, h.few, h.few2, fun i h1 h2 => (h.each i h1 h2).kb k (fun _ _ q => q.elim) (fun _ _ q => q) (fun _ _ q => q), h.sep, h.bd, h.bs, h.by'⟩
/-- The desk's own block is written anew. -/
theorem DeskAt.head (h : DeskAt w lo st db D sv ov V) {st' day left spent : Int} (k : KB (fun k => k = db) w w') (hh : w'.heap[db]? = some (deskC st' sv day left spent D.budget ov)) (bd : 0 ≤ left ∧ left ≤ D.budget ∧ D.budget ≤ 10000000) (bs : 0 ≤ spent ∧ spent ≤ 10000000 * (D.orders.length + 1)) (by' : 0 ≤ day ∧ day ≤ D.orders.length + 1) : DeskAt w' lo st' db { D with day := day, left := left, spent := spent } sv ov V := by
  refine ⟨hh, h.lod, k.owns h.sh fun _ e => (h.ne_sv e).1, k.owns h.od fun _ e => (h.ne_ov e).1, h.len, h.few, h.few2, fun i h1 h2 => (h.each i h1 h2).kb k (fun _ _ q => .inl q) (fun _ _ q => q) (fun _ e => (h.ne_qv (List.getElem_mem h1) e).1), h.sep, bd, bs, by'⟩
theorem DeskAt.head0 (h : DeskAt w lo st db D sv ov V) {st' : Int} (k : KB (fun k => k = db) w w') (hh : w'.heap[db]? = some (deskC st' sv D.day D.left D.spent D.budget ov)) : DeskAt w' lo st' db D sv ov V :=
  h.head k hh h.bd h.bs h.by'
/-- What a desk owns behind a step that writes no more than its own. -/
theorem own_more {sv sv' : Value} {V V' : List ShV} {n : Nat} (h1 : ∀ k, k < n → sv'.ownBlock = some k → sv.ownBlock = some k) (h2 : ∀ v, v ∈ V' → ∀ k, k < n → v.qv.ownBlock = some k → ∃ u, u ∈ V ∧ u.qv.ownBlock = some k) : ∀ k, k < n → own db sv' ov V' k → own db sv ov V k := by
  rintro k hk (rfl | q | q | ⟨v, hv, q⟩)
  · exact .inl rfl
  · exact .inr (.inl (h1 k hk q))
  · exact .inr (.inr (.inl q))
  · exact .inr (.inr (.inr (h2 v hv k hk q)))
theorem desk_two {b : Nat} {day left spent budget : Int} (h : w.heap[b]? = some (deskC st sv day left spent budget ov)) (sv' : Value) : (w.setCell ⟨b, 2, none⟩ sv').heap[b]? = some (deskC st sv' day left spent budget ov) := by
  simp [World.setCell, Array.getElem?_modify, h, deskC]
theorem desk_seven {b : Nat} {day left spent budget : Int} (h : w.heap[b]? = some (deskC st sv day left spent budget ov)) (ov' : Value) : (w.setCell ⟨b, 7, none⟩ ov').heap[b]? = some (deskC st sv day left spent budget ov') := by
  simp [World.setCell, Array.getElem?_modify, h, deskC]
theorem kb_cell (w : World) (b j : Nat) (u : Value) : KB (fun k => k = b) w (w.setCell ⟨b, j, none⟩ u) := (KB.refl (fun k => k = b) w).setCell (p := ⟨b, j, none⟩) (fun _ => rfl) u
theorem DeskAt.addShape (h : DeskAt w lo st db D sv ov V) {w1 : World} {g cap : Nat} {v : ShV} {s : Shp} (k1 : KB (fun k => sv.ownBlock = some k) w w1) (hn : sv.ownBlock = some g ∨ w.heap.size ≤ g)
    (h1 : w1.ownsRow lo 47 6 (.slice (some ⟨g, 0, none⟩) (V.length + 1) cap) (V.length + 1) (shC V ++ v.cells.toList)) (hv : ShOk w lo (own db sv ov V) v s) (hq : v.qv.ownBlock = none) (h8 : V.length < 8) :
    DeskAt (w1.setCell ⟨db, 2, none⟩ (.slice (some ⟨g, 0, none⟩) (V.length + 1) cap)) lo st db { D with shapes := D.shapes ++ [s] } (.slice (some ⟨g, 0, none⟩) (V.length + 1) cap) ov (V ++ [v]) ∧
    KB (own db sv ov V) w (w1.setCell ⟨db, 2, none⟩ (.slice (some ⟨g, 0, none⟩) (V.length + 1) cap)) ∧
    ∀ k, k < w.heap.size → own db (.slice (some ⟨g, 0, none⟩) (V.length + 1) cap) ov (V ++ [v]) k → own db sv ov V k := by
  have k2 : KB (fun k => k = db ∨ sv.ownBlock = some k) w (w1.setCell ⟨db, 2, none⟩ (.slice (some ⟨g, 0, none⟩) (V.length + 1) cap)) := (k1.mono fun _ _ q => .inr q).setCell (p := ⟨db, 2, none⟩) (fun _ => .inl rfl) _
  have hd1 : w1.heap[db]? = some (deskC st sv D.day D.left D.spent D.budget ov) := k1.at h.hd fun e => (h.ne_sv e).1 rfl
  have ho : ∀ k, k < w.heap.size → own db (.slice (some ⟨g, 0, none⟩) (V.length + 1) cap) ov (V ++ [v]) k → own db sv ov V k := by
    refine own_more (fun k hk e => ?_) (fun u hu k _ e => ?_)
    · simp only [Value.ownBlock, Option.some.injEq] at e
      subst e
      rcases hn with q | q
      · exact q
      · omega
    · rcases List.mem_append.1 hu with q | q
      · exact ⟨u, q, e⟩
      · rw [List.mem_singleton] at q
        subst q
        rw [hq] at e
        cases e
  have hS : ∀ k, k < w.heap.size → (k = db ∨ sv.ownBlock = some k) → own db sv ov V k := by
    rintro k _ (q | q)
    · exact .inl q
    · exact .inr (.inl q)
  refine ⟨⟨desk_two hd1 _, h.lod, ?_, ?_, by simp [h.len], by simp; omega, h.few2, fun i a b => ?_, fun i j a b hij q e1 e2 => ?_, h.bd, h.bs, h.by'⟩, k2.mono hS, ho⟩
  · rw [List.length_append, shC_cat]
    have e : shC V ++ shC [v] = shC V ++ v.cells.toList := by simp [shC]
    rw [e]
    refine (kb_cell w1 db 2 _).owns h1 fun q e1 e2 => ?_
    subst e2
    obtain ⟨cs, hc⟩ := owns_ty h1 e1
    rw [hd1] at hc
    unfold deskC at hc
    injection hc with hc
    injection hc with _ hc _
    exact absurd hc (by decide)
  · refine k2.owns h.od fun q e1 e2 => ?_
    have := h.ne_ov e1
    rcases e2 with e2 | e2
    · exact this.1 e2
    · exact this.2.1 e2
  · by_cases hi : i < V.length
    · have hi2 : i < D.shapes.length := h.len ▸ hi
      rw [List.getElem_append_left hi, List.getElem_append_left hi2]
      refine (h.each i hi hi2).kb k2 hS ho fun q e1 e2 => ?_
      have := h.ne_qv (List.getElem_mem hi) e1
      rcases e2 with e2 | e2
      · exact this.1 e2
      · exact this.2.1 e2
    · have a' : i = V.length := by simp at a; omega
      subst a'
      have e1 : (V ++ [v])[V.length] = v := by simp
      have e2 : (D.shapes ++ [s])[V.length]'(by simpa using b) = s := by simp [h.len]
      rw [e1, e2]
      exact hv.kb k2 hS ho fun q e1 => by rw [hq] at e1; cases e1
  · by_cases hi : i < V.length
    · by_cases hj : j < V.length
      · rw [List.getElem_append_left hi] at e1
        rw [List.getElem_append_left hj] at e2
        exact h.sep i j hi hj hij q e1 e2
      · have hj' : j = V.length := by simp at b; omega
        subst hj'
        rw [show (V ++ [v])[V.length] = v by simp, hq] at e2
        cases e2
    · have hi' : i = V.length := by simp at a; omega
      subst hi'
      rw [show (V ++ [v])[V.length] = v by simp, hq] at e1
      cases e1
theorem DeskAt.addOrder (h : DeskAt w lo st db D sv ov V) {w1 : World} {g cap : Nat} {t : List UInt8} (k1 : KB (fun k => ov.ownBlock = some k) w w1) (hn : ov.ownBlock = some g ∨ w.heap.size ≤ g)
    (h1 : w1.ownsRow lo 9 1 (.slice (some ⟨g, 0, none⟩) (D.orders.length + 1) cap) (D.orders.length + 1) (D.orders.map strV ++ [strV t])) (h8 : D.orders.length < 100) :
    DeskAt (w1.setCell ⟨db, 7, none⟩ (.slice (some ⟨g, 0, none⟩) (D.orders.length + 1) cap)) lo st db { D with orders := D.orders ++ [t] } sv (.slice (some ⟨g, 0, none⟩) (D.orders.length + 1) cap) V ∧
    KB (own db sv ov V) w (w1.setCell ⟨db, 7, none⟩ (.slice (some ⟨g, 0, none⟩) (D.orders.length + 1) cap)) ∧
    ∀ k, k < w.heap.size → own db sv (.slice (some ⟨g, 0, none⟩) (D.orders.length + 1) cap) V k → own db sv ov V k := by
  have k2 : KB (fun k => k = db ∨ ov.ownBlock = some k) w (w1.setCell ⟨db, 7, none⟩ (.slice (some ⟨g, 0, none⟩) (D.orders.length + 1) cap)) := (k1.mono fun _ _ q => .inr q).setCell (p := ⟨db, 7, none⟩) (fun _ => .inl rfl) _
  have hd1 : w1.heap[db]? = some (deskC st sv D.day D.left D.spent D.budget ov) := k1.at h.hd fun e => (h.ne_ov e).1 rfl
  have ho : ∀ k, k < w.heap.size → own db sv (.slice (some ⟨g, 0, none⟩) (D.orders.length + 1) cap) V k → own db sv ov V k := by
    rintro k hk (q | q | q | q)
    · exact .inl q
    · exact .inr (.inl q)
    · simp only [Value.ownBlock, Option.some.injEq] at q
      subst q
      rcases hn with q | q
      · exact .inr (.inr (.inl q))
      · omega
    · exact .inr (.inr (.inr q))
  have hS : ∀ k, k < w.heap.size → (k = db ∨ ov.ownBlock = some k) → own db sv ov V k := by
    rintro k _ (q | q)
    · exact .inl q
    · exact .inr (.inr (.inl q))
  have hb := h.bs
  have hy := h.by'
  refine ⟨⟨desk_seven hd1 _, h.lod, ?_, ?_, h.len, h.few, by simp; omega, fun i a b => ?_, h.sep, h.bd, by simp; omega, by simp; omega⟩, k2.mono hS, ho⟩
  · refine k2.owns h.sh fun q e1 e2 => ?_
    have := h.ne_sv e1
    rcases e2 with e2 | e2
    · exact this.1 e2
    · exact this.2.1 e2
  · rw [List.length_append, List.map_append]
    refine (kb_cell w1 db 7 _).owns h1 fun q e1 e2 => ?_
    subst e2
    obtain ⟨cs, hc⟩ := owns_ty h1 e1
    rw [hd1] at hc
    unfold deskC at hc
    injection hc with hc
    injection hc with _ hc _
    exact absurd hc (by decide)
  · refine (h.each i a b).kb k2 hS ho fun q e1 e2 => ?_
    have := h.ne_qv (List.getElem_mem a) e1
    rcases e2 with e2 | e2
    · exact this.1 e2
    · exact this.2.2 e2
/-- A shape is another one: its row is written, and what is new; N is its list of proofs, if that is written too. -/
theorem DeskAt.putShape (h : DeskAt w lo st db D sv ov V) {w2 : World} {i : Nat} (hi : i < V.length) {N : Nat → Prop} {v' : ShV} {s' : Shp} (k : KB (fun k => sv.ownBlock = some k ∨ N k) w w2) (hN : ∀ k, k < w.heap.size → N k → (V[i]).qv.ownBlock = some k)
    (h1 : w2.ownsRow lo 47 6 sv V.length (shC (V.set i v'))) (hv : (∀ k, k < w.heap.size → own db sv ov (V.set i v') k → own db sv ov V k) → ShOk w2 lo (own db sv ov (V.set i v')) v' s') (hq : ∀ k, v'.qv.ownBlock = some k → (V[i]).qv.ownBlock = some k ∨ w.heap.size ≤ k) :
    DeskAt w2 lo st db { D with shapes := D.shapes.set i s' } sv ov (V.set i v') ∧ KB (own db sv ov V) w w2 ∧ ∀ k, k < w.heap.size → own db sv ov (V.set i v') k → own db sv ov V k := by
  have ho : ∀ k, k < w.heap.size → own db sv ov (V.set i v') k → own db sv ov V k := by
    refine own_more (fun k _ e => e) (fun u hu k hk e => ?_)
    rcases List.mem_or_eq_of_mem_set hu with q | rfl
    · exact ⟨u, q, e⟩
    · rcases hq k e with q | q
      · exact ⟨_, List.getElem_mem hi, q⟩
      · omega
  have hS : ∀ k, k < w.heap.size → (sv.ownBlock = some k ∨ N k) → own db sv ov V k := by
    rintro q hlt (e | e)
    · exact .inr (.inl e)
    · exact .inr (.inr (.inr ⟨_, List.getElem_mem hi, hN q hlt e⟩))
  have hlt : ∀ q, own db sv ov V q → q < w.heap.size := fun q e => (h.own_lt e).2
  refine ⟨⟨k.at h.hd ?_, h.lod, by rw [List.length_set]; exact h1, k.owns h.od ?_, by simp [h.len], by simpa using h.few, h.few2, fun j a b => ?_, fun j l a b hjl q e1 e2 => ?_, h.bd, h.bs, h.by'⟩, k.mono hS, ho⟩
  · rintro (e | e)
    · exact (h.ne_sv e).1 rfl
    · exact (h.ne_qv (List.getElem_mem hi) (hN db h.ltd e)).1 rfl
  · rintro q e1 (e | e)
    · exact (h.ne_ov e1).2.1 e
    · exact (h.ne_qv (List.getElem_mem hi) (hN q (owns_lt h.od e1).2 e)).2.2 e1
  · rw [List.length_set] at a
    have a2 : j < D.shapes.length := h.len ▸ a
    by_cases hij : i = j
    · subst hij
      rw [List.getElem_set_self, List.getElem_set_self]
      exact hv ho
    · rw [List.getElem_set_ne hij, List.getElem_set_ne hij]
      refine (h.each j a a2).kb k hS ho fun q e1 e2 => ?_
      rcases e2 with e | e
      · exact (h.ne_qv (List.getElem_mem a) e1).2.1 e
      · exact h.sep j i a hi (Ne.symm hij) q e1 (hN q (hlt q (.inr (.inr (.inr ⟨_, List.getElem_mem a, e1⟩)))) e)
  · rw [List.length_set] at a b
    by_cases hij : i = j
    · subst hij
      rw [List.getElem_set_self] at e1
      rw [List.getElem_set_ne hjl] at e2
      rcases hq q e1 with e | e
      · exact h.sep i l hi b hjl q e e2
      · have := hlt q (.inr (.inr (.inr ⟨_, List.getElem_mem b, e2⟩)))
        omega
    · rw [List.getElem_set_ne hij] at e1
      by_cases hil : i = l
      · subst hil
        rw [List.getElem_set_self] at e2
        rcases hq q e2 with e | e
        · exact h.sep j i a hi hjl q e1 e
        · have := hlt q (.inr (.inr (.inr ⟨_, List.getElem_mem a, e1⟩)))
          omega
      · rw [List.getElem_set_ne hil] at e2
        exact h.sep j l a b hjl q e1 e2
end
end Go.Proofs.YtnbjealpcjfllaaGreatDoor

namespace Go.Proofs.YtnbjealpcjfllaaGreatDoor
set_option linter.unusedVariables false
set_option linter.unusedSimpArgs false
open Go.RowKit Go.Deep
/-- i1 loads the list, i5 makes the list of one element, i6 appends it, i8 stores the list. -/
structure AppG (i1 i5 i6 i8 : Nat) (W : World) (O : Nat → Prop) (e : TypeId) (news : List Value) (A : World → Prop) (B C : Value → World → Prop) (L : Nat → Bool) (b : Nat → Value) (w' : World) : Prop where
  z : KB O W w'
  a6 : L i6 = true → L i1 = true ∧ L i5 = true
  a8 : L i8 = true → L i6 = true
  n5 : L i5 = true → ∃ g, b i5 = .slice (some ⟨g, 0, none⟩) 1 1 ∧ (L i6 = false → w'.heap[g]? = some (.cells news.toArray e (0, 0)))
  p : L i6 = false → A w'
  q : L i6 = true → L i8 = false → B (b i6) w'
  r : L i8 = true → C (b i6) w'
section
variable {i1 i5 i6 i8 : Nat} {W : World} {O : Nat → Prop} {e : TypeId} {news : List Value} {A : World → Prop} {B C : Value → World → Prop} {L : Nat → Bool} {b : Nat → Value} {w' w'' : World}
theorem AppG.start (hz : KB O W w') (hp : A w') : AppG i1 i5 i6 i8 W O e news A B C (fun _ => false) b w' :=
  ⟨hz, fun h => (by cases h), fun h => (by cases h), fun h => (by cases h), fun _ => hp, fun h => (by cases h), fun h => (by cases h)⟩
theorem AppG.on (h : AppG i1 i5 i6 i8 W O e news A B C L b w') (hk : Kept w' w'') (hA : ∀ x y, A x → Kept x y → A y) (hB : ∀ v x y, B v x → Kept x y → B v y) (hC : ∀ v x y, C v x → Kept x y → C v y) : AppG i1 i5 i6 i8 W O e news A B C L b w'' :=
  ⟨h.z.on hk, h.a6, h.a8, fun h5 => by
    obtain ⟨g, e1, e2⟩ := h.n5 h5
    exact ⟨g, e1, fun h6 => fr_kept (e2 h6) hk⟩, fun h6 => hA _ _ (h.p h6) hk, fun h6 h8 => hB _ _ _ (h.q h6 h8) hk, fun h8 => hC _ _ _ (h.r h8) hk⟩
theorem AppG.other (h : AppG i1 i5 i6 i8 W O e news A B C L b w') {i : Nat} (h1 : i ≠ i1) (h5 : i ≠ i5) (h6 : i ≠ i6) (h8 : i ≠ i8) : AppG i1 i5 i6 i8 W O e news A B C (doneAt L i) b w' := by
  have d1 : doneAt L i i1 = L i1 := if_neg (Ne.symm h1)
  have d5 : doneAt L i i5 = L i5 := if_neg (Ne.symm h5)
  have d6 : doneAt L i i6 = L i6 := if_neg (Ne.symm h6)
  have d8 : doneAt L i i8 = L i8 := if_neg (Ne.symm h8)
  refine ⟨h.z, ?_, ?_, ?_, ?_, ?_, ?_⟩
  · rw [d6, d1, d5]; exact h.a6
  · rw [d8, d6]; exact h.a8
  · rw [d5, d6]; exact h.n5
  · rw [d6]; exact h.p
  · rw [d6, d8]; exact h.q
  · rw [d8]; exact h.r
theorem AppG.op1 {u : Value} (h : AppG i1 i5 i6 i8 W O e news A B C L b w') (hi : i1 < i5 ∧ i5 < i6 ∧ i6 < i8) : AppG i1 i5 i6 i8 W O e news A B C (doneAt L i1) (tellAt b i1 u) w' := by
  have d1 : doneAt L i1 i1 = true := if_pos rfl
  have d5 : doneAt L i1 i5 = L i5 := if_neg (by omega)
  have d6 : doneAt L i1 i6 = L i6 := if_neg (by omega)
  have d8 : doneAt L i1 i8 = L i8 := if_neg (by omega)
  have t5 : tellAt b i1 u i5 = b i5 := if_neg (by omega)
  have t6 : tellAt b i1 u i6 = b i6 := if_neg (by omega)
  refine ⟨h.z, ?_, ?_, ?_, ?_, ?_, ?_⟩
  · rw [d6, d1, d5]; exact fun q => ⟨rfl, (h.a6 q).2⟩
  · rw [d8, d6]; exact h.a8
  · rw [d5, d6, t5]; exact h.n5
  · rw [d6]; exact h.p
  · rw [d6, d8, t6]; exact h.q
  · rw [d8, t6]; exact h.r
theorem AppG.no8 (h : AppG i1 i5 i6 i8 W O e news A B C L b w') (h6 : L i6 = false) : L i8 = false := by
  cases h8 : L i8 with
  | false => rfl
  | true => rw [h.a8 h8] at h6; cases h6
theorem AppG.op5 (h : AppG i1 i5 i6 i8 W O e news A B C L b w') (hi : i1 < i5 ∧ i5 < i6 ∧ i6 < i8) (h5 : L i5 = false) (hA : ∀ x y, A x → Kept x y → A y) :
    AppG i1 i5 i6 i8 W O e news A B C (doneAt L i5) (tellAt b i5 (.slice (some ⟨w'.heap.size, 0, none⟩) 1 1)) (w'.alloc (.cells news.toArray e)) := by
  have h6 : L i6 = false := by
    cases q : L i6 with
    | false => rfl
    | true => rw [(h.a6 q).2] at h5; cases h5
  have h8 := h.no8 h6
  have d1 : doneAt L i5 i1 = L i1 := if_neg (by omega)
  have d5 : doneAt L i5 i5 = true := if_pos rfl
  have d6 : doneAt L i5 i6 = L i6 := if_neg (by omega)
  have d8 : doneAt L i5 i8 = L i8 := if_neg (by omega)
  refine ⟨h.z.alloc _, ?_, ?_, ?_, ?_, ?_, ?_⟩
  · rw [d6, h6]; intro q; cases q
  · rw [d8, h8]; intro q; cases q
  · intro _; exact ⟨_, if_pos rfl, fun _ => heap_alloc_new w' _⟩
  · intro _; exact hA _ _ (h.p h6) ((Kept.refl w').alloc _)
  · rw [d6, h6]; intro q; cases q
  · rw [d8, h8]; intro q; cases q
theorem AppG.op6 {v' : Value} (h : AppG i1 i5 i6 i8 W O e news A B C L b w') (hi : i1 < i5 ∧ i5 < i6 ∧ i6 < i8) (h6 : L i6 = false) (h1 : L i1 = true) (h5 : L i5 = true) (hz : KB O W w'') (hB : B v' w'') :
    AppG i1 i5 i6 i8 W O e news A B C (doneAt L i6) (tellAt b i6 v') w'' := by
  have h8 := h.no8 h6
  have d1 : doneAt L i6 i1 = L i1 := if_neg (by omega)
  have d5 : doneAt L i6 i5 = L i5 := if_neg (by omega)
  have d6 : doneAt L i6 i6 = true := if_pos rfl
  have d8 : doneAt L i6 i8 = L i8 := if_neg (by omega)
  have t5 : tellAt b i6 v' i5 = b i5 := if_neg (by omega)
  have t6 : tellAt b i6 v' i6 = v' := if_pos rfl
  refine ⟨hz, ?_, ?_, ?_, ?_, ?_, ?_⟩
  · rw [d1, d5]; exact fun _ => ⟨h1, h5⟩
  · rw [d8, h8]; intro q; cases q
  · rw [d5, d6, t5]
    intro q
    obtain ⟨g, e1, -⟩ := h.n5 q
    exact ⟨g, e1, fun q2 => by cases q2⟩
  · rw [d6]; intro q; cases q
  · rw [t6]; exact fun _ _ => hB
  · rw [d8, h8]; intro q; cases q
theorem AppG.op8 {u : Value} (h : AppG i1 i5 i6 i8 W O e news A B C L b w') (hi : i1 < i5 ∧ i5 < i6 ∧ i6 < i8) (h6 : L i6 = true) (hz : KB O W w'') (hC : C (b i6) w'') :
    AppG i1 i5 i6 i8 W O e news A B C (doneAt L i8) (tellAt b i8 u) w'' := by
  have d1 : doneAt L i8 i1 = L i1 := if_neg (by omega)
  have d5 : doneAt L i8 i5 = L i5 := if_neg (by omega)
  have d6 : doneAt L i8 i6 = L i6 := if_neg (by omega)
  have d8 : doneAt L i8 i8 = true := if_pos rfl
  have t5 : tellAt b i8 u i5 = b i5 := if_neg (by omega)
  have t6 : tellAt b i8 u i6 = b i6 := if_neg (by omega)
  refine ⟨hz, ?_, ?_, ?_, ?_, ?_, ?_⟩
  · rw [d6, d1, d5]; exact h.a6
  · rw [d6]; exact fun _ => h6
  · rw [d5, d6, t5]
    intro q
    obtain ⟨g, e1, -⟩ := h.n5 q
    exact ⟨g, e1, fun q2 => by rw [h6] at q2; cases q2⟩
  · rw [d6, h6]; intro q; cases q
  · rw [d8]; intro _ q; cases q
  · rw [t6]; exact fun _ => hC
end
theorem tells_lies {P : Program} {K : Value → World → Prop} {w' : World} {ρ : Operand → Value} {o : Oper} (s x : Operand) (t : TypeId)
    (ho : o.op = .call { callee := .builtin .append, args := #[s, x], argTypes := #[t, t] })
    (base : Nat) (e : TypeId) (i : TypeInfo) (z : Value) (c bytes : Nat) (ht : P.underlying t = some (.slice e)) (hi : P.info? e = some i) (hz : i.zero = some z)
    (hsize : i.size = c) (hby : i.bytes = bytes) (hzs : z.cells.size = c) (hc : 0 < c) (hbase : base ≤ w'.heap.size)
    (v : Value) (n : Nat) (xs : List Value) (hs : ρ s = v) (hown : w'.ownsRow base e c v n xs)
    (g : Nat) (news : List Value) (hx : ρ x = .slice (some ⟨g, 0, none⟩) 1 1) (hg : w'.heap[g]? = some (.cells news.toArray e (0, 0))) (hl : news.length = c) (h1 : ∀ u ∈ news, u.oneCell' = true) (h63 : n + 1 ≤ maxLen) (hbytes : (n + 1) * bytes ≤ 140737488355328)
    (h : ∀ g' cap w'', w''.ownsRow base e c (.slice (some ⟨g', 0, none⟩) (n + 1) cap) (n + 1) (xs ++ news) → w'.grownBy w'' v.ownBlock → (v.ownBlock = some g' ∨ g' = w'.heap.size) → K (.slice (some ⟨g', 0, none⟩) (n + 1) cap) w'') : tellsUpon P K ((execOp ρ o).run P w') := by
  obtain ⟨g', cap, w'', hrun, h2, h3, h4, -⟩ := run_append_lies (P := P) w' t o.type base e i z c bytes ht hi hz hsize hby hzs hc v n xs hown ⟨g, 0, none⟩ 1 1 news (by omega) (fun j u hu => by
    have e0 : ((Addr.mk g 0 none).add j) = ⟨g, j, none⟩ := by simp [Addr.add]; omega
    rw [e0]
    unfold World.cell?
    simp only [hg]
    rw [List.getElem?_toArray]
    exact hu) h1 (by omega) h63 hbytes hbase w'.heap.size rfl
  unfold execOp
  simp only [ho, resolve, invoke, builtin, Sem.run_bind, Sem.run_pure, Result.andThen_ok, List.map_toArray, List.map_cons, List.map_nil, hs, hx, hrun]
  exact h g' cap w'' h2 h3 h4
end Go.Proofs.YtnbjealpcjfllaaGreatDoor

namespace Go.Proofs.YtnbjealpcjfllaaGreatDoor
set_option linter.unusedVariables false
set_option linter.unusedSimpArgs false
open Go.RowKit Go.Extern.Stop Go.Stop Go.Extern
/-- Where the handles of types lie. -/
abbrev hB : Nat := 9
theorem rValueOfP (t : Addr) (w : World) : (ReflectliteValue.unpack (.iface 117 (.pointer (some t)))).run Tryz.prog w
    = .ok (.agg #[.pointer (some ⟨9, 117, none⟩), .pointer (some ⟨w.heap.size, 0, none⟩), .int .u64 150]) (w.alloc (.cells #[.pointer (some t)] 117)) := by kernel_rfl
theorem rTypeP (a : Addr) (w : World) : (ReflectliteValue.methodAny (ReflectliteValue.valueError "reflectlite.Value.Type" 0) (fun t _ _ _ => ReflectliteType.toType t) #[.agg #[.pointer (some ⟨9, 117, none⟩), .pointer (some a), .int .u64 150]]).run Tryz.prog w
    = .ok (.iface 225 (.agg #[.pointer (some ⟨9, 117, none⟩)])) w := by kernel_rfl
theorem rKindP (w : World) : ((ReflectliteType.abiMethod fun t => (fun a : Nat => Value.int IntKind.u8 (a : Int)) <$> Rtype.kind t) #[.pointer (some ⟨9, 117, none⟩)]).run Tryz.prog w = .ok (.int .u8 22) w := by kernel_rfl
theorem rKindS (w : World) : ((ReflectliteType.abiMethod fun t => (fun a : Nat => Value.int IntKind.u8 (a : Int)) <$> Rtype.kind t) #[.pointer (some ⟨9, 115, none⟩)]).run Tryz.prog w = .ok (.int .u8 25) w := by kernel_rfl
theorem rlm (z : Sem Value) (f : TypeId → Addr → Nat → Nat → Sem Value) (v : Value) :
    ReflectliteValue.method z f #[v] = (do match ← ReflectliteValue.parts v with | none => z | some (t, a, fl) => f t a fl (fl % 32)) := rfl
theorem rPartsP (a : Addr) (w : World) : (ReflectliteValue.parts (.agg #[.pointer (some ⟨9, 117, none⟩), .pointer (some a), .int .u64 150])).run Tryz.prog w = .ok (some (117, a, 150)) w := by kernel_rfl
theorem rIsNilP (a p : Addr) (W : World) (ha : W.cell? a = some (.pointer (some p))) :
    (ReflectliteValue.method (ReflectliteValue.valueError "reflectlite.Value.IsNil" 0) ReflectliteValue.isNil #[.agg #[.pointer (some ⟨9, 117, none⟩), .pointer (some a), .int .u64 150]]).run Tryz.prog W = .ok (.bool false) W := by
  rw [rlm]
  simp only [Sem.run_bind, rPartsP, Result.andThen]
  simp [ReflectliteValue.isNil, loadVar, isAgg, underlying, Tryz.underlying117, ha, Result.andThen]
theorem rElemP (w : World) : (ReflectliteType.method ReflectliteType.elem #[.agg #[.pointer (some ⟨9, 117, none⟩)]]).run Tryz.prog w = .ok (.iface 225 (.agg #[.pointer (some ⟨9, 115, none⟩)])) w := by kernel_rfl
theorem rImplS (w : World) : (ReflectliteType.relation "Implements" ReflectliteType.implements_ #[.agg #[.pointer (some ⟨9, 115, none⟩)], .iface 225 (.agg #[.pointer (some ⟨9, 84, none⟩)])]).run Tryz.prog w = .ok (.bool true) w := by kernel_rfl
theorem rTypeOfS (v : Value) (w : World) : (ReflectliteType.typeOf #[.iface 115 v]).run Tryz.prog w = .ok (.iface 225 (.agg #[.pointer (some ⟨9, 115, none⟩)])) w := by kernel_rfl
theorem rAssignS (w : World) : (ReflectliteType.relation "AssignableTo" ReflectliteType.assignableTo #[.agg #[.pointer (some ⟨9, 115, none⟩)], .iface 225 (.agg #[.pointer (some ⟨9, 115, none⟩)])]).run Tryz.prog w = .ok (.bool true) w := by kernel_rfl
theorem rValueOfS (r : Int) (w : World) : (ReflectliteValue.unpack (.iface 115 (.agg #[.int .i64 r]))).run Tryz.prog w
    = .ok (.agg #[.pointer (some ⟨9, 115, none⟩), .pointer (some ⟨w.heap.size, 0, none⟩), .int .u64 153]) (w.alloc (.cells #[.int .i64 r] 115)) := by kernel_rfl
theorem rElemOfP (w : World) : (Rtype.elem? 117).run Tryz.prog w = .ok (some 115) w := by kernel_rfl
theorem rMkS (p : Addr) (w : World) : (ReflectliteValue.mk 115 p ReflectliteValue.flagAddr).run Tryz.prog w = .ok (.agg #[.pointer (some ⟨9, 115, none⟩), .pointer (some p), .int .u64 409]) w := by kernel_rfl
theorem rElemV (a p : Addr) (W : World) (ha : W.cell? a = some (.pointer (some p))) :
    (ReflectliteValue.method (ReflectliteValue.valueError "reflectlite.Value.Elem" 0) ReflectliteValue.elem #[.agg #[.pointer (some ⟨9, 117, none⟩), .pointer (some a), .int .u64 150]]).run Tryz.prog W
      = .ok (.agg #[.pointer (some ⟨9, 115, none⟩), .pointer (some p), .int .u64 409]) W := by
  rw [rlm]
  simp only [Sem.run_bind, rPartsP, Result.andThen]
  simp [ReflectliteValue.elem, loadVar, isAgg, underlying, Tryz.underlying117, ha, Result.andThen, rElemOfP, rMkS]
theorem rls (v x : Value) : ReflectliteValue.set #[v, x] = (do
    let (some (dst, a, fl), some (src, b, _)) := (← ReflectliteValue.parts v, ← ReflectliteValue.parts x)
      | unsupported (.noEntry "extern/(internal/reflectlite.Value).Set.zeroValue")
    if fl / ReflectliteValue.flagAddr % 2 == 0 then unsupported (.noEntry "extern/(internal/reflectlite.Value).Set.unaddressable")
    let val ← loadVar src b
    if ← Rtype.directlyAssignable dst src then storeVar dst a val
    else if ← Rtype.implements dst src then
      if (← Rtype.kind src) == 20 then
        match val with
        | .nilIface => unsupported (.noEntry "extern/reflectlite: a nil value of one interface type handed on as a value of another")
        | _ => storeVar dst a val
      else storeVar dst a (.iface src val)
    else panicString ("reflectlite.Set: value of type " ++ (← Rtype.spelt src) ++ " is not assignable to type " ++ (← Rtype.spelt dst))
    pure (.tuple #[])) := rfl
theorem rPartsSa (a : Addr) (w : World) : (ReflectliteValue.parts (.agg #[.pointer (some ⟨9, 115, none⟩), .pointer (some a), .int .u64 409])).run Tryz.prog w = .ok (some (115, a, 409)) w := by kernel_rfl
theorem rPartsS (a : Addr) (w : World) : (ReflectliteValue.parts (.agg #[.pointer (some ⟨9, 115, none⟩), .pointer (some a), .int .u64 153])).run Tryz.prog w = .ok (some (115, a, 153)) w := by kernel_rfl
theorem rDirectS (w : World) : (Rtype.directlyAssignable 115 115).run Tryz.prog w = .ok true w := by kernel_rfl
theorem rSizeS (w : World) : (sizeOf 115).run Tryz.prog w = .ok 1 w := by kernel_rfl
theorem rIsAggS (w : World) : (isAgg 115).run Tryz.prog w = .ok true w := by kernel_rfl
theorem rLoadS (b : Addr) (r : Int) (W : World) (hb : W.cell? b = some (.int .i64 r)) : (loadVar 115 b).run Tryz.prog W = .ok (.agg #[.int .i64 r]) W := by
  have hl := run_loadCells_list (P := Tryz.prog) W b [.int .i64 r] (fun j v hv => by
    cases j with
    | zero =>
      simp at hv
      subst hv
      have e0 : b.add 0 = b := by simp [Addr.add]
      rw [e0]
      exact hb
    | succ j => simp at hv)
  simp only [List.length_singleton] at hl
  unfold loadVar
  simp [Sem.run_bind, rIsAggS, rSizeS, hl, Result.andThen]
theorem rStoreS (ta : Addr) (r : Int) (old : Value) (W : World) (ht : W.cell? ta = some old) (hf : W.frozen? ta = false) : (storeVar 115 ta (.agg #[.int .i64 r])).run Tryz.prog W = .ok () (W.setCell ta (.int .i64 r)) := by
  unfold storeVar
  simp only [Sem.run_bind, rSizeS, Result.andThen, Value.cells, List.size_toArray, List.length_singleton]
  simp [storeCells, Sem.run_bind, Result.andThen, Addr.add]
  rw [run_store Tryz.prog W ta _ _ (by rfl)]
  simp [ht, hf]
theorem rSet (ta b : Addr) (r : Int) (old : Value) (W : World) (hb : W.cell? b = some (.int .i64 r)) (ht : W.cell? ta = some old) (hf : W.frozen? ta = false) :
    (ReflectliteValue.set #[.agg #[.pointer (some ⟨9, 115, none⟩), .pointer (some ta), .int .u64 409], .agg #[.pointer (some ⟨9, 115, none⟩), .pointer (some b), .int .u64 153]]).run Tryz.prog W
      = .ok (.tuple #[]) (W.setCell ta (.int .i64 r)) := by
  have hl := rLoadS b r W hb
  have hs := rStoreS ta r old W ht hf
  rw [rls]
  simp only [Sem.run_bind, rPartsSa, rPartsS, Result.andThen]
  simp [ReflectliteValue.flagAddr, hl, hs, Result.andThen, rDirectS]
set_option maxHeartbeats 4000000 in
theorem das_hit (r : Int) (t : Addr) (old : Value) (w : World) (hg : w.cell? ⟨0, 0, none⟩ = some (.iface 225 (.agg #[.pointer (some ⟨9, 84, none⟩)]))) (ht0 : w.cell? t = some old) (hf0 : w.frozen? t = false) :
    Calls Tryz.prog 60 #[.iface 115 (.agg #[.int .i64 r]), .iface 117 (.pointer (some t))] w fun ev w' => ev = .returned (.bool true) ∧ w' = ((((w.alloc (.cells #[.pointer (some t)] 117)).alloc (.cells #[.pointer (some ⟨9, 117, none⟩), .pointer (some ⟨w.heap.size, 0, none⟩), .int .u64 150] 171)).alloc (.cells #[.pointer (some ⟨9, 117, none⟩), .pointer (some ⟨w.heap.size, 0, none⟩), .int .u64 150] 171)).alloc (.cells #[.int .i64 r] 115)).setCell t (.int .i64 r) := by
  have h6 := @run_callFunc_extern Tryz.prog 103 _ (fun args => ReflectliteValue.unpack (args.getD 0 (.tuple #[]))) Tryz.func103 (by kernel_rfl) (by kernel_rfl) (by kernel_rfl) (by kernel_rfl)
  have h7 := @run_callFunc_extern Tryz.prog 104 _ (ReflectliteValue.methodAny (ReflectliteValue.valueError "reflectlite.Value.Type" 0) (fun t _ _ _ => ReflectliteType.toType t)) Tryz.func104 (by kernel_rfl) (by kernel_rfl) (by kernel_rfl) (by kernel_rfl)
  have h8 := @run_callFunc_extern Tryz.prog 105 _ (ReflectliteValue.method (ReflectliteValue.valueError "reflectlite.Value.IsNil" 0) ReflectliteValue.isNil) Tryz.func105 (by kernel_rfl) (by kernel_rfl) (by kernel_rfl) (by kernel_rfl)
  have h27 := @run_callFunc_extern Tryz.prog 363 _ (ReflectliteType.abiMethod fun t => do pure (.int .u8 (← Rtype.kind t))) Tryz.func363 (by kernel_rfl) (by kernel_rfl) (by kernel_rfl) (by kernel_rfl)
  have h37 := @run_callFunc_extern Tryz.prog 376 _ (ReflectliteType.method ReflectliteType.elem) Tryz.func376 (by kernel_rfl) (by kernel_rfl) (by kernel_rfl) (by kernel_rfl)
  have h38 := @run_callFunc_extern Tryz.prog 377 _ (ReflectliteType.relation "Implements" ReflectliteType.implements_) Tryz.func377 (by kernel_rfl) (by kernel_rfl) (by kernel_rfl) (by kernel_rfl)
  have h10 := @run_callFunc_extern Tryz.prog 155 _ ReflectliteType.typeOf Tryz.func155 (by kernel_rfl) (by kernel_rfl) (by kernel_rfl) (by kernel_rfl)
  have h35 := @run_callFunc_extern Tryz.prog 374 _ (ReflectliteType.relation "AssignableTo" ReflectliteType.assignableTo) Tryz.func374 (by kernel_rfl) (by kernel_rfl) (by kernel_rfl) (by kernel_rfl)
  have h11 := @run_callFunc_extern Tryz.prog 156 _ (ReflectliteValue.method (ReflectliteValue.valueError "reflectlite.Value.Elem" 0) ReflectliteValue.elem) Tryz.func156 (by kernel_rfl) (by kernel_rfl) (by kernel_rfl) (by kernel_rfl)
  have h12 := @run_callFunc_extern Tryz.prog 157 _ ReflectliteValue.set Tryz.func157 (by kernel_rfl) (by kernel_rfl) (by kernel_rfl) (by kernel_rfl)
  have tO := rTypeOfS
  have aS := rAssignS
  have vS := rValueOfS
  have f6 := rValueOfP
  have f7 := rTypeP
  have kP := rKindP
  have kS := rKindS
  have eP := rElemP
  have iS := rImplS
  have n8 := rIsNilP ⟨w.heap.size, 0, none⟩ t ((w.alloc (.cells #[.pointer (some t)] 117)).alloc (.cells #[.pointer (some ⟨9, 117, none⟩), .pointer (some ⟨w.heap.size, 0, none⟩), .int .u64 150] 171)) (by simp)
  have hlt : 0 < w.heap.size := by
    rcases Nat.eq_zero_or_pos w.heap.size with h0 | h
    · simp [World.cell?, h0] at hg
    · exact h
  have hg2 : ((w.alloc (.cells #[.pointer (some t)] 117)).alloc (.cells #[.pointer (some ⟨9, 117, none⟩), .pointer (some ⟨w.heap.size, 0, none⟩), .int .u64 150] 171)).cell? ⟨0, 0, none⟩ = some (.iface 225 (.agg #[.pointer (some ⟨9, 84, none⟩)])) := by
    rw [World.cell?_alloc_lt _ _ ⟨0, 0, none⟩ (by simp), World.cell?_alloc_lt _ _ ⟨0, 0, none⟩ hlt]; exact hg
  have htl : t.block < w.heap.size := by
    rcases Nat.lt_or_ge t.block w.heap.size with h | h
    · exact h
    · simp [World.cell?, Array.getElem?_eq_none h] at ht0
  have el := rElemV ⟨w.heap.size, 0, none⟩ t (((w.alloc (.cells #[.pointer (some t)] 117)).alloc (.cells #[.pointer (some ⟨9, 117, none⟩), .pointer (some ⟨w.heap.size, 0, none⟩), .int .u64 150] 171)).alloc (.cells #[.pointer (some ⟨9, 117, none⟩), .pointer (some ⟨w.heap.size, 0, none⟩), .int .u64 150] 171)) (by rw [World.cell?_alloc_lt _ _ ⟨w.heap.size, 0, none⟩ (by simp; omega)]; simp)
  have st := rSet t ⟨w.heap.size + 1 + 1 + 1, 0, none⟩ r old ((((w.alloc (.cells #[.pointer (some t)] 117)).alloc (.cells #[.pointer (some ⟨9, 117, none⟩), .pointer (some ⟨w.heap.size, 0, none⟩), .int .u64 150] 171)).alloc (.cells #[.pointer (some ⟨9, 117, none⟩), .pointer (some ⟨w.heap.size, 0, none⟩), .int .u64 150] 171)).alloc (.cells #[.int .i64 r] 115))
    (by rw [World.cell?_alloc_at _ _ _ _ (by simp)]; rfl)
    (by rw [World.cell?_alloc_lt _ _ t (by simp; omega), World.cell?_alloc_lt _ _ t (by simp; omega), World.cell?_alloc_lt _ _ t (by simp; omega), World.cell?_alloc_lt _ _ t htl]; exact ht0)
    (by rw [World.frozen?_alloc_old _ _ t (by simp; omega), World.frozen?_alloc_old _ _ t (by simp; omega), World.frozen?_alloc_old _ _ t (by simp; omega), World.frozen?_alloc_old _ _ t (Nat.ne_of_lt htl)]; exact hf0)
  go_enter Tryz.func60, Tryz.ntmps60
  go_wp2
  refine wp_loop_rounds 1 ?_
  rw [rounds_succ]
  go_wp2
  go_ret
  exact ⟨rfl, rfl⟩
end Go.Proofs.YtnbjealpcjfllaaGreatDoor

namespace Go.Proofs.YtnbjealpcjfllaaGreatDoor
set_option linter.unusedVariables false
set_option linter.unusedSimpArgs false
open Go.ChangeShapes Go.WideShapes Go.ChangeAt Go.RowKit Go.Deep Go.MuLone
set_option maxRecDepth 100000 in
set_option maxHeartbeats 4000000 in
theorem das_nil (v : Value) (w : World) :
    Calls Tryz.prog 60 #[.nilIface, v] w fun e w' => e = .returned (.bool false) ∧ w = w' := by
  go_enter Tryz.func60, Tryz.ntmps60
  go_wp2_with fail
  go_ret
  exact ⟨rfl, rfl⟩
set_option maxRecDepth 100000 in
set_option maxHeartbeats 4000000 in
theorem dreason_ok (w : World) :
    Calls Tryz.prog 32 #[.nilIface] w fun e w' => e = .returned (.int .i64 0) ∧ Kept w w' := by
  go_enter Tryz.func32, Tryz.ntmps32
  go_wp2_with (go_at_call 60; (with_reducible refine (das_nil _ _).mono ?_); rintro e w1 ⟨rfl, rfl⟩)
  go_ret
  exact ⟨rfl, by (repeat (first | exact Kept.refl _ | assumption | refine Kept.alloc ?_ _ | refine Kept.ext ?_ _ | refine Kept.drew ?_ | refine Kept.drewN ?_ _))⟩
end Go.Proofs.YtnbjealpcjfllaaGreatDoor

namespace Go.Proofs.YtnbjealpcjfllaaGreatDoor
set_option linter.unusedVariables false
set_option linter.unusedSimpArgs false
open Go.RowKit Go.Extern.Stop Go.Stop Go.Extern
/-- What start-up lays, and the type of errors. -/
structure Le (w : World) : Prop where
  ld : Ld w
  et : w.cell? ⟨0, 0, none⟩ = some (.iface 225 (.agg #[.pointer (some ⟨9, 84, none⟩)]))
theorem Le.on {w w' : World} (h : Le w) (hk : Kept w w') : Le w' :=
  ⟨h.ld.on hk, cell_old h.et (by show 0 < _; have := h.ld.sz; omega) hk⟩
/-- An error that a desk made. -/
def refV (e : Int) : Value := if e = 0 then .nilIface else .iface 115 (.agg #[.int .i64 e])
set_option maxRecDepth 100000 in
set_option maxHeartbeats 4000000 in
theorem dreason_any (r : Int) (w : World) (h : Le w) :
    Calls Tryz.prog 32 #[refV r] w fun e w' => e = .returned (.int .i64 r) ∧ Kept w w' := by
  by_cases h0 : r = 0
  · subst h0
    exact dreason_ok w
  have ev : refV r = .iface 115 (.agg #[.int .i64 r]) := if_neg h0
  rw [ev]
  have h1 : (w.alloc (.cells #[.int .i64 0] 115)).cell? ⟨0, 0, none⟩ = some (.iface 225 (.agg #[.pointer (some ⟨9, 84, none⟩)])) := (h.on (by (repeat (first | exact Kept.refl _ | assumption | refine Kept.alloc ?_ _ | refine Kept.ext ?_ _ | refine Kept.drew ?_ | refine Kept.drewN ?_ _)))).et
  have h2 : (w.alloc (.cells #[.int .i64 0] 115)).cell? ⟨w.heap.size, 0, none⟩ = some (.int .i64 0) := by simp
  have h3 : (w.alloc (.cells #[.int .i64 0] 115)).frozen? ⟨w.heap.size, 0, none⟩ = false := by simp
  have q := das_hit r ⟨w.heap.size, 0, none⟩ (.int .i64 0) _ h1 h2 h3
  have Q := Lib.hid q
  clear q ev h1 h2 h3 h
  go_enter Tryz.func32, Tryz.ntmps32
  go_wp2_with (go_at_call 60; (refine Q.out.mono ?_); rintro e w1 ⟨rfl, rfl⟩)
  go_ret
  exact ⟨rfl, by (repeat (first | exact Kept.refl _ | assumption | refine Kept.alloc ?_ _ | refine Kept.ext ?_ _ | refine Kept.drew ?_ | refine Kept.drewN ?_ _))⟩
end Go.Proofs.YtnbjealpcjfllaaGreatDoor

namespace Go.Proofs.YtnbjealpcjfllaaGreatDoor
set_option linter.unusedVariables false
set_option linter.unusedSimpArgs false
open Go.ChangeShapes Go.WideShapes Go.ChangeAt Go.RowKit Go.Deep
/-- A list of shapes of a desk, to be looked through. -/
theorem owns_shs {w : World} {lo : Nat} {A : Option Addr} {cap : Nat} {V : List ShV} (h : w.ownsRow lo 47 6 (.slice A V.length cap) V.length (shC V)) : ShsAt w A V := fun h0 => by
  obtain ⟨g, c, e, -, hg⟩ := h.form h0
  simp only [Value.slice.injEq] at e
  obtain ⟨rfl, -, rfl⟩ := e
  refine ⟨g, 0, rfl, hg, fun k hk j hj => ?_⟩
  have hlt : k * 6 + j < V.length * 6 := by omega
  rw [show 0 + k * 6 + j = k * 6 + j by omega, h.cellAt _ hlt]
  exact shC_at V k j hk hj
/-- The number of the first shape of a name, or -1. -/
def idxS : List Shp → List UInt8 → Nat → Int
  | [], _, _ => -1
  | s :: r, nm, k => if (s.name == nm) = true then k else idxS r nm (k + 1)
theorem idx_eq : ∀ (V : List ShV) (l : List Shp) (nm : List UInt8) (k : Nat), V.length = l.length → (∀ i (h : i < V.length) (h' : i < l.length), (V[i]).name = (l[i]).name) → idxN V nm k = idxS l nm k
  | [], [], _, _, _, _ => rfl
  | [], _ :: _, _, _, h, _ => by simp at h
  | _ :: _, [], _, _, h, _ => by simp at h
  | v :: V, s :: l, nm, k, h, e => by
    have e0 := e 0 (by simp) (by simp)
    simp only [List.getElem_cons_zero] at e0
    have ih := idx_eq V l nm (k + 1) (by simpa using h) fun i h1 h2 => by
      have := e (i + 1) (by simpa using h1) (by simpa using h2)
      simpa using this
    show (if (v.name == nm) = true then (k : Int) else idxN V nm (k + 1)) = _
    rw [e0, ih]
    rfl
theorem idxS_bd : ∀ (l : List Shp) (nm : List UInt8) (k : Nat), idxS l nm k = -1 ∨ ((k : Int) ≤ idxS l nm k ∧ idxS l nm k < k + l.length)
  | [], _, _ => .inl rfl
  | s :: l, nm, k => by
    unfold idxS
    split
    · right
      simp
      omega
    · rcases idxS_bd l nm (k + 1) with h | h
      · exact .inl h
      · right
        simp
        omega
theorem DeskAt.idx {w : World} {lo db : Nat} {st : Int} {D : Dsk} {sv ov : Value} {V : List ShV} (h : DeskAt w lo st db D sv ov V) (nm : List UInt8) : idxN V nm 0 = idxS D.shapes nm 0 :=
  idx_eq V D.shapes nm 0 h.len fun i h1 h2 => (h.each i h1 h2).name
/-- What follows of a step: the desk is another one, no more than its own is written. -/
def Step (w w' : World) (lo : Nat) (st : Int) (db : Nat) (D' : Dsk) (O : Nat → Prop) : Prop :=
  ∃ sv ov V, DeskAt w' lo st db D' sv ov V ∧ KB O w w' ∧ ∀ k, k < w.heap.size → own db sv ov V k → O k
theorem Step.on {w w' w'' : World} {lo db : Nat} {st : Int} {D' : Dsk} {O : Nat → Prop} (h : Step w w' lo st db D' O) (hk : Kept w' w'') : Step w w'' lo st db D' O := by
  obtain ⟨sv, ov, V, h1, h2, h3⟩ := h
  exact ⟨sv, ov, V, h1.on hk, h2.on hk, h3⟩
theorem Step.from {w0 w w' : World} {lo db : Nat} {st : Int} {D' : Dsk} {O : Nat → Prop} (hk : Kept w0 w) (h : Step w w' lo st db D' O) : Step w0 w' lo st db D' O := by
  obtain ⟨sv, ov, V, h1, h2, h3⟩ := h
  exact ⟨sv, ov, V, h1, (KB.of_kept hk).trans h2, fun k hlt => h3 k (Nat.lt_of_lt_of_le hlt hk.below.size)⟩
theorem infoSh : ((Tryz.prog.info? 47).map fun i => (i.zero, i.size, i.bytes)) = some (some (.agg #[.string ⟨#[]⟩, .slice none 0 0, .slice none 0 0, .int .i64 0, .int .i64 0, .slice none 0 0]), 6, 104) := by kernel_rfl
end Go.Proofs.YtnbjealpcjfllaaGreatDoor

namespace Go.Proofs.YtnbjealpcjfllaaGreatDoor
set_option linter.unusedVariables false
set_option linter.unusedSimpArgs false
open Go.ChangeShapes Go.WideShapes Go.ChangeAt Go.RowKit Go.Deep
theorem no_facts {x : Int} (h : ¬ x = 0) : (x == 0) = false ∧ (x != 0) = true := by simpa using h
theorem swap_heap (W : World) (o o' : Obj) (y : More) {k : Nat} (hk : k ≠ W.heap.size) : (ext (W.alloc o') y).heap[k]? = (ext (W.alloc o) y).heap[k]? := by
  show ((W.heap.push o') ++ y.obs)[k]? = ((W.heap.push o) ++ y.obs)[k]?
  rw [Array.getElem?_append, Array.getElem?_append, Array.size_push, Array.size_push, Array.getElem?_push, Array.getElem?_push, if_neg hk, if_neg hk]
theorem rows_swap {W : World} {cs cs' : Array Value} {T : TypeId} {y : More} {A : Option Addr} {n c : Nat} {f : Nat → Nat → Int} (h : RowsAt (ext (W.alloc (.cells cs T)) y) A n c f) (hc0 : 0 < c) (hno : ∀ (j : Nat) (z : Int), cs[j]? ≠ some (Value.int .i64 z)) : RowsAt (ext (W.alloc (.cells cs' T)) y) A n c f := fun h0 => by
  obtain ⟨b, off, e, hb, hc⟩ := h h0
  have hne : b ≠ W.heap.size := by
    rintro rfl
    have h1 := (hc 0 h0 0 hc0).1
    have h2 : (ext (W.alloc (.cells cs T)) y).heap[W.heap.size]? = some (.cells cs T) := fr_kept (heap_alloc_new W _) (by (repeat (first | exact Kept.refl _ | assumption | refine Kept.alloc ?_ _ | refine Kept.ext ?_ _ | refine Kept.drew ?_ | refine Kept.drewN ?_ _)))
    unfold World.cell? at h1
    simp only [h2] at h1
    exact hno _ _ h1
  refine ⟨b, off, e, by simpa using hb, fun k hk j hj => ⟨?_, (hc k hk j hj).2⟩⟩
  have := (hc k hk j hj).1
  unfold World.cell? at *
  rw [swap_heap W (.cells cs T) (.cells cs' T) y hne]
  exact this
theorem new_at {o : Obj} {n : Nat} (X : World) (h : X.heap.size = n) : (X.alloc o).heap[n]? = some o := by
  rw [← h]
  exact heap_alloc_new X o
/-- Why a new shape is refused. -/
def creE (D : Dsk) (nm : List UInt8) (e : Int) : Int := if nameB nm = false ∨ 0 ≤ idxS D.shapes nm 0 then 2 else if 8 ≤ D.shapes.length then 4 else e
set_option maxRecDepth 100000 in
set_option maxHeartbeats 8000000 in
theorem dcreate_octa (nm : List UInt8) (r : Int) (lo db : Nat) (st : Int) (D : Dsk) (sv ov : Value) (V : List ShV) (A B : Option Addr) (capA capB : Nat) (a b : Int) (c : Bool) (w : World) (h : DeskAt w lo st db D sv ov V) (hA : TxAt w A [nm]) (hB : RowsAt w B 1 1 (fun _ _ => r)) (hl : nm.length ≤ 1000000) :
    Calls Tryz.prog 111 #[.pointer (some ⟨db, 0, none⟩), .agg #[.int .i64 1, .int .i64 a, .int .i64 b, .bool c, .slice A 1 capA, .slice B 1 capB]] w fun e w' => e = .returned (refV (creE D nm (octaE r))) ∧ (creE D nm (octaE r) ≠ 0 → Kept w w') ∧ (creE D nm (octaE r) = 0 → Step w w' lo st db { D with shapes := D.shapes ++ [⟨nm, 6, octaP r, 8, octaF, 0, 0, []⟩] } (own db sv ov V)) := by
  obtain ⟨SA, scap, hsv⟩ := own_slice2 h.sh
  have hfew := h.few
  have hltd := h.ltd
  have hds : w.cell? ⟨db, 2, none⟩ = some (.slice SA V.length scap) := by rw [← hsv]; exact desk_cell h.hd rfl
  have hsh : ShsAt w SA V := owns_shs (by rw [← hsv]; exact h.sh)
  have q1 : ∀ w', Kept w w' → _ := fun w' _ => dvalid_any nm w' hl
  have q2 : ∀ w', Kept w w' → _ := fun w' hk => dfind_any db SA V scap nm w' (by omega) (cell_old hds hltd hk) (Nat.lt_of_lt_of_le hltd (kept_size hk)) (hsh.of hk)
  have q3 : ∀ w', Kept w w' → _ := fun w' _ => soctaF_any r w'
  rw [h.idx nm] at q2
  obtain ⟨nb, no, eA, hnb, hn0⟩ := hA.at (k := 0) (by simp)
  cases eA
  have hn0 : w.cell? ⟨nb, no, none⟩ = some (.string ⟨nm.toArray⟩) := hn0
  obtain ⟨rb, ro, eB, hrb, hr0⟩ := hB (by omega)
  cases eB
  have hr0 : w.cell? ⟨rb, ro, none⟩ = some (.int .i64 r) := (hr0 0 (by omega) 0 (by omega)).1
  have L1 : Lower db w.heap.size := ⟨hltd⟩
  have L2 : Lower nb w.heap.size := ⟨hnb⟩
  have L3 : Lower rb w.heap.size := ⟨hrb⟩
  have hce : creE D nm (octaE r) = if nameB nm = false ∨ 0 ≤ idxS D.shapes nm 0 then 2 else if 8 ≤ V.length then 4 else octaE r := by unfold creE; rw [h.len]
  obtain ⟨v1, hv1⟩ : ∃ x, nameB nm = x := ⟨_, rfl⟩
  obtain ⟨ix, hix⟩ : ∃ x, idxS D.shapes nm 0 = x := ⟨_, rfl⟩
  have hib := idxS_bd D.shapes nm 0
  obtain ⟨ce, hcd⟩ : ∃ x, creE D nm (octaE r) = x := ⟨_, rfl⟩
  rw [hv1] at q1
  rw [hix] at q2 hib
  rw [hcd, hv1, hix] at hce
  rw [hcd]
  have Q1 := Lib.hid q1
  have Q2 := Lib.hid q2
  have Q3 := Lib.hid q3
  have H := Lib.hid h
  clear q1 q2 q3 hA hB hsh h hcd hv1 hix
  cases v1
  case false =>
    rw [if_pos (.inl rfl)] at hce
    subst hce
    go_enter Tryz.func111, Tryz.ntmps111
    go_wp2_with (first | (go_at_call 161; (with_reducible refine (Q1.out _ (by (repeat (first | exact Kept.refl _ | assumption | refine Kept.alloc ?_ _ | refine Kept.ext ?_ _ | refine Kept.drew ?_ | refine Kept.drewN ?_ _)))).mono ?_); rintro e w1 ⟨rfl, y1, rfl⟩))
    go_ret
    exact ⟨rfl, fun _ => by (repeat (first | exact Kept.refl _ | assumption | refine Kept.alloc ?_ _ | refine Kept.ext ?_ _ | refine Kept.drew ?_ | refine Kept.drewN ?_ _)), fun q => by cases q⟩
  case true =>
  by_cases h0 : 0 ≤ ix
  · rw [if_pos (.inr h0)] at hce
    subst hce
    go_enter Tryz.func111, Tryz.ntmps111
    go_wp2_with (first | (go_at_call 161; (with_reducible refine (Q1.out _ (by (repeat (first | exact Kept.refl _ | assumption | refine Kept.alloc ?_ _ | refine Kept.ext ?_ _ | refine Kept.drew ?_ | refine Kept.drewN ?_ _)))).mono ?_); rintro e w1 ⟨rfl, y1, rfl⟩) | (go_at_call 35; (with_reducible refine (Q2.out _ (by (repeat (first | exact Kept.refl _ | assumption | refine Kept.alloc ?_ _ | refine Kept.ext ?_ _ | refine Kept.drew ?_ | refine Kept.drewN ?_ _)))).mono ?_); rintro e w2 ⟨rfl, y2, rfl⟩))
    go_ret
    exact ⟨rfl, fun _ => by (repeat (first | exact Kept.refl _ | assumption | refine Kept.alloc ?_ _ | refine Kept.ext ?_ _ | refine Kept.drew ?_ | refine Kept.drewN ?_ _)), fun q => by cases q⟩
  rw [if_neg (by rintro (q | q); cases q; exact h0 q)] at hce
  by_cases h8 : 8 ≤ V.length
  · rw [if_pos h8] at hce
    subst hce
    have h8' : (8 : Int) ≤ V.length := by omega
    go_enter Tryz.func111, Tryz.ntmps111
    go_wp2_with (first | (go_at_call 161; (with_reducible refine (Q1.out _ (by (repeat (first | exact Kept.refl _ | assumption | refine Kept.alloc ?_ _ | refine Kept.ext ?_ _ | refine Kept.drew ?_ | refine Kept.drewN ?_ _)))).mono ?_); rintro e w1 ⟨rfl, y1, rfl⟩) | (go_at_call 35; (with_reducible refine (Q2.out _ (by (repeat (first | exact Kept.refl _ | assumption | refine Kept.alloc ?_ _ | refine Kept.ext ?_ _ | refine Kept.drew ?_ | refine Kept.drewN ?_ _)))).mono ?_); rintro e w2 ⟨rfl, y2, rfl⟩))
    go_ret
    exact ⟨rfl, fun _ => by (repeat (first | exact Kept.refl _ | assumption | refine Kept.alloc ?_ _ | refine Kept.ext ?_ _ | refine Kept.drew ?_ | refine Kept.drewN ?_ _)), fun q => by cases q⟩
  rw [if_neg h8] at hce
  have h8' : ¬ (8 : Int) ≤ V.length := by omega
  by_cases he : octaE r = 0
  case neg =>
    obtain ⟨oe, hoe⟩ : ∃ x, octaE r = x := ⟨_, rfl⟩
    rw [hoe] at he hce Q3
    subst hce
    have ev : refV ce = .iface 115 (.agg #[.int .i64 ce]) := if_neg he
    obtain ⟨gf, gt⟩ := no_facts he
    rw [ev]
    clear hoe ev
    go_enter Tryz.func111, Tryz.ntmps111
    go_wp2_with (first | (go_at_call 161; (with_reducible refine (Q1.out _ (by (repeat (first | exact Kept.refl _ | assumption | refine Kept.alloc ?_ _ | refine Kept.ext ?_ _ | refine Kept.drew ?_ | refine Kept.drewN ?_ _)))).mono ?_); rintro e w1 ⟨rfl, y1, rfl⟩) | (go_at_call 35; (with_reducible refine (Q2.out _ (by (repeat (first | exact Kept.refl _ | assumption | refine Kept.alloc ?_ _ | refine Kept.ext ?_ _ | refine Kept.drew ?_ | refine Kept.drewN ?_ _)))).mono ?_); rintro e w2 ⟨rfl, y2, rfl⟩) | (go_at_call 163; (with_reducible refine (Q3.out _ (by (repeat (first | exact Kept.refl _ | assumption | refine Kept.alloc ?_ _ | refine Kept.ext ?_ _ | refine Kept.drew ?_ | refine Kept.drewN ?_ _)))).mono ?_); rintro e w3 ⟨PA, pc, FA, fc, rfl, ⟨y3, rfl⟩, hp, hf, np, nf⟩; clear hp hf np nf))
    go_ret
    exact ⟨rfl, fun _ => by (repeat (first | exact Kept.refl _ | assumption | refine Kept.alloc ?_ _ | refine Kept.ext ?_ _ | refine Kept.drew ?_ | refine Kept.drewN ?_ _)), fun q => absurd q he⟩
  rw [he] at hce Q3
  subst hce
  have hoo : ∀ k, okN 0 k = k := fun k => if_pos rfl
  have q3 := Q3.out
  unfold MeshF at q3
  simp only [hoo] at q3
  clear Q3
  have Q3 := Lib.hid q3
  clear q3
  have hval : validE 6 (octaP r) 8 octaF = 0 := by
    unfold octaE at he
    split at he
    · exact he
    · cases he
  clear hoo
  go_enter Tryz.func111, Tryz.ntmps111
  go_wp2_with (first | (go_at_call 161; (with_reducible refine (Q1.out _ (by (repeat (first | exact Kept.refl _ | assumption | refine Kept.alloc ?_ _ | refine Kept.ext ?_ _ | refine Kept.drew ?_ | refine Kept.drewN ?_ _)))).mono ?_); rintro e w1 ⟨rfl, y1, rfl⟩) | (go_at_call 35; (with_reducible refine (Q2.out _ (by (repeat (first | exact Kept.refl _ | assumption | refine Kept.alloc ?_ _ | refine Kept.ext ?_ _ | refine Kept.drew ?_ | refine Kept.drewN ?_ _)))).mono ?_); rintro e w2 ⟨rfl, y2, rfl⟩) | (go_at_call 163; (with_reducible refine (Q3.out _ (by (repeat (first | exact Kept.refl _ | assumption | refine Kept.alloc ?_ _ | refine Kept.ext ?_ _ | refine Kept.drew ?_ | refine Kept.drewN ?_ _)))).mono ?_); rintro e w3 ⟨PA, pc, FA, fc, rfl, ⟨y3, rfl⟩, hp, hf, np, nf⟩; have HP := Lib.hid hp; have HF := Lib.hid hf; have NP := Lib.hid np; have NF := Lib.hid nf; clear hp hf np nf))
  obtain ⟨n6, hn6⟩ : ∃ x, adv (adv (w.heap.size + 1) y1.obs.size) y2.obs.size = x := ⟨_, rfl⟩
  have hlt6 : w.heap.size < n6 := by rw [← hn6]; unfold adv; omega
  simp only [hn6]
  refine wp_gen (fun W0 hW0 => ?_)
  have kW : Kept w W0 := by rw [hW0]; (repeat (first | exact Kept.refl _ | assumption | refine Kept.alloc ?_ _ | refine Kept.ext ?_ _ | refine Kept.drew ?_ | refine Kept.drewN ?_ _))
  have m6 : W0.heap[n6]? = some (.cells #[.slice PA 6 pc, .slice FA 8 fc] 42 (0, 0)) := by
    rw [hW0]
    refine fr_kept (new_at ?X ?h1) ?h2
    case h2 => (repeat (first | exact Kept.refl _ | assumption | refine Kept.alloc ?_ _ | refine Kept.ext ?_ _ | refine Kept.drew ?_ | refine Kept.drewN ?_ _))
    case h1 =>
      simp only [ext_size, World.size_alloc]
      exact hn6
  have hp : RowsAt W0 PA 6 3 (octaP r) := by rw [hW0]; exact rows_swap HP.out (by omega) nosB
  have hf : RowsAt W0 FA 8 3 octaF := by rw [hW0]; exact rows_swap HF.out (by omega) nosB
  have op : Off (own db sv ov V) PA := fun a ha ho => by
    have h1 := NP.out a ha
    have h2 := (H.out.own_lt ho).2
    simp only [ext_size, World.size_alloc, hn6] at h1
    omega
  have of' : Off (own db sv ov V) FA := fun a ha ho => by
    have h1 := NF.out a ha
    have h2 := (H.out.own_lt ho).2
    simp only [ext_size, World.size_alloc, hn6] at h1
    omega
  have hso : ShOk W0 lo (own db sv ov V) ⟨nm, PA, 6, pc, FA, 8, fc, 0, 0, none, 0, 0⟩ ⟨nm, 6, octaP r, 8, octaF, 0, 0, []⟩ := ⟨rfl, hl, rfl, rfl, rfl, rfl, hval, hp, fun _ => op, hf, fun _ => of', by simp, [], World.ownsRow_nil _ _ _ _, rfl, fun k hk => absurd hk (by simp)⟩
  have hD := H.out.on kW
  have HD := Lib.hid hD
  have HSO := Lib.hid hso
  have M6 := Lib.hid m6
  have KW := Lib.hid kW
  have HN6 := Lib.hid hn6
  clear hD hso m6 kW hp hf op of' HP HF NP NF hW0 hn6 Q1 Q2 Q3
  subst hsv
  obtain ⟨i0, hi0, hz0⟩ := Option.map_eq_some_iff.1 infoSh
  simp only [Prod.mk.injEq] at hz0
  have HI := Lib.hid (And.intro hi0 hz0)
  clear hi0 hz0
  have hno6 : ¬ own db (.slice SA V.length scap) ov V n6 := fun q => by
    have := (H.out.own_lt q).2
    omega
  have hlo : lo ≤ W0.heap.size := Nat.le_trans HD.out.lod (Nat.le_of_lt HD.out.ltd)
  obtain ⟨PB, hPB⟩ : ∃ X : Value → World → Prop, X = fun v' w' => ∃ g cap, v' = .slice (some ⟨g, 0, none⟩) (V.length + 1) cap ∧ KB (fun k => (Value.slice SA V.length scap).ownBlock = some k) W0 w' ∧ w'.ownsRow lo 47 6 v' (V.length + 1) (shC V ++ [.string ⟨nm.toArray⟩, .slice PA 6 pc, .slice FA 8 fc, .int .i64 0, .int .i64 0, .slice none 0 0]) ∧ ((Value.slice SA V.length scap).ownBlock = some g ∨ W0.heap.size ≤ g) := ⟨_, rfl⟩
  obtain ⟨PC, hPC⟩ : ∃ X : Value → World → Prop, X = fun _ w' => Step W0 w' lo st db { D with shapes := D.shapes ++ [⟨nm, 6, octaP r, 8, octaF, 0, 0, []⟩] } (own db (.slice SA V.length scap) ov V) := ⟨_, rfl⟩
  have HPB := Lib.hid hPB
  have HPC := Lib.hid hPC
  have hBk : ∀ v x y, PB v x → Kept x y → PB v y := by
    rw [hPB]
    exact fun v x y ⟨g, cap, e1, e2, e3, e4⟩ q => ⟨g, cap, e1, e2.on q, owns_kept e3 q, e4⟩
  have hCk : ∀ v x y, PC v x → Kept x y → PC v y := by
    rw [hPC]
    exact fun _ _ _ q1 q2 => q1.on q2
  have HBK := Lib.hid hBk
  have HCK := Lib.hid hCk
  obtain ⟨O, hO⟩ : ∃ O, O = own db (.slice SA V.length scap) ov V := ⟨_, rfl⟩
  have HO := Lib.hid hO
  rw [← hO] at hno6
  have hOdb : O db := by rw [hO]; exact .inl rfl
  have hOs : ∀ k, (Value.slice SA V.length scap).ownBlock = some k → O k := fun k q => by rw [hO]; exact .inr (.inl q)
  have HOS := Lib.hid hOs
  clear hPB hPC hBk hCk hO hOs
  refine wp_region_tellC (C := KB O W0) [.q, .q, .q, .q, .k (.slice SA V.length scap), .q, .q, .q, .s, .s, .q, .q, .s]
    (AppG 4 8 9 12 W0 O 47 [.string ⟨nm.toArray⟩, .slice PA 6 pc, .slice FA 8 fc, .int .i64 0, .int .i64 0, .slice none 0 0] (Kept W0) PB PC) (by kernel_rfl) (by kernel_rfl) (fun b => by kernel_rfl) ?_ ?_ ?_ ?_
  · exact fun b => AppG.start ((KB.refl _ _).drew) (Kept.refl W0).drew
  · intro i L b w' w'' hs hI hk
    exact (hI.on hk (fun _ _ => Kept.trans) HBK.out HCK.out).other (by rintro rfl; cases hs) (by rintro rfl; cases hs) (by rintro rfl; cases hs) (by rintro rfl; cases hs)
  · exact fun L b w' h => h.z
  apply Exists.intro
  refine ⟨?_, ?_, ?_, ?_⟩
  · rintro b W' hZ
    obtain ⟨p0, p1, -, -⟩ := cells2 M6.out
    have f0 := hZ.cell p0 hno6
    have f1 := hZ.cell p1 hno6
    haveI : Lower n6 W'.heap.size := ⟨cell_lt f0⟩
    haveI : Lower db W'.heap.size := ⟨Nat.lt_of_lt_of_le HD.out.ltd hZ.size⟩
    clear p0 p1 hZ
    simp only [swapL, Nat.reduceAdd]
    repeat (go_big_quiet_step (fail))
    refine wpQuiet_nil ?_
    rfl
  · simp only [EachS, and_true]
    refine ⟨?_, ?_, ?_, ?_⟩
    · intro L b w' hd hL hI
      have h9 : L 9 = false := by
        cases q : L 9 with
        | false => rfl
        | true => have := (hI.a6 q).1; rw [show L 4 = false from hL] at this; cases this
      have kA := hI.p h9
      have c0 : w'.cell? ⟨db, 2, none⟩ = some (.slice SA V.length scap) := desk_cell (HD.out.on kA).hd rfl
      have LQ : Lower db w'.heap.size := ⟨cell_lt c0⟩
      have h1 := Lib.hid (hI.op1 (u := .slice SA V.length scap) (by omega))
      clear hI kA
      go_simp
      exact ⟨rfl, h1.out⟩
    · intro L b w' hd hL hI
      have h5 := Lib.hid (hI.op5 (by omega) hL (fun _ _ => Kept.trans))
      clear hI
      go_simp
      exact ⟨rfl, h5.out⟩
    · intro L b w' hd hL hI
      have d4 : L 4 = true := hd { on := 4, ground := .data } (by simp) rfl
      have d8 : L 8 = true := hd { on := 8, ground := .data } (by simp) rfl
      obtain ⟨g5, e5, e6⟩ := hI.n5 d8
      have kA := hI.p hL
      refine tells_lies (.tmp 97) (.tmp 101) 50 (by rfl) lo 47 i0 _ 6 104 Tryz.underlying50 HI.out.1 HI.out.2.1 HI.out.2.2.1 HI.out.2.2.2 (by rfl) (by omega) (Nat.le_trans hlo kA.below.size) _ V.length _ (by rfl) (HD.out.on kA).sh g5 [.string ⟨nm.toArray⟩, .slice PA 6 pc, .slice FA 8 fc, .int .i64 0, .int .i64 0, .slice none 0 0] e5 (e6 hL) rfl (by simp [Value.oneCell']) (by unfold maxLen; omega) (by omega) ?_
      intro g' cap w'' k1 k2 k3
      exact ⟨rfl, hI.op6 (by omega) hL d4 d8 (hI.z.grown k2 (fun k e _ => HOS.out k e)) (by rw [HPB.out]; exact ⟨g', cap, rfl, (KB.of_kept kA).grown k2 (fun k e _ => e), k1, k3.imp id (fun e => by rw [e]; exact kA.below.size)⟩)⟩
    · intro L b w' hd hL hI
      have d9 : L 9 = true := hd { on := 9, ground := .data } (by simp) rfl
      have hq := hI.q d9 hL
      rw [HPB.out] at hq
      obtain ⟨g', cap, e9, kb, ow, hn⟩ := hq
      have ow2 := ow
      rw [e9] at ow2
      have hst := HD.out.addShape kb hn ow2 HSO.out rfl (by omega)
      have hb := kb.at HD.out.hd (fun q => (HD.out.ne_sv q).1 rfl)
      have c0 : w'.cell? ⟨db, 2, none⟩ = some (.slice SA V.length scap) := desk_cell hb rfl
      have c1 : w'.frozen? ⟨db, 2, none⟩ = false := desk_free hb
      have LQ : Lower db w'.heap.size := ⟨cell_lt c0⟩
      have h8 := Lib.hid (hI.op8 (u := undef) (by omega) d9 (hI.z.setCell (p := ⟨db, 2, none⟩) (fun _ => hOdb) (.slice (some ⟨g', 0, none⟩) (V.length + 1) cap)) (by rw [HPC.out]; exact ⟨_, _, _, hst⟩))
      clear hI hst kb ow ow2 hb
      go_simp
      exact ⟨rfl, h8.out⟩
  · intro b b' d9 hd9
    simp [callSlots, dullOp] at hd9
    try (rcases hd9 with rfl | rfl | rfl | rfl <;> rfl)
  intro L b w1 hL hI
  have hs := hI.r (hL 12 (by decide))
  rw [HPC.out] at hs
  have HS := Lib.hid hs
  clear hI hL hs
  go_wp2_with fail
  go_ret
  exact ⟨rfl, fun q => absurd rfl q, fun _ => Step.from KW.out HS.out⟩
end Go.Proofs.YtnbjealpcjfllaaGreatDoor

namespace Go.Proofs.YtnbjealpcjfllaaGreatDoor
set_option linter.unusedVariables false
set_option linter.unusedSimpArgs false
open Go.ChangeShapes Go.WideShapes Go.ChangeAt Go.RowKit Go.Deep Go.MuLone
theorem dspent1_any (db pb : Nat) (v : Int) (w : World) (hp : w.cell? ⟨pb, 0, none⟩ = some (.pointer (some ⟨db, 0, none⟩))) (hv : w.cell? ⟨db, 5, none⟩ = some (.int .i64 v)) :
    Calls Tryz.prog 41 #[.pointer (some ⟨pb, 0, none⟩)] w fun e w' => e = .returned (.int .i64 v) ∧ w = w' := by
  go_enter Tryz.func41, Tryz.ntmps41
  go_wp2_with fail
  go_ret
  exact ⟨rfl, rfl⟩
set_option maxRecDepth 100000 in
set_option maxHeartbeats 4000000 in
theorem dnumspent_any (db pb : Nat) (sv : Value) (day left spent budget : Int) (ov : Value) (w : World) (h : w.heap[db]? = some (deskC 0 sv day left spent budget ov)) (hp : w.cell? ⟨pb, 0, none⟩ = some (.pointer (some ⟨db, 0, none⟩))) (hne : pb ≠ db) :
    Calls Tryz.prog 38 #[.pointer (some ⟨db, 0, none⟩), .func (.func 41) #[] #[.pointer (some ⟨pb, 0, none⟩)]] w fun e w' => e = .returned (.int .i64 spent) ∧ Kept w w' := by
  have e1 := desk_put h 1
  have hq := dspent1_any db pb spent (w.setCell ⟨db, 0, none⟩ (.int .i32 1)) ((World.cell?_setCell_other _ ⟨db, 0, none⟩ ⟨pb, 0, none⟩ _ (by simp [hne])).trans hp) (desk_cell e1 rfl)
  have h0 : w.cell? ⟨db, 0, none⟩ = some (.int .i32 0) := desk_cell h rfl
  have f0 : w.frozen? ⟨db, 0, none⟩ = false := desk_free h
  have g0 : (w.setCell ⟨db, 0, none⟩ (.int .i32 1)).cell? ⟨db, 0, none⟩ = some (.int .i32 1) := desk_cell e1 rfl
  have g1 : (w.setCell ⟨db, 0, none⟩ (.int .i32 1)).frozen? ⟨db, 0, none⟩ = false := desk_free e1
  have HQ := Lib.hid hq
  have H := Lib.hid h
  clear hq e1 hp h hne
  go_enter_defers Tryz.func38, Tryz.ntmps38
  go_wp2_with (first | (go_at_call 30; refine (lock_free muLib ⟨db, 0, none⟩ _ h0 f0).mono ?_; rintro e w' ⟨rfl, rfl⟩) | (go_at_call 41; refine HQ.out.mono ?_; rintro e w1 ⟨rfl, rfl⟩))
  refine leaves_cons (f := 31) (args := #[.pointer (some ⟨db, 0, none⟩)]) (by simp) (by simp [go_sem]) ?_
  refine (unlock_deferred muLib ⟨db, 0, none⟩ .returning _ g0 g1).mono ?_
  rintro e u' w'' ⟨rfl, rfl, rfl⟩
  exact ⟨_, results_tmp rfl _ _ _, rfl, lock_off H.out (Kept.refl _)⟩
set_option maxRecDepth 100000 in
set_option maxHeartbeats 4000000 in
theorem dspent_any (db : Nat) (sv : Value) (day left spent budget : Int) (ov : Value) (w : World) (h : w.heap[db]? = some (deskC 0 sv day left spent budget ov)) :
    Calls Tryz.prog 18 #[.pointer (some ⟨db, 0, none⟩)] w fun e w' => e = .returned (.int .i64 spent) ∧ Kept w w' := by
  have hb := (Array.getElem?_eq_some_iff.1 h).1
  have q : ∀ w', Kept w w' → ∀ pb, w'.cell? ⟨pb, 0, none⟩ = some (.pointer (some ⟨db, 0, none⟩)) → pb ≠ db → _ := fun w' hk pb h1 h2 => dnumspent_any db pb sv day left spent budget ov w' (by obtain ⟨x, rfl⟩ := hk; rw [ext_block _ _ _ hb]; exact h) h1 h2
  have Q := Lib.hid q
  clear q
  have hne : w.heap.size ≠ db := by omega
  clear h
  go_enter Tryz.func18, Tryz.ntmps18
  go_wp2_with fail
  refine (Q.out _ (show Kept _ _ by (repeat (first | exact Kept.refl _ | assumption | refine Kept.alloc ?_ _ | refine Kept.ext ?_ _ | refine Kept.drew ?_ | refine Kept.drewN ?_ _))) _ ?c1 ?c2).mono ?c3
  case c1 => go_simp
  case c2 => exact hne
  case c3 =>
    rintro e w1 ⟨rfl, y1, rfl⟩
    go_wp2_with fail
    go_ret
    exact ⟨rfl, by (repeat (first | exact Kept.refl _ | assumption | refine Kept.alloc ?_ _ | refine Kept.ext ?_ _ | refine Kept.drew ?_ | refine Kept.drewN ?_ _))⟩
theorem dday1_any (db pb : Nat) (v : Int) (w : World) (hp : w.cell? ⟨pb, 0, none⟩ = some (.pointer (some ⟨db, 0, none⟩))) (hv : w.cell? ⟨db, 3, none⟩ = some (.int .i64 v)) :
    Calls Tryz.prog 39 #[.pointer (some ⟨pb, 0, none⟩)] w fun e w' => e = .returned (.int .i64 v) ∧ w = w' := by
  go_enter Tryz.func39, Tryz.ntmps39
  go_wp2_with fail
  go_ret
  exact ⟨rfl, rfl⟩
set_option maxRecDepth 100000 in
set_option maxHeartbeats 4000000 in
theorem dnumday_any (db pb : Nat) (sv : Value) (day left spent budget : Int) (ov : Value) (w : World) (h : w.heap[db]? = some (deskC 0 sv day left spent budget ov)) (hp : w.cell? ⟨pb, 0, none⟩ = some (.pointer (some ⟨db, 0, none⟩))) (hne : pb ≠ db) :
    Calls Tryz.prog 38 #[.pointer (some ⟨db, 0, none⟩), .func (.func 39) #[] #[.pointer (some ⟨pb, 0, none⟩)]] w fun e w' => e = .returned (.int .i64 day) ∧ Kept w w' := by
  have e1 := desk_put h 1
  have hq := dday1_any db pb day (w.setCell ⟨db, 0, none⟩ (.int .i32 1)) ((World.cell?_setCell_other _ ⟨db, 0, none⟩ ⟨pb, 0, none⟩ _ (by simp [hne])).trans hp) (desk_cell e1 rfl)
  have h0 : w.cell? ⟨db, 0, none⟩ = some (.int .i32 0) := desk_cell h rfl
  have f0 : w.frozen? ⟨db, 0, none⟩ = false := desk_free h
  have g0 : (w.setCell ⟨db, 0, none⟩ (.int .i32 1)).cell? ⟨db, 0, none⟩ = some (.int .i32 1) := desk_cell e1 rfl
  have g1 : (w.setCell ⟨db, 0, none⟩ (.int .i32 1)).frozen? ⟨db, 0, none⟩ = false := desk_free e1
  have HQ := Lib.hid hq
  have H := Lib.hid h
  clear hq e1 hp h hne
  go_enter_defers Tryz.func38, Tryz.ntmps38
  go_wp2_with (first | (go_at_call 30; refine (lock_free muLib ⟨db, 0, none⟩ _ h0 f0).mono ?_; rintro e w' ⟨rfl, rfl⟩) | (go_at_call 39; refine HQ.out.mono ?_; rintro e w1 ⟨rfl, rfl⟩))
  refine leaves_cons (f := 31) (args := #[.pointer (some ⟨db, 0, none⟩)]) (by simp) (by simp [go_sem]) ?_
  refine (unlock_deferred muLib ⟨db, 0, none⟩ .returning _ g0 g1).mono ?_
  rintro e u' w'' ⟨rfl, rfl, rfl⟩
  exact ⟨_, results_tmp rfl _ _ _, rfl, lock_off H.out (Kept.refl _)⟩
set_option maxRecDepth 100000 in
set_option maxHeartbeats 4000000 in
theorem dday_any (db : Nat) (sv : Value) (day left spent budget : Int) (ov : Value) (w : World) (h : w.heap[db]? = some (deskC 0 sv day left spent budget ov)) :
    Calls Tryz.prog 16 #[.pointer (some ⟨db, 0, none⟩)] w fun e w' => e = .returned (.int .i64 day) ∧ Kept w w' := by
  have hb := (Array.getElem?_eq_some_iff.1 h).1
  have q : ∀ w', Kept w w' → ∀ pb, w'.cell? ⟨pb, 0, none⟩ = some (.pointer (some ⟨db, 0, none⟩)) → pb ≠ db → _ := fun w' hk pb h1 h2 => dnumday_any db pb sv day left spent budget ov w' (by obtain ⟨x, rfl⟩ := hk; rw [ext_block _ _ _ hb]; exact h) h1 h2
  have Q := Lib.hid q
  clear q
  have hne : w.heap.size ≠ db := by omega
  clear h
  go_enter Tryz.func16, Tryz.ntmps16
  go_wp2_with fail
  refine (Q.out _ (show Kept _ _ by (repeat (first | exact Kept.refl _ | assumption | refine Kept.alloc ?_ _ | refine Kept.ext ?_ _ | refine Kept.drew ?_ | refine Kept.drewN ?_ _))) _ ?c1 ?c2).mono ?c3
  case c1 => go_simp
  case c2 => exact hne
  case c3 =>
    rintro e w1 ⟨rfl, y1, rfl⟩
    go_wp2_with fail
    go_ret
    exact ⟨rfl, by (repeat (first | exact Kept.refl _ | assumption | refine Kept.alloc ?_ _ | refine Kept.ext ?_ _ | refine Kept.drew ?_ | refine Kept.drewN ?_ _))⟩
end Go.Proofs.YtnbjealpcjfllaaGreatDoor

