/- Contracts: the table of operations, and what each of them does. No conditions but bounds on numbers. -/
import Derived.Test.YtbhcjdgfcinpcaaChk
import Derived.Test.YtbhcjdgfcinpcaaNmb
import Derived.MapKept
namespace Go.Proofs.Ytbhcjdgfcinpcaa
set_option linter.unusedVariables false
set_option linter.unusedSimpArgs false
open Go.RowKit Go.MapKept
/-! ### A map that the call has just made, with keys of one integer kind -/
@[go_sem] def noKey (k : Int) (es : List MapEntry) : Bool := es.all fun e => match e.key with | .int .u8 b => k != b | _ => false
theorem findNow_none {k : Int} : ∀ (es : List MapEntry) (i : Nat), noKey k es = true → Instr.findNow (.int .u8) (.int .u8 k) es i = some none
  | [], _, _ => rfl
  | e :: es, i, h => by
    obtain ⟨key, v, b⟩ := e
    simp only [noKey, List.all_cons, Bool.and_eq_true] at h
    obtain ⟨h1, h2⟩ := h
    cases key with
    | int j n =>
      cases j with
      | u8 =>
        have h3 : (k == n) = false := by simpa using h1
        simp only [Instr.findNow, Instr.sameNow, if_true, h3]
        exact findNow_none es (i + 1) h2
      | _ => cases h1
    | _ => cases h1
theorem push_set (h : Array Obj) (o o' : Obj) : (h.push o).setIfInBounds h.size o' = h.push o' := by
  apply Array.ext_getElem?
  intro i
  rw [Array.getElem?_setIfInBounds, Array.getElem?_push, Array.getElem?_push, Array.size_push]
  by_cases hi : h.size = i
  · subst hi; simp
  · have : ¬ i = h.size := fun e => hi e.symm
    simp [hi, this]
theorem insert_new {P : Program} (t kt et : TypeId) (hm : P.underlying t = some (.map kt et)) (hk : P.underlying kt = some (.int .u8)) (w : World) (n : Nat) (hn : n = w.heap.size) (es : Array MapEntry) (clock : Nat) (k : Int) (v : Value) (h : noKey k es.toList = true) :
    (Instr.mapUpdate t (.map (some n)) (.int .u8 k) v).run P (w.alloc (.map es clock)) = .ok () (w.alloc (.map (es.push { key := .int .u8 k, val := v, born := clock }) (clock + 1))) := by
  subst hn
  have hb : (w.alloc (.map es clock)).heap[w.heap.size]? = some (.map es clock) := (Go.MapKept.heap_alloc w _).1
  have hf : (Instr.findKey kt (.int .u8 k) es.toList).run P (w.alloc (.map es clock)) = .ok none (w.alloc (.map es clock)) := Go.MapKept.run_findKey hk (findNow_none _ _ h)
  simp only [Instr.mapUpdate, Sem.run_bind, run_underlying hm, Result.andThen, Go.MapKept.run_getObj_map hb, Go.MapKept.run_checkKey hk (show IsKey (.int .u8) (.int .u8 k) from rfl) false 9999, hf, Go.MapKept.run_setObj_map _ hb]
  simp only [World.alloc, push_set]
theorem look_up {P : Program} (t kt et : TypeId) (hm : P.underlying t = some (.map kt et)) (hk : P.underlying kt = some (.int .u8)) (w : World) (n : Nat) (hn : n = w.heap.size) (es : Array MapEntry) (clock : Nat) (k : Int) (i : Nat) (v : Value) (h : Instr.findNow (.int .u8) (.int .u8 k) es.toList 0 = some (some (i, v))) :
    (Instr.lookup t (.map (some n)) (.int .u8 k) false).run P (w.alloc (.map es clock)) = .ok v (w.alloc (.map es clock)) := by
  subst hn
  have hb : (w.alloc (.map es clock)).heap[w.heap.size]? = some (.map es clock) := (Go.MapKept.heap_alloc w _).1
  simp [Instr.lookup, run_underlying hm, Result.andThen, Go.MapKept.run_getObj_map hb, Go.MapKept.run_checkKey hk (show IsKey (.int .u8) (.int .u8 k) from rfl) es.isEmpty 9999, Go.MapKept.run_findKey hk h]
def fnVal (f : FuncId) : Value := .func (.func f) #[] #[]
def opE (k : Int) (c o : FuncId) (n : Nat) : MapEntry := { key := .int .u8 k, val := .agg #[.func (.func c) #[] #[], .func (.func o) #[] #[]], born := n }
def zeroIn (lo hi : Int) : Int := if lo ≤ 0 ∧ 0 ≤ hi then 11 else 0
theorem and_mask20 (x : Int) : bits .and .i64 x 1048575 = x % 1048576 := by
  show IntKind.i64.wrap ((BitVec.ofInt 64 x &&& BitVec.ofInt 64 1048575).toNat : Int) = _
  have e : (BitVec.ofInt 64 1048575).toNat = 2 ^ 20 - 1 := by decide
  rw [BitVec.toNat_and, e, Nat.and_two_pow_sub_one_eq_mod, BitVec.toNat_ofInt, IntKind.wrap_i64]
  omega
theorem up_def (x y : Int) : -(-x * y / 1048576) = -(-(x * y) / 1048576) := by rw [Int.neg_mul]
def min4 (f : Int → Int → Int) (al ah bl bh : Int) : Int := min (f al bl) (min (f al bh) (min (f ah bl) (f ah bh)))
def max4 (f : Int → Int → Int) (al ah bl bh : Int) : Int := max (f al bl) (max (f al bh) (max (f ah bl) (f ah bh)))
def fDown (x y : Int) : Int := x * y / 1048576
def fUp (x y : Int) : Int := -(-(x * y) / 1048576)
def qDown (x y : Int) : Int := (x * 1048576).fdiv y
def qUp (x y : Int) : Int := -((-(x * 1048576)).fdiv y)
def Fix (x : Int) : Prop := -1099511627776 ≤ x ∧ x ≤ 1099511627776
end Go.Proofs.Ytbhcjdgfcinpcaa
