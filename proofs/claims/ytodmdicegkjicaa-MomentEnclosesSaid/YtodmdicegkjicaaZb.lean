/- One digit of a long division with two-digit divisors: plain facts about numbers. No conditions but those of each theorem. Contract: the product of two words as two words. Conditions: those of the theorem. Contracts: the bits of a word, sums and differences of words, a quotient of 128 bits by 64. Conditions: those of each theorem. Contracts: the table of operations, and what each of them does. No conditions but bounds on numbers. Contracts: sums, differences, products and quotients of spans. No conditions. Contracts of the reference's sums, differences, products and quotients of spans. No conditions. Contracts of the reference's products, quotients, sums and differences of spans. No conditions. Contracts: the reference's quotient, spans of whole numbers, pi, and the sanity check of the statements. No conditions. Contracts of the squares of spans, of the program and of the reference. No conditions. Contracts: products and quotients of spans by whole numbers. No conditions. Arguments that are lists of structs and arrays whose cells are all of kind int, opened cell by cell. No conditions but those of each theorem. Lists that a function makes itself by append: what they hold. No conditions but those of each theorem. Maps that a call makes itself: what they hold, key by key. No conditions but those of each theorem. An argument that is a mesh, opened: its two lists. No conditions but those of each theorem. Plain lemmas about the spec functions: what good results are. No conditions. Contracts: sums and means of lists of spans, of the program and of the reference. No conditions but that the list's cells can be read. Contracts: sums and means of lists of spans as results, of the program and of the reference. No conditions but that the cells of the list can be read. -/
import Derived.Test.YtodmdicegkjicaaBas
import Derived.Lib.Mul64
import Derived.Laws.Bits64b
import Derived.Test.YtodmdicegkjicaaLz
import Derived.Shelf.Spec.BitsCarry
import Derived.Test.YtodmdicegkjicaaZa
import Derived.MapKept
import Derived.Laws.EntriesVeiled
import Derived.Deep.Slices
import Derived.Deep.AppendLies
import Derived.Maps.OwnOps
import Derived.Maps.Views
import Derived.DeepKeys4
import Derived.ChangeSame
namespace Go.Proofs.Ytodmdicegkjicaa
set_option linter.unusedVariables false
set_option linter.unusedSimpArgs false
/-- What holds of a digit q and its rest r while it may still be too great. -/
structure Dg (U y u q r : Nat) : Prop where
  e : q * (y / 4294967296) + r = U
  ge : (U * 4294967296 + u) / y ≤ q
  le : q ≤ 4294967297
  lt : r < 4294967296
section
variable {U y u q r : Nat}
theorem dg_split (y q : Nat) : q * y = q * (y / 4294967296) * 4294967296 + q * (y % 4294967296) := by
  have := Nat.div_add_mod y 4294967296
  conv => lhs; rw [← this]
  rw [Nat.mul_add, Nat.mul_comm 4294967296, ← Nat.mul_assoc]
theorem dg_top (hU : U < y) (hu : u < 4294967296) : (U * 4294967296 + u) / y < 4294967296 := by
  rw [Nat.div_lt_iff_lt_mul (by omega)]
  omega
theorem dg_start (h1 : 9223372036854775808 ≤ y) (h2 : y < 18446744073709551616) (hU : U < y) (hu : u < 4294967296) : Dg U y u (U / (y / 4294967296)) (U - U / (y / 4294967296) * (y / 4294967296)) := by
  have hy1 : 2147483648 ≤ y / 4294967296 ∧ y / 4294967296 < 4294967296 := by omega
  generalize hd : y / 4294967296 = d at *
  have hdm := Nat.div_add_mod U d
  have hml := Nat.mod_lt U (show 0 < d by omega)
  rw [Nat.mul_comm] at hdm
  refine ⟨by rw [hd]; omega, ?_, ?_, by omega⟩
  · have a := Nat.div_mul_le_self (U * 4294967296 + u) y
    have b := dg_split y ((U * 4294967296 + u) / y)
    rw [hd] at b
    generalize (U * 4294967296 + u) / y = Q at *
    rw [Nat.le_div_iff_mul_le (by omega)]
    generalize Q * d = z at *
    omega
  · have : U < (4294967298) * d := by omega
    have := (Nat.div_lt_iff_lt_mul (show 0 < d by omega)).2 this
    omega
theorem Dg.more (h : Dg U y u q r) (hU : U < y) (hu : u < 4294967296) (ht : 4294967296 ≤ q ∨ 4294967296 * r + u < q * (y % 4294967296)) : (U * 4294967296 + u) / y + 1 ≤ q := by
  have := h.ge
  rcases ht with ht | ht
  · have := dg_top hU hu
    omega
  · have a := h.e
    have b := dg_split y q
    refine (Nat.div_lt_iff_lt_mul (by omega)).2 ?_
    rw [b]
    generalize q * (y / 4294967296) = z at *
    omega
theorem Dg.done (h : Dg U y u q r) (hU : U < y) (ht : q * (y % 4294967296) ≤ 4294967296 * r + u) : q = (U * 4294967296 + u) / y := by
  refine Nat.le_antisymm ?_ h.ge
  rw [Nat.le_div_iff_mul_le (by omega), dg_split y q]
  have a := h.e
  generalize q * (y / 4294967296) = z at *
  omega
theorem Dg.next (h : Dg U y u q r) (hU : U < y) (hu : u < 4294967296) (ht : 4294967296 ≤ q ∨ 4294967296 * r + u < q * (y % 4294967296)) (hr : r + y / 4294967296 < 4294967296) : Dg U y u (q - 1) (r + y / 4294967296) := by
  have h1 := h.more hU hu ht
  have hq : 0 < q := Nat.lt_of_lt_of_le (Nat.succ_pos _) h1
  have h2 := h.le
  have h3 := h.e
  refine ⟨?_, by omega, by omega, hr⟩
  rw [Nat.sub_mul, Nat.one_mul]
  have : y / 4294967296 ≤ q * (y / 4294967296) := Nat.le_mul_of_pos_left _ hq
  omega
theorem Dg.last (h : Dg U y u q r) (hU : U < y) (hu : u < 4294967296) (ht : 4294967296 ≤ q ∨ 4294967296 * r + u < q * (y % 4294967296)) (hr : ¬ r + y / 4294967296 < 4294967296) : q - 1 = (U * 4294967296 + u) / y := by
  have h1 := h.more hU hu ht
  have hq : 0 < q := Nat.lt_of_lt_of_le (Nat.succ_pos _) h1
  have h2 := h.le
  have h3 := h.e
  refine Nat.le_antisymm ?_ (by omega)
  rw [Nat.le_div_iff_mul_le (by omega), dg_split y (q - 1)]
  have a : (q - 1) * (y % 4294967296) ≤ 4294967296 * (y % 4294967296) := Nat.mul_le_mul_right _ (by omega)
  have b : (q - 1) * (y / 4294967296) + (r + y / 4294967296) = U := by
    rw [Nat.sub_mul, Nat.one_mul]
    have : y / 4294967296 ≤ q * (y / 4294967296) := Nat.le_mul_of_pos_left _ hq
    omega
  generalize (q - 1) * (y / 4294967296) = z at *
  omega
end
/-- Two digits. -/
theorem dg_two {U y u v : Nat} (hy : 0 < y) : (U * 4294967296 + u) / y * 4294967296 + ((U * 4294967296 + u) % y * 4294967296 + v) / y = ((U * 4294967296 + u) * 4294967296 + v) / y := by
  have := Nat.div_add_mod (U * 4294967296 + u) y
  conv => rhs; rw [← this]
  rw [show (y * ((U * 4294967296 + u) / y) + (U * 4294967296 + u) % y) * 4294967296 + v = (U * 4294967296 + u) % y * 4294967296 + v + y * ((U * 4294967296 + u) / y * 4294967296) by grind, Nat.add_mul_div_left _ _ hy]
  omega
/-- The shifted dividend has the same quotient. -/
theorem dg_shift {hi lo y s : Nat} (hy : 0 < y) : ((hi * 18446744073709551616 + lo) * 2 ^ s) / (y * 2 ^ s) = (hi * 18446744073709551616 + lo) / y :=
  Nat.mul_div_mul_right _ _ (Nat.two_pow_pos s)
end Go.Proofs.Ytodmdicegkjicaa

namespace Go.Proofs.Ytodmdicegkjicaa
set_option linter.unusedVariables false
set_option linter.unusedSimpArgs false
open Go.RowKit
namespace Mul
theorem maskN (a : Nat) (ha : a < 18446744073709551616) : bits .and .u64 (a : Int) 4294967295 = ((a % 4294967296 : Nat) : Int) := by
  have h := bits_and_u64_nat a 4294967295 ha (by omega)
  have e : a &&& 4294967295 = a % 4294967296 := Nat.and_two_pow_sub_one_eq_mod a 32
  rw [e] at h
  exact h
theorem divN (a : Nat) : (a : Int) / 4294967296 = ((a / 4294967296 : Nat) : Int) := by omega
theorem mulN (a b : Nat) : (a : Int) * (b : Int) = ((a * b : Nat) : Int) := (Int.natCast_mul a b).symm
theorem addN (a b : Nat) : (a : Int) + (b : Int) = ((a + b : Nat) : Int) := (Int.natCast_add a b).symm
theorem wrapN (a : Nat) (ha : a < 18446744073709551616) : IntKind.u64.wrap (a : Int) = (a : Int) := by rw [IntKind.wrap_u64]; omega
theorem wrapM (a : Nat) : IntKind.u64.wrap (a : Int) = ((a % 18446744073709551616 : Nat) : Int) := by rw [IntKind.wrap_u64]; omega
end Mul
/-- The upper and the lower half of a product of 128 bits. -/
def hi64 (x y : Nat) : Int := ((x * y / 18446744073709551616 : Nat) : Int)
def lo64 (x y : Nat) : Int := ((x * y % 18446744073709551616 : Nat) : Int)
set_option maxHeartbeats 1000000 in
theorem mul64_any (x y : Nat) (w : World) (hx : x < 18446744073709551616) (hy : y < 18446744073709551616) :
    Calls Try.prog 78 #[.int .u64 x, .int .u64 y] w fun e w' => e = .returned (.tuple #[.int .u64 (hi64 x y), .int .u64 (lo64 x y)]) ∧ w = w' := by
  obtain ⟨bd, bt, bw, hhi⟩ := Lib.mul64_hi x y hx hy
  have ba := Lib.half_mul_le (a := x / 4294967296) (b := y / 4294967296) (by omega) (by omega)
  have bb := Lib.half_mul_le (a := x / 4294967296) (b := y % 4294967296) (by omega) (by omega)
  have bc := Lib.half_mul_le (a := x % 4294967296) (b := y / 4294967296) (by omega) (by omega)
  have ba' : x / 4294967296 * (y / 4294967296) < 18446744073709551616 := by omega
  have bb' : x / 4294967296 * (y % 4294967296) < 18446744073709551616 := by omega
  have bc' : x % 4294967296 * (y / 4294967296) < 18446744073709551616 := by omega
  have bh1 : x / 4294967296 * (y / 4294967296) + (x / 4294967296 * (y % 4294967296) + x % 4294967296 * (y % 4294967296) / 4294967296) / 4294967296 < 18446744073709551616 := by omega
  have bh : x / 4294967296 * (y / 4294967296) + (x / 4294967296 * (y % 4294967296) + x % 4294967296 * (y % 4294967296) / 4294967296) / 4294967296 + ((x / 4294967296 * (y % 4294967296) + x % 4294967296 * (y % 4294967296) / 4294967296) % 4294967296 + x % 4294967296 * (y / 4294967296)) / 4294967296 < 18446744073709551616 := by omega
  go_enter Try.func78, Try.ntmps78
  go_wp2
  simp only [Mul.maskN x hx, Mul.maskN y hy, Mul.divN, Mul.mulN, Mul.addN, Mul.wrapN _ bd, Mul.wrapN _ bb', Mul.wrapN _ bt, Mul.maskN _ bt, Mul.wrapN _ bc', Mul.wrapN _ bw, Mul.wrapN _ ba', Mul.wrapN _ bh1, Mul.wrapN _ bh, Mul.wrapM (x * y)]
  rw [hhi]
  go_ret2
  exact ⟨rfl, rfl⟩
end Go.Proofs.Ytodmdicegkjicaa

namespace Go.Proofs.Ytodmdicegkjicaa
set_option linter.unusedVariables false
set_option linter.unusedSimpArgs false
open Go.RowKit
theorem zeros64_any (x : Int) (w : World) (h0 : 0 ≤ x) (h1 : x ≤ 18446744073709551615) :
    Calls Try.prog 81 #[.int .u64 x] w fun e w' => e = .returned (.int .i64 (64 - (Lib.bitLen x.toNat : Int))) ∧ w = w' := by
  have l : Lib.bitLen x.toNat ≤ 64 := Lib.bitLen_le x.toNat 64 (by omega) (by omega)
  have e8 : (64 - (Lib.bitLen x.toNat : Int) + 9223372036854775808) % 18446744073709551616 - 9223372036854775808 = 64 - (Lib.bitLen x.toNat : Int) := by omega
  go_enter Try.func81, Try.ntmps81
  go_wp2_with (go_at_call 83; refine (len64_any x _ h0 h1).mono ?_; rintro e w' ⟨rfl, rfl⟩)
  go_ret
  refine ⟨?_, rfl⟩
  rw [← e8]
  try rfl
end Go.Proofs.Ytodmdicegkjicaa

namespace Go.Proofs.Ytodmdicegkjicaa
set_option linter.unusedVariables false
set_option linter.unusedSimpArgs false
open Go.RowKit Go.MapKept
/-! ### A map that the call has just made, with keys of one integer kind -/
@[go_sem] def noKey (k : Int) (es : List MapEntry) : Bool := es.all fun e => match e.key with | .int .u8 b => k != b | _ => false
theorem findNow_none {k : Int} : ∀ (es : List MapEntry) (i : Nat), noKey k es = true → Instr.findNow (.int .u8) (.int .u8 k) es i = some none
  | [], _, _ => rfl
  | e :: es, i, h => by
    obtain ⟨key, v, b⟩ := e
    simp only [noKey, List.all_cons, Bool.and_eq_true] at h
    obtain ⟨h1, h2⟩ := h
    cases key with
    | int j n =>
      cases j with
      | u8 =>
        have h3 : (k == n) = false := by simpa using h1
        simp only [Instr.findNow, Instr.sameNow, if_true, h3]
        exact findNow_none es (i + 1) h2
      | _ => cases h1
    | _ => cases h1
theorem push_set (h : Array Obj) (o o' : Obj) : (h.push o).setIfInBounds h.size o' = h.push o' := by
  apply Array.ext_getElem?
  intro i
  rw [Array.getElem?_setIfInBounds, Array.getElem?_push, Array.getElem?_push, Array.size_push]
  by_cases hi : h.size = i
  · subst hi; simp
  · have : ¬ i = h.size := fun e => hi e.symm
    simp [hi, this]
theorem insert_new {P : Program} (t kt et : TypeId) (hm : P.underlying t = some (.map kt et)) (hk : P.underlying kt = some (.int .u8)) (w : World) (n : Nat) (hn : n = w.heap.size) (es : Array MapEntry) (clock : Nat) (k : Int) (v : Value) (h : noKey k es.toList = true) :
    (Instr.mapUpdate t (.map (some n)) (.int .u8 k) v).run P (w.alloc (.map es clock)) = .ok () (w.alloc (.map (es.push { key := .int .u8 k, val := v, born := clock }) (clock + 1))) := by
  subst hn
  have hb : (w.alloc (.map es clock)).heap[w.heap.size]? = some (.map es clock) := (Go.MapKept.heap_alloc w _).1
  have hf : (Instr.findKey kt (.int .u8 k) es.toList).run P (w.alloc (.map es clock)) = .ok none (w.alloc (.map es clock)) := Go.MapKept.run_findKey hk (findNow_none _ _ h)
  simp only [Instr.mapUpdate, Sem.run_bind, run_underlying hm, Result.andThen, Go.MapKept.run_getObj_map hb, Go.MapKept.run_checkKey hk (show IsKey (.int .u8) (.int .u8 k) from rfl) false 9999, hf, Go.MapKept.run_setObj_map _ hb]
  simp only [World.alloc, push_set]
theorem look_up {P : Program} (t kt et : TypeId) (hm : P.underlying t = some (.map kt et)) (hk : P.underlying kt = some (.int .u8)) (w : World) (n : Nat) (hn : n = w.heap.size) (es : Array MapEntry) (clock : Nat) (k : Int) (i : Nat) (v : Value) (h : Instr.findNow (.int .u8) (.int .u8 k) es.toList 0 = some (some (i, v))) :
    (Instr.lookup t (.map (some n)) (.int .u8 k) false).run P (w.alloc (.map es clock)) = .ok v (w.alloc (.map es clock)) := by
  subst hn
  have hb : (w.alloc (.map es clock)).heap[w.heap.size]? = some (.map es clock) := (Go.MapKept.heap_alloc w _).1
  simp [Instr.lookup, run_underlying hm, Result.andThen, Go.MapKept.run_getObj_map hb, Go.MapKept.run_checkKey hk (show IsKey (.int .u8) (.int .u8 k) from rfl) es.isEmpty 9999, Go.MapKept.run_findKey hk h]
def opsMap : Array MapEntry := #[
  { key := .int .u8 43, val := .agg #[.func (.func 84) #[] #[], .func (.func 85) #[] #[]], born := 0 },
  { key := .int .u8 45, val := .agg #[.func (.func 84) #[] #[], .func (.func 86) #[] #[]], born := 1 },
  { key := .int .u8 42, val := .agg #[.func (.func 84) #[] #[], .func (.func 87) #[] #[]], born := 2 },
  { key := .int .u8 47, val := .agg #[.func (.func 91) #[] #[], .func (.func 92) #[] #[]], born := 3 }]
def opE (k : Int) (c o : FuncId) (n : Nat) : MapEntry := { key := .int .u8 k, val := .agg #[.func (.func c) #[] #[], .func (.func o) #[] #[]], born := n }
theorem op_in (w : World) (n : Nat) (hn : n = w.heap.size) (es : Array MapEntry) (clock : Nat) (k : Int) (c o : FuncId) (h : noKey k es.toList = true) :
    (Instr.mapUpdate 125 (.map (some n)) (.int .u8 k) (.agg #[.func (.func c) #[] #[], .func (.func o) #[] #[]])).run Try.prog (w.alloc (.map es clock)) = .ok () (w.alloc (.map (es.push (opE k c o clock)) (clock + 1))) :=
  insert_new _ _ _ Try.underlying125 Try.underlying5 w n hn es clock k _ h
set_option maxHeartbeats 400000 in
theorem operations_any (w : World) :
    Calls Try.prog 82 #[] w fun e w' => e = .returned (.map (some w.heap.size)) ∧ w.alloc (.map opsMap 4) = w' := by
  have hmm := @run_makeMap Try.prog
  have i1 := op_in w w.heap.size rfl #[] 0 43 84 85 rfl
  have i2 := op_in w w.heap.size rfl #[opE 43 84 85 0] 1 45 84 86 rfl
  have i3 := op_in w w.heap.size rfl #[opE 43 84 85 0, opE 45 84 86 1] 2 42 84 87 rfl
  have i4 := op_in w w.heap.size rfl #[opE 43 84 85 0, opE 45 84 86 1, opE 42 84 87 2] 3 47 91 92 rfl
  go_enter Try.func82, Try.ntmps82
  go_wp2
  go_ret
  exact ⟨rfl, rfl⟩
theorem look_op (w : World) (n : Nat) (hn : n = w.heap.size) (k : Int) (i : Nat) (c o : FuncId) (h : Instr.findNow (.int .u8) (.int .u8 k) opsMap.toList 0 = some (some (i, .agg #[.func (.func c) #[] #[], .func (.func o) #[] #[]]))) :
    (Instr.lookup 125 (.map (some n)) (.int .u8 k) false).run Try.prog (w.alloc (.map opsMap 4)) = .ok (.agg #[.func (.func c) #[] #[], .func (.func o) #[] #[]]) (w.alloc (.map opsMap 4)) :=
  look_up _ _ _ Try.underlying125 Try.underlying5 w n hn opsMap 4 k i _ h
@[go_sem] theorem look_add (w : World) (n : Nat) (hn : n = w.heap.size) : (Instr.lookup 125 (.map (some n)) (.int .u8 43) false).run Try.prog (w.alloc (.map opsMap 4)) = .ok (.agg #[.func (.func 84) #[] #[], .func (.func 85) #[] #[]]) (w.alloc (.map opsMap 4)) := look_op w n hn _ 0 _ _ rfl
@[go_sem] theorem look_sub (w : World) (n : Nat) (hn : n = w.heap.size) : (Instr.lookup 125 (.map (some n)) (.int .u8 45) false).run Try.prog (w.alloc (.map opsMap 4)) = .ok (.agg #[.func (.func 84) #[] #[], .func (.func 86) #[] #[]]) (w.alloc (.map opsMap 4)) := look_op w n hn _ 1 _ _ rfl
@[go_sem] theorem look_mul (w : World) (n : Nat) (hn : n = w.heap.size) : (Instr.lookup 125 (.map (some n)) (.int .u8 42) false).run Try.prog (w.alloc (.map opsMap 4)) = .ok (.agg #[.func (.func 84) #[] #[], .func (.func 87) #[] #[]]) (w.alloc (.map opsMap 4)) := look_op w n hn _ 2 _ _ rfl
@[go_sem] theorem look_div (w : World) (n : Nat) (hn : n = w.heap.size) : (Instr.lookup 125 (.map (some n)) (.int .u8 47) false).run Try.prog (w.alloc (.map opsMap 4)) = .ok (.agg #[.func (.func 91) #[] #[], .func (.func 92) #[] #[]]) (w.alloc (.map opsMap 4)) := look_op w n hn _ 3 _ _ rfl
theorem allowed_any (lo hi : Int) (w : World) :
    Calls Try.prog 84 #[.agg #[.int .i64 lo, .int .i64 hi]] w fun e w' => e = .returned (.int .i64 0) ∧ Kept w w' := by
  go_enter Try.func84, Try.ntmps84
  go_wp2
  go_ret
  exact ⟨rfl, by (repeat (first | exact Kept.refl _ | assumption | refine Kept.alloc ?_ _ | refine Kept.ext ?_ _ | refine Kept.drew ?_ | refine Kept.drewN ?_ _))⟩
theorem and_mask20 (x : Int) : bits .and .i64 x 1048575 = x % 1048576 := by
  show IntKind.i64.wrap ((BitVec.ofInt 64 x &&& BitVec.ofInt 64 1048575).toNat : Int) = _
  have e : (BitVec.ofInt 64 1048575).toNat = 2 ^ 20 - 1 := by decide
  rw [BitVec.toNat_and, e, Nat.and_two_pow_sub_one_eq_mod, BitVec.toNat_ofInt, IntKind.wrap_i64]
  omega
set_option maxHeartbeats 400000 in
theorem tdown_any (x y : Int) (w : World) (h : (-1099511627776 ≤ x ∧ x ≤ 1099511627776) ∧ (-1099511627776 ≤ y ∧ y ≤ 1099511627776)) :
    Calls Try.prog 89 #[.int .i64 x, .int .i64 y] w fun e w' => e = .returned (.int .i64 (x * y / 1048576)) ∧ w = w' := by
  have m1 := mul_bd (a := x / 1048576) (b := y) (A := 1048576) (B := 1099511627776) 1152921504606846976 (by omega) h.2 (by decide)
  have m2 := mul_bd (a := x % 1048576) (b := y) (A := 1048576) (B := 1099511627776) 1152921504606846976 (by omega) h.2 (by decide)
  have e := and_mask20 x
  have f := floor_parts x y
  have F := Lib.hid f
  have m3 := mul_bd (a := x) (b := y) (A := 1099511627776) (B := 1099511627776) 1208925819614629174706176 h.1 h.2 (by decide)
  clear f
  go_enter Try.func89, Try.ntmps89
  go_wp2
  go_ret
  exact ⟨ret_int F.out, rfl⟩
theorem up_def (x y : Int) : -(-x * y / 1048576) = -(-(x * y) / 1048576) := by rw [Int.neg_mul]
set_option maxHeartbeats 400000 in
theorem tup_any (x y : Int) (w : World) (h : (-1099511627776 ≤ x ∧ x ≤ 1099511627776) ∧ (-1099511627776 ≤ y ∧ y ≤ 1099511627776)) :
    Calls Try.prog 90 #[.int .i64 x, .int .i64 y] w fun e w' => e = .returned (.int .i64 (-(-(x * y) / 1048576))) ∧ w = w' := by
  have m3 := mul_bd (a := -x) (b := y) (A := 1099511627776) (B := 1099511627776) 1208925819614629174706176 (by omega) h.2 (by decide)
  have m4 : -1152921504606846976 ≤ -x * y / 1048576 ∧ -x * y / 1048576 ≤ 1152921504606846976 := by omega
  go_enter Try.func90, Try.ntmps90
  go_wp2_with (first | (go_at_call 89; refine (tdown_any _ _ _ (by omega)).mono ?_; rintro e w1 ⟨rfl, rfl⟩))
  go_ret
  exact ⟨ret_int (up_def x y), rfl⟩
def min4 (f : Int → Int → Int) (al ah bl bh : Int) : Int := min (f al bl) (min (f al bh) (min (f ah bl) (f ah bh)))
def max4 (f : Int → Int → Int) (al ah bl bh : Int) : Int := max (f al bl) (max (f al bh) (max (f ah bl) (f ah bh)))
set_option maxHeartbeats 400000 in
theorem corners_any (F G : FuncId) (f g : Int → Int → Int) (al ah bl bh : Int) (w : World)
    (cF : ∀ args w, (callFunc F args).run Try.prog w = .ok (.enter F args) w) (cG : ∀ args w, (callFunc G args).run Try.prog w = .ok (.enter G args) w)
    (hF : ∀ x y w, (x = al ∨ x = ah) → (y = bl ∨ y = bh) → Calls Try.prog F #[.int .i64 x, .int .i64 y] w fun e w' => e = .returned (.int .i64 (f x y)) ∧ w = w')
    (hG : ∀ x y w, (x = al ∨ x = ah) → (y = bl ∨ y = bh) → Calls Try.prog G #[.int .i64 x, .int .i64 y] w fun e w' => e = .returned (.int .i64 (g x y)) ∧ w = w') :
    Calls Try.prog 88 #[.agg #[.int .i64 al, .int .i64 ah], .agg #[.int .i64 bl, .int .i64 bh], .func (.func F) #[] #[], .func (.func G) #[] #[]] w fun e w' => e = .returned (.tuple #[.int .i64 (min4 f al ah bl bh), .int .i64 (max4 g al ah bl bh)]) ∧ Kept w w' := by
  have HF := Lib.hid hF
  have HG := Lib.hid hG
  clear hF hG
  go_enter Try.func88, Try.ntmps88
  go_wp2_with fail
  refine wp_region_kept (by kernel_rfl) (by kernel_rfl) ?_
  repeat (go_big_quiet_step (exact Calls.kept_same (HF.out _ _ _ (by simp) (by simp))))
  refine wpQuiet_nil ?_
  intro x
  go_wp2_with fail
  refine wp_region_kept2 (by kernel_rfl) (by kernel_rfl) ?_
  repeat (go_big_quiet_step (exact Calls.kept_same (HG.out _ _ _ (by simp) (by simp))))
  refine wpQuiet_nil ?_
  intro x
  go_wp2_with fail
  go_ret2
  exact ⟨rfl, by (repeat (first | exact Kept.refl _ | assumption | refine Kept.alloc ?_ _ | refine Kept.ext ?_ _ | refine Kept.drew ?_ | refine Kept.drewN ?_ _))⟩
def fDown (x y : Int) : Int := x * y / 1048576
def fUp (x y : Int) : Int := -(-(x * y) / 1048576)
def Fix (x : Int) : Prop := -1099511627776 ≤ x ∧ x ≤ 1099511627776
set_option maxHeartbeats 400000 in
theorem times_any (al ah bl bh : Int) (w : World) (h1 : Fix al) (h2 : Fix ah) (h3 : Fix bl) (h4 : Fix bh) :
    Calls Try.prog 87 #[.agg #[.int .i64 al, .int .i64 ah], .agg #[.int .i64 bl, .int .i64 bh]] w fun e w' => e = .returned (.tuple #[.int .i64 (min4 fDown al ah bl bh), .int .i64 (max4 fUp al ah bl bh)]) ∧ Kept w w' := by
  have hx : ∀ x, x = al ∨ x = ah → Fix x := fun x h => by rcases h with rfl | rfl <;> assumption
  have hy : ∀ y, y = bl ∨ y = bh → Fix y := fun x h => by rcases h with rfl | rfl <;> assumption
  have C := fun w => corners_any 89 90 fDown fUp al ah bl bh w (fun _ _ => by kernel_rfl) (fun _ _ => by kernel_rfl) (fun x y w k1 k2 => tdown_any x y w ⟨hx x k1, hy y k2⟩) (fun x y w k1 k2 => tup_any x y w ⟨hx x k1, hy y k2⟩)
  have CC := Lib.hid C
  clear C hx hy
  go_enter Try.func87, Try.ntmps87
  go_wp2_with (go_at_call 88; refine (CC.out _).mono ?_; rintro e w1 ⟨rfl, x, rfl⟩)
  go_ret2
  exact ⟨rfl, by (repeat (first | exact Kept.refl _ | assumption | refine Kept.alloc ?_ _ | refine Kept.ext ?_ _ | refine Kept.drew ?_ | refine Kept.drewN ?_ _))⟩
end Go.Proofs.Ytodmdicegkjicaa

namespace Go.Proofs.Ytodmdicegkjicaa
set_option linter.unusedVariables false
set_option linter.unusedSimpArgs false
open Go.RowKit
def mulS (al ah bl bh : Int) : R := if validB al ah && validB bl bh then resultS (min4 fDown al ah bl bh) (max4 fUp al ah bl bh) else ⟨0, 0, 1⟩
theorem fixes {al ah bl bh : Int} (h : (validB al ah && validB bl bh) = true) : Fix al ∧ Fix ah ∧ Fix bl ∧ Fix bh ∧ al ≤ ah ∧ bl ≤ bh := by
  simp only [Bool.and_eq_true] at h
  have v1 := valid_bd h.1
  have v2 := valid_bd h.2
  unfold Fix
  omega
theorem apply_mul_no (al ah bl bh : Int) (w : World) (h : (validB al ah && validB bl bh) = false) :
    Calls Try.prog 80 #[.int .u8 42, .agg #[.int .i64 al, .int .i64 ah], .agg #[.int .i64 bl, .int .i64 bh]] w fun e w' => e = .returned (.tuple #[.agg #[.int .i64 (mulS al ah bl bh).lo, .int .i64 (mulS al ah bl bh).hi], .int .i64 (mulS al ah bl bh).e]) ∧ Kept w w' := by
  go_enter Try.func80, Try.ntmps80
  go_wp2_with (first | (go_at_call 27; refine (check2_any _ _ _ _ _ _ (by simp)).mono ?_; rintro e w1 ⟨rfl, x, rfl⟩))
  all_goals (refine bodyPost_ret (by simp only [results, Try.results80]; go_simp; rfl) rfl ?_; refine ⟨ret_R3 (by simp_all [mulS]), ?_⟩; (repeat (first | exact Kept.refl _ | assumption | refine Kept.alloc ?_ _ | refine Kept.ext ?_ _ | refine Kept.drew ?_ | refine Kept.drewN ?_ _)))
set_option maxHeartbeats 1000000 in
theorem apply_mul (al ah bl bh : Int) (w : World) :
    Calls Try.prog 80 #[.int .u8 42, .agg #[.int .i64 al, .int .i64 ah], .agg #[.int .i64 bl, .int .i64 bh]] w fun e w' => e = .returned (.tuple #[.agg #[.int .i64 (mulS al ah bl bh).lo, .int .i64 (mulS al ah bl bh).hi], .int .i64 (mulS al ah bl bh).e]) ∧ Kept w w' := by
  cases h : (validB al ah && validB bl bh)
  · exact apply_mul_no al ah bl bh w h
  · obtain ⟨⟨a1, a2⟩, ⟨a3, a4⟩, ⟨a5, a6⟩, ⟨a7, a8⟩, a9, a10⟩ := fixes h
    go_enter Try.func80, Try.ntmps80
    go_wp2_with (first | (go_at_call 27; refine (check2_any _ _ _ _ _ _ (by simp)).mono ?_; rintro e w1 ⟨rfl, x, rfl⟩) | (go_at_call 82; refine (operations_any _).mono ?_; rintro e w1 ⟨rfl, rfl⟩) | (go_at_call 84; refine (allowed_any _ _ _).mono ?_; rintro e w1 ⟨rfl, x, rfl⟩) | (go_at_call 87; refine (times_any _ _ _ _ _ ⟨by omega, by omega⟩ ⟨by omega, by omega⟩ ⟨by omega, by omega⟩ ⟨by omega, by omega⟩).mono ?_; rintro e w1 ⟨rfl, x, rfl⟩) | (go_at_call 39; refine (result_any _ _ _).mono ?_; rintro e w1 ⟨rfl, x, rfl⟩))
    all_goals (refine bodyPost_ret (by simp only [results, Try.results80]; go_simp; rfl) rfl ?_; refine ⟨ret_R3 (by simp only [mulS, h, if_true]), ?_⟩; (repeat (first | exact Kept.refl _ | assumption | refine Kept.alloc ?_ _ | refine Kept.ext ?_ _ | refine Kept.drew ?_ | refine Kept.drewN ?_ _)))
theorem mul_any (al ah bl bh : Int) (w : World) :
    Calls Try.prog 73 #[.agg #[.int .i64 al, .int .i64 ah], .agg #[.int .i64 bl, .int .i64 bh]] w fun e w' => e = .returned (.tuple #[.agg #[.int .i64 (mulS al ah bl bh).lo, .int .i64 (mulS al ah bl bh).hi], .int .i64 (mulS al ah bl bh).e]) ∧ Kept w w' := by
  go_enter Try.func73, Try.ntmps73
  go_wp2_with (first | (go_at_call 80; refine (apply_mul _ _ _ _ _).mono ?_; rintro e w1 ⟨rfl, x, rfl⟩))
  all_goals (refine bodyPost_ret (by simp only [results, Try.results73]; go_simp; rfl) rfl ?_; refine ⟨rfl, ?_⟩; (repeat (first | exact Kept.refl _ | assumption | refine Kept.alloc ?_ _ | refine Kept.ext ?_ _ | refine Kept.drew ?_ | refine Kept.drewN ?_ _)))
end Go.Proofs.Ytodmdicegkjicaa

namespace Go.Proofs.Ytodmdicegkjicaa
set_option linter.unusedVariables false
set_option linter.unusedSimpArgs false
open Go.RowKit
end Go.Proofs.Ytodmdicegkjicaa

namespace Go.Proofs.Ytodmdicegkjicaa
set_option linter.unusedVariables false
set_option linter.unusedSimpArgs false
open Go.RowKit
end Go.Proofs.Ytodmdicegkjicaa

namespace Go.Proofs.Ytodmdicegkjicaa
set_option linter.unusedVariables false
set_option linter.unusedSimpArgs false
open Go.RowKit
end Go.Proofs.Ytodmdicegkjicaa

namespace Go.Proofs.Ytodmdicegkjicaa
set_option linter.unusedVariables false
set_option linter.unusedSimpArgs false
open Go.RowKit
end Go.Proofs.Ytodmdicegkjicaa
namespace Go.Proofs.Ytodmdicegkjicaa
set_option linter.unusedVariables false
set_option linter.unusedSimpArgs false
open Go.RowKit
/-- x * n, or a number beyond the limit on the same side. -/
def prodS (x n : Int) : Int := if 1099511627776 < x * n then 1099511627777 else if x * n < -1099511627776 then -1099511627777 else x * n
theorem abs_mul' (x n : Int) : max x (-x) * max n (-n) = x * n ∨ max x (-x) * max n (-n) = -(x * n) := by
  rcases (show max x (-x) = x ∨ max x (-x) = -x by omega) with h | h <;> rcases (show max n (-n) = n ∨ max n (-n) = -n by omega) with k | k <;> rw [h, k]
  · exact .inl rfl
  · exact .inr (Int.mul_neg x n)
  · exact .inr (Int.neg_mul x n)
  · exact .inl (Int.neg_mul_neg x n)
theorem sign_mul {x n : Int} (hx : x ≠ 0) (hn : n ≠ 0) : (x < 0 ↔ n < 0) → 0 < x * n := by
  intro h
  rcases (show (0 < x ∧ 0 < n) ∨ (x < 0 ∧ n < 0) by omega) with ⟨a, b⟩ | ⟨a, b⟩
  · exact Int.mul_pos a b
  · exact Int.mul_pos_of_neg_of_neg a b
theorem sign_mul' {x n : Int} (hx : x ≠ 0) (hn : n ≠ 0) : ¬ (x < 0 ↔ n < 0) → x * n < 0 := by
  intro h
  rcases (show (0 < x ∧ n < 0) ∨ (x < 0 ∧ 0 < n) by omega) with ⟨a, b⟩ | ⟨a, b⟩
  · exact Int.mul_neg_of_pos_of_neg a b
  · exact Int.mul_neg_of_neg_of_pos a b
theorem big_iff {x n : Int} (hx : x ≠ 0) : 1099511627776 / max x (-x) < max n (-n) ↔ 1099511627776 < max x (-x) * max n (-n) := by
  rw [Int.ediv_lt_iff_lt_mul (by omega), Int.mul_comm]
theorem sgn_diff {x n : Int} (h : ¬ (x < 0 ↔ n < 0)) : (!decide (x < 0) == decide (n < 0)) = true := by
  by_cases k1 : x < 0
  · have k2 : ¬ n < 0 := fun k => h ⟨fun _ => k, fun _ => k1⟩; simp only [k1, k2, decide_false, decide_true]; rfl
  · have k2 : n < 0 := by omega
    simp only [k1, k2, decide_false, decide_true]; rfl
set_option maxHeartbeats 1000000 in
theorem prod_any (x n : Int) (w : World) (h1 : Fix x) (h2 : Fix n) :
    Calls Try.prog 38 #[.int .i64 x, .int .i64 n] w fun e w' => e = .returned (.int .i64 (prodS x n)) ∧ w = w' := by
  obtain ⟨a1, a2⟩ := h1
  obtain ⟨a3, a4⟩ := h2
  by_cases hx : x = 0
  · subst hx
    go_enter Try.func38, Try.ntmps38
    go_wp2
    all_goals (go_ret; exact ⟨ret_int (by simp [prodS]), rfl⟩)
  · by_cases hn : n = 0
    · subst hn
      have hx' : (x != 0) = true := by simpa using hx
      go_enter Try.func38, Try.ntmps38
      go_wp2
      all_goals (go_ret; exact ⟨ret_int (by simp [prodS]), rfl⟩)
    · have hx' : (x != 0) = true := by simpa using hx
      have hn' : (n != 0) = true := by simpa using hn
      have hm : 1 ≤ max x (-x) := by omega
      have bi := big_iff (n := n) hx
      have am := abs_mul' x n
      obtain ⟨P, hP⟩ : ∃ P, P = max x (-x) * max n (-n) := ⟨_, rfl⟩
      have hP0 : 0 ≤ P := by rw [hP]; exact Int.mul_nonneg (by omega) (by omega)
      rw [← hP] at am bi
      clear hP
      by_cases hb : 1099511627776 / max x (-x) < max n (-n)
      · have hbb := bi.1 hb
        by_cases hs : x < 0 ↔ n < 0
        · have hp := sign_mul hx hn hs
          have e : prodS x n = 1099511627777 := by unfold prodS; rw [if_pos (by omega)]
          clear bi hbb am hp
          rw [e]
          clear e
          go_enter Try.func38, Try.ntmps38
          go_wp2
          go_ret
          exact ⟨rfl, rfl⟩
        · have hp := sign_mul' hx hn hs
          have e : prodS x n = -1099511627777 := by unfold prodS; rw [if_neg (by omega), if_pos (by omega)]
          clear bi hbb am hp
          rw [e]
          clear e
          have hs' : (!decide (x < 0) == decide (n < 0)) = true := sgn_diff hs
          clear hs
          go_enter Try.func38, Try.ntmps38
          go_wp2
          go_ret
          exact ⟨rfl, rfl⟩
      · have hbb : ¬ 1099511627776 < P := fun k => hb (bi.2 k)
        have e : prodS x n = x * n := by unfold prodS; rw [if_neg (by omega), if_neg (by omega)]
        have hw : -1099511627776 ≤ x * n ∧ x * n ≤ 1099511627776 := by omega
        clear bi hbb am
        rw [e]
        clear e
        go_enter Try.func38, Try.ntmps38
        go_wp2
        go_ret
        exact ⟨rfl, rfl⟩
def scaleS (al ah n : Int) : R := if validB al ah && wholeB n then resultS (min (prodS al n) (prodS ah n)) (max (prodS al n) (prodS ah n)) else ⟨0, 0, 1⟩
theorem fixv {al ah : Int} (h : validB al ah = true) : Fix al ∧ Fix ah ∧ al ≤ ah := by
  have v1 := valid_bd h
  unfold Fix
  omega
set_option maxHeartbeats 1000000 in
theorem scale_any (al ah n : Int) (w : World) :
    Calls Try.prog 22 #[.agg #[.int .i64 al, .int .i64 ah], .int .i64 n] w fun e w' => e = .returned (.tuple #[.agg #[.int .i64 (scaleS al ah n).lo, .int .i64 (scaleS al ah n).hi], .int .i64 (scaleS al ah n).e]) ∧ Kept w w' := by
  cases h : validB al ah
  · go_enter Try.func22, Try.ntmps22
    go_wp2_with (first | (go_at_call 27; refine (check1_any _ _ _ _ (by simp)).mono ?_; rintro e w1 ⟨rfl, x, rfl⟩))
    all_goals (refine bodyPost_ret (by simp only [results, Try.results22]; go_simp; rfl) rfl ?_; refine ⟨ret_R3 (by simp_all [scaleS]), ?_⟩; (repeat (first | exact Kept.refl _ | assumption | refine Kept.alloc ?_ _ | refine Kept.ext ?_ _ | refine Kept.drew ?_ | refine Kept.drewN ?_ _)))
  · obtain ⟨⟨a1, a2⟩, ⟨a3, a4⟩, a9⟩ := fixv h
    cases hn : wholeB n
    · go_enter Try.func22, Try.ntmps22
      go_wp2_with (first | (go_at_call 27; refine (check1_any _ _ _ _ (by simp)).mono ?_; rintro e w1 ⟨rfl, x, rfl⟩) | (go_at_call 37; refine (whole_any _ _).mono ?_; rintro e w1 ⟨rfl, rfl⟩))
      all_goals (refine bodyPost_ret (by simp only [results, Try.results22]; go_simp; rfl) rfl ?_; refine ⟨ret_R3 (by simp_all [scaleS]), ?_⟩; (repeat (first | exact Kept.refl _ | assumption | refine Kept.alloc ?_ _ | refine Kept.ext ?_ _ | refine Kept.drew ?_ | refine Kept.drewN ?_ _)))
    · obtain ⟨b1, b2⟩ := whole_bd hn
      go_enter Try.func22, Try.ntmps22
      go_wp2_with (first | (go_at_call 27; refine (check1_any _ _ _ _ (by simp)).mono ?_; rintro e w1 ⟨rfl, x, rfl⟩) | (go_at_call 37; refine (whole_any _ _).mono ?_; rintro e w1 ⟨rfl, rfl⟩))
      ((first | (with_reducible refine wp_region_kept2 (by kernel_rfl) (by kernel_rfl) ?_) | refine wp_region_kept (by kernel_rfl) (by kernel_rfl) ?_); (repeat (go_big_quiet_step (first | (go_at_call 38; exact Calls.kept_same (prod_any _ _ _ ⟨by omega, by omega⟩ ⟨by omega, by omega⟩))))); refine wpQuiet_nil ?_; intro x)
      go_wp2_with (first | (go_at_call 39; refine (result_any _ _ _).mono ?_; rintro e w1 ⟨rfl, x, rfl⟩))
      all_goals (refine bodyPost_ret (by simp only [results, Try.results22]; go_simp; rfl) rfl ?_; refine ⟨ret_R3 (by simp only [scaleS, h, hn, Bool.and_self, if_true]), ?_⟩; (repeat (first | exact Kept.refl _ | assumption | refine Kept.alloc ?_ _ | refine Kept.ext ?_ _ | refine Kept.drew ?_ | refine Kept.drewN ?_ _)))
def partS (al ah n : Int) : R := if validB al ah && decide (1 ≤ n ∧ n ≤ 1099511627776) then resultS (al / n) (-(-ah / n)) else ⟨0, 0, 1⟩
set_option maxHeartbeats 1000000 in
theorem part_any (al ah n : Int) (w : World) :
    Calls Try.prog 70 #[.agg #[.int .i64 al, .int .i64 ah], .int .i64 n] w fun e w' => e = .returned (.tuple #[.agg #[.int .i64 (partS al ah n).lo, .int .i64 (partS al ah n).hi], .int .i64 (partS al ah n).e]) ∧ Kept w w' := by
  cases h : validB al ah
  · go_enter Try.func70, Try.ntmps70
    go_wp2_with (first | (go_at_call 27; refine (check1_any _ _ _ _ (by simp)).mono ?_; rintro e w1 ⟨rfl, x, rfl⟩))
    all_goals (refine bodyPost_ret (by simp only [results, Try.results70]; go_simp; rfl) rfl ?_; refine ⟨ret_R3 (by simp_all [partS]), ?_⟩; (repeat (first | exact Kept.refl _ | assumption | refine Kept.alloc ?_ _ | refine Kept.ext ?_ _ | refine Kept.drew ?_ | refine Kept.drewN ?_ _)))
  · obtain ⟨⟨a1, a2⟩, ⟨a3, a4⟩, a9⟩ := fixv h
    by_cases hn : 1 ≤ n ∧ n ≤ 1099511627776
    · have e : partS al ah n = resultS (al.fdiv n) (-((-ah).fdiv n)) := by simp only [partS, h, hn, and_self, decide_true, Bool.and_self, if_true, fdiv_pos _ n (show 0 < n by omega)]
      rw [e]
      clear e
      obtain ⟨b1, b2⟩ := hn
      go_enter Try.func70, Try.ntmps70
      go_wp2_with (first | (go_at_call 27; refine (check1_any _ _ _ _ (by simp)).mono ?_; rintro e w1 ⟨rfl, x, rfl⟩))
      ((first | (with_reducible refine wp_region_tail2 11 (by kernel_rfl) (by kernel_rfl) ?_) | refine wp_region_tail 11 (by kernel_rfl) (by kernel_rfl) ?_); simp only [List.take_succ_cons, List.take_zero, List.drop_succ_cons, List.drop_zero]; (repeat (go_big_quiet_step (first | (go_at_call 76; exact Calls.kept_same (down_any _ _ _ (by omega) (by omega) (by omega))) | (go_at_call 77; exact Calls.kept_same (up_any _ _ _ (by omega) (by omega) (by omega))) | (go_at_call 39; exact Calls.kept_of (result_any _ _ _))))); refine wpQuiet_nil ?_; intro x)
      go_wp2
      all_goals (refine bodyPost_ret (by simp only [results, Try.results70]; go_simp; rfl) rfl ?_; refine ⟨rfl, ?_⟩; (repeat (first | exact Kept.refl _ | assumption | refine Kept.alloc ?_ _ | refine Kept.ext ?_ _ | refine Kept.drew ?_ | refine Kept.drewN ?_ _)))
    · have e : partS al ah n = ⟨0, 0, 1⟩ := by simp only [partS, h, hn, decide_false, Bool.and_false, Bool.false_eq_true, if_false]
      by_cases b1 : n < 1
      · clear hn
        go_enter Try.func70, Try.ntmps70
        go_wp2_with (first | (go_at_call 27; refine (check1_any _ _ _ _ (by simp)).mono ?_; rintro e w1 ⟨rfl, x, rfl⟩))
        all_goals (refine bodyPost_ret (by simp only [results, Try.results70]; go_simp; rfl) rfl ?_; refine ⟨ret_R3 e.symm, ?_⟩; (repeat (first | exact Kept.refl _ | assumption | refine Kept.alloc ?_ _ | refine Kept.ext ?_ _ | refine Kept.drew ?_ | refine Kept.drewN ?_ _)))
      · have b2 : 1099511627776 < n := by omega
        clear hn
        go_enter Try.func70, Try.ntmps70
        go_wp2_with (first | (go_at_call 27; refine (check1_any _ _ _ _ (by simp)).mono ?_; rintro e w1 ⟨rfl, x, rfl⟩))
        all_goals (refine bodyPost_ret (by simp only [results, Try.results70]; go_simp; rfl) rfl ?_; refine ⟨ret_R3 e.symm, ?_⟩; (repeat (first | exact Kept.refl _ | assumption | refine Kept.alloc ?_ _ | refine Kept.ext ?_ _ | refine Kept.drew ?_ | refine Kept.drewN ?_ _)))
end Go.Proofs.Ytodmdicegkjicaa

namespace Go.Proofs.Ytodmdicegkjicaa
set_option linter.unusedVariables false
set_option linter.unusedSimpArgs false
open Go.ChangeShapes Go.WideShapes Go.ChangeAt Go.RowKit Go.Deep
/-- Cell i of a value of type t is of kind int. -/
def leafInt (P : Program) : Nat → TypeId → Nat → Bool
  | 0, _, _ => false
  | k + 1, t, i => match P.underlying t with
    | some (.int .i64) => i == 0
    | some (.struct fs) => fs.toList.any fun f => decide (f.offset ≤ i) && decide (i < f.offset + P.cellsOf f.type) && leafInt P k f.type (i - f.offset)
    | some (.array n e) => (List.range n).any fun j => decide (j * P.cellsOf e ≤ i) && decide (i < j * P.cellsOf e + P.cellsOf e) && leafInt P k e (i - j * P.cellsOf e)
    | _ => false
theorem take_drop_get {α : Type} {cs : List α} {o n i : Nat} (h1 : o ≤ i) (h2 : i < o + n) : ((cs.drop o).take n)[i - o]? = cs[i]? := by
  rw [List.getElem?_take, if_pos (by omega), List.getElem?_drop, show o + (i - o) = i by omega]
section
variable {H : Type} {enc : TypeId × Value → H} {P : Program} {w : World} {base : Nat} {spare : Nat → Bool} {held : Bool}
theorem leaf_int : ∀ (k : Nat) (t : TypeId) (i fuel : Nat) (cs : List Value) (x : DataW H × List MemPlace), leafInt P k t i = true → DataW.trod enc P w base spare held fuel t cs = some x → ∃ n, cs[i]? = some (.int .i64 n) ∧ I64 n := by
  intro k
  induction k with
  | zero => intro t i fuel cs x h; cases h
  | succ k ih =>
    intro t i fuel cs x h hx
    unfold leafInt at h
    split at h
    · rename_i ht
      obtain ⟨n, rfl, -, hw⟩ := DataW.trod_int ht hx
      simp only [beq_iff_eq] at h
      subst h
      refine ⟨n, rfl, ?_⟩
      simp only [Lit.wf, Bool.and_eq_true, decide_eq_true_eq] at hw
      exact hw
    · rename_i fs ht
      obtain ⟨xs, n, -, -, -, hlen, hf⟩ := DataW.trod_struct ht hx
      rw [List.any_eq_true] at h
      obtain ⟨f, hmem, hB⟩ := h
      simp only [Bool.and_eq_true, decide_eq_true_eq] at hB
      obtain ⟨⟨h1, h2⟩, h3⟩ := hB
      obtain ⟨j, hj⟩ := List.getElem?_of_mem hmem
      have hj' : fs[j]? = some f := by simpa using hj
      have hjl : j < fs.size := (Array.getElem?_eq_some_iff.1 hj').1
      have h4 := hf j f hj'
      rw [List.getElem?_eq_getElem (show j < xs.length by omega)] at h4
      have := ih f.type (i - f.offset) n _ _ h3 h4
      rw [take_drop_get h1 h2] at this
      exact this
    · rename_i n e ht
      cases fuel with
      | zero => simp [DataW.trod] at hx
      | succ m =>
        unfold DataW.trod at hx
        rw [ht] at hx
        simp only at hx
        split at hx
        · rename_i hc
          rw [Option.map_eq_some_iff] at hx
          obtain ⟨xs, hxs, -⟩ := hx
          rw [List.any_eq_true] at h
          obtain ⟨j, hmem, hB⟩ := h
          simp only [Bool.and_eq_true, decide_eq_true_eq] at hB
          obtain ⟨⟨h1, h2⟩, h3⟩ := hB
          have hj : j < n := List.mem_range.1 hmem
          have hg := mapM_some_get hxs j j (by simp [hj])
          have hl := mapM_some_length hxs
          simp only [List.length_range] at hl
          rw [List.getElem?_eq_getElem (show j < xs.length by omega)] at hg
          have := ih e (i - j * P.cellsOf e) m _ _ h3 hg
          rw [take_drop_get h1 h2] at this
          exact this
        · cases hx
    · cases h
/-- A list of n elements of c cells of kind int each can be read: f k j is cell j of element k. -/
def RowsAt (w : World) (A : Option Addr) (n c : Nat) (f : Nat → Nat → Int) : Prop :=
  0 < n → ∃ b off, A = some ⟨b, off, none⟩ ∧ b < w.heap.size ∧ ∀ k, k < n → ∀ j, j < c → w.cell? ⟨b, off + k * c + j, none⟩ = some (.int .i64 (f k j)) ∧ I64 (f k j)
theorem RowsAt.of {w w' : World} {A : Option Addr} {n c : Nat} {f : Nat → Nat → Int} (h : RowsAt w A n c f) (hk : Kept w w') : RowsAt w' A n c f := by
  intro h0
  obtain ⟨b, off, rfl, hb, hc⟩ := h h0
  obtain ⟨x, rfl⟩ := hk
  refine ⟨b, off, rfl, by rw [ext_size]; exact Nat.lt_of_lt_of_le hb (adv_le _ _), fun k hk j hj => ?_⟩
  have LB : Lower b w.heap.size := ⟨hb⟩
  rw [ext_cell]
  exact hc k hk j hj
theorem open_rows {r : Reach} {b0 : Nat} {t e : TypeId} {v : Value} {d : DataW H} {p : List MemPlace} (c : Nat)
    (ht : P.underlying t = some (.slice e)) (hC : P.cellsOf e = c) (h0c : 0 < c) (hall : ((List.range c).all fun i => leafInt P 9 e i) = true)
    (hv : Value.okWide P w r b0 t v) (h : DataW.Trod enc P w base spare held t v d p) (hlt : ∀ x ∈ p, x.block < w.heap.size) :
    ∃ (A : Option Addr) (n cap : Nat) (f : Nat → Nat → Int), v = .slice A n cap ∧ n ≤ cap ∧ cap ≤ maxLen ∧ RowsAt w A n c f := by
  obtain ⟨A, n, cap, rfl⟩ := okWide_slice ht hv
  obtain ⟨fuel, hf⟩ := h
  rcases open_slice ht hf with ⟨h0, -⟩ | ⟨a, len, cap', m, fu, D, Pl, hcs, hb, hl, hm, hmm, hx, hi⟩
  · simp only [Value.cells, List.cons.injEq, and_true, Value.slice.injEq] at h0
    obtain ⟨rfl, rfl, rfl⟩ := h0
    exact ⟨none, 0, 0, fun _ _ => 0, rfl, by omega, by unfold maxLen; omega, fun h => absurd h (by omega)⟩
  · simp only [Value.cells, List.cons.injEq, and_true, Value.slice.injEq] at hcs
    obtain ⟨rfl, rfl, rfl⟩ := hcs
    have hnm : n ≤ m := by rw [hmm]; split <;> omega
    have key : ∀ k, k < n → ∀ j, j < c → ∃ z, w.cell? (a.add (k * c + j)) = some (.int .i64 z) ∧ I64 z := by
      intro k hk j hj
      obtain ⟨cs, hc, htr⟩ := hi k (by omega)
      have hlf : leafInt P 9 e j = true := List.all_eq_true.1 hall j (List.mem_range.2 hj)
      obtain ⟨z, hz, hI⟩ := leaf_int 9 e j fu cs _ hlf htr
      obtain ⟨-, hcl, hat⟩ := World.cells?_some hc
      rw [hC] at hat
      refine ⟨z, ?_, hI⟩
      rw [← add_add, hat j hj, hz]
    have key2 : ∀ k, ∃ g : Nat → Int, k < n → ∀ j, j < c → w.cell? (a.add (k * c + j)) = some (.int .i64 (g j)) ∧ I64 (g j) := by
      intro k
      by_cases hk : k < n
      · obtain ⟨g, hg⟩ := choose_lt (n := c) (p := fun j z => w.cell? (a.add (k * c + j)) = some (.int .i64 z) ∧ I64 z) (key k hk)
        exact ⟨g, fun _ => hg⟩
      · exact ⟨fun _ => 0, fun h => absurd h hk⟩
    refine ⟨some a, n, cap, fun k => Classical.choose (key2 k), rfl, hl, hm, fun hn => ?_⟩
    have hc2 : ∀ k, k < n → ∀ j, j < c → w.cell? (a.add (k * c + j)) = some (.int .i64 (Classical.choose (key2 k) j)) ∧ I64 (Classical.choose (key2 k) j) := fun k hk => Classical.choose_spec (key2 k) hk
    have hsp := World.cell?_spot (hc2 0 hn 0 h0c).1
    obtain ⟨b, off, sp⟩ := a
    have hsp' : sp = none := by simpa [Addr.add] using hsp
    subst hsp'
    refine ⟨b, off, rfl, ?_, fun k hk j hj => ?_⟩
    · have : (MemPlace.cell b (off + 0)) ∈ p := by
        simp only [Prod.mk.injEq] at hx
        rw [hx.2]
        apply List.mem_append_left
        unfold MemPlace.row
        rw [List.mem_map]
        refine ⟨0, List.mem_range.2 ?_, rfl⟩
        rw [hC]
        exact Nat.mul_pos (by omega) h0c
      exact hlt _ this
    · have := hc2 k hk j hj
      have e : (Addr.mk b off none).add (k * c + j) = ⟨b, off + k * c + j, none⟩ := by
        unfold Addr.add
        by_cases h : k * c + j = 0
        · rw [if_pos h]
          have : off + k * c + j = off := by omega
          rw [this]
        · rw [if_neg h]
          simp [Nat.add_assoc]
      rw [e] at this
      exact this
end
end Go.Proofs.Ytodmdicegkjicaa
namespace Go.Proofs.Ytodmdicegkjicaa
set_option linter.unusedVariables false
set_option linter.unusedSimpArgs false
open Go.ChangeShapes Go.WideShapes Go.ChangeAt Go.RowKit
theorem owns_kept {w w' : World} {base size n : Nat} {e : TypeId} {v : Value} {xs : List Value} (h : w.ownsRow base e size v n xs) (hk : Kept w w') : w'.ownsRow base e size v n xs := by
  obtain ⟨x, rfl⟩ := hk
  refine ⟨h.1, ?_⟩
  rcases h.2 with h0 | ⟨g, cap, cur, hv, hb, hg, h1, h2, h3, h4⟩
  · exact .inl h0
  · refine .inr ⟨g, cap, cur, hv, hb, ?_, h1, h2, h3, h4⟩
    rw [ext_block _ _ _ (Array.getElem?_eq_some_iff.1 hg).1]
    exact hg
/-- What was appended to a row of the call's own is kept above what was there. -/
theorem kept_grown {W w w' : World} {base size n : Nat} {e : TypeId} {v : Value} {xs : List Value} (hk : Kept W w) (hown : w.ownsRow base e size v n xs) (hb : W.heap.size ≤ base) (hg : w.grownBy w' v.ownBlock) : Kept W w' := by
  refine Kept.of_below ?_
  have h1 := hk.below
  refine h1.grown hg h1.size ?_
  intro g hvg
  rcases hown.2 with ⟨rfl, -⟩ | ⟨g', cap, cur, rfl, hb', -⟩
  · cases hvg
  · simp only [Value.ownBlock, Option.some.injEq] at hvg
    omega
/-- The cells of the first k elements of c cells each. -/
def rowC (c : Nat) (f : Nat → Nat → Int) : Nat → List Value
  | 0 => []
  | k + 1 => rowC c f k ++ (List.range c).map fun j => Value.int .i64 (f k j)
theorem rowC_len (c : Nat) (f : Nat → Nat → Int) (k : Nat) : (rowC c f k).length = k * c := by
  induction k with
  | zero => simp [rowC]
  | succ k ih => simp [rowC, ih, Nat.add_mul]
theorem rowC_get (c : Nat) (f : Nat → Nat → Int) {n k j : Nat} (hk : k < n) (hj : j < c) : (rowC c f n)[k * c + j]? = some (.int .i64 (f k j)) := by
  induction n with
  | zero => omega
  | succ n ih =>
    unfold rowC
    by_cases e : k = n
    · subst e
      rw [List.getElem?_append_right (by rw [rowC_len]; omega), rowC_len, show k * c + j - k * c = j by omega]
      simp [hj]
    · have hlt : k * c + j < n * c := by
        have : (k + 1) * c ≤ n * c := Nat.mul_le_mul_right c (by omega)
        rw [Nat.add_mul] at this
        omega
      rw [List.getElem?_append_left (by rw [rowC_len]; exact hlt)]
      exact ih (by omega)
theorem rows_of_owns {w : World} {base n c cap : Nat} {e : TypeId} {A : Option Addr} {f : Nat → Nat → Int} (h : w.ownsRow base e c (.slice A n cap) n (rowC c f n)) (hI : ∀ k, k < n → ∀ j, j < c → I64 (f k j)) : RowsAt w A n c f := by
  intro h0
  rcases h.2 with ⟨-, hn⟩ | ⟨g, cap', cur, hv, hb, hg, h1, h2, h3, h4⟩
  · omega
  · simp only [Value.slice.injEq] at hv
    obtain ⟨rfl, -, rfl⟩ := hv
    refine ⟨g, 0, rfl, (Array.getElem?_eq_some_iff.1 hg).1, fun k hk j hj => ⟨?_, hI k hk j hj⟩⟩
    have hlt : k * c + j < n * c := by
      have : (k + 1) * c ≤ n * c := Nat.mul_le_mul_right c (by omega)
      rw [Nat.add_mul] at this
      omega
    have := rowC_get c f hk hj
    rw [← h4, List.getElem?_take, if_pos hlt] at this
    unfold World.cell?
    simp only [hg]
    simpa using this
end Go.Proofs.Ytodmdicegkjicaa
namespace Go.Proofs.Ytodmdicegkjicaa
set_option linter.unusedVariables false
set_option linter.unusedSimpArgs false
open Go.Maps Go.RowKit
theorem Kept.grown {w w' : World} (h : Kept w w') : w.grownBy w' none := by
  obtain ⟨x, rfl⟩ := h
  exact ⟨rfl, rfl, rfl, by simp [adv], fun k hk _ => ext_block _ _ _ hk⟩
theorem Kept.map_store {W w w' : World} {b : Nat} (hk : Kept W w) (hb : W.heap.size ≤ b) (hg : w.grownBy w' (some b)) : Kept W w' := by
  refine Kept.of_below (hk.below.grown hg hk.below.size ?_)
  intro g e
  simp only [Option.some.injEq] at e
  omega
section
variable {ι : Type} {P : Program} {k e : TypeId} {kv : ι → Value} {ok : ι → Prop}
/-- Block b is a map of at most n entries, whose element at key i is the int c i. -/
def MapI (P : Program) (k e : TypeId) (kv : ι → Value) (ok : ι → Prop) (w : World) (b n : Nat) (c : ι → Int) : Prop :=
  ∃ D : DataW Unit, w.ownsMap P k (plainElem P e) b n D ∧ Maps.IsMap D ∧ ∀ i kl, ok i → keyOf P k (kv i) = some kl → D.atKey kl (.lit (.int .i64 0)) = .lit (.int .i64 (c i))
/-- Block b is a map of at most n entries, whose element at key i is the bool c i. -/
def MapB (P : Program) (k e : TypeId) (kv : ι → Value) (ok : ι → Prop) (w : World) (b n : Nat) (c : ι → Bool) : Prop :=
  ∃ D : DataW Unit, w.ownsMap P k (plainElem P e) b n D ∧ Maps.IsMap D ∧ ∀ i kl, ok i → keyOf P k (kv i) = some kl → D.atKey kl (.lit (.bool false)) = .lit (.bool (c i))
theorem MapI.made (w : World) : MapI P k e kv ok (w.alloc (.map #[] 0)) w.heap.size 0 fun _ => 0 :=
  ⟨_, World.ownsMap_made w P k _, ⟨_, rfl⟩, fun _ _ _ _ => rfl⟩
theorem MapB.made (w : World) : MapB P k e kv ok (w.alloc (.map #[] 0)) w.heap.size 0 fun _ => false :=
  ⟨_, World.ownsMap_made w P k _, ⟨_, rfl⟩, fun _ _ _ _ => rfl⟩
theorem MapI.kept {w w' : World} {b n : Nat} {c : ι → Int} (h : MapI P k e kv ok w b n c) (hk : Kept w w') : MapI P k e kv ok w' b n c := by
  obtain ⟨D, h1, h2, h3⟩ := h
  exact ⟨D, h1.kept hk.grown (by simp), h2, h3⟩
theorem MapB.kept {w w' : World} {b n : Nat} {c : ι → Bool} (h : MapB P k e kv ok w b n c) (hk : Kept w w') : MapB P k e kv ok w' b n c := by
  obtain ⟨D, h1, h2, h3⟩ := h
  exact ⟨D, h1.kept hk.grown (by simp), h2, h3⟩
theorem MapI.mono {w : World} {b n m : Nat} {c : ι → Int} (h : MapI P k e kv ok w b n c) (hm : n ≤ m) : MapI P k e kv ok w b m c := by
  obtain ⟨D, h1, h2, h3⟩ := h
  exact ⟨D, h1.mono hm, h2, h3⟩
theorem MapB.mono {w : World} {b n m : Nat} {c : ι → Bool} (h : MapB P k e kv ok w b n c) (hm : n ≤ m) : MapB P k e kv ok w b m c := by
  obtain ⟨D, h1, h2, h3⟩ := h
  exact ⟨D, h1.mono hm, h2, h3⟩
theorem MapI.congr {w : World} {b n : Nat} {c c' : ι → Int} (h : MapI P k e kv ok w b n c) (hc : ∀ i, ok i → c i = c' i) : MapI P k e kv ok w b n c' := by
  obtain ⟨D, h1, h2, h3⟩ := h
  exact ⟨D, h1, h2, fun i kl hi hk => (h3 i kl hi hk).trans (by rw [hc i hi])⟩
theorem MapB.congr {w : World} {b n : Nat} {c c' : ι → Bool} (h : MapB P k e kv ok w b n c) (hc : ∀ i, ok i → c i = c' i) : MapB P k e kv ok w b n c' := by
  obtain ⟨D, h1, h2, h3⟩ := h
  exact ⟨D, h1, h2, fun i kl hi hk => (h3 i kl hi hk).trans (by rw [hc i hi])⟩
theorem MapI.lt {w : World} {b n : Nat} {c : ι → Int} (h : MapI P k e kv ok w b n c) : b < w.heap.size := by
  obtain ⟨D, h1, -⟩ := h
  exact h1.lt
theorem MapB.lt {w : World} {b n : Nat} {c : ι → Bool} (h : MapB P k e kv ok w b n c) : b < w.heap.size := by
  obtain ⟨D, h1, -⟩ := h
  exact h1.lt
end
end Go.Proofs.Ytodmdicegkjicaa
namespace Go.Proofs.Ytodmdicegkjicaa
set_option linter.unusedVariables false
set_option linter.unusedSimpArgs false
open Go.ChangeShapes Go.WideShapes Go.ChangeAt Go.RowKit Go.Deep
section
variable {H : Type} {enc : TypeId × Value → H} {P : Program} {w : World} {base : Nat} {spare : Nat → Bool} {held : Bool}
end
end Go.Proofs.Ytodmdicegkjicaa

namespace Go.Proofs.Ytodmdicegkjicaa
set_option linter.unusedVariables false
set_option linter.unusedSimpArgs false
end Go.Proofs.Ytodmdicegkjicaa

namespace Go.Proofs.Ytodmdicegkjicaa
set_option linter.unusedVariables false
set_option linter.unusedSimpArgs false
open Go.ChangeShapes Go.WideShapes Go.ChangeAt Go.RowKit
theorem SpansAt.of {w w' : World} {A : Option Addr} {n : Nat} {lo hi : Nat → Int} (h : SpansAt w A n lo hi) (hk : Kept w w') : SpansAt w' A n lo hi := by
  intro h0
  obtain ⟨b, off, rfl, hb, hc⟩ := h h0
  obtain ⟨x, rfl⟩ := hk
  refine ⟨b, off, rfl, by rw [ext_size]; exact Nat.lt_of_lt_of_le hb (adv_le _ _), fun k hk => ?_⟩
  have LB : Lower b w.heap.size := ⟨hb⟩
  rw [ext_cell, ext_cell]
  exact hc k hk
def sumF : Nat → (Nat → Int) → Int
  | 0, _ => 0
  | n + 1, f => sumF n f + f n
theorem sumF_bd {n : Nat} {lo hi : Nat → Int} (h : allV n lo hi = true) : -(n * 1099511627776) ≤ sumF n lo ∧ sumF n lo ≤ sumF n hi ∧ sumF n hi ≤ n * 1099511627776 := by
  induction n with
  | zero => simp [sumF]
  | succ n ih =>
    rw [allV_succ, Bool.and_eq_true] at h
    have := ih h.1
    have := valid_bd h.2
    unfold sumF
    omega
theorem allV_of {n k : Nat} {lo hi : Nat → Int} (h : allV n lo hi = true) (hk : k ≤ n) : allV k lo hi = true := by
  induction n with
  | zero => obtain rfl : k = 0 := by omega
            exact h
  | succ n ih =>
    by_cases e : k = n + 1
    · subst e; exact h
    · rw [allV_succ, Bool.and_eq_true] at h
      exact ih h.1 (by omega)
theorem allV_at {n k : Nat} {lo hi : Nat → Int} (h : allV n lo hi = true) (hk : k < n) : validB (lo k) (hi k) = true := by
  have := allV_of h (show k + 1 ≤ n by omega)
  rw [allV_succ, Bool.and_eq_true] at this
  exact this.2
/-- The sums of the bounds, with an error number. -/
def totS (n : Nat) (lo hi : Nat → Int) : R := if 10000 < n then ⟨0, 0, 4⟩ else if allV n lo hi then ⟨sumF n lo, sumF n hi, 0⟩ else ⟨0, 0, 1⟩
theorem errV_ok {n : Nat} {lo hi : Nat → Int} (h : allV n lo hi = true) : errV n lo hi = 0 := by unfold errV; rw [h]; rfl
theorem errV_bad {n : Nat} {lo hi : Nat → Int} (h : allV n lo hi = false) : errV n lo hi = 1 := by unfold errV; rw [h]; rfl
theorem checkL_any (A : Option Addr) (n cap : Nat) (lo hi : Nat → Int) (w : World) (hn : n ≤ 140737488351232) (h : SpansAt w A n lo hi) :
    Calls Try.prog 27 #[.slice A n cap] w fun e w' => e = .returned (.int .i64 (errV n lo hi)) ∧ Kept w w' := check_any A n cap lo hi w hn h
set_option maxRecDepth 100000 in
set_option maxHeartbeats 1000000 in
theorem total_any (A : Option Addr) (n cap : Nat) (lo hi : Nat → Int) (w : World) (hn : n ≤ 140737488351232) (hs : SpansAt w A n lo hi) :
    Calls Try.prog 40 #[.slice A n cap] w fun e w' => e = .returned (.tuple #[.int .i64 (totS n lo hi).lo, .int .i64 (totS n lo hi).hi, .int .i64 (totS n lo hi).e]) ∧ Kept w w' := by
  by_cases h1 : 10000 < n
  · have e : totS n lo hi = ⟨0, 0, 4⟩ := if_pos h1
    rw [e]
    clear e
    go_enter Try.func40, Try.ntmps40
    go_wp2_with fail
    go_ret3
    exact ⟨rfl, by (repeat (first | exact Kept.refl _ | assumption | refine Kept.alloc ?_ _ | refine Kept.ext ?_ _ | refine Kept.drew ?_ | refine Kept.drewN ?_ _))⟩
  cases h2 : allV n lo hi
  · have e : totS n lo hi = ⟨0, 0, 1⟩ := by unfold totS; rw [if_neg h1, h2]; rfl
    rw [e]
    have e1 := errV_bad h2
    clear e h2
    go_enter Try.func40, Try.ntmps40
    go_wp2_with fail
    refine (checkL_any _ _ _ lo hi _ (by omega) hs).mono ?_
    rintro e w1 ⟨rfl, x, rfl⟩
    go_wp2_with fail
    go_ret3
    exact ⟨rfl, by (repeat (first | exact Kept.refl _ | assumption | refine Kept.alloc ?_ _ | refine Kept.ext ?_ _ | refine Kept.drew ?_ | refine Kept.drewN ?_ _))⟩
  · have e : totS n lo hi = ⟨sumF n lo, sumF n hi, 0⟩ := by unfold totS; rw [if_neg h1, h2]; rfl
    rw [e]
    have e1 := errV_ok h2
    have H2 := Lib.hid h2
    clear e h2
    rcases Nat.eq_zero_or_pos n with rfl | h0
    · go_enter Try.func40, Try.ntmps40
      go_wp2_with fail
      refine (checkL_any _ _ _ lo hi _ (by omega) hs).mono ?_
      rintro e w1 ⟨rfl, x, rfl⟩
      go_wp2_with fail
      go_loopw [2, 3, 18] (fun a b i wr => a = .int .i64 0 ∧ b = .int .i64 0 ∧ i = .int .i64 0 ∧ ∃ y, wr = ext w y) (fun _ _ _ _ => 0)
      case atStart => exact ⟨rfl, rfl, rfl, show Kept _ _ by (repeat (first | exact Kept.refl _ | assumption | refine Kept.alloc ?_ _ | refine Kept.ext ?_ _ | refine Kept.drew ?_ | refine Kept.drewN ?_ _))⟩
      case round =>
        obtain ⟨rfl, rfl, rfl, y, rfl⟩ := hrel
        go_wp2_with fail
        go_ret3
        exact ⟨rfl, by (repeat (first | exact Kept.refl _ | assumption | refine Kept.alloc ?_ _ | refine Kept.ext ?_ _ | refine Kept.drew ?_ | refine Kept.drewN ?_ _))⟩
    · obtain ⟨b, off, rfl, hb, hcell⟩ := hs h0
      have hs' := Lib.hid hs
      clear hs
      have LB : Lower b w.heap.size := ⟨hb⟩
      go_enter Try.func40, Try.ntmps40
      go_wp2_with fail
      refine (checkL_any _ _ _ lo hi _ (by omega) hs'.out).mono ?_
      rintro e w1 ⟨rfl, x, rfl⟩
      go_wp2_with fail
      go_loopw [2, 3, 18] (fun a c i wr => ∃ k : Nat, k ≤ n ∧ a = .int .i64 (sumF k lo) ∧ c = .int .i64 (sumF k hi) ∧ i = .int .i64 k ∧ ∃ y, wr = ext w y) (fun _ _ i _ => n - (intOf i).toNat)
      case atStart => exact ⟨0, by omega, rfl, rfl, rfl, show Kept _ _ by (repeat (first | exact Kept.refl _ | assumption | refine Kept.alloc ?_ _ | refine Kept.ext ?_ _ | refine Kept.drew ?_ | refine Kept.drewN ?_ _))⟩
      case round =>
        obtain ⟨k, hk, rfl, rfl, rfl, y, rfl⟩ := hrel
        by_cases hlt : k < n
        · obtain ⟨c0, c1⟩ := hcell k hlt
          have b1 := sumF_bd (allV_of H2.out hk)
          have b2 := valid_bd (allV_at H2.out hlt)
          go_wp2_with fail
          go_roundw
          case rel => exact ⟨k + 1, by omega, rfl, rfl, by go_num, show Kept w _ by (repeat (first | exact Kept.refl _ | assumption | refine Kept.alloc ?_ _ | refine Kept.ext ?_ _ | refine Kept.drew ?_ | refine Kept.drewN ?_ _))⟩
          case measure => simp [intOf]; omega
        · obtain rfl : k = n := by omega
          go_wp2_with fail
          go_ret3
          exact ⟨rfl, by (repeat (first | exact Kept.refl _ | assumption | refine Kept.alloc ?_ _ | refine Kept.ext ?_ _ | refine Kept.drew ?_ | refine Kept.drewN ?_ _))⟩
end Go.Proofs.Ytodmdicegkjicaa
namespace Go.Proofs.Ytodmdicegkjicaa
set_option linter.unusedVariables false
set_option linter.unusedSimpArgs false
open Go.ChangeShapes Go.WideShapes Go.ChangeAt Go.RowKit
def sumsS (n : Nat) (lo hi : Nat → Int) : R := if (totS n lo hi).e = 0 then resultS (totS n lo hi).lo (totS n lo hi).hi else ⟨0, 0, (totS n lo hi).e⟩
theorem tot_cases (n : Nat) (lo hi : Nat → Int) : (totS n lo hi = ⟨sumF n lo, sumF n hi, 0⟩ ∧ n ≤ 10000 ∧ allV n lo hi = true) ∨ totS n lo hi = ⟨0, 0, 4⟩ ∨ totS n lo hi = ⟨0, 0, 1⟩ := by
  unfold totS
  by_cases h : 10000 < n
  · rw [if_pos h]; exact .inr (.inl rfl)
  · rw [if_neg h]
    cases hv : allV n lo hi
    · exact .inr (.inr rfl)
    · exact .inl ⟨rfl, by omega, rfl⟩
set_option maxRecDepth 100000 in
theorem ssum_any (A : Option Addr) (n cap : Nat) (lo hi : Nat → Int) (w : World) (hn : n ≤ 140737488351232) (hs : SpansAt w A n lo hi) :
    Calls Try.prog 23 #[.slice A n cap] w fun e w' => e = .returned (.tuple #[.agg #[.int .i64 (sumsS n lo hi).lo, .int .i64 (sumsS n lo hi).hi], .int .i64 (sumsS n lo hi).e]) ∧ Kept w w' := by
  rcases tot_cases n lo hi with ⟨e, -⟩ | e | e
  all_goals
    have e2 : sumsS n lo hi = sumsS n lo hi := rfl
    conv at e2 => rhs; unfold sumsS; rw [e]
    first | rw [if_pos rfl] at e2 | rw [if_neg (by decide)] at e2
    rw [e2]
    clear e2
    have hs' := Lib.hid hs
    clear hs
    go_enter Try.func23, Try.ntmps23
    go_wp2_with fail
    refine (total_any _ _ _ lo hi _ (by omega) (hs'.out.of (by (repeat (first | exact Kept.refl _ | assumption | refine Kept.alloc ?_ _ | refine Kept.ext ?_ _ | refine Kept.drew ?_ | refine Kept.drewN ?_ _))))).mono ?_
    rintro e w1 ⟨rfl, x, rfl⟩
    rw [e]
    go_wp2_with (first | (go_at_call 39; refine (result_any _ _ _).mono ?_; rintro e w1 ⟨rfl, x, rfl⟩))
    refine bodyPost_ret (by simp only [results, Try.results23]; go_simp; rfl) rfl ?_
    refine ⟨rfl, ?_⟩
    (repeat (first | exact Kept.refl _ | assumption | refine Kept.alloc ?_ _ | refine Kept.ext ?_ _ | refine Kept.drew ?_ | refine Kept.drewN ?_ _))
end Go.Proofs.Ytodmdicegkjicaa

