/- Contracts: the table of operations, and what each of them does. No conditions but bounds on numbers. -/
import Derived.Test.YtldchncnadllpaaChk
import Derived.Test.YtldchncnadllpaaNumb
import Derived.MapKept
namespace Go.Proofs.Ytldchncnadllpaa
set_option linter.unusedVariables false
set_option linter.unusedSimpArgs false
open Go.RowKit Go.MapKept
/-! ### A map that the call has just made, with keys of one integer kind -/
@[go_sem] def noKey (k : Int) (es : List MapEntry) : Bool := es.all fun e => match e.key with | .int .u8 b => k != b | _ => false
theorem findNow_none {k : Int} : ∀ (es : List MapEntry) (i : Nat), noKey k es = true → Instr.findNow (.int .u8) (.int .u8 k) es i = some none
  | [], _, _ => rfl
  | e :: es, i, h => by
    obtain ⟨key, v, b⟩ := e
    simp only [noKey, List.all_cons, Bool.and_eq_true] at h
    obtain ⟨h1, h2⟩ := h
    cases key with
    | int j n =>
      cases j with
      | u8 =>
        have h3 : (k == n) = false := by simpa using h1
        simp only [Instr.findNow, Instr.sameNow, if_true, h3]
        exact findNow_none es (i + 1) h2
      | _ => cases h1
    | _ => cases h1
theorem push_set (h : Array Obj) (o o' : Obj) : (h.push o).setIfInBounds h.size o' = h.push o' := by
  apply Array.ext_getElem?
  intro i
  rw [Array.getElem?_setIfInBounds, Array.getElem?_push, Array.getElem?_push, Array.size_push]
  by_cases hi : h.size = i
  · subst hi; simp
  · have : ¬ i = h.size := fun e => hi e.symm
    simp [hi, this]
theorem insert_new {P : Program} (t kt et : TypeId) (hm : P.underlying t = some (.map kt et)) (hk : P.underlying kt = some (.int .u8)) (w : World) (n : Nat) (hn : n = w.heap.size) (es : Array MapEntry) (clock : Nat) (k : Int) (v : Value) (h : noKey k es.toList = true) :
    (Instr.mapUpdate t (.map (some n)) (.int .u8 k) v).run P (w.alloc (.map es clock)) = .ok () (w.alloc (.map (es.push { key := .int .u8 k, val := v, born := clock }) (clock + 1))) := by
  subst hn
  have hb : (w.alloc (.map es clock)).heap[w.heap.size]? = some (.map es clock) := (Go.MapKept.heap_alloc w _).1
  have hf : (Instr.findKey kt (.int .u8 k) es.toList).run P (w.alloc (.map es clock)) = .ok none (w.alloc (.map es clock)) := Go.MapKept.run_findKey hk (findNow_none _ _ h)
  simp only [Instr.mapUpdate, Sem.run_bind, run_underlying hm, Result.andThen, Go.MapKept.run_getObj_map hb, Go.MapKept.run_checkKey hk (show IsKey (.int .u8) (.int .u8 k) from rfl) false 9999, hf, Go.MapKept.run_setObj_map _ hb]
  simp only [World.alloc, push_set]
theorem look_up {P : Program} (t kt et : TypeId) (hm : P.underlying t = some (.map kt et)) (hk : P.underlying kt = some (.int .u8)) (w : World) (n : Nat) (hn : n = w.heap.size) (es : Array MapEntry) (clock : Nat) (k : Int) (i : Nat) (v : Value) (h : Instr.findNow (.int .u8) (.int .u8 k) es.toList 0 = some (some (i, v))) :
    (Instr.lookup t (.map (some n)) (.int .u8 k) false).run P (w.alloc (.map es clock)) = .ok v (w.alloc (.map es clock)) := by
  subst hn
  have hb : (w.alloc (.map es clock)).heap[w.heap.size]? = some (.map es clock) := (Go.MapKept.heap_alloc w _).1
  simp [Instr.lookup, run_underlying hm, Result.andThen, Go.MapKept.run_getObj_map hb, Go.MapKept.run_checkKey hk (show IsKey (.int .u8) (.int .u8 k) from rfl) es.isEmpty 9999, Go.MapKept.run_findKey hk h]
def fnVal (f : FuncId) : Value := .func (.func f) #[] #[]
def opsMap : Array MapEntry := #[
  { key := .int .u8 43, val := .agg #[.func (.func 82) #[] #[], .func (.func 83) #[] #[]], born := 0 },
  { key := .int .u8 45, val := .agg #[.func (.func 82) #[] #[], .func (.func 84) #[] #[]], born := 1 },
  { key := .int .u8 42, val := .agg #[.func (.func 82) #[] #[], .func (.func 85) #[] #[]], born := 2 },
  { key := .int .u8 47, val := .agg #[.func (.func 89) #[] #[], .func (.func 90) #[] #[]], born := 3 }]
def opE (k : Int) (c o : FuncId) (n : Nat) : MapEntry := { key := .int .u8 k, val := .agg #[.func (.func c) #[] #[], .func (.func o) #[] #[]], born := n }
theorem op_in (w : World) (n : Nat) (hn : n = w.heap.size) (es : Array MapEntry) (clock : Nat) (k : Int) (c o : FuncId) (h : noKey k es.toList = true) :
    (Instr.mapUpdate 106 (.map (some n)) (.int .u8 k) (.agg #[.func (.func c) #[] #[], .func (.func o) #[] #[]])).run Try.prog (w.alloc (.map es clock)) = .ok () (w.alloc (.map (es.push (opE k c o clock)) (clock + 1))) :=
  insert_new _ _ _ Try.underlying106 Try.underlying5 w n hn es clock k _ h
set_option maxHeartbeats 400000 in
theorem operations_any (w : World) :
    Calls Try.prog 78 #[] w fun e w' => e = .returned (.map (some w.heap.size)) ∧ w.alloc (.map opsMap 4) = w' := by
  have hmm := @run_makeMap Try.prog
  have i1 := op_in w w.heap.size rfl #[] 0 43 82 83 rfl
  have i2 := op_in w w.heap.size rfl #[opE 43 82 83 0] 1 45 82 84 rfl
  have i3 := op_in w w.heap.size rfl #[opE 43 82 83 0, opE 45 82 84 1] 2 42 82 85 rfl
  have i4 := op_in w w.heap.size rfl #[opE 43 82 83 0, opE 45 82 84 1, opE 42 82 85 2] 3 47 89 90 rfl
  go_enter Try.func78, Try.ntmps78
  go_wp2
  go_ret
  exact ⟨rfl, rfl⟩
theorem look_op (w : World) (n : Nat) (hn : n = w.heap.size) (k : Int) (i : Nat) (c o : FuncId) (h : Instr.findNow (.int .u8) (.int .u8 k) opsMap.toList 0 = some (some (i, .agg #[.func (.func c) #[] #[], .func (.func o) #[] #[]]))) :
    (Instr.lookup 106 (.map (some n)) (.int .u8 k) false).run Try.prog (w.alloc (.map opsMap 4)) = .ok (.agg #[.func (.func c) #[] #[], .func (.func o) #[] #[]]) (w.alloc (.map opsMap 4)) :=
  look_up _ _ _ Try.underlying106 Try.underlying5 w n hn opsMap 4 k i _ h
@[go_sem] theorem look_add (w : World) (n : Nat) (hn : n = w.heap.size) : (Instr.lookup 106 (.map (some n)) (.int .u8 43) false).run Try.prog (w.alloc (.map opsMap 4)) = .ok (.agg #[.func (.func 82) #[] #[], .func (.func 83) #[] #[]]) (w.alloc (.map opsMap 4)) := look_op w n hn _ 0 _ _ rfl
@[go_sem] theorem look_sub (w : World) (n : Nat) (hn : n = w.heap.size) : (Instr.lookup 106 (.map (some n)) (.int .u8 45) false).run Try.prog (w.alloc (.map opsMap 4)) = .ok (.agg #[.func (.func 82) #[] #[], .func (.func 84) #[] #[]]) (w.alloc (.map opsMap 4)) := look_op w n hn _ 1 _ _ rfl
@[go_sem] theorem look_mul (w : World) (n : Nat) (hn : n = w.heap.size) : (Instr.lookup 106 (.map (some n)) (.int .u8 42) false).run Try.prog (w.alloc (.map opsMap 4)) = .ok (.agg #[.func (.func 82) #[] #[], .func (.func 85) #[] #[]]) (w.alloc (.map opsMap 4)) := look_op w n hn _ 2 _ _ rfl
@[go_sem] theorem look_div (w : World) (n : Nat) (hn : n = w.heap.size) : (Instr.lookup 106 (.map (some n)) (.int .u8 47) false).run Try.prog (w.alloc (.map opsMap 4)) = .ok (.agg #[.func (.func 89) #[] #[], .func (.func 90) #[] #[]]) (w.alloc (.map opsMap 4)) := look_op w n hn _ 3 _ _ rfl
theorem allowed_any (lo hi : Int) (w : World) :
    Calls Try.prog 82 #[.agg #[.int .i64 lo, .int .i64 hi]] w fun e w' => e = .returned (.int .i64 0) ∧ Kept w w' := by
  go_enter Try.func82, Try.ntmps82
  go_wp2
  go_ret
  exact ⟨rfl, by (repeat (first | exact Kept.refl _ | assumption | refine Kept.alloc ?_ _ | refine Kept.ext ?_ _ | refine Kept.drew ?_ | refine Kept.drewN ?_ _))⟩
def zeroIn (lo hi : Int) : Int := if lo ≤ 0 ∧ 0 ≤ hi then 11 else 0
theorem notzero_any (lo hi : Int) (w : World) :
    Calls Try.prog 89 #[.agg #[.int .i64 lo, .int .i64 hi]] w fun e w' => e = .returned (.int .i64 (zeroIn lo hi)) ∧ Kept w w' := by
  go_enter Try.func89, Try.ntmps89
  go_wp2
  all_goals (go_ret; exact ⟨ret_int (by unfold zeroIn; first | (rw [if_pos (by omega)]; done) | (rw [if_neg (by omega)]; done)), by (repeat (first | exact Kept.refl _ | assumption | refine Kept.alloc ?_ _ | refine Kept.ext ?_ _ | refine Kept.drew ?_ | refine Kept.drewN ?_ _))⟩)
set_option maxHeartbeats 400000 in
theorem plus_any (al ah bl bh : Int) (w : World) (h : (-1099511627776 ≤ al ∧ al ≤ 1099511627776) ∧ (-1099511627776 ≤ ah ∧ ah ≤ 1099511627776) ∧ (-1099511627776 ≤ bl ∧ bl ≤ 1099511627776) ∧ (-1099511627776 ≤ bh ∧ bh ≤ 1099511627776)) :
    Calls Try.prog 83 #[.agg #[.int .i64 al, .int .i64 ah], .agg #[.int .i64 bl, .int .i64 bh]] w fun e w' => e = .returned (.tuple #[.int .i64 (al + bl), .int .i64 (ah + bh)]) ∧ Kept w w' := by
  go_enter Try.func83, Try.ntmps83
  go_wp2
  ((first | (with_reducible refine wp_region_kept2 (by kernel_rfl) (by kernel_rfl) ?_) | refine wp_region_kept (by kernel_rfl) (by kernel_rfl) ?_); (repeat (go_big_quiet_step (first | fail))); refine wpQuiet_nil ?_; intro x)
  go_wp2
  go_ret2
  exact ⟨rfl, by (repeat (first | exact Kept.refl _ | assumption | refine Kept.alloc ?_ _ | refine Kept.ext ?_ _ | refine Kept.drew ?_ | refine Kept.drewN ?_ _))⟩
set_option maxHeartbeats 400000 in
theorem minus_any (al ah bl bh : Int) (w : World) (h : (-1099511627776 ≤ al ∧ al ≤ 1099511627776) ∧ (-1099511627776 ≤ ah ∧ ah ≤ 1099511627776) ∧ (-1099511627776 ≤ bl ∧ bl ≤ 1099511627776) ∧ (-1099511627776 ≤ bh ∧ bh ≤ 1099511627776)) :
    Calls Try.prog 84 #[.agg #[.int .i64 al, .int .i64 ah], .agg #[.int .i64 bl, .int .i64 bh]] w fun e w' => e = .returned (.tuple #[.int .i64 (al - bh), .int .i64 (ah - bl)]) ∧ Kept w w' := by
  go_enter Try.func84, Try.ntmps84
  go_wp2
  ((first | (with_reducible refine wp_region_kept2 (by kernel_rfl) (by kernel_rfl) ?_) | refine wp_region_kept (by kernel_rfl) (by kernel_rfl) ?_); (repeat (go_big_quiet_step (first | fail))); refine wpQuiet_nil ?_; intro x)
  go_wp2
  go_ret2
  exact ⟨rfl, by (repeat (first | exact Kept.refl _ | assumption | refine Kept.alloc ?_ _ | refine Kept.ext ?_ _ | refine Kept.drew ?_ | refine Kept.drewN ?_ _))⟩
theorem and_mask20 (x : Int) : bits .and .i64 x 1048575 = x % 1048576 := by
  show IntKind.i64.wrap ((BitVec.ofInt 64 x &&& BitVec.ofInt 64 1048575).toNat : Int) = _
  have e : (BitVec.ofInt 64 1048575).toNat = 2 ^ 20 - 1 := by decide
  rw [BitVec.toNat_and, e, Nat.and_two_pow_sub_one_eq_mod, BitVec.toNat_ofInt, IntKind.wrap_i64]
  omega
set_option maxHeartbeats 400000 in
theorem tdown_any (x y : Int) (w : World) (h : (-1099511627776 ≤ x ∧ x ≤ 1099511627776) ∧ (-1099511627776 ≤ y ∧ y ≤ 1099511627776)) :
    Calls Try.prog 87 #[.int .i64 x, .int .i64 y] w fun e w' => e = .returned (.int .i64 (x * y / 1048576)) ∧ w = w' := by
  have m1 := mul_bd (a := x / 1048576) (b := y) (A := 1048576) (B := 1099511627776) 1152921504606846976 (by omega) h.2 (by decide)
  have m2 := mul_bd (a := x % 1048576) (b := y) (A := 1048576) (B := 1099511627776) 1152921504606846976 (by omega) h.2 (by decide)
  have e := and_mask20 x
  have f := floor_parts x y
  have F := Lib.hid f
  have m3 := mul_bd (a := x) (b := y) (A := 1099511627776) (B := 1099511627776) 1208925819614629174706176 h.1 h.2 (by decide)
  clear f
  go_enter Try.func87, Try.ntmps87
  go_wp2
  go_ret
  exact ⟨ret_int F.out, rfl⟩
theorem up_def (x y : Int) : -(-x * y / 1048576) = -(-(x * y) / 1048576) := by rw [Int.neg_mul]
set_option maxHeartbeats 400000 in
theorem tup_any (x y : Int) (w : World) (h : (-1099511627776 ≤ x ∧ x ≤ 1099511627776) ∧ (-1099511627776 ≤ y ∧ y ≤ 1099511627776)) :
    Calls Try.prog 88 #[.int .i64 x, .int .i64 y] w fun e w' => e = .returned (.int .i64 (-(-(x * y) / 1048576))) ∧ w = w' := by
  have m3 := mul_bd (a := -x) (b := y) (A := 1099511627776) (B := 1099511627776) 1208925819614629174706176 (by omega) h.2 (by decide)
  have m4 : -1152921504606846976 ≤ -x * y / 1048576 ∧ -x * y / 1048576 ≤ 1152921504606846976 := by omega
  go_enter Try.func88, Try.ntmps88
  go_wp2_with (first | (go_at_call 87; refine (tdown_any _ _ _ (by omega)).mono ?_; rintro e w1 ⟨rfl, rfl⟩))
  go_ret
  exact ⟨ret_int (up_def x y), rfl⟩
def min4 (f : Int → Int → Int) (al ah bl bh : Int) : Int := min (f al bl) (min (f al bh) (min (f ah bl) (f ah bh)))
def max4 (f : Int → Int → Int) (al ah bl bh : Int) : Int := max (f al bl) (max (f al bh) (max (f ah bl) (f ah bh)))
set_option maxHeartbeats 400000 in
theorem corners_any (F G : FuncId) (f g : Int → Int → Int) (al ah bl bh : Int) (w : World)
    (cF : ∀ args w, (callFunc F args).run Try.prog w = .ok (.enter F args) w) (cG : ∀ args w, (callFunc G args).run Try.prog w = .ok (.enter G args) w)
    (hF : ∀ x y w, (x = al ∨ x = ah) → (y = bl ∨ y = bh) → Calls Try.prog F #[.int .i64 x, .int .i64 y] w fun e w' => e = .returned (.int .i64 (f x y)) ∧ w = w')
    (hG : ∀ x y w, (x = al ∨ x = ah) → (y = bl ∨ y = bh) → Calls Try.prog G #[.int .i64 x, .int .i64 y] w fun e w' => e = .returned (.int .i64 (g x y)) ∧ w = w') :
    Calls Try.prog 86 #[.agg #[.int .i64 al, .int .i64 ah], .agg #[.int .i64 bl, .int .i64 bh], .func (.func F) #[] #[], .func (.func G) #[] #[]] w fun e w' => e = .returned (.tuple #[.int .i64 (min4 f al ah bl bh), .int .i64 (max4 g al ah bl bh)]) ∧ Kept w w' := by
  have HF := Lib.hid hF
  have HG := Lib.hid hG
  clear hF hG
  go_enter Try.func86, Try.ntmps86
  go_wp2_with fail
  refine wp_region_kept (by kernel_rfl) (by kernel_rfl) ?_
  repeat (go_big_quiet_step (exact Calls.kept_same (HF.out _ _ _ (by simp) (by simp))))
  refine wpQuiet_nil ?_
  intro x
  go_wp2_with fail
  refine wp_region_kept2 (by kernel_rfl) (by kernel_rfl) ?_
  repeat (go_big_quiet_step (exact Calls.kept_same (HG.out _ _ _ (by simp) (by simp))))
  refine wpQuiet_nil ?_
  intro x
  go_wp2_with fail
  go_ret2
  exact ⟨rfl, by (repeat (first | exact Kept.refl _ | assumption | refine Kept.alloc ?_ _ | refine Kept.ext ?_ _ | refine Kept.drew ?_ | refine Kept.drewN ?_ _))⟩
def fDown (x y : Int) : Int := x * y / 1048576
def fUp (x y : Int) : Int := -(-(x * y) / 1048576)
def qDown (x y : Int) : Int := (x * 1048576).fdiv y
def qUp (x y : Int) : Int := -((-(x * 1048576)).fdiv y)
def Fix (x : Int) : Prop := -1099511627776 ≤ x ∧ x ≤ 1099511627776
set_option maxHeartbeats 400000 in
theorem times_any (al ah bl bh : Int) (w : World) (h1 : Fix al) (h2 : Fix ah) (h3 : Fix bl) (h4 : Fix bh) :
    Calls Try.prog 85 #[.agg #[.int .i64 al, .int .i64 ah], .agg #[.int .i64 bl, .int .i64 bh]] w fun e w' => e = .returned (.tuple #[.int .i64 (min4 fDown al ah bl bh), .int .i64 (max4 fUp al ah bl bh)]) ∧ Kept w w' := by
  have hx : ∀ x, x = al ∨ x = ah → Fix x := fun x h => by rcases h with rfl | rfl <;> assumption
  have hy : ∀ y, y = bl ∨ y = bh → Fix y := fun x h => by rcases h with rfl | rfl <;> assumption
  have C := fun w => corners_any 87 88 fDown fUp al ah bl bh w (fun _ _ => by kernel_rfl) (fun _ _ => by kernel_rfl) (fun x y w k1 k2 => tdown_any x y w ⟨hx x k1, hy y k2⟩) (fun x y w k1 k2 => tup_any x y w ⟨hx x k1, hy y k2⟩)
  have CC := Lib.hid C
  clear C hx hy
  go_enter Try.func85, Try.ntmps85
  go_wp2_with (go_at_call 86; refine (CC.out _).mono ?_; rintro e w1 ⟨rfl, x, rfl⟩)
  go_ret2
  exact ⟨rfl, by (repeat (first | exact Kept.refl _ | assumption | refine Kept.alloc ?_ _ | refine Kept.ext ?_ _ | refine Kept.drew ?_ | refine Kept.drewN ?_ _))⟩
set_option maxHeartbeats 400000 in
theorem qdown_any (x y : Int) (w : World) (h1 : Fix x) (h2 : Fix y) (h0 : y ≠ 0) :
    Calls Try.prog 91 #[.int .i64 x, .int .i64 y] w fun e w' => e = .returned (.int .i64 (qDown x y)) ∧ w = w' := by
  obtain ⟨a1, a2⟩ := h1
  obtain ⟨a3, a4⟩ := h2
  go_enter Try.func91, Try.ntmps91
  go_wp2_with (first | (go_at_call 92; refine (down_any _ _ _ (by omega) (by omega) (by omega)).mono ?_; rintro e w1 ⟨rfl, rfl⟩))
  go_ret
  exact ⟨rfl, rfl⟩
set_option maxHeartbeats 400000 in
theorem qup_any (x y : Int) (w : World) (h1 : Fix x) (h2 : Fix y) (h0 : y ≠ 0) :
    Calls Try.prog 93 #[.int .i64 x, .int .i64 y] w fun e w' => e = .returned (.int .i64 (qUp x y)) ∧ w = w' := by
  obtain ⟨a1, a2⟩ := h1
  obtain ⟨a3, a4⟩ := h2
  go_enter Try.func93, Try.ntmps93
  go_wp2_with (first | (go_at_call 94; refine (up_any _ _ _ (by omega) (by omega) (by omega)).mono ?_; rintro e w1 ⟨rfl, rfl⟩))
  go_ret
  exact ⟨rfl, rfl⟩
set_option maxHeartbeats 400000 in
theorem quots_any (al ah bl bh : Int) (w : World) (h1 : Fix al) (h2 : Fix ah) (h3 : Fix bl) (h4 : Fix bh) (n1 : bl ≠ 0) (n2 : bh ≠ 0) :
    Calls Try.prog 90 #[.agg #[.int .i64 al, .int .i64 ah], .agg #[.int .i64 bl, .int .i64 bh]] w fun e w' => e = .returned (.tuple #[.int .i64 (min4 qDown al ah bl bh), .int .i64 (max4 qUp al ah bl bh)]) ∧ Kept w w' := by
  have hx : ∀ x, x = al ∨ x = ah → Fix x := fun x h => by rcases h with rfl | rfl <;> assumption
  have hy : ∀ y, y = bl ∨ y = bh → Fix y := fun x h => by rcases h with rfl | rfl <;> assumption
  have hz : ∀ y, y = bl ∨ y = bh → y ≠ 0 := fun x h => by rcases h with rfl | rfl <;> assumption
  have C := fun w => corners_any 91 93 qDown qUp al ah bl bh w (fun _ _ => by kernel_rfl) (fun _ _ => by kernel_rfl) (fun x y w k1 k2 => qdown_any x y w (hx x k1) (hy y k2) (hz y k2)) (fun x y w k1 k2 => qup_any x y w (hx x k1) (hy y k2) (hz y k2))
  have CC := Lib.hid C
  clear C hx hy hz
  go_enter Try.func90, Try.ntmps90
  go_wp2_with (go_at_call 86; refine (CC.out _).mono ?_; rintro e w1 ⟨rfl, x, rfl⟩)
  go_ret2
  exact ⟨rfl, by (repeat (first | exact Kept.refl _ | assumption | refine Kept.alloc ?_ _ | refine Kept.ext ?_ _ | refine Kept.drew ?_ | refine Kept.drewN ?_ _))⟩
end Go.Proofs.Ytldchncnadllpaa
