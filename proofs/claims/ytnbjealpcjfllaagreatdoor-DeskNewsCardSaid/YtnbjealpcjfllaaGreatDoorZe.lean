/- Contracts: the check of lists of spans, and what needs it alone. No conditions but that the list's cells can be read. Contracts: common parts, inclusion and order of spans, and the statement SpanMeets. No conditions. Contract: the product of two words as two words. Conditions: those of the theorem. The square roots of the program and of the reference: the greatest number whose square is at most n. Under the premises of each theorem. Parts of panels, far and near distances of corners, and rims: plain functions and their bounds. Conditions: those of each theorem. Contracts: inverse roots and their cubes, of the program and of the reference. Under the premises of each theorem. For every input the statement SpanInverses returns true and leaves its arguments as they were. No conditions. What parts of a panel are worth, seen from a triangle: lower bounds are at most upper ones. Plain facts. Conditions: those of each theorem. Contracts: the table of operations, and what each of them does. No conditions but bounds on numbers. Contracts: sums, differences, products and quotients of spans. No conditions. Contracts of the reference's sums, differences, products and quotients of spans. No conditions. Contracts of the squares of spans, of the program and of the reference. No conditions. Contracts: products and quotients of spans by whole numbers. No conditions. What a panel is worth, seen from a triangle, as sums over its parts. Plain facts. Conditions: those of each theorem. Contracts: roots of whole numbers, of the program and of the reference. No conditions. Plain lemmas about the spec functions: what good results are. No conditions. Contracts: sums and means of lists of spans, of the program and of the reference. No conditions but that the list's cells can be read. Contracts: sums and means of lists of spans as results, of the program and of the reference. No conditions but that the cells of the list can be read. Contract: the document's box has the document's volume and center. No conditions. For every input the statement ShapeNormals returns true and leaves its argument as it was. No conditions. Contracts: volumes and centers of meshes, of the program and of the reference. Conditions: the lists' lengths are ints. What a point and a mesh are worth to each other: whether it lies on the surface, and its winding number, as plain functions. No conditions but those of each theorem. What a capacity lies between, by potentials, energy and a ball: plain functions of points, faces, charges and a depth. No conditions. Bounds of what panels, potentials and energies are worth. Conditions: those of each theorem. Bounds of potentials, energies and what they are divided by. Conditions: those of each theorem. Tables: lists of lists of spans that a call makes by append, and how they are read. Conditions: those of each theorem. Contracts: which charges are right, sums and bounds of charges, of the program. Conditions: those of each theorem. -/
import Derived.Test.YtnbjealpcjfllaaGreatDoorQuo
import Derived.Test.YtnbjealpcjfllaaGreatDoorQuob
import Derived.Test.YtnbjealpcjfllaaGreatDoorBas
import Derived.Lib.Mul64
import Derived.Laws.Bits64b
import Derived.Test.YtnbjealpcjfllaaGreatDoorNmb
import Derived.WalkMore
import Derived.ScopeJumps
import Derived.Test.YtnbjealpcjfllaaGreatDoorPnl
import Derived.MapKept
import Derived.Laws.EntriesVeiled
import Derived.Test.YtnbjealpcjfllaaGreatDoorOpr
import Derived.Test.YtnbjealpcjfllaaGreatDoorGbl
import Derived.Test.YtnbjealpcjfllaaGreatDoorGrq
import Derived.Test.YtnbjealpcjfllaaGreatDoorZa
import Derived.Test.YtnbjealpcjfllaaGreatDoorGrc
import Derived.Test.YtnbjealpcjfllaaGreatDoorCop
import Derived.Test.YtnbjealpcjfllaaGreatDoorGcv
import Derived.Test.YtnbjealpcjfllaaGreatDoorGva
namespace Go.Proofs.YtnbjealpcjfllaaGreatDoor
set_option linter.unusedVariables false
set_option linter.unusedSimpArgs false
open Go.RowKit
/-- A slice of n spans that can be read: its bounds. -/
def SpansAt (w : World) (A : Option Addr) (n : Nat) (lo hi : Nat → Int) : Prop :=
  0 < n → ∃ b off, A = some ⟨b, off, none⟩ ∧ b < w.heap.size ∧ ∀ k, k < n → w.cell? ⟨b, off + k * 2, none⟩ = some (.int .i64 (lo k)) ∧ w.cell? ⟨b, off + k * 2 + 1, none⟩ = some (.int .i64 (hi k))
def allV (n : Nat) (lo hi : Nat → Int) : Bool := (List.range n).all fun k => validB (lo k) (hi k)
theorem allV_succ (n : Nat) (lo hi : Nat → Int) : allV (n + 1) lo hi = (allV n lo hi && validB (lo n) (hi n)) := by
  simp [allV, List.range_succ]
theorem allV_false {n k : Nat} {lo hi : Nat → Int} (hk : k < n) (h : validB (lo k) (hi k) = false) : allV n lo hi = false := by
  unfold allV
  rw [List.all_eq_false]
  exact ⟨k, List.mem_range.2 hk, by simp [h]⟩
def errV (n : Nat) (lo hi : Nat → Int) : Int := if allV n lo hi then 0 else 1
set_option maxHeartbeats 400000 in
theorem check_any (A : Option Addr) (n cap : Nat) (lo hi : Nat → Int) (w : World) (hn : n ≤ 140737488351232) (h : SpansAt w A n lo hi) :
    Calls Tryz.prog 126 #[.slice A n cap] w fun e w' => e = .returned (.int .i64 (errV n lo hi)) ∧ Kept w w' := by
  rcases Nat.eq_zero_or_pos n with rfl | h0
  · go_enter Tryz.func126, Tryz.ntmps126
    go_wp2
    go_loopw [7] (fun i wr => i = .int .i64 0 ∧ wr = w) (fun _ _ => 0)
    case atStart => exact ⟨rfl, rfl⟩
    case round =>
      obtain ⟨rfl, rfl⟩ := hrel
      go_wp2
      go_ret
      exact ⟨rfl, Kept.refl _⟩
  · obtain ⟨b, off, rfl, hb, hcell⟩ := h h0
    have LB : Lower b w.heap.size := ⟨hb⟩
    go_enter Tryz.func126, Tryz.ntmps126
    go_wp2
    go_loopw [7] (fun i wr => ∃ k : Nat, k ≤ n ∧ i = .int .i64 k ∧ allV k lo hi = true ∧ ∃ x, wr = ext w x) (fun i _ => n - (intOf i).toNat)
    case atStart => exact ⟨0, Nat.zero_le _, rfl, rfl, (Kept.refl _)⟩
    case round =>
      obtain ⟨k, hk, rfl, hv, x, rfl⟩ := hrel
      by_cases hlt : k < n
      · obtain ⟨c0, c1⟩ := hcell k hlt
        cases hvk : validB (lo k) (hi k)
        · go_wp2_with (first | (go_at_call 122; refine (valid_any _ _ _).mono ?_; rintro e w1 ⟨rfl, x, rfl⟩))
          go_ret
          exact ⟨ret_int (by rw [errV, allV_false hlt hvk]; rfl), by (repeat (first | exact Kept.refl _ | assumption | refine Kept.alloc ?_ _ | refine Kept.ext ?_ _ | refine Kept.drew ?_ | refine Kept.drewN ?_ _))⟩
        · go_wp2_with (first | (go_at_call 122; refine (valid_any _ _ _).mono ?_; rintro e w1 ⟨rfl, x, rfl⟩))
          go_roundw
          case rel => exact ⟨k + 1, by omega, by go_num, by rw [allV_succ, hv, hvk]; rfl, show Kept w _ by (repeat (first | exact Kept.refl _ | assumption | refine Kept.alloc ?_ _ | refine Kept.ext ?_ _ | refine Kept.drew ?_ | refine Kept.drewN ?_ _))⟩
          case measure => simp [intOf]; omega
      · obtain rfl : k = n := by omega
        go_wp2_with (first | (go_at_call 122; refine (valid_any _ _ _).mono ?_; rintro e w1 ⟨rfl, x, rfl⟩))
        go_ret
        exact ⟨ret_int (by rw [errV, hv]; rfl), by (repeat (first | exact Kept.refl _ | assumption | refine Kept.alloc ?_ _ | refine Kept.ext ?_ _ | refine Kept.drew ?_ | refine Kept.drewN ?_ _))⟩
/-- Of one span and of two. -/
def pick2 (a b : Int) : Nat → Int := fun k => if k = 0 then a else b
theorem check1_any (al ah : Int) (n : Nat) (w : World) (hn : n = w.heap.size) :
    Calls Tryz.prog 126 #[.slice (some ⟨n, 0, none⟩) 1 1] (w.alloc (.cells #[.int .i64 al, .int .i64 ah] 44)) fun e w' => e = .returned (.int .i64 (if validB al ah then 0 else 1)) ∧ Kept (w.alloc (.cells #[.int .i64 al, .int .i64 ah] 44)) w' := by
  subst hn
  have e : errV 1 (fun _ => al) (fun _ => ah) = if validB al ah then 0 else 1 := by simp [errV, allV, List.range_succ]
  rw [← e]
  refine check_any _ 1 1 _ _ _ (by omega) fun _ => ⟨_, 0, rfl, by simp, fun k hk => ?_⟩
  obtain rfl : k = 0 := by omega
  simp
theorem check2_any (al ah bl bh : Int) (n : Nat) (w : World) (hn : n = w.heap.size) :
    Calls Tryz.prog 126 #[.slice (some ⟨n, 0, none⟩) 2 2] (w.alloc (.cells #[.int .i64 al, .int .i64 ah, .int .i64 bl, .int .i64 bh] 44)) fun e w' => e = .returned (.int .i64 (if validB al ah && validB bl bh then 0 else 1)) ∧ Kept (w.alloc (.cells #[.int .i64 al, .int .i64 ah, .int .i64 bl, .int .i64 bh] 44)) w' := by
  subst hn
  have e : errV 2 (pick2 al bl) (pick2 ah bh) = if validB al ah && validB bl bh then 0 else 1 := by simp [errV, allV, List.range_succ, pick2]
  rw [← e]
  refine check_any _ 2 2 _ _ _ (by omega) fun _ => ⟨_, 0, rfl, by simp, fun k hk => ?_⟩
  rcases (show k = 0 ∨ k = 1 by omega) with rfl | rfl <;> simp [pick2]
end Go.Proofs.YtnbjealpcjfllaaGreatDoor

namespace Go.Proofs.YtnbjealpcjfllaaGreatDoor
set_option linter.unusedVariables false
set_option linter.unusedSimpArgs false
open Go.ChangeShapes Go.WideShapes Go.ChangeAt Go.RowKit
structure M where
  lo : Int
  hi : Int
  ok : Bool
  e : Int
theorem ret_M {a : M} {x y z : Int} {b : Bool} (h : ⟨x, y, b, z⟩ = a) : Ending.returned (.tuple #[.agg #[.int .i64 x, .int .i64 y], .bool b, .int .i64 z]) = Ending.returned (.tuple #[.agg #[.int .i64 a.lo, .int .i64 a.hi], .bool a.ok, .int .i64 a.e]) := by rw [← h]
def meetS (al ah bl bh : Int) : M := if validB al ah && validB bl bh then (if max al bl ≤ min ah bh then ⟨max al bl, min ah bh, true, 0⟩ else ⟨0, 0, false, 0⟩) else ⟨0, 0, false, 1⟩
set_option maxHeartbeats 400000 in
theorem meet_any (al ah bl bh : Int) (w : World) :
    Calls Tryz.prog 73 #[.agg #[.int .i64 al, .int .i64 ah], .agg #[.int .i64 bl, .int .i64 bh]] w fun e w' => e = .returned (.tuple #[.agg #[.int .i64 (meetS al ah bl bh).lo, .int .i64 (meetS al ah bl bh).hi], .bool (meetS al ah bl bh).ok, .int .i64 (meetS al ah bl bh).e]) ∧ Kept w w' := by
  cases h : (validB al ah && validB bl bh)
  · go_enter Tryz.func73, Tryz.ntmps73
    go_wp2_with (first | (go_at_call 126; refine (check2_any _ _ _ _ _ _ (by simp)).mono ?_; rintro e w1 ⟨rfl, x, rfl⟩))
    all_goals (refine bodyPost_ret (by simp only [results, Tryz.results73]; go_simp; rfl) rfl ?_; refine ⟨ret_M (by simp_all [meetS]), ?_⟩; (repeat (first | exact Kept.refl _ | assumption | refine Kept.alloc ?_ _ | refine Kept.ext ?_ _ | refine Kept.drew ?_ | refine Kept.drewN ?_ _)))
  · by_cases hm : max al bl ≤ min ah bh
    all_goals
      go_enter Tryz.func73, Tryz.ntmps73
      go_wp2_with (first | (go_at_call 126; refine (check2_any _ _ _ _ _ _ (by simp)).mono ?_; rintro e w1 ⟨rfl, x, rfl⟩))
      all_goals (refine bodyPost_ret (by simp only [results, Tryz.results73]; go_simp; rfl) rfl ?_; refine ⟨ret_M (by simp only [meetS, h, if_true]; first | (rw [if_pos (by omega)]; done) | (rw [if_neg (by omega)]; done)), ?_⟩; (repeat (first | exact Kept.refl _ | assumption | refine Kept.alloc ?_ _ | refine Kept.ext ?_ _ | refine Kept.drew ?_ | refine Kept.drewN ?_ _)))
end Go.Proofs.YtnbjealpcjfllaaGreatDoor

namespace Go.Proofs.YtnbjealpcjfllaaGreatDoor
set_option linter.unusedVariables false
set_option linter.unusedSimpArgs false
open Go.RowKit
namespace Mul
theorem maskN (a : Nat) (ha : a < 18446744073709551616) : bits .and .u64 (a : Int) 4294967295 = ((a % 4294967296 : Nat) : Int) := by
  have h := bits_and_u64_nat a 4294967295 ha (by omega)
  have e : a &&& 4294967295 = a % 4294967296 := Nat.and_two_pow_sub_one_eq_mod a 32
  rw [e] at h
  exact h
theorem divN (a : Nat) : (a : Int) / 4294967296 = ((a / 4294967296 : Nat) : Int) := by omega
theorem mulN (a b : Nat) : (a : Int) * (b : Int) = ((a * b : Nat) : Int) := (Int.natCast_mul a b).symm
theorem addN (a b : Nat) : (a : Int) + (b : Int) = ((a + b : Nat) : Int) := (Int.natCast_add a b).symm
theorem wrapN (a : Nat) (ha : a < 18446744073709551616) : IntKind.u64.wrap (a : Int) = (a : Int) := by rw [IntKind.wrap_u64]; omega
theorem wrapM (a : Nat) : IntKind.u64.wrap (a : Int) = ((a % 18446744073709551616 : Nat) : Int) := by rw [IntKind.wrap_u64]; omega
end Mul
/-- The upper and the lower half of a product of 128 bits. -/
def hi64 (x y : Nat) : Int := ((x * y / 18446744073709551616 : Nat) : Int)
def lo64 (x y : Nat) : Int := ((x * y % 18446744073709551616 : Nat) : Int)
set_option maxHeartbeats 1000000 in
theorem mul64_any (x y : Nat) (w : World) (hx : x < 18446744073709551616) (hy : y < 18446744073709551616) :
    Calls Tryz.prog 285 #[.int .u64 x, .int .u64 y] w fun e w' => e = .returned (.tuple #[.int .u64 (hi64 x y), .int .u64 (lo64 x y)]) ∧ w = w' := by
  obtain ⟨bd, bt, bw, hhi⟩ := Lib.mul64_hi x y hx hy
  have ba := Lib.half_mul_le (a := x / 4294967296) (b := y / 4294967296) (by omega) (by omega)
  have bb := Lib.half_mul_le (a := x / 4294967296) (b := y % 4294967296) (by omega) (by omega)
  have bc := Lib.half_mul_le (a := x % 4294967296) (b := y / 4294967296) (by omega) (by omega)
  have ba' : x / 4294967296 * (y / 4294967296) < 18446744073709551616 := by omega
  have bb' : x / 4294967296 * (y % 4294967296) < 18446744073709551616 := by omega
  have bc' : x % 4294967296 * (y / 4294967296) < 18446744073709551616 := by omega
  have bh1 : x / 4294967296 * (y / 4294967296) + (x / 4294967296 * (y % 4294967296) + x % 4294967296 * (y % 4294967296) / 4294967296) / 4294967296 < 18446744073709551616 := by omega
  have bh : x / 4294967296 * (y / 4294967296) + (x / 4294967296 * (y % 4294967296) + x % 4294967296 * (y % 4294967296) / 4294967296) / 4294967296 + ((x / 4294967296 * (y % 4294967296) + x % 4294967296 * (y % 4294967296) / 4294967296) % 4294967296 + x % 4294967296 * (y / 4294967296)) / 4294967296 < 18446744073709551616 := by omega
  go_enter Tryz.func285, Tryz.ntmps285
  go_wp2
  simp only [Mul.maskN x hx, Mul.maskN y hy, Mul.divN, Mul.mulN, Mul.addN, Mul.wrapN _ bd, Mul.wrapN _ bb', Mul.wrapN _ bt, Mul.maskN _ bt, Mul.wrapN _ bc', Mul.wrapN _ bw, Mul.wrapN _ ba', Mul.wrapN _ bh1, Mul.wrapN _ bh, Mul.wrapM (x * y)]
  rw [hhi]
  go_ret2
  exact ⟨rfl, rfl⟩
end Go.Proofs.YtnbjealpcjfllaaGreatDoor

namespace Go.Proofs.YtnbjealpcjfllaaGreatDoor
set_option linter.unusedVariables false
set_option linter.unusedSimpArgs false
open Go.ChangeShapes Go.WideShapes Go.ChangeAt Go.RowKit
def sqrtN : Nat → Nat
  | 0 => 0
  | n + 1 => if (sqrtN n + 1) * (sqrtN n + 1) ≤ n + 1 then sqrtN n + 1 else sqrtN n
theorem sqrtN_spec (n : Nat) : sqrtN n * sqrtN n ≤ n ∧ n < (sqrtN n + 1) * (sqrtN n + 1) := by
  induction n with
  | zero => simp [sqrtN]
  | succ n ih =>
    obtain ⟨h1, h2⟩ := ih
    unfold sqrtN
    split
    · rename_i h
      refine ⟨h, ?_⟩
      have : (sqrtN n + 1 + 1) * (sqrtN n + 1 + 1) = (sqrtN n + 1) * (sqrtN n + 1) + 2 * (sqrtN n + 1) + 1 := by
        rw [Nat.add_mul, Nat.mul_add]; omega
      omega
    · omega
/-- The greatest number whose square is at most n. -/
def sqrtS (n : Int) : Int := sqrtN n.toNat
theorem sqrtS_spec {n : Int} (h : 0 ≤ n) : 0 ≤ sqrtS n ∧ sqrtS n * sqrtS n ≤ n ∧ n < (sqrtS n + 1) * (sqrtS n + 1) := by
  have := sqrtN_spec n.toNat
  unfold sqrtS
  refine ⟨by omega, ?_, ?_⟩
  · have := this.1
    have e : ((sqrtN n.toNat * sqrtN n.toNat : Nat) : Int) = (sqrtN n.toNat : Int) * (sqrtN n.toNat : Int) := by simp
    omega
  · have := this.2
    have e : (((sqrtN n.toNat + 1) * (sqrtN n.toNat + 1) : Nat) : Int) = ((sqrtN n.toNat : Int) + 1) * ((sqrtN n.toNat : Int) + 1) := by simp
    omega
theorem sq_le_sq {a b : Int} (h0 : 0 ≤ a) (h : a ≤ b) : a * a ≤ b * b := Int.mul_le_mul h h h0 (by omega)
theorem of_sq_lt {a b : Int} (h0 : 0 ≤ b) (h : a * a < b * b) : a < b := by
  apply Classical.byContradiction
  intro k
  have := sq_le_sq h0 (show b ≤ a by omega)
  omega
theorem of_sq_le {a b : Int} (h0 : 0 ≤ b) (h : a * a ≤ b * b) : a ≤ b := by
  apply Classical.byContradiction
  intro k
  have h1 := sq_le_sq (show 0 ≤ b + 1 by omega) (show b + 1 ≤ a by omega)
  have h2 : (b + 1) * (b + 1) = b * b + b + b + 1 := by rw [Int.add_mul, Int.mul_add]; omega
  omega
theorem sqrtS_unique {n k : Int} (h0 : 0 ≤ k) (h1 : k * k ≤ n) (h2 : n < (k + 1) * (k + 1)) : k = sqrtS n := by
  have hn : 0 ≤ n := Int.le_trans (Int.mul_nonneg h0 h0) h1
  obtain ⟨s0, s1, s2⟩ := sqrtS_spec hn
  have a := of_sq_lt (show 0 ≤ sqrtS n + 1 by omega) (show k * k < _ by omega)
  have b := of_sq_lt (show 0 ≤ k + 1 by omega) (show sqrtS n * sqrtS n < _ by omega)
  omega
def powS (m : Nat) : Int := ((2 ^ m : Nat) : Int)
/-- The bit that is tried when m bits are left. -/
def bitAt : Nat → Int
  | 0 => 0
  | m + 1 => powS m
theorem powS_succ (j : Nat) : powS (j + 1) = 2 * powS j := by unfold powS; rw [Nat.pow_succ]; omega
theorem powS_le {i j : Nat} (h : i ≤ j) : powS i ≤ powS j := by
  have := Nat.pow_le_pow_right (show 0 < 2 by decide) h
  unfold powS; omega
theorem powS_half (j : Nat) : 0 < powS j ∧ powS j / 2 = bitAt j := by
  refine ⟨?_, ?_⟩
  · have := powS_le (Nat.zero_le j)
    have e : powS 0 = 1 := rfl
    omega
  · cases j with
    | zero => rfl
    | succ i =>
      rw [powS_succ]
      show 2 * powS i / 2 = powS i
      omega
/-- What holds when m bits are left to be tried. -/
def RootJ (n : Int) (m : Nat) (k : Int) : Prop := 0 ≤ k ∧ k * k ≤ n ∧ n < (k + powS m) * (k + powS m) ∧ m ≤ 32 ∧ (k = 0 ∨ m ≤ 31)
set_option maxRecDepth 1000000 in
theorem root_any (n : Int) (w : World) (hn : 0 ≤ n ∧ n ≤ 1152921504606846976) :
    Calls Tryz.prog 301 #[.int .i64 n] w fun e w' => e = .returned (.int .i64 (sqrtS n)) ∧ w = w' := by
  obtain ⟨n0, n1⟩ := hn
  go_enter Tryz.func301, Tryz.ntmps301
  go_wp2
  refine wp_scope_jumps 0 (fun a' w' => w' = w ∧ ∃ (m : Nat) (k : Int) (u5 u6 u7 u8 u9 u10 u11 u12 u13 u14 u15 u16 u17 u18 u19 u20 u21 : Value), a' = { tmps := #[.int .i64 n, undef, .int .i64 0, .int .i64 k, .int .i64 (bitAt m), u5, u6, u7, u8, u9, u10, u11, u12, u13, u14, u15, u16, u17, u18, u19, u20, u21], defers := [] } ∧ RootJ n m k) (fun a' _ => (intOf (a'.tmps.getD 4 undef)).toNat) rfl ?_ ?_
  · go_wp2
    go_step3
    go_wp2
    go_step3
    refine ⟨rfl, rfl, 31, 0, _, _, _, _, _, _, _, _, _, _, _, _, _, _, _, _, _, rfl, ?_⟩
    refine ⟨by omega, by omega, ?_, by omega, .inl rfl⟩
    show n < 4611686018427387904
    omega
  · rintro a' w' ⟨rfl, m, k, u5, u6, u7, u8, u9, u10, u11, u12, u13, u14, u15, u16, u17, u18, u19, u20, u21, rfl, h0, h1, h2, h3, h4⟩
    cases m with
    | zero =>
      rw [show bitAt 0 = 0 from rfl]
      go_wp2
      simp only [Exit.jump]
      go_ret
      exact ⟨by rw [← sqrtS_unique h0 h1 h2]; rfl, rfl⟩
    | succ j =>
      have e : bitAt (j + 1) = powS j := rfl
      rw [e]
      rw [powS_succ] at h2
      obtain ⟨p0, p1⟩ := powS_half j
      have k0 : k ≤ 1073741824 := of_sq_le (by decide) (by omega)
      have p2 : powS j ≤ 2147483648 := powS_le (show j ≤ 31 by omega)
      have p3 : k + powS j ≤ 2147483648 := by
        rcases h4 with rfl | h4
        · omega
        · have : powS j ≤ 1073741824 := powS_le (show j ≤ 30 by omega)
          omega
      have hmm := mul_bd 4611686018427387904 (show -2147483648 ≤ k + powS j ∧ k + powS j ≤ 2147483648 by omega) (show -2147483648 ≤ k + powS j ∧ k + powS j ≤ 2147483648 by omega) rfl
      go_wp2
      · rename_i hle
        go_step3
        refine ⟨rfl, ⟨rfl, j, _, _, _, _, _, _, _, _, _, _, _, _, _, _, _, _, _, _, rfl, ?_⟩, ?_⟩
        · refine ⟨by omega, hle, by rw [show k + powS j + powS j = k + 2 * powS j by omega]; exact h2, by omega, .inr (by omega)⟩
        · show (bitAt j).toNat < (powS j).toNat
          omega
      · rename_i hle
        go_step3
        refine ⟨rfl, ⟨rfl, j, _, _, _, _, _, _, _, _, _, _, _, _, _, _, _, _, _, _, rfl, ?_⟩, ?_⟩
        · refine ⟨h0, h1, hle, by omega, .inr (by omega)⟩
        · show (bitAt j).toNat < (powS j).toNat
          omega
end Go.Proofs.YtnbjealpcjfllaaGreatDoor

namespace Go.Proofs.YtnbjealpcjfllaaGreatDoor
set_option linter.unusedVariables false
set_option linter.unusedSimpArgs false
open Go.RowKit
/-- A panel: the coordinates of its corners. -/
structure Pn where
  a0 : Int
  a1 : Int
  a2 : Int
  b0 : Int
  b1 : Int
  b2 : Int
  c0 : Int
  c1 : Int
  c2 : Int
def Pn.s0 (p : Pn) : Pn := ⟨2 * p.a0, 2 * p.a1, 2 * p.a2, p.a0 + p.b0, p.a1 + p.b1, p.a2 + p.b2, p.c0 + p.a0, p.c1 + p.a1, p.c2 + p.a2⟩
def Pn.s1 (p : Pn) : Pn := ⟨p.a0 + p.b0, p.a1 + p.b1, p.a2 + p.b2, 2 * p.b0, 2 * p.b1, 2 * p.b2, p.b0 + p.c0, p.b1 + p.c1, p.b2 + p.c2⟩
def Pn.s2 (p : Pn) : Pn := ⟨p.c0 + p.a0, p.c1 + p.a1, p.c2 + p.a2, p.b0 + p.c0, p.b1 + p.c1, p.b2 + p.c2, 2 * p.c0, 2 * p.c1, 2 * p.c2⟩
def Pn.s3 (p : Pn) : Pn := ⟨p.a0 + p.b0, p.a1 + p.b1, p.a2 + p.b2, p.b0 + p.c0, p.b1 + p.c1, p.b2 + p.c2, p.c0 + p.a0, p.c1 + p.a1, p.c2 + p.a2⟩
/-- The parts of a panel at a depth, in order. -/
def cutL : Nat → Pn → List Pn
  | 0, p => [p]
  | d + 1, p => cutL d p.s0 ++ (cutL d p.s1 ++ (cutL d p.s2 ++ cutL d p.s3))
theorem cutL_len : ∀ d p, (cutL d p).length = 4 ^ d
  | 0, _ => rfl
  | d + 1, p => by
    show (cutL d p.s0 ++ (cutL d p.s1 ++ (cutL d p.s2 ++ cutL d p.s3))).length = 4 ^ (d + 1)
    simp only [List.length_append, cutL_len d]
    rw [Nat.pow_succ]
    omega
def Pn.bd (m : Int) (p : Pn) : Prop := ((-m ≤ p.a0 ∧ p.a0 ≤ m) ∧ (-m ≤ p.a1 ∧ p.a1 ≤ m) ∧ (-m ≤ p.a2 ∧ p.a2 ≤ m)) ∧ ((-m ≤ p.b0 ∧ p.b0 ≤ m) ∧ (-m ≤ p.b1 ∧ p.b1 ≤ m) ∧ (-m ≤ p.b2 ∧ p.b2 ≤ m)) ∧ ((-m ≤ p.c0 ∧ p.c0 ≤ m) ∧ (-m ≤ p.c1 ∧ p.c1 ≤ m) ∧ (-m ≤ p.c2 ∧ p.c2 ≤ m))
theorem Pn.bd_sub {p : Pn} {m : Int} (h : p.bd m) : p.s0.bd (2 * m) ∧ p.s1.bd (2 * m) ∧ p.s2.bd (2 * m) ∧ p.s3.bd (2 * m) := by
  obtain ⟨⟨a, b, c⟩, ⟨d, e, f⟩, g, h, i⟩ := h
  refine ⟨⟨⟨?_, ?_, ?_⟩, ⟨?_, ?_, ?_⟩, ?_, ?_, ?_⟩, ⟨⟨?_, ?_, ?_⟩, ⟨?_, ?_, ?_⟩, ?_, ?_, ?_⟩, ⟨⟨?_, ?_, ?_⟩, ⟨?_, ?_, ?_⟩, ?_, ?_, ?_⟩, ⟨⟨?_, ?_, ?_⟩, ⟨?_, ?_, ?_⟩, ?_, ?_, ?_⟩⟩ <;> simp only [s0, s1, s2, s3] <;> omega
theorem cutL_bd : ∀ (d : Nat) (p : Pn) (m : Int), p.bd m → ∀ x ∈ cutL d p, x.bd ((2 : Int) ^ d * m)
  | 0, p, m, h, x, hx => by
    obtain rfl : x = p := by simpa [cutL] using hx
    simpa using h
  | d + 1, p, m, h, x, hx => by
    obtain ⟨h0, h1, h2, h3⟩ := Pn.bd_sub h
    have e : (2 : Int) ^ (d + 1) * m = 2 ^ d * (2 * m) := by rw [Int.pow_succ, Int.mul_assoc]
    rw [e]
    have hx : x ∈ cutL d p.s0 ++ (cutL d p.s1 ++ (cutL d p.s2 ++ cutL d p.s3)) := hx
    simp only [List.mem_append] at hx
    rcases hx with hx | hx | hx | hx
    · exact cutL_bd d _ _ h0 x hx
    · exact cutL_bd d _ _ h1 x hx
    · exact cutL_bd d _ _ h2 x hx
    · exact cutL_bd d _ _ h3 x hx
/-- The square of a distance. -/
def sq3 (x0 x1 x2 y0 y1 y2 : Int) : Int := (x0 - y0) * (x0 - y0) + (x1 - y1) * (x1 - y1) + (x2 - y2) * (x2 - y2)
theorem sq3_bd {x0 x1 x2 y0 y1 y2 : Int} (hx : (-4096 ≤ x0 ∧ x0 ≤ 4096) ∧ (-4096 ≤ x1 ∧ x1 ≤ 4096) ∧ (-4096 ≤ x2 ∧ x2 ≤ 4096)) (hy : (-4096 ≤ y0 ∧ y0 ≤ 4096) ∧ (-4096 ≤ y1 ∧ y1 ≤ 4096) ∧ (-4096 ≤ y2 ∧ y2 ≤ 4096)) : 0 ≤ sq3 x0 x1 x2 y0 y1 y2 ∧ sq3 x0 x1 x2 y0 y1 y2 ≤ 201326592 := by
  have q : ∀ a b : Int, (-4096 ≤ a ∧ a ≤ 4096) → (-4096 ≤ b ∧ b ≤ 4096) → 0 ≤ (a - b) * (a - b) ∧ (a - b) * (a - b) ≤ 67108864 := fun a b ha hb => by
    have h1 := mul_sq 8192 67108864 (show -8192 ≤ a - b ∧ a - b ≤ 8192 by omega) (show -8192 ≤ a - b ∧ a - b ≤ 8192 by omega) rfl
    refine ⟨?_, h1.2⟩
    rcases Int.le_total 0 (a - b) with h | h
    · exact Int.mul_nonneg h h
    · exact Int.mul_nonneg_of_nonpos_of_nonpos h h
  have q0 := q x0 y0 hx.1 hy.1
  have q1 := q x1 y1 hx.2.1 hy.2.1
  have q2 := q x2 y2 hx.2.2 hy.2.2
  unfold sq3
  omega
/-- The greatest square of a distance of corner i of the first list and the first j corners of the second one. -/
def farJ (P Q : Nat → Nat → Int) (i : Nat) (out : Int) : Nat → Int
  | 0 => out
  | j + 1 => max (farJ P Q i out j) (sq3 (P i 0) (P i 1) (P i 2) (Q j 0) (Q j 1) (Q j 2))
def farI (P Q : Nat → Nat → Int) (m : Nat) : Nat → Int
  | 0 => 0
  | i + 1 => farJ P Q i (farI P Q m i) m
def Near1 (P : Nat → Nat → Int) (n : Nat) : Prop := ∀ i, i < n → (-4096 ≤ P i 0 ∧ P i 0 ≤ 4096) ∧ (-4096 ≤ P i 1 ∧ P i 1 ≤ 4096) ∧ (-4096 ≤ P i 2 ∧ P i 2 ≤ 4096)
theorem farJ_bd {P Q : Nat → Nat → Int} {i m : Nat} {out : Int} (hP : (-4096 ≤ P i 0 ∧ P i 0 ≤ 4096) ∧ (-4096 ≤ P i 1 ∧ P i 1 ≤ 4096) ∧ (-4096 ≤ P i 2 ∧ P i 2 ≤ 4096)) (hQ : Near1 Q m) (ho : 0 ≤ out ∧ out ≤ 201326592) : ∀ j, j ≤ m → 0 ≤ farJ P Q i out j ∧ farJ P Q i out j ≤ 201326592
  | 0, _ => ho
  | j + 1, hj => by
    have h1 := farJ_bd hP hQ ho j (by omega)
    have h2 := sq3_bd hP (hQ j (by omega))
    unfold farJ
    omega
theorem farI_bd {P Q : Nat → Nat → Int} {n m : Nat} (hP : Near1 P n) (hQ : Near1 Q m) : ∀ i, i ≤ n → 0 ≤ farI P Q m i ∧ farI P Q m i ≤ 201326592
  | 0, _ => by simp [farI]
  | i + 1, hi => farJ_bd (hP i (by omega)) hQ (farI_bd hP hQ i (by omega)) m (Nat.le_refl _)
/-- The box of points. -/
def loB (P : Nat → Nat → Int) (c : Nat) : Nat → Int
  | 0 => P 0 c
  | k + 1 => min (loB P c k) (P k c)
def hiB (P : Nat → Nat → Int) (c : Nat) : Nat → Int
  | 0 => P 0 c
  | k + 1 => max (hiB P c k) (P k c)
def gapS (a b c d : Int) : Int := max (max 0 (c - b)) (a - d)
def nearP (P : Nat → Nat → Int) (n : Nat) (Q : Nat → Nat → Int) (m : Nat) : Int :=
  gapS (loB P 0 n) (hiB P 0 n) (loB Q 0 m) (hiB Q 0 m) * gapS (loB P 0 n) (hiB P 0 n) (loB Q 0 m) (hiB Q 0 m) + gapS (loB P 1 n) (hiB P 1 n) (loB Q 1 m) (hiB Q 1 m) * gapS (loB P 1 n) (hiB P 1 n) (loB Q 1 m) (hiB Q 1 m) + gapS (loB P 2 n) (hiB P 2 n) (loB Q 2 m) (hiB Q 2 m) * gapS (loB P 2 n) (hiB P 2 n) (loB Q 2 m) (hiB Q 2 m)
theorem loB_bd {P : Nat → Nat → Int} {n c : Nat} {t : Int} (hn : 0 < n) (h : ∀ i, i < n → -t ≤ P i c ∧ P i c ≤ t) : ∀ k, k ≤ n → (-t ≤ loB P c k ∧ loB P c k ≤ t) ∧ (-t ≤ hiB P c k ∧ hiB P c k ≤ t)
  | 0, _ => ⟨h 0 hn, h 0 hn⟩
  | k + 1, hk => by
    have h1 := loB_bd hn h k (by omega)
    have h2 := h k (by omega)
    unfold loB hiB
    omega
theorem gapS_bd {a b c d : Int} (h : ((-4096 ≤ a ∧ a ≤ 4096) ∧ (-4096 ≤ b ∧ b ≤ 4096)) ∧ ((-4096 ≤ c ∧ c ≤ 4096) ∧ (-4096 ≤ d ∧ d ≤ 4096))) : 0 ≤ gapS a b c d ∧ gapS a b c d ≤ 8192 := by
  unfold gapS
  omega
theorem nearP_bd {P Q : Nat → Nat → Int} {n m : Nat} (hn : 0 < n) (hm : 0 < m) (hP : Near1 P n) (hQ : Near1 Q m) : 0 ≤ nearP P n Q m ∧ nearP P n Q m ≤ 201326592 := by
  have g : ∀ c, c < 3 → 0 ≤ gapS (loB P c n) (hiB P c n) (loB Q c m) (hiB Q c m) ∧ gapS (loB P c n) (hiB P c n) (loB Q c m) (hiB Q c m) ≤ 8192 := fun c hc =>
    gapS_bd ⟨loB_bd (t := 4096) hn (fun i hi => by have := hP i hi; rcases (show c = 0 ∨ c = 1 ∨ c = 2 by omega) with rfl | rfl | rfl <;> omega) n (Nat.le_refl _),
      loB_bd (t := 4096) hm (fun i hi => by have := hQ i hi; rcases (show c = 0 ∨ c = 1 ∨ c = 2 by omega) with rfl | rfl | rfl <;> omega) m (Nat.le_refl _)⟩
  have q : ∀ x : Int, 0 ≤ x ∧ x ≤ 8192 → 0 ≤ x * x ∧ x * x ≤ 67108864 := fun x hx => ⟨Int.mul_nonneg hx.1 hx.1, (mul_sq 8192 67108864 (by omega) (by omega) rfl).2⟩
  have q0 := q _ (g 0 (by omega))
  have q1 := q _ (g 1 (by omega))
  have q2 := q _ (g 2 (by omega))
  unfold nearP
  omega
/-- The rim: a bound of the mean of 1/r over a part; t is the square of the normal's length. -/
def rimN (t : Int) (d : Nat) : Int := if sqrtS (1099511627776 * 3217 * 4 ^ d / (128 * sqrtS t)) * sqrtS (1099511627776 * 3217 * 4 ^ d / (128 * sqrtS t)) * (128 * sqrtS t) < 1099511627776 * 3217 * 4 ^ d then sqrtS (1099511627776 * 3217 * 4 ^ d / (128 * sqrtS t)) + 1 else sqrtS (1099511627776 * 3217 * 4 ^ d / (128 * sqrtS t))
end Go.Proofs.YtnbjealpcjfllaaGreatDoor

namespace Go.Proofs.YtnbjealpcjfllaaGreatDoor
set_option linter.unusedVariables false
set_option linter.unusedSimpArgs false
open Go.ChangeShapes Go.WideShapes Go.ChangeAt Go.RowKit
def invS (t n : Int) : R := if sqrtS (t / n) * sqrtS (t / n) * n = t then resultS (sqrtS (t / n)) (sqrtS (t / n)) else resultS (sqrtS (t / n)) (sqrtS (t / n) + 1)
theorem inv_bd {t n : Int} (h : (0 ≤ t ∧ t ≤ 1152921504606846976) ∧ (1 ≤ n ∧ n ≤ 1152921504606846976)) :
    0 ≤ t / n ∧ t / n ≤ 1152921504606846976 ∧ 0 ≤ sqrtS (t / n) ∧ sqrtS (t / n) ≤ 1073741824 ∧ 0 ≤ sqrtS (t / n) * sqrtS (t / n) ∧ sqrtS (t / n) * sqrtS (t / n) ≤ t / n ∧ 0 ≤ sqrtS (t / n) * sqrtS (t / n) * n ∧ sqrtS (t / n) * sqrtS (t / n) * n ≤ t ∧ t.tdiv n = t / n ∧ t.tmod n = t % n ∧ 0 ≤ t % n ∧ t % n < n ∧ n * (t / n) + t % n = t := by
  obtain ⟨⟨t0, t1⟩, n0, n1⟩ := h
  have q0 : 0 ≤ t / n := Int.ediv_nonneg t0 (by omega)
  have q1 : t / n ≤ t := Int.ediv_le_self n t0
  obtain ⟨s0, s1, s2⟩ := sqrtS_spec q0
  have s3 : sqrtS (t / n) ≤ 1073741824 := of_sq_le (by decide) (by omega)
  have s4 := Int.mul_nonneg s0 s0
  have s5 := Int.mul_nonneg s4 (show 0 ≤ n by omega)
  have s6 := Int.mul_le_mul_of_nonneg_right s1 (show 0 ≤ n by omega)
  have s7 := Int.ediv_mul_le t (show n ≠ 0 by omega)
  exact ⟨q0, by omega, s0, s3, s4, s1, s5, by omega, Int.tdiv_eq_ediv_of_nonneg t0, Int.tmod_eq_emod_of_nonneg t0, Int.emod_nonneg t (by omega), Int.emod_lt_of_pos t (by omega), Int.mul_ediv_add_emod t n⟩
set_option maxRecDepth 100000 in
set_option maxHeartbeats 1000000 in
theorem inverse_any (t n : Int) (w : World) (h : (0 ≤ t ∧ t ≤ 1152921504606846976) ∧ (1 ≤ n ∧ n ≤ 1152921504606846976)) :
    Calls Tryz.prog 319 #[.int .i64 t, .int .i64 n] w fun e w' => e = .returned (.tuple #[.agg #[.int .i64 (invS t n).lo, .int .i64 (invS t n).hi], .int .i64 (invS t n).e]) ∧ Kept w w' := by
  obtain ⟨q0, q1, k0, k1, k2, k3, k4, k5, d1, -⟩ := inv_bd h
  obtain ⟨⟨t0, t1⟩, n0, n1⟩ := h
  have z : (n == 0) = false := by simp; omega
  by_cases hk : sqrtS (t / n) * sqrtS (t / n) * n = t
  · rw [show invS t n = resultS (sqrtS (t / n)) (sqrtS (t / n)) from if_pos hk]
    have hk' : (sqrtS (t / n) * sqrtS (t / n) * n == t) = true := by simp [hk]
    clear hk
    go_enter Tryz.func319, Tryz.ntmps319
    go_wp2_with (first | (go_at_call 301; refine (root_any _ _ ⟨by omega, by omega⟩).mono ?_; rintro e w1 ⟨rfl, rfl⟩) | (go_at_call 298; refine (result_any _ _ _).mono ?_; rintro e w1 ⟨rfl, x, rfl⟩))
    refine bodyPost_ret (by simp only [results, Tryz.results319]; go_simp; rfl) rfl ?_
    refine ⟨rfl, ?_⟩
    (repeat (first | exact Kept.refl _ | assumption | refine Kept.alloc ?_ _ | refine Kept.ext ?_ _ | refine Kept.drew ?_ | refine Kept.drewN ?_ _))
  · rw [show invS t n = resultS (sqrtS (t / n)) (sqrtS (t / n) + 1) from if_neg hk]
    have hk' : (sqrtS (t / n) * sqrtS (t / n) * n == t) = false := by simp [hk]
    clear hk
    go_enter Tryz.func319, Tryz.ntmps319
    go_wp2_with (first | (go_at_call 301; refine (root_any _ _ ⟨by omega, by omega⟩).mono ?_; rintro e w1 ⟨rfl, rfl⟩) | (go_at_call 298; refine (result_any _ _ _).mono ?_; rintro e w1 ⟨rfl, x, rfl⟩))
    refine bodyPost_ret (by simp only [results, Tryz.results319]; go_simp; rfl) rfl ?_
    refine ⟨rfl, ?_⟩
    (repeat (first | exact Kept.refl _ | assumption | refine Kept.alloc ?_ _ | refine Kept.ext ?_ _ | refine Kept.drew ?_ | refine Kept.drewN ?_ _))
end Go.Proofs.YtnbjealpcjfllaaGreatDoor

namespace Go.Proofs.YtnbjealpcjfllaaGreatDoor
set_option linter.unusedVariables false
set_option linter.unusedSimpArgs false
open Go.ChangeShapes Go.WideShapes Go.ChangeAt Go.RowKit
def inverseS (n s : Int) : R := if (1 ≤ n ∧ n ≤ 1099511627776) ∧ (1 ≤ s ∧ s ≤ 8) then invS (s * s * 1099511627776) n else ⟨0, 0, 1⟩
set_option maxRecDepth 100000 in
set_option maxHeartbeats 4000000 in
theorem spanInv_any (n s : Int) (w : World) :
    Calls Tryz.prog 290 #[.int .i64 n, .int .i64 s] w fun e w' => e = .returned (.tuple #[.agg #[.int .i64 (inverseS n s).lo, .int .i64 (inverseS n s).hi], .int .i64 (inverseS n s).e]) ∧ Kept w w' := by
  by_cases a1 : n < 1
  · skip
    have e : inverseS n s = ⟨0, 0, 1⟩ := if_neg (by omega)
    rw [e]
    clear e
    go_enter Tryz.func290, Tryz.ntmps290
    go_wp2_with (first | (go_at_call 319; refine (inverse_any _ _ _ ⟨⟨by omega, by omega⟩, by omega, by omega⟩).mono ?_; rintro e w1 ⟨rfl, x, rfl⟩))
    all_goals (refine bodyPost_ret (by simp only [results, Tryz.results290]; go_simp; rfl) rfl ?_; refine ⟨rfl, ?_⟩; (repeat (first | exact Kept.refl _ | assumption | refine Kept.alloc ?_ _ | refine Kept.ext ?_ _ | refine Kept.drew ?_ | refine Kept.drewN ?_ _)))
  by_cases a2 : 1099511627776 < n
  · skip
    have e : inverseS n s = ⟨0, 0, 1⟩ := if_neg (by omega)
    rw [e]
    clear e
    go_enter Tryz.func290, Tryz.ntmps290
    go_wp2_with (first | (go_at_call 319; refine (inverse_any _ _ _ ⟨⟨by omega, by omega⟩, by omega, by omega⟩).mono ?_; rintro e w1 ⟨rfl, x, rfl⟩))
    all_goals (refine bodyPost_ret (by simp only [results, Tryz.results290]; go_simp; rfl) rfl ?_; refine ⟨rfl, ?_⟩; (repeat (first | exact Kept.refl _ | assumption | refine Kept.alloc ?_ _ | refine Kept.ext ?_ _ | refine Kept.drew ?_ | refine Kept.drewN ?_ _)))
  by_cases a3 : s < 1
  · skip
    have e : inverseS n s = ⟨0, 0, 1⟩ := if_neg (by omega)
    rw [e]
    clear e
    go_enter Tryz.func290, Tryz.ntmps290
    go_wp2_with (first | (go_at_call 319; refine (inverse_any _ _ _ ⟨⟨by omega, by omega⟩, by omega, by omega⟩).mono ?_; rintro e w1 ⟨rfl, x, rfl⟩))
    all_goals (refine bodyPost_ret (by simp only [results, Tryz.results290]; go_simp; rfl) rfl ?_; refine ⟨rfl, ?_⟩; (repeat (first | exact Kept.refl _ | assumption | refine Kept.alloc ?_ _ | refine Kept.ext ?_ _ | refine Kept.drew ?_ | refine Kept.drewN ?_ _)))
  by_cases a4 : 8 < s
  · skip
    have e : inverseS n s = ⟨0, 0, 1⟩ := if_neg (by omega)
    rw [e]
    clear e
    go_enter Tryz.func290, Tryz.ntmps290
    go_wp2_with (first | (go_at_call 319; refine (inverse_any _ _ _ ⟨⟨by omega, by omega⟩, by omega, by omega⟩).mono ?_; rintro e w1 ⟨rfl, x, rfl⟩))
    all_goals (refine bodyPost_ret (by simp only [results, Tryz.results290]; go_simp; rfl) rfl ?_; refine ⟨rfl, ?_⟩; (repeat (first | exact Kept.refl _ | assumption | refine Kept.alloc ?_ _ | refine Kept.ext ?_ _ | refine Kept.drew ?_ | refine Kept.drewN ?_ _)))
  have e : inverseS n s = invS (s * s * 1099511627776) n := if_pos (by omega)
  rw [e]
  clear e
  rcases (show s = 1 ∨ s = 2 ∨ s = 3 ∨ s = 4 ∨ s = 5 ∨ s = 6 ∨ s = 7 ∨ s = 8 by omega) with rfl | rfl | rfl | rfl | rfl | rfl | rfl | rfl <;> simp only [Int.reduceMul]
  all_goals
    go_enter Tryz.func290, Tryz.ntmps290
    go_wp2_with (first | (go_at_call 319; refine (inverse_any _ _ _ ⟨⟨by omega, by omega⟩, by omega, by omega⟩).mono ?_; rintro e w1 ⟨rfl, x, rfl⟩))
    refine bodyPost_ret (by simp only [results, Tryz.results290]; go_simp; rfl) rfl ?_
    refine ⟨rfl, ?_⟩
    (repeat (first | exact Kept.refl _ | assumption | refine Kept.alloc ?_ _ | refine Kept.ext ?_ _ | refine Kept.drew ?_ | refine Kept.drewN ?_ _))
end Go.Proofs.YtnbjealpcjfllaaGreatDoor

namespace Go.Proofs.YtnbjealpcjfllaaGreatDoor
set_option linter.unusedVariables false
set_option linter.unusedSimpArgs false
open Go.RowKit
def Pn.at (p : Pn) (i c : Nat) : Int :=
  if i = 0 then (if c = 0 then p.a0 else if c = 1 then p.a1 else p.a2) else if i = 1 then (if c = 0 then p.b0 else if c = 1 then p.b1 else p.b2) else (if c = 0 then p.c0 else if c = 1 then p.c1 else p.c2)
def Pn.nx (p : Pn) : Int := nX p.a0 p.a1 p.a2 p.b0 p.b1 p.b2 p.c0 p.c1 p.c2
def Pn.ny (p : Pn) : Int := nY p.a0 p.a1 p.a2 p.b0 p.b1 p.b2 p.c0 p.c1 p.c2
def Pn.nz (p : Pn) : Int := nZ p.a0 p.a1 p.a2 p.b0 p.b1 p.b2 p.c0 p.c1 p.c2
def Pn.nn (p : Pn) : Int := p.nx * p.nx + p.ny * p.ny + p.nz * p.nz
theorem Pn.nn_sub (p : Pn) : p.s0.nn = p.nn ∧ p.s1.nn = p.nn ∧ p.s2.nn = p.nn ∧ p.s3.nn = p.nn := by
  have e0 : p.s0.nx = p.nx ∧ p.s0.ny = p.ny ∧ p.s0.nz = p.nz := by
    simp only [Pn.nx, Pn.ny, Pn.nz, Pn.s0, nX, nY, nZ]
    refine ⟨?_, ?_, ?_⟩ <;> grind
  have e1 : p.s1.nx = p.nx ∧ p.s1.ny = p.ny ∧ p.s1.nz = p.nz := by
    simp only [Pn.nx, Pn.ny, Pn.nz, Pn.s1, nX, nY, nZ]
    refine ⟨?_, ?_, ?_⟩ <;> grind
  have e2 : p.s2.nx = p.nx ∧ p.s2.ny = p.ny ∧ p.s2.nz = p.nz := by
    simp only [Pn.nx, Pn.ny, Pn.nz, Pn.s2, nX, nY, nZ]
    refine ⟨?_, ?_, ?_⟩ <;> grind
  have e3 : p.s3.nx = p.nx ∧ p.s3.ny = p.ny ∧ p.s3.nz = p.nz := by
    simp only [Pn.nx, Pn.ny, Pn.nz, Pn.s3, nX, nY, nZ]
    refine ⟨?_, ?_, ?_⟩ <;> grind
  unfold Pn.nn
  rw [e0.1, e0.2.1, e0.2.2, e1.1, e1.2.1, e1.2.2, e2.1, e2.2.1, e2.2.2, e3.1, e3.2.1, e3.2.2]
  exact ⟨rfl, rfl, rfl, rfl⟩
theorem cutL_nn : ∀ (d : Nat) (p : Pn), ∀ x ∈ cutL d p, x.nn = p.nn
  | 0, p, x, hx => by
    obtain rfl : x = p := by simpa [cutL] using hx
    rfl
  | d + 1, p, x, hx => by
    obtain ⟨h0, h1, h2, h3⟩ := p.nn_sub
    have hx : x ∈ cutL d p.s0 ++ (cutL d p.s1 ++ (cutL d p.s2 ++ cutL d p.s3)) := hx
    simp only [List.mem_append] at hx
    rcases hx with hx | hx | hx | hx
    · rw [cutL_nn d _ x hx, h0]
    · rw [cutL_nn d _ x hx, h1]
    · rw [cutL_nn d _ x hx, h2]
    · rw [cutL_nn d _ x hx, h3]
theorem farJ_mono (P Q : Nat → Nat → Int) (i : Nat) (out : Int) : ∀ m, out ≤ farJ P Q i out m ∧ ∀ j, j < m → sq3 (P i 0) (P i 1) (P i 2) (Q j 0) (Q j 1) (Q j 2) ≤ farJ P Q i out m
  | 0 => ⟨Int.le_refl _, fun j h => absurd h (by omega)⟩
  | m + 1 => by
    obtain ⟨h1, h2⟩ := farJ_mono P Q i out m
    unfold farJ
    refine ⟨by omega, fun j hj => ?_⟩
    by_cases e : j = m
    · subst e; omega
    · have := h2 j (by omega)
      omega
theorem farI_ge (P Q : Nat → Nat → Int) (m : Nat) : ∀ n i j, i < n → j < m → sq3 (P i 0) (P i 1) (P i 2) (Q j 0) (Q j 1) (Q j 2) ≤ farI P Q m n
  | 0, i, j, hi, _ => absurd hi (by omega)
  | n + 1, i, j, hi, hj => by
    unfold farI
    obtain ⟨h1, h2⟩ := farJ_mono P Q n (farI P Q m n) m
    by_cases e : i = n
    · subst e
      exact h2 j hj
    · have := farI_ge P Q m n i j (by omega) hj
      omega
theorem loB_le (P : Nat → Nat → Int) (c : Nat) : ∀ k i, i < k → loB P c k ≤ P i c ∧ P i c ≤ hiB P c k
  | 0, i, h => absurd h (by omega)
  | k + 1, i, h => by
    unfold loB hiB
    by_cases e : i = k
    · subst e; omega
    · have := loB_le P c k i (by omega)
      omega
theorem sq_le {a b : Int} (h : (a ≤ b ∧ 0 ≤ a) ∨ (a ≤ -b ∧ 0 ≤ a)) : a * a ≤ b * b := by
  rcases h with ⟨h1, h2⟩ | ⟨h1, h2⟩
  · exact Int.mul_le_mul h1 h1 h2 (by omega)
  · have := Int.mul_le_mul h1 h1 h2 (by omega)
    rwa [Int.neg_mul_neg] at this
theorem near_far {P Q : Nat → Nat → Int} {n m : Nat} (hn : 0 < n) (hm : 0 < m) : nearP P n Q m ≤ farI P Q m n := by
  have f := farI_ge P Q m n 0 0 hn hm
  have g : ∀ c, gapS (loB P c n) (hiB P c n) (loB Q c m) (hiB Q c m) * gapS (loB P c n) (hiB P c n) (loB Q c m) (hiB Q c m) ≤ (P 0 c - Q 0 c) * (P 0 c - Q 0 c) := fun c => by
    have h1 := loB_le P c n 0 hn
    have h2 := loB_le Q c m 0 hm
    refine sq_le ?_
    unfold gapS
    omega
  have g0 := g 0
  have g1 := g 1
  have g2 := g 2
  unfold sq3 at f
  unfold nearP
  omega
/-- The normal of a triangle is at most 4 times as long as the square of the greatest distance from any point. -/
theorem par (a b x : Int) : (b - a) * (b - a) ≤ 2 * ((a - x) * (a - x)) + 2 * ((b - x) * (b - x)) := by
  have e : 2 * ((a - x) * (a - x)) + 2 * ((b - x) * (b - x)) - (b - a) * (b - a) = (a + b - 2 * x) * (a + b - 2 * x) := by grind
  have : 0 ≤ (a + b - 2 * x) * (a + b - 2 * x) := by
    rcases Int.le_total 0 (a + b - 2 * x) with h | h
    · exact Int.mul_nonneg h h
    · exact Int.mul_nonneg_of_nonpos_of_nonpos h h
  omega
theorem lagr9 (u0 u1 u2 v0 v1 v2 : Int) : (u1 * v2 - u2 * v1) * (u1 * v2 - u2 * v1) + (u2 * v0 - u0 * v2) * (u2 * v0 - u0 * v2) + (u0 * v1 - u1 * v0) * (u0 * v1 - u1 * v0) = (u0 * u0 + u1 * u1 + u2 * u2) * (v0 * v0 + v1 * v1 + v2 * v2) - (u0 * v0 + u1 * v1 + u2 * v2) * (u0 * v0 + u1 * v1 + u2 * v2) := by grind
theorem nn_far (p q : Pn) {f : Int} (hf : farI p.at q.at 3 3 = f) : p.nn ≤ 16 * (f * f) := by
  have a := farI_ge p.at q.at 3 3 0 0 (by omega) (by omega)
  have b := farI_ge p.at q.at 3 3 1 0 (by omega) (by omega)
  have c := farI_ge p.at q.at 3 3 2 0 (by omega) (by omega)
  rw [hf] at a b c
  have a : (p.a0 - q.a0) * (p.a0 - q.a0) + (p.a1 - q.a1) * (p.a1 - q.a1) + (p.a2 - q.a2) * (p.a2 - q.a2) ≤ f := a
  have b : (p.b0 - q.a0) * (p.b0 - q.a0) + (p.b1 - q.a1) * (p.b1 - q.a1) + (p.b2 - q.a2) * (p.b2 - q.a2) ≤ f := b
  have c : (p.c0 - q.a0) * (p.c0 - q.a0) + (p.c1 - q.a1) * (p.c1 - q.a1) + (p.c2 - q.a2) * (p.c2 - q.a2) ≤ f := c
  have u0 := par p.a0 p.b0 q.a0
  have u1 := par p.a1 p.b1 q.a1
  have u2 := par p.a2 p.b2 q.a2
  have v0 := par p.a0 p.c0 q.a0
  have v1 := par p.a1 p.c1 q.a1
  have v2 := par p.a2 p.c2 q.a2
  have hu : (p.b0 - p.a0) * (p.b0 - p.a0) + (p.b1 - p.a1) * (p.b1 - p.a1) + (p.b2 - p.a2) * (p.b2 - p.a2) ≤ 4 * f := by omega
  have hv : (p.c0 - p.a0) * (p.c0 - p.a0) + (p.c1 - p.a1) * (p.c1 - p.a1) + (p.c2 - p.a2) * (p.c2 - p.a2) ≤ 4 * f := by omega
  have nn0 : ∀ t : Int, 0 ≤ t * t := fun t => by
    rcases Int.le_total 0 t with h | h
    · exact Int.mul_nonneg h h
    · exact Int.mul_nonneg_of_nonpos_of_nonpos h h
  have pu : 0 ≤ (p.b0 - p.a0) * (p.b0 - p.a0) + (p.b1 - p.a1) * (p.b1 - p.a1) + (p.b2 - p.a2) * (p.b2 - p.a2) := by
    have := nn0 (p.b0 - p.a0); have := nn0 (p.b1 - p.a1); have := nn0 (p.b2 - p.a2)
    omega
  have pv : 0 ≤ (p.c0 - p.a0) * (p.c0 - p.a0) + (p.c1 - p.a1) * (p.c1 - p.a1) + (p.c2 - p.a2) * (p.c2 - p.a2) := by
    have := nn0 (p.c0 - p.a0); have := nn0 (p.c1 - p.a1); have := nn0 (p.c2 - p.a2)
    omega
  have m := Int.mul_le_mul hu hv pv (by omega)
  have e := lagr9 (p.b0 - p.a0) (p.b1 - p.a1) (p.b2 - p.a2) (p.c0 - p.a0) (p.c1 - p.a1) (p.c2 - p.a2)
  have w := nn0 ((p.b0 - p.a0) * (p.c0 - p.a0) + (p.b1 - p.a1) * (p.c1 - p.a1) + (p.b2 - p.a2) * (p.c2 - p.a2))
  have d : p.nn = ((p.b1 - p.a1) * (p.c2 - p.a2) - (p.b2 - p.a2) * (p.c1 - p.a1)) * ((p.b1 - p.a1) * (p.c2 - p.a2) - (p.b2 - p.a2) * (p.c1 - p.a1)) + ((p.b2 - p.a2) * (p.c0 - p.a0) - (p.b0 - p.a0) * (p.c2 - p.a2)) * ((p.b2 - p.a2) * (p.c0 - p.a0) - (p.b0 - p.a0) * (p.c2 - p.a2)) + ((p.b0 - p.a0) * (p.c1 - p.a1) - (p.b1 - p.a1) * (p.c0 - p.a0)) * ((p.b0 - p.a0) * (p.c1 - p.a1) - (p.b1 - p.a1) * (p.c0 - p.a0)) := by
    unfold Pn.nn Pn.nx Pn.ny Pn.nz nX nY nZ
    rfl
  have g : 4 * f * (4 * f) = 16 * (f * f) := by grind
  rw [d, e]
  omega
theorem inv_k {t n : Int} (h : (0 ≤ t ∧ t ≤ 17592186044416) ∧ 1 ≤ n) : (invS t n).e = 0 ∧ 0 ≤ (invS t n).lo ∧ (invS t n).lo ≤ (invS t n).hi ∧ (invS t n).hi ≤ 4194305 ∧ (invS t n).lo * (invS t n).lo * n ≤ t ∧ t ≤ (invS t n).hi * (invS t n).hi * n := by
  obtain ⟨⟨t0, t1⟩, n0⟩ := h
  have d0 : 0 ≤ t / n := Int.ediv_nonneg t0 (by omega)
  have d1 : t / n ≤ t := Int.ediv_le_self _ t0
  obtain ⟨s0, s1, s2⟩ := sqrtS_spec d0
  have s3 : sqrtS (t / n) ≤ 4194304 := of_sq_le (by decide) (by omega)
  have m1 : t / n * n ≤ t := Int.ediv_mul_le _ (by omega)
  have m2 : t < (t / n + 1) * n := Int.lt_ediv_add_one_mul_self _ (by omega)
  have k1 := Int.mul_le_mul_of_nonneg_right s1 (show (0 : Int) ≤ n by omega)
  have k2 := Int.mul_le_mul_of_nonneg_right (show t / n + 1 ≤ (sqrtS (t / n) + 1) * (sqrtS (t / n) + 1) by omega) (show (0 : Int) ≤ n by omega)
  have key : ∀ a b : Int, 0 ≤ a → a ≤ b → b ≤ 4194305 → resultS a b = ⟨a, b, 0⟩ := fun a b h1 h2 h3 => by
    unfold resultS
    rw [if_pos (show validB a b = true from decide_eq_true (by omega))]
  unfold invS
  split
  · rename_i e
    rw [key _ _ s0 (Int.le_refl _) (by omega)]
    exact ⟨rfl, s0, Int.le_refl _, by simp only; omega, by simp only; omega, by simp only; omega⟩
  · rw [key _ _ s0 (by omega) (by omega)]
    exact ⟨rfl, s0, by simp only; omega, by simp only; omega, by simp only; omega, by simp only; omega⟩
theorem rim_k {t : Int} {d : Nat} (ht : 1 ≤ t) : 0 ≤ rimN t d ∧ 1099511627776 * 3217 * 4 ^ d ≤ rimN t d * rimN t d * (128 * sqrtS t) := by
  have p4 : (0 : Int) ≤ 4 ^ d := Int.pow_nonneg (by omega)
  obtain ⟨r0, r1, r2⟩ := sqrtS_spec (show 0 ≤ t by omega)
  have rp : 1 ≤ sqrtS t := by
    rcases Int.lt_or_le (sqrtS t) 1 with h | h
    · have : sqrtS t = 0 := by omega
      rw [this] at r2
      omega
    · exact h
  revert rp
  unfold rimN
  generalize sqrtS t = r
  generalize hT : (1099511627776 : Int) * 3217 * 4 ^ d = T
  have hT0 : 0 ≤ T := by rw [← hT]; exact Int.mul_nonneg (by decide) p4
  intro rp
  have d0 : 0 ≤ T / (128 * r) := Int.ediv_nonneg hT0 (by omega)
  obtain ⟨s0, s1, s2⟩ := sqrtS_spec d0
  have m2 : T < (T / (128 * r) + 1) * (128 * r) := Int.lt_ediv_add_one_mul_self _ (by omega)
  have k2 := Int.mul_le_mul_of_nonneg_right (show T / (128 * r) + 1 ≤ (sqrtS (T / (128 * r)) + 1) * (sqrtS (T / (128 * r)) + 1) by omega) (show (0 : Int) ≤ 128 * r by omega)
  split
  · exact ⟨by omega, by omega⟩
  · exact ⟨s0, by omega⟩
/-- The lower bound of a part is at most the rim. -/
theorem low_rim {f t k R r S : Int} (hf : 1 ≤ f) (hk : 0 ≤ k) (hR : 0 ≤ R) (h1 : k * k * f ≤ S) (h2 : 3217 * S ≤ R * R * (128 * r)) (h3 : r * r ≤ t) (hr : 0 ≤ r) (h4 : t ≤ 16 * (f * f)) : k ≤ R := by
  have r4 : r ≤ 4 * f := of_sq_le (by omega) (by
    have e : 4 * f * (4 * f) = 16 * (f * f) := by grind
    omega)
  have RR := Int.mul_nonneg hR hR
  have a := Int.mul_le_mul_of_nonneg_left (show 128 * r ≤ 512 * f by omega) RR
  have e1 : R * R * (512 * f) = 512 * (R * R * f) := by grind
  have key : 3217 * (k * k * f) ≤ 512 * (R * R * f) := by omega
  rcases Int.lt_or_le R k with h | h
  · exfalso
    have b : R * R ≤ k * k := Int.mul_le_mul (by omega) (by omega) hR hk
    have kk : 1 ≤ k * k := by
      have := Int.mul_le_mul (show 1 ≤ k by omega) (show 1 ≤ k by omega) (by omega) hk
      omega
    have c := Int.mul_le_mul_of_nonneg_right b (show (0 : Int) ≤ f by omega)
    have g := Int.mul_le_mul kk hf (by omega) (by omega)
    omega
  · exact h
end Go.Proofs.YtnbjealpcjfllaaGreatDoor

namespace Go.Proofs.YtnbjealpcjfllaaGreatDoor
set_option linter.unusedVariables false
set_option linter.unusedSimpArgs false
open Go.RowKit Go.MapKept
/-! ### A map that the call has just made, with keys of one integer kind -/
@[go_sem] def noKey (k : Int) (es : List MapEntry) : Bool := es.all fun e => match e.key with | .int .u8 b => k != b | _ => false
def Fix (x : Int) : Prop := -1099511627776 ≤ x ∧ x ≤ 1099511627776
end Go.Proofs.YtnbjealpcjfllaaGreatDoor

namespace Go.Proofs.YtnbjealpcjfllaaGreatDoor
set_option linter.unusedVariables false
set_option linter.unusedSimpArgs false
open Go.RowKit
end Go.Proofs.YtnbjealpcjfllaaGreatDoor

namespace Go.Proofs.YtnbjealpcjfllaaGreatDoor
set_option linter.unusedVariables false
set_option linter.unusedSimpArgs false
open Go.RowKit
end Go.Proofs.YtnbjealpcjfllaaGreatDoor

namespace Go.Proofs.YtnbjealpcjfllaaGreatDoor
set_option linter.unusedVariables false
set_option linter.unusedSimpArgs false
open Go.RowKit
end Go.Proofs.YtnbjealpcjfllaaGreatDoor
namespace Go.Proofs.YtnbjealpcjfllaaGreatDoor
set_option linter.unusedVariables false
set_option linter.unusedSimpArgs false
open Go.RowKit
/-- x * n, or a number beyond the limit on the same side. -/
def prodS (x n : Int) : Int := if 1099511627776 < x * n then 1099511627777 else if x * n < -1099511627776 then -1099511627777 else x * n
theorem abs_mul' (x n : Int) : max x (-x) * max n (-n) = x * n ∨ max x (-x) * max n (-n) = -(x * n) := by
  rcases (show max x (-x) = x ∨ max x (-x) = -x by omega) with h | h <;> rcases (show max n (-n) = n ∨ max n (-n) = -n by omega) with k | k <;> rw [h, k]
  · exact .inl rfl
  · exact .inr (Int.mul_neg x n)
  · exact .inr (Int.neg_mul x n)
  · exact .inl (Int.neg_mul_neg x n)
theorem sign_mul {x n : Int} (hx : x ≠ 0) (hn : n ≠ 0) : (x < 0 ↔ n < 0) → 0 < x * n := by
  intro h
  rcases (show (0 < x ∧ 0 < n) ∨ (x < 0 ∧ n < 0) by omega) with ⟨a, b⟩ | ⟨a, b⟩
  · exact Int.mul_pos a b
  · exact Int.mul_pos_of_neg_of_neg a b
theorem sign_mul' {x n : Int} (hx : x ≠ 0) (hn : n ≠ 0) : ¬ (x < 0 ↔ n < 0) → x * n < 0 := by
  intro h
  rcases (show (0 < x ∧ n < 0) ∨ (x < 0 ∧ 0 < n) by omega) with ⟨a, b⟩ | ⟨a, b⟩
  · exact Int.mul_neg_of_pos_of_neg a b
  · exact Int.mul_neg_of_neg_of_pos a b
theorem big_iff {x n : Int} (hx : x ≠ 0) : 1099511627776 / max x (-x) < max n (-n) ↔ 1099511627776 < max x (-x) * max n (-n) := by
  rw [Int.ediv_lt_iff_lt_mul (by omega), Int.mul_comm]
theorem sgn_diff {x n : Int} (h : ¬ (x < 0 ↔ n < 0)) : (!decide (x < 0) == decide (n < 0)) = true := by
  by_cases k1 : x < 0
  · have k2 : ¬ n < 0 := fun k => h ⟨fun _ => k, fun _ => k1⟩; simp only [k1, k2, decide_false, decide_true]; rfl
  · have k2 : n < 0 := by omega
    simp only [k1, k2, decide_false, decide_true]; rfl
set_option maxHeartbeats 1000000 in
theorem prod_any (x n : Int) (w : World) (h1 : Fix x) (h2 : Fix n) :
    Calls Tryz.prog 324 #[.int .i64 x, .int .i64 n] w fun e w' => e = .returned (.int .i64 (prodS x n)) ∧ w = w' := by
  obtain ⟨a1, a2⟩ := h1
  obtain ⟨a3, a4⟩ := h2
  by_cases hx : x = 0
  · subst hx
    go_enter Tryz.func324, Tryz.ntmps324
    go_wp2
    all_goals (go_ret; exact ⟨ret_int (by simp [prodS]), rfl⟩)
  · by_cases hn : n = 0
    · subst hn
      have hx' : (x != 0) = true := by simpa using hx
      go_enter Tryz.func324, Tryz.ntmps324
      go_wp2
      all_goals (go_ret; exact ⟨ret_int (by simp [prodS]), rfl⟩)
    · have hx' : (x != 0) = true := by simpa using hx
      have hn' : (n != 0) = true := by simpa using hn
      have hm : 1 ≤ max x (-x) := by omega
      have bi := big_iff (n := n) hx
      have am := abs_mul' x n
      obtain ⟨P, hP⟩ : ∃ P, P = max x (-x) * max n (-n) := ⟨_, rfl⟩
      have hP0 : 0 ≤ P := by rw [hP]; exact Int.mul_nonneg (by omega) (by omega)
      rw [← hP] at am bi
      clear hP
      by_cases hb : 1099511627776 / max x (-x) < max n (-n)
      · have hbb := bi.1 hb
        by_cases hs : x < 0 ↔ n < 0
        · have hp := sign_mul hx hn hs
          have e : prodS x n = 1099511627777 := by unfold prodS; rw [if_pos (by omega)]
          clear bi hbb am hp
          rw [e]
          clear e
          go_enter Tryz.func324, Tryz.ntmps324
          go_wp2
          go_ret
          exact ⟨rfl, rfl⟩
        · have hp := sign_mul' hx hn hs
          have e : prodS x n = -1099511627777 := by unfold prodS; rw [if_neg (by omega), if_pos (by omega)]
          clear bi hbb am hp
          rw [e]
          clear e
          have hs' : (!decide (x < 0) == decide (n < 0)) = true := sgn_diff hs
          clear hs
          go_enter Tryz.func324, Tryz.ntmps324
          go_wp2
          go_ret
          exact ⟨rfl, rfl⟩
      · have hbb : ¬ 1099511627776 < P := fun k => hb (bi.2 k)
        have e : prodS x n = x * n := by unfold prodS; rw [if_neg (by omega), if_neg (by omega)]
        have hw : -1099511627776 ≤ x * n ∧ x * n ≤ 1099511627776 := by omega
        clear bi hbb am
        rw [e]
        clear e
        go_enter Tryz.func324, Tryz.ntmps324
        go_wp2
        go_ret
        exact ⟨rfl, rfl⟩
def scaleS (al ah n : Int) : R := if validB al ah && wholeB n then resultS (min (prodS al n) (prodS ah n)) (max (prodS al n) (prodS ah n)) else ⟨0, 0, 1⟩
theorem fixv {al ah : Int} (h : validB al ah = true) : Fix al ∧ Fix ah ∧ al ≤ ah := by
  have v1 := valid_bd h
  unfold Fix
  omega
set_option maxHeartbeats 1000000 in
theorem scale_any (al ah n : Int) (w : World) :
    Calls Tryz.prog 302 #[.agg #[.int .i64 al, .int .i64 ah], .int .i64 n] w fun e w' => e = .returned (.tuple #[.agg #[.int .i64 (scaleS al ah n).lo, .int .i64 (scaleS al ah n).hi], .int .i64 (scaleS al ah n).e]) ∧ Kept w w' := by
  cases h : validB al ah
  · go_enter Tryz.func302, Tryz.ntmps302
    go_wp2_with (first | (go_at_call 126; refine (check1_any _ _ _ _ (by simp)).mono ?_; rintro e w1 ⟨rfl, x, rfl⟩))
    all_goals (refine bodyPost_ret (by simp only [results, Tryz.results302]; go_simp; rfl) rfl ?_; refine ⟨ret_R3 (by simp_all [scaleS]), ?_⟩; (repeat (first | exact Kept.refl _ | assumption | refine Kept.alloc ?_ _ | refine Kept.ext ?_ _ | refine Kept.drew ?_ | refine Kept.drewN ?_ _)))
  · obtain ⟨⟨a1, a2⟩, ⟨a3, a4⟩, a9⟩ := fixv h
    cases hn : wholeB n
    · go_enter Tryz.func302, Tryz.ntmps302
      go_wp2_with (first | (go_at_call 126; refine (check1_any _ _ _ _ (by simp)).mono ?_; rintro e w1 ⟨rfl, x, rfl⟩) | (go_at_call 323; refine (whole_any _ _).mono ?_; rintro e w1 ⟨rfl, rfl⟩))
      all_goals (refine bodyPost_ret (by simp only [results, Tryz.results302]; go_simp; rfl) rfl ?_; refine ⟨ret_R3 (by simp_all [scaleS]), ?_⟩; (repeat (first | exact Kept.refl _ | assumption | refine Kept.alloc ?_ _ | refine Kept.ext ?_ _ | refine Kept.drew ?_ | refine Kept.drewN ?_ _)))
    · obtain ⟨b1, b2⟩ := whole_bd hn
      go_enter Tryz.func302, Tryz.ntmps302
      go_wp2_with (first | (go_at_call 126; refine (check1_any _ _ _ _ (by simp)).mono ?_; rintro e w1 ⟨rfl, x, rfl⟩) | (go_at_call 323; refine (whole_any _ _).mono ?_; rintro e w1 ⟨rfl, rfl⟩))
      ((first | (with_reducible refine wp_region_kept2 (by kernel_rfl) (by kernel_rfl) ?_) | refine wp_region_kept (by kernel_rfl) (by kernel_rfl) ?_); (repeat (go_big_quiet_step (first | (go_at_call 324; exact Calls.kept_same (prod_any _ _ _ ⟨by omega, by omega⟩ ⟨by omega, by omega⟩))))); refine wpQuiet_nil ?_; intro x)
      go_wp2_with (first | (go_at_call 298; refine (result_any _ _ _).mono ?_; rintro e w1 ⟨rfl, x, rfl⟩))
      all_goals (refine bodyPost_ret (by simp only [results, Tryz.results302]; go_simp; rfl) rfl ?_; refine ⟨ret_R3 (by simp only [scaleS, h, hn, Bool.and_self, if_true]), ?_⟩; (repeat (first | exact Kept.refl _ | assumption | refine Kept.alloc ?_ _ | refine Kept.ext ?_ _ | refine Kept.drew ?_ | refine Kept.drewN ?_ _)))
def partS (al ah n : Int) : R := if validB al ah && decide (1 ≤ n ∧ n ≤ 1099511627776) then resultS (al / n) (-(-ah / n)) else ⟨0, 0, 1⟩
set_option maxHeartbeats 1000000 in
theorem part_any (al ah n : Int) (w : World) :
    Calls Tryz.prog 322 #[.agg #[.int .i64 al, .int .i64 ah], .int .i64 n] w fun e w' => e = .returned (.tuple #[.agg #[.int .i64 (partS al ah n).lo, .int .i64 (partS al ah n).hi], .int .i64 (partS al ah n).e]) ∧ Kept w w' := by
  cases h : validB al ah
  · go_enter Tryz.func322, Tryz.ntmps322
    go_wp2_with (first | (go_at_call 126; refine (check1_any _ _ _ _ (by simp)).mono ?_; rintro e w1 ⟨rfl, x, rfl⟩))
    all_goals (refine bodyPost_ret (by simp only [results, Tryz.results322]; go_simp; rfl) rfl ?_; refine ⟨ret_R3 (by simp_all [partS]), ?_⟩; (repeat (first | exact Kept.refl _ | assumption | refine Kept.alloc ?_ _ | refine Kept.ext ?_ _ | refine Kept.drew ?_ | refine Kept.drewN ?_ _)))
  · obtain ⟨⟨a1, a2⟩, ⟨a3, a4⟩, a9⟩ := fixv h
    by_cases hn : 1 ≤ n ∧ n ≤ 1099511627776
    · have e : partS al ah n = resultS (al.fdiv n) (-((-ah).fdiv n)) := by simp only [partS, h, hn, and_self, decide_true, Bool.and_self, if_true, fdiv_pos _ n (show 0 < n by omega)]
      rw [e]
      clear e
      obtain ⟨b1, b2⟩ := hn
      go_enter Tryz.func322, Tryz.ntmps322
      go_wp2_with (first | (go_at_call 126; refine (check1_any _ _ _ _ (by simp)).mono ?_; rintro e w1 ⟨rfl, x, rfl⟩))
      ((first | (with_reducible refine wp_region_tail2 11 (by kernel_rfl) (by kernel_rfl) ?_) | refine wp_region_tail 11 (by kernel_rfl) (by kernel_rfl) ?_); simp only [List.take_succ_cons, List.take_zero, List.drop_succ_cons, List.drop_zero]; (repeat (go_big_quiet_step (first | (go_at_call 299; exact Calls.kept_same (down_any _ _ _ (by omega) (by omega) (by omega))) | (go_at_call 300; exact Calls.kept_same (up_any _ _ _ (by omega) (by omega) (by omega))) | (go_at_call 298; exact Calls.kept_of (result_any _ _ _))))); refine wpQuiet_nil ?_; intro x)
      go_wp2
      all_goals (refine bodyPost_ret (by simp only [results, Tryz.results322]; go_simp; rfl) rfl ?_; refine ⟨rfl, ?_⟩; (repeat (first | exact Kept.refl _ | assumption | refine Kept.alloc ?_ _ | refine Kept.ext ?_ _ | refine Kept.drew ?_ | refine Kept.drewN ?_ _)))
    · have e : partS al ah n = ⟨0, 0, 1⟩ := by simp only [partS, h, hn, decide_false, Bool.and_false, Bool.false_eq_true, if_false]
      by_cases b1 : n < 1
      · clear hn
        go_enter Tryz.func322, Tryz.ntmps322
        go_wp2_with (first | (go_at_call 126; refine (check1_any _ _ _ _ (by simp)).mono ?_; rintro e w1 ⟨rfl, x, rfl⟩))
        all_goals (refine bodyPost_ret (by simp only [results, Tryz.results322]; go_simp; rfl) rfl ?_; refine ⟨ret_R3 e.symm, ?_⟩; (repeat (first | exact Kept.refl _ | assumption | refine Kept.alloc ?_ _ | refine Kept.ext ?_ _ | refine Kept.drew ?_ | refine Kept.drewN ?_ _)))
      · have b2 : 1099511627776 < n := by omega
        clear hn
        go_enter Tryz.func322, Tryz.ntmps322
        go_wp2_with (first | (go_at_call 126; refine (check1_any _ _ _ _ (by simp)).mono ?_; rintro e w1 ⟨rfl, x, rfl⟩))
        all_goals (refine bodyPost_ret (by simp only [results, Tryz.results322]; go_simp; rfl) rfl ?_; refine ⟨ret_R3 e.symm, ?_⟩; (repeat (first | exact Kept.refl _ | assumption | refine Kept.alloc ?_ _ | refine Kept.ext ?_ _ | refine Kept.drew ?_ | refine Kept.drewN ?_ _)))
end Go.Proofs.YtnbjealpcjfllaaGreatDoor

namespace Go.Proofs.YtnbjealpcjfllaaGreatDoor
set_option linter.unusedVariables false
set_option linter.unusedSimpArgs false
open Go.RowKit
def sumP (g : Pn → Int) : List Pn → Int
  | [] => 0
  | x :: r => g x + sumP g r
theorem sumP_app (g : Pn → Int) : ∀ a b : List Pn, sumP g (a ++ b) = sumP g a + sumP g b
  | [], b => by simp [sumP]
  | x :: a, b => by
    show g x + sumP g (a ++ b) = g x + sumP g a + sumP g b
    rw [sumP_app g a b]
    omega
theorem sumP_snoc (g : Pn → Int) (a : List Pn) (x : Pn) : sumP g (a ++ [x]) = sumP g a + g x := by
  rw [sumP_app]
  simp [sumP]
theorem sumP_bd {g h : Pn → Int} {t : Int} : ∀ {l : List Pn}, (∀ x ∈ l, 0 ≤ g x ∧ g x ≤ h x ∧ h x ≤ t) → 0 ≤ sumP g l ∧ sumP g l ≤ sumP h l ∧ sumP h l ≤ (l.length : Int) * t
  | [], _ => by simp [sumP]
  | x :: l, hx => by
    have h1 := hx x (by simp)
    have h2 := sumP_bd (l := l) (fun y hy => hx y (List.mem_cons_of_mem _ hy))
    have e : ((x :: l).length : Int) * t = (l.length : Int) * t + t := by
      rw [List.length_cons, Int.natCast_add, Int.add_mul]
      simp
    rw [e]
    show 0 ≤ g x + sumP g l ∧ g x + sumP g l ≤ h x + sumP h l ∧ h x + sumP h l ≤ _
    omega
def lowP (d : Nat) (q x : Pn) : Int := (inverseS (farI x.at q.at 3 3) (2 ^ d)).lo
def higP (d : Nat) (r : Int) (q x : Pn) : Int := if 0 < nearP x.at 3 q.at 3 then min r (inverseS (nearP x.at 3 q.at 3) (2 ^ d)).hi else r
theorem Pn.near1 {p : Pn} {m : Int} (h : p.bd m) (hm : m ≤ 1024) : Near1 p.at 3 := by
  obtain ⟨⟨a, b, c⟩, ⟨d, e, f⟩, g, i, j⟩ := h
  intro k hk
  rcases (show k = 0 ∨ k = 1 ∨ k = 2 by omega) with rfl | rfl | rfl
  · show (-4096 ≤ p.a0 ∧ p.a0 ≤ 4096) ∧ (-4096 ≤ p.a1 ∧ p.a1 ≤ 4096) ∧ (-4096 ≤ p.a2 ∧ p.a2 ≤ 4096)
    omega
  · show (-4096 ≤ p.b0 ∧ p.b0 ≤ 4096) ∧ (-4096 ≤ p.b1 ∧ p.b1 ≤ 4096) ∧ (-4096 ≤ p.b2 ∧ p.b2 ≤ 4096)
    omega
  · show (-4096 ≤ p.c0 ∧ p.c0 ≤ 4096) ∧ (-4096 ≤ p.c1 ∧ p.c1 ≤ 4096) ∧ (-4096 ≤ p.c2 ∧ p.c2 ≤ 4096)
    omega
theorem two_pow {d : Nat} (h : d ≤ 2) : ((2 : Int) ^ d = 1 ∧ (4 : Int) ^ d = 1 ∧ 4 ^ d = 1) ∨ ((2 : Int) ^ d = 2 ∧ (4 : Int) ^ d = 4 ∧ 4 ^ d = 4) ∨ ((2 : Int) ^ d = 4 ∧ (4 : Int) ^ d = 16 ∧ 4 ^ d = 16) := by
  rcases (show d = 0 ∨ d = 1 ∨ d = 2 by omega) with rfl | rfl | rfl
  · exact .inl ⟨rfl, rfl, rfl⟩
  · exact .inr (.inl ⟨rfl, rfl, rfl⟩)
  · exact .inr (.inr ⟨rfl, rfl, rfl⟩)
theorem rim_bd {t : Int} {d : Nat} (ht : 1 ≤ t) (hd : d ≤ 2) : 0 ≤ rimN t d ∧ rimN t d ≤ 21040000 := by
  obtain ⟨r0, r1, r2⟩ := sqrtS_spec (show 0 ≤ t by omega)
  have rp : 1 ≤ sqrtS t := by
    rcases Int.lt_or_le (sqrtS t) 1 with h | h
    · have : sqrtS t = 0 := by omega
      rw [this] at r2
      omega
    · exact h
  refine ⟨(rim_k ht).1, ?_⟩
  revert rp
  unfold rimN
  generalize sqrtS t = r
  intro rp
  have hT : (0 : Int) ≤ 1099511627776 * 3217 * 4 ^ d ∧ (1099511627776 : Int) * 3217 * 4 ^ d ≤ 56594062904950784 := by
    rcases two_pow hd with ⟨-, e, -⟩ | ⟨-, e, -⟩ | ⟨-, e, -⟩ <;> rw [e] <;> omega
  revert hT
  generalize (1099511627776 : Int) * 3217 * 4 ^ d = T
  intro hT
  have d0 : 0 ≤ T / (128 * r) := Int.ediv_nonneg hT.1 (by omega)
  have d1 : T / (128 * r) * (128 * r) ≤ T := Int.ediv_mul_le _ (by omega)
  have d2 : T / (128 * r) * 128 ≤ T / (128 * r) * (128 * r) := Int.mul_le_mul_of_nonneg_left (by omega) d0
  obtain ⟨s0, s1, s2⟩ := sqrtS_spec d0
  have s3 : sqrtS (T / (128 * r)) ≤ 21030000 := of_sq_le (by decide) (by omega)
  split <;> omega
/-- Each part: the lower bound is at most the upper one. -/
theorem part_bd {d : Nat} {p q x : Pn} (hd : d ≤ 2) (hp : p.bd 64) (hq : q.bd 256) (hn : 1 ≤ p.nn) (hx : x ∈ cutL d p) : 0 ≤ lowP d q x ∧ lowP d q x ≤ higP d (rimN p.nn d) q x ∧ higP d (rimN p.nn d) q x ≤ 21040000 := by
  have xb := cutL_bd d p 64 hp x hx
  have xb2 : x.bd 256 := by
    obtain ⟨⟨a, b, c⟩, ⟨e, f, g⟩, h, i, j⟩ := xb
    rcases two_pow hd with ⟨w, -, -⟩ | ⟨w, -, -⟩ | ⟨w, -, -⟩ <;> rw [w] at a b c e f g h i j <;> exact ⟨⟨by omega, by omega, by omega⟩, ⟨by omega, by omega, by omega⟩, by omega, by omega, by omega⟩
  have N1 := Pn.near1 xb2 (by omega)
  have N2 := Pn.near1 hq (by omega)
  have F := farI_bd N1 N2 3 (Nat.le_refl _)
  have G := nearP_bd (n := 3) (m := 3) (by omega) (by omega) N1 N2
  have NF := near_far (P := x.at) (Q := q.at) (n := 3) (m := 3) (by omega) (by omega)
  have NN := nn_far x q rfl
  rw [cutL_nn d p x hx] at NN
  have R := rim_bd (d := d) hn hd
  have RK := rim_k (d := d) hn
  obtain ⟨q0, q1, q2⟩ := sqrtS_spec (show 0 ≤ p.nn by omega)
  unfold lowP higP
  revert F G NF NN
  generalize farI x.at q.at 3 3 = f, nearP x.at 3 q.at 3 = g
  intro F G NF NN
  have f1 : 1 ≤ f := by
    rcases Int.lt_or_le f 1 with h | h
    · have : f = 0 := by omega
      rw [this] at NN
      omega
    · exact h
  have hs : 1 ≤ (2 : Int) ^ d ∧ (2 : Int) ^ d ≤ 8 ∧ (2 : Int) ^ d * 2 ^ d = 4 ^ d ∧ (4 : Int) ^ d ≤ 16 ∧ 1 ≤ (4 : Int) ^ d := by
    rcases two_pow hd with ⟨a, b, -⟩ | ⟨a, b, -⟩ | ⟨a, b, -⟩ <;> rw [a, b] <;> decide
  have ef : inverseS f (2 ^ d) = invS (2 ^ d * 2 ^ d * 1099511627776) f := if_pos ⟨⟨f1, by omega⟩, hs.1, hs.2.1⟩
  rw [ef, hs.2.2.1]
  obtain ⟨-, k0, k1, k2, k3, k4⟩ := inv_k (t := 4 ^ d * 1099511627776) (n := f) ⟨⟨by omega, by omega⟩, f1⟩
  have kr : (invS (4 ^ d * 1099511627776) f).lo ≤ rimN p.nn d := low_rim f1 k0 R.1 k3 (by have := RK.2; omega) q1 q0 NN
  split
  · rename_i hg
    have eg : inverseS g (2 ^ d) = invS (2 ^ d * 2 ^ d * 1099511627776) g := if_pos ⟨⟨by omega, by omega⟩, hs.1, hs.2.1⟩
    rw [eg, hs.2.2.1]
    obtain ⟨-, g0, g1, g2, g3, g4⟩ := inv_k (t := 4 ^ d * 1099511627776) (n := g) ⟨⟨by omega, by omega⟩, by omega⟩
    have kg : (invS (4 ^ d * 1099511627776) f).lo ≤ (invS (4 ^ d * 1099511627776) g).hi := by
      rcases Int.lt_or_le (invS (4 ^ d * 1099511627776) g).hi (invS (4 ^ d * 1099511627776) f).lo with h | h
      · exfalso
        revert g0 g1 g4 k0 k3 h
        generalize (invS (4 ^ d * 1099511627776) g).hi = b, (invS (4 ^ d * 1099511627776) g).lo = b', (invS (4 ^ d * 1099511627776) f).lo = a
        intro g0 g1 g4 k0 k3 h
        have c1 : (b + 1) * (b + 1) ≤ a * a := Int.mul_le_mul (by omega) (by omega) (by omega) (by omega)
        have c2 := Int.mul_le_mul c1 NF (by omega) (Int.mul_nonneg (by omega) (by omega))
        have c3 : (b + 1) * (b + 1) * g = b * b * g + (2 * b + 1) * g := by grind
        have c4 : 0 < (2 * b + 1) * g := Int.mul_pos (by omega) hg
        omega
      · exact h
    exact ⟨k0, by omega, by omega⟩
  · exact ⟨k0, kr, R.2⟩
/-- A panel, seen from a triangle of the finer grid: an average over its parts. -/
def seenS (d : Nat) (p q : Pn) : R := partS (sumP (lowP d q) (cutL d p)) (sumP (higP d (rimN p.nn d) q) (cutL d p)) (4 ^ d)
theorem seen_sum {d : Nat} {p q : Pn} (hd : d ≤ 2) (hp : p.bd 64) (hq : q.bd 256) (hn : 1 ≤ p.nn) : 0 ≤ sumP (lowP d q) (cutL d p) ∧ sumP (lowP d q) (cutL d p) ≤ sumP (higP d (rimN p.nn d) q) (cutL d p) ∧ sumP (higP d (rimN p.nn d) q) (cutL d p) ≤ 336640000 := by
  have h := sumP_bd (g := lowP d q) (h := higP d (rimN p.nn d) q) (t := 21040000) (l := cutL d p) (fun x hx => part_bd hd hp hq hn hx)
  rw [cutL_len] at h
  have : ((4 ^ d : Nat) : Int) ≤ 16 := by
    rcases two_pow hd with ⟨-, -, e⟩ | ⟨-, -, e⟩ | ⟨-, -, e⟩ <;> rw [e] <;> decide
  have := Int.mul_le_mul_of_nonneg_right this (show (0 : Int) ≤ 21040000 by decide)
  omega
theorem seen_eq {d : Nat} {p q : Pn} (hd : d ≤ 2) (hp : p.bd 64) (hq : q.bd 256) (hn : 1 ≤ p.nn) : seenS d p q = ⟨sumP (lowP d q) (cutL d p) / 4 ^ d, -(-sumP (higP d (rimN p.nn d) q) (cutL d p) / 4 ^ d), 0⟩ ∧ 0 ≤ (seenS d p q).lo ∧ (seenS d p q).lo ≤ (seenS d p q).hi ∧ (seenS d p q).hi ≤ 336640000 := by
  have s := seen_sum hd hp hq hn
  have e : seenS d p q = ⟨sumP (lowP d q) (cutL d p) / 4 ^ d, -(-sumP (higP d (rimN p.nn d) q) (cutL d p) / 4 ^ d), 0⟩ := by
    unfold seenS
    revert s
    generalize sumP (lowP d q) (cutL d p) = a, sumP (higP d (rimN p.nn d) q) (cutL d p) = b
    intro s
    have hv : validB a b = true := decide_eq_true (by omega)
    unfold partS
    rw [hv]
    rcases two_pow hd with ⟨-, w, -⟩ | ⟨-, w, -⟩ | ⟨-, w, -⟩ <;> rw [w]
    all_goals
      simp only [Bool.true_and]
      rw [if_pos (by decide)]
      unfold resultS
      refine if_pos ?_
      unfold validB
      exact decide_eq_true (by omega)
  refine ⟨e, ?_⟩
  rw [e]
  revert s
  generalize sumP (lowP d q) (cutL d p) = a, sumP (higP d (rimN p.nn d) q) (cutL d p) = b
  intro s
  rcases two_pow hd with ⟨-, w, -⟩ | ⟨-, w, -⟩ | ⟨-, w, -⟩ <;> rw [w] <;> simp only <;> omega
end Go.Proofs.YtnbjealpcjfllaaGreatDoor

namespace Go.Proofs.YtnbjealpcjfllaaGreatDoor
set_option linter.unusedVariables false
set_option linter.unusedSimpArgs false
open Go.ChangeShapes Go.WideShapes Go.ChangeAt Go.RowKit
def lenS (n : Int) : R := if 0 ≤ n ∧ n ≤ 1099511627776 then (if sqrtS (n * 1099511627776) * sqrtS (n * 1099511627776) = n * 1099511627776 then resultS (sqrtS (n * 1099511627776)) (sqrtS (n * 1099511627776)) else resultS (sqrtS (n * 1099511627776)) (sqrtS (n * 1099511627776) + 1)) else ⟨0, 0, 1⟩
theorem len_sq (a f : Int) : (a * 1048576 + f) * (a * 1048576 + f) = a * a * 1099511627776 + (2 * a * f * 1048576 + f * f) := by grind
theorem len_end {n a f : Int} (a0 : 0 ≤ a) (f0 : 0 ≤ f) (h1 : 2 * a * f * 1048576 + f * f ≤ (n - a * a) * 1099511627776)
    (h2 : (n - a * a) * 1099511627776 < 2 * a * (f + 1) * 1048576 + (f + 1) * (f + 1)) : sqrtS (n * 1099511627776) = a * 1048576 + f := by
  have e1 := len_sq a f
  have e2 := len_sq a (f + 1)
  refine (sqrtS_unique (by omega) ?_ ?_).symm
  · omega
  · rw [show a * 1048576 + f + 1 = a * 1048576 + (f + 1) by omega]
    omega
/-- What holds of the fraction f when m bits are left. -/
def LenJ (n a : Int) (m : Nat) (f : Int) : Prop := 0 ≤ f ∧ f + powS m ≤ 1048576 ∧ 2 * a * f * 1048576 + f * f ≤ (n - a * a) * 1099511627776 ∧ (n - a * a) * 1099511627776 < 2 * a * (f + powS m) * 1048576 + (f + powS m) * (f + powS m) ∧ m ≤ 20
theorem len_bd {a g : Int} (h : 0 ≤ a ∧ a ≤ 1048576) (hg : 0 ≤ g ∧ g ≤ 1048576) : 0 ≤ 2 * a * g ∧ 2 * a * g ≤ 2199023255552 ∧ 0 ≤ g * g ∧ g * g ≤ 1099511627776 := by
  have h1 : 0 ≤ 2 * a * g := Int.mul_nonneg (by omega) hg.1
  have h2 : 2 * a * g ≤ 2097152 * 1048576 := Int.mul_le_mul (by omega) hg.2 hg.1 (by omega)
  have h3 : 0 ≤ g * g := Int.mul_nonneg hg.1 hg.1
  have h4 : g * g ≤ 1048576 * 1048576 := Int.mul_le_mul hg.2 hg.2 hg.1 (by omega)
  exact ⟨h1, by omega, h3, by omega⟩
set_option maxRecDepth 100000 in
set_option maxHeartbeats 4000000 in
theorem len_any (n : Int) (w : World) :
    Calls Tryz.prog 260 #[.int .i64 n] w fun e w' => e = .returned (.tuple #[.agg #[.int .i64 (lenS n).lo, .int .i64 (lenS n).hi], .int .i64 (lenS n).e]) ∧ Kept w w' := by
  by_cases b1 : n < 0
  · have e : lenS n = ⟨0, 0, 1⟩ := if_neg (by omega)
    rw [e]
    clear e
    go_enter Tryz.func260, Tryz.ntmps260
    go_wp2
    all_goals (refine bodyPost_ret (by simp only [results, Tryz.results260]; go_simp; rfl) rfl ?_; refine ⟨rfl, ?_⟩; (repeat (first | exact Kept.refl _ | assumption | refine Kept.alloc ?_ _ | refine Kept.ext ?_ _ | refine Kept.drew ?_ | refine Kept.drewN ?_ _)))
  by_cases b2 : 1099511627776 < n
  · have e : lenS n = ⟨0, 0, 1⟩ := if_neg (by omega)
    rw [e]
    clear e
    go_enter Tryz.func260, Tryz.ntmps260
    go_wp2
    all_goals (refine bodyPost_ret (by simp only [results, Tryz.results260]; go_simp; rfl) rfl ?_; refine ⟨rfl, ?_⟩; (repeat (first | exact Kept.refl _ | assumption | refine Kept.alloc ?_ _ | refine Kept.ext ?_ _ | refine Kept.drew ?_ | refine Kept.drewN ?_ _)))
  obtain ⟨s0, s1, s2⟩ := sqrtS_spec (show 0 ≤ n by omega)
  have s3 : sqrtS n ≤ 1048576 := of_sq_le (by decide) (by omega)
  have s4 := Int.mul_nonneg s0 s0
  have s5 : (sqrtS n + 1) * (sqrtS n + 1) = sqrtS n * sqrtS n + 2 * sqrtS n + 1 := by grind
  obtain ⟨a, ha⟩ : ∃ a, sqrtS n = a := ⟨_, rfl⟩
  rw [ha] at s0 s1 s2 s3 s4 s5
  go_enter Tryz.func260, Tryz.ntmps260
  go_wp2_with (first | (go_at_call 301; refine (root_any _ _ ⟨by omega, by omega⟩).mono ?_; rintro e w1 ⟨rfl, rfl⟩))
  go_loopw [6, 7] (fun f b wr => ∃ (m : Nat) (g : Int), f = .int .i64 g ∧ b = .int .i64 (bitAt m) ∧ LenJ n a m g ∧ wr = w.alloc (.cells #[.int .i64 0, .int .i64 0] 44)) (fun _ b _ => (intOf b).toNat)
  case atStart =>
    refine ⟨20, 0, rfl, rfl, ⟨by omega, by decide, by omega, ?_, by omega⟩, rfl⟩
    show (n - a * a) * 1099511627776 < 2 * a * (0 + 1048576) * 1048576 + (0 + 1048576) * (0 + 1048576)
    omega
  case round =>
    obtain ⟨m, g, rfl, rfl, ⟨g0, g1, g2, g3, g4⟩, rfl⟩ := hrel
    cases m with
    | zero =>
      have p : powS 0 = 1 := rfl
      rw [p] at g1 g3
      rw [show bitAt 0 = 0 from rfl]
      have q := len_end s0 g0 g2 g3
      have r := len_sq a g
      obtain ⟨c1, c2, c3, c4⟩ := len_bd ⟨s0, s3⟩ (show 0 ≤ g ∧ g ≤ 1048576 by omega)
      have E : lenS n = if (a * 1048576 + g) * (a * 1048576 + g) = n * 1099511627776 then resultS (a * 1048576 + g) (a * 1048576 + g) else resultS (a * 1048576 + g) (a * 1048576 + g + 1) := by rw [← q]; exact if_pos (by omega)
      by_cases hk : (a * 1048576 + g) * (a * 1048576 + g) = n * 1099511627776
      · rw [if_pos hk] at E
        have hk' : (2 * a * g * 1048576 + g * g == (n - a * a) * 1099511627776) = true := by simp; omega
        clear hk q r ha
        go_wp2_with (first | (go_at_call 298; refine (result_any _ _ _).mono ?_; rintro e w1 ⟨rfl, x, rfl⟩))
        refine bodyPost_ret (by simp only [results, Tryz.results260]; go_simp; rfl) rfl ?_
        refine ⟨ret_R3 E.symm, ?_⟩
        (repeat (first | exact Kept.refl _ | assumption | refine Kept.alloc ?_ _ | refine Kept.ext ?_ _ | refine Kept.drew ?_ | refine Kept.drewN ?_ _))
      · rw [if_neg hk] at E
        have hk' : (2 * a * g * 1048576 + g * g == (n - a * a) * 1099511627776) = false := by simp; omega
        clear hk q r ha
        go_wp2_with (first | (go_at_call 298; refine (result_any _ _ _).mono ?_; rintro e w1 ⟨rfl, x, rfl⟩))
        refine bodyPost_ret (by simp only [results, Tryz.results260]; go_simp; rfl) rfl ?_
        refine ⟨ret_R3 E.symm, ?_⟩
        (repeat (first | exact Kept.refl _ | assumption | refine Kept.alloc ?_ _ | refine Kept.ext ?_ _ | refine Kept.drew ?_ | refine Kept.drewN ?_ _))
    | succ j =>
      have e : bitAt (j + 1) = powS j := rfl
      rw [e]
      rw [powS_succ] at g1 g3
      obtain ⟨p0, p1⟩ := powS_half j
      obtain ⟨c1, c2, c3, c4⟩ := len_bd ⟨s0, s3⟩ (show 0 ≤ g + powS j ∧ g + powS j ≤ 1048576 by omega)
      by_cases hle : 2 * a * (g + powS j) * 1048576 + (g + powS j) * (g + powS j) ≤ (n - a * a) * 1099511627776
      · go_wp2
        refine ⟨⟨j, _, rfl, by rw [p1], ⟨by omega, by omega, hle, by rw [show g + powS j + powS j = g + 2 * powS j by omega]; exact g3, by omega⟩, trivial⟩, ?_⟩
        simp only [intOf]
        omega
      · go_wp2
        refine ⟨⟨j, _, rfl, by rw [p1], ⟨g0, by omega, g2, by omega, by omega⟩, trivial⟩, ?_⟩
        simp only [intOf]
        omega
end Go.Proofs.YtnbjealpcjfllaaGreatDoor

namespace Go.Proofs.YtnbjealpcjfllaaGreatDoor
set_option linter.unusedVariables false
set_option linter.unusedSimpArgs false
theorem result_ok {lo hi : Int} (h : (resultS lo hi).e = 0) : resultS lo hi = ⟨lo, hi, 0⟩ ∧ validB lo hi = true := by
  unfold resultS at *
  split at h
  · rename_i k; rw [if_pos k]; exact ⟨rfl, k⟩
  · cases h
theorem scale_ok {al ah n : Int} (h : (scaleS al ah n).e = 0) : scaleS al ah n = ⟨min (prodS al n) (prodS ah n), max (prodS al n) (prodS ah n), 0⟩ ∧ validB al ah = true ∧ wholeB n = true ∧ validB (min (prodS al n) (prodS ah n)) (max (prodS al n) (prodS ah n)) = true := by
  unfold scaleS at *
  split at h
  · rename_i k
    simp only [Bool.and_eq_true] at k
    obtain ⟨e, v⟩ := result_ok h
    rw [if_pos (by simp [k]), e]
    exact ⟨rfl, k.1, k.2, v⟩
  · cases h
theorem prod_in {x n : Int} (h : -1099511627776 ≤ prodS x n ∧ prodS x n ≤ 1099511627776) : prodS x n = x * n := by
  unfold prodS at *
  split at h
  · omega
  · rename_i a
    rw [if_neg a]
    split at h
    · omega
    · rename_i b; rw [if_neg b]
end Go.Proofs.YtnbjealpcjfllaaGreatDoor

namespace Go.Proofs.YtnbjealpcjfllaaGreatDoor
set_option linter.unusedVariables false
set_option linter.unusedSimpArgs false
open Go.ChangeShapes Go.WideShapes Go.ChangeAt Go.RowKit
theorem SpansAt.of {w w' : World} {A : Option Addr} {n : Nat} {lo hi : Nat → Int} (h : SpansAt w A n lo hi) (hk : Kept w w') : SpansAt w' A n lo hi := by
  intro h0
  obtain ⟨b, off, rfl, hb, hc⟩ := h h0
  obtain ⟨x, rfl⟩ := hk
  refine ⟨b, off, rfl, by rw [ext_size]; exact Nat.lt_of_lt_of_le hb (adv_le _ _), fun k hk => ?_⟩
  have LB : Lower b w.heap.size := ⟨hb⟩
  rw [ext_cell, ext_cell]
  exact hc k hk
def sumF : Nat → (Nat → Int) → Int
  | 0, _ => 0
  | n + 1, f => sumF n f + f n
theorem sumF_bd {n : Nat} {lo hi : Nat → Int} (h : allV n lo hi = true) : -(n * 1099511627776) ≤ sumF n lo ∧ sumF n lo ≤ sumF n hi ∧ sumF n hi ≤ n * 1099511627776 := by
  induction n with
  | zero => simp [sumF]
  | succ n ih =>
    rw [allV_succ, Bool.and_eq_true] at h
    have := ih h.1
    have := valid_bd h.2
    unfold sumF
    omega
theorem allV_of {n k : Nat} {lo hi : Nat → Int} (h : allV n lo hi = true) (hk : k ≤ n) : allV k lo hi = true := by
  induction n with
  | zero => obtain rfl : k = 0 := by omega
            exact h
  | succ n ih =>
    by_cases e : k = n + 1
    · subst e; exact h
    · rw [allV_succ, Bool.and_eq_true] at h
      exact ih h.1 (by omega)
theorem allV_at {n k : Nat} {lo hi : Nat → Int} (h : allV n lo hi = true) (hk : k < n) : validB (lo k) (hi k) = true := by
  have := allV_of h (show k + 1 ≤ n by omega)
  rw [allV_succ, Bool.and_eq_true] at this
  exact this.2
/-- The sums of the bounds, with an error number. -/
def totS (n : Nat) (lo hi : Nat → Int) : R := if 10000 < n then ⟨0, 0, 4⟩ else if allV n lo hi then ⟨sumF n lo, sumF n hi, 0⟩ else ⟨0, 0, 1⟩
theorem errV_ok {n : Nat} {lo hi : Nat → Int} (h : allV n lo hi = true) : errV n lo hi = 0 := by unfold errV; rw [h]; rfl
theorem errV_bad {n : Nat} {lo hi : Nat → Int} (h : allV n lo hi = false) : errV n lo hi = 1 := by unfold errV; rw [h]; rfl
theorem checkL_any (A : Option Addr) (n cap : Nat) (lo hi : Nat → Int) (w : World) (hn : n ≤ 140737488351232) (h : SpansAt w A n lo hi) :
    Calls Tryz.prog 126 #[.slice A n cap] w fun e w' => e = .returned (.int .i64 (errV n lo hi)) ∧ Kept w w' := check_any A n cap lo hi w hn h
set_option maxRecDepth 100000 in
set_option maxHeartbeats 1000000 in
theorem total_any (A : Option Addr) (n cap : Nat) (lo hi : Nat → Int) (w : World) (hn : n ≤ 140737488351232) (hs : SpansAt w A n lo hi) :
    Calls Tryz.prog 297 #[.slice A n cap] w fun e w' => e = .returned (.tuple #[.int .i64 (totS n lo hi).lo, .int .i64 (totS n lo hi).hi, .int .i64 (totS n lo hi).e]) ∧ Kept w w' := by
  by_cases h1 : 10000 < n
  · have e : totS n lo hi = ⟨0, 0, 4⟩ := if_pos h1
    rw [e]
    clear e
    go_enter Tryz.func297, Tryz.ntmps297
    go_wp2_with fail
    go_ret3
    exact ⟨rfl, by (repeat (first | exact Kept.refl _ | assumption | refine Kept.alloc ?_ _ | refine Kept.ext ?_ _ | refine Kept.drew ?_ | refine Kept.drewN ?_ _))⟩
  cases h2 : allV n lo hi
  · have e : totS n lo hi = ⟨0, 0, 1⟩ := by unfold totS; rw [if_neg h1, h2]; rfl
    rw [e]
    have e1 := errV_bad h2
    clear e h2
    go_enter Tryz.func297, Tryz.ntmps297
    go_wp2_with fail
    refine (checkL_any _ _ _ lo hi _ (by omega) hs).mono ?_
    rintro e w1 ⟨rfl, x, rfl⟩
    go_wp2_with fail
    go_ret3
    exact ⟨rfl, by (repeat (first | exact Kept.refl _ | assumption | refine Kept.alloc ?_ _ | refine Kept.ext ?_ _ | refine Kept.drew ?_ | refine Kept.drewN ?_ _))⟩
  · have e : totS n lo hi = ⟨sumF n lo, sumF n hi, 0⟩ := by unfold totS; rw [if_neg h1, h2]; rfl
    rw [e]
    have e1 := errV_ok h2
    have H2 := Lib.hid h2
    clear e h2
    rcases Nat.eq_zero_or_pos n with rfl | h0
    · go_enter Tryz.func297, Tryz.ntmps297
      go_wp2_with fail
      refine (checkL_any _ _ _ lo hi _ (by omega) hs).mono ?_
      rintro e w1 ⟨rfl, x, rfl⟩
      go_wp2_with fail
      go_loopw [2, 3, 18] (fun a b i wr => a = .int .i64 0 ∧ b = .int .i64 0 ∧ i = .int .i64 0 ∧ ∃ y, wr = ext w y) (fun _ _ _ _ => 0)
      case atStart => exact ⟨rfl, rfl, rfl, show Kept _ _ by (repeat (first | exact Kept.refl _ | assumption | refine Kept.alloc ?_ _ | refine Kept.ext ?_ _ | refine Kept.drew ?_ | refine Kept.drewN ?_ _))⟩
      case round =>
        obtain ⟨rfl, rfl, rfl, y, rfl⟩ := hrel
        go_wp2_with fail
        go_ret3
        exact ⟨rfl, by (repeat (first | exact Kept.refl _ | assumption | refine Kept.alloc ?_ _ | refine Kept.ext ?_ _ | refine Kept.drew ?_ | refine Kept.drewN ?_ _))⟩
    · obtain ⟨b, off, rfl, hb, hcell⟩ := hs h0
      have hs' := Lib.hid hs
      clear hs
      have LB : Lower b w.heap.size := ⟨hb⟩
      go_enter Tryz.func297, Tryz.ntmps297
      go_wp2_with fail
      refine (checkL_any _ _ _ lo hi _ (by omega) hs'.out).mono ?_
      rintro e w1 ⟨rfl, x, rfl⟩
      go_wp2_with fail
      go_loopw [2, 3, 18] (fun a c i wr => ∃ k : Nat, k ≤ n ∧ a = .int .i64 (sumF k lo) ∧ c = .int .i64 (sumF k hi) ∧ i = .int .i64 k ∧ ∃ y, wr = ext w y) (fun _ _ i _ => n - (intOf i).toNat)
      case atStart => exact ⟨0, by omega, rfl, rfl, rfl, show Kept _ _ by (repeat (first | exact Kept.refl _ | assumption | refine Kept.alloc ?_ _ | refine Kept.ext ?_ _ | refine Kept.drew ?_ | refine Kept.drewN ?_ _))⟩
      case round =>
        obtain ⟨k, hk, rfl, rfl, rfl, y, rfl⟩ := hrel
        by_cases hlt : k < n
        · obtain ⟨c0, c1⟩ := hcell k hlt
          have b1 := sumF_bd (allV_of H2.out hk)
          have b2 := valid_bd (allV_at H2.out hlt)
          go_wp2_with fail
          go_roundw
          case rel => exact ⟨k + 1, by omega, rfl, rfl, by go_num, show Kept w _ by (repeat (first | exact Kept.refl _ | assumption | refine Kept.alloc ?_ _ | refine Kept.ext ?_ _ | refine Kept.drew ?_ | refine Kept.drewN ?_ _))⟩
          case measure => simp [intOf]; omega
        · obtain rfl : k = n := by omega
          go_wp2_with fail
          go_ret3
          exact ⟨rfl, by (repeat (first | exact Kept.refl _ | assumption | refine Kept.alloc ?_ _ | refine Kept.ext ?_ _ | refine Kept.drew ?_ | refine Kept.drewN ?_ _))⟩
end Go.Proofs.YtnbjealpcjfllaaGreatDoor
namespace Go.Proofs.YtnbjealpcjfllaaGreatDoor
set_option linter.unusedVariables false
set_option linter.unusedSimpArgs false
open Go.ChangeShapes Go.WideShapes Go.ChangeAt Go.RowKit
def sumsS (n : Nat) (lo hi : Nat → Int) : R := if (totS n lo hi).e = 0 then resultS (totS n lo hi).lo (totS n lo hi).hi else ⟨0, 0, (totS n lo hi).e⟩
def meanS (n : Nat) (lo hi : Nat → Int) : R := if (totS n lo hi).e = 0 then (if n = 0 then ⟨0, 0, 1⟩ else resultS ((totS n lo hi).lo.fdiv n) (-((-(totS n lo hi).hi).fdiv n))) else ⟨0, 0, (totS n lo hi).e⟩
theorem tot_cases (n : Nat) (lo hi : Nat → Int) : (totS n lo hi = ⟨sumF n lo, sumF n hi, 0⟩ ∧ n ≤ 10000 ∧ allV n lo hi = true) ∨ totS n lo hi = ⟨0, 0, 4⟩ ∨ totS n lo hi = ⟨0, 0, 1⟩ := by
  unfold totS
  by_cases h : 10000 < n
  · rw [if_pos h]; exact .inr (.inl rfl)
  · rw [if_neg h]
    cases hv : allV n lo hi
    · exact .inr (.inr rfl)
    · exact .inl ⟨rfl, by omega, rfl⟩
set_option maxRecDepth 100000 in
theorem ssum_any (A : Option Addr) (n cap : Nat) (lo hi : Nat → Int) (w : World) (hn : n ≤ 140737488351232) (hs : SpansAt w A n lo hi) :
    Calls Tryz.prog 303 #[.slice A n cap] w fun e w' => e = .returned (.tuple #[.agg #[.int .i64 (sumsS n lo hi).lo, .int .i64 (sumsS n lo hi).hi], .int .i64 (sumsS n lo hi).e]) ∧ Kept w w' := by
  rcases tot_cases n lo hi with ⟨e, -⟩ | e | e
  all_goals
    have e2 : sumsS n lo hi = sumsS n lo hi := rfl
    conv at e2 => rhs; unfold sumsS; rw [e]
    first | rw [if_pos rfl] at e2 | rw [if_neg (by decide)] at e2
    rw [e2]
    clear e2
    have hs' := Lib.hid hs
    clear hs
    go_enter Tryz.func303, Tryz.ntmps303
    go_wp2_with fail
    refine (total_any _ _ _ lo hi _ (by omega) (hs'.out.of (by (repeat (first | exact Kept.refl _ | assumption | refine Kept.alloc ?_ _ | refine Kept.ext ?_ _ | refine Kept.drew ?_ | refine Kept.drewN ?_ _))))).mono ?_
    rintro e w1 ⟨rfl, x, rfl⟩
    rw [e]
    go_wp2_with (first | (go_at_call 298; refine (result_any _ _ _).mono ?_; rintro e w1 ⟨rfl, x, rfl⟩))
    refine bodyPost_ret (by simp only [results, Tryz.results303]; go_simp; rfl) rfl ?_
    refine ⟨rfl, ?_⟩
    (repeat (first | exact Kept.refl _ | assumption | refine Kept.alloc ?_ _ | refine Kept.ext ?_ _ | refine Kept.drew ?_ | refine Kept.drewN ?_ _))
set_option maxRecDepth 100000 in
set_option maxHeartbeats 1000000 in
theorem mean_any (A : Option Addr) (n cap : Nat) (lo hi : Nat → Int) (w : World) (hn : n ≤ 140737488351232) (hs : SpansAt w A n lo hi) :
    Calls Tryz.prog 259 #[.slice A n cap] w fun e w' => e = .returned (.tuple #[.agg #[.int .i64 (meanS n lo hi).lo, .int .i64 (meanS n lo hi).hi], .int .i64 (meanS n lo hi).e]) ∧ Kept w w' := by
  rcases tot_cases n lo hi with ⟨e, h1, h2⟩ | e | e
  · have b := sumF_bd h2
    have B := Lib.hid b
    clear b h2
    by_cases h0 : n = 0
    · subst h0
      have e2 : meanS 0 lo hi = ⟨0, 0, 1⟩ := by unfold meanS; rw [e]; rfl
      rw [e2]
      clear e2
      have hs' := Lib.hid hs
      clear hs
      go_enter Tryz.func259, Tryz.ntmps259
      go_wp2_with fail
      refine (total_any _ _ _ lo hi _ (by omega) (hs'.out.of (by (repeat (first | exact Kept.refl _ | assumption | refine Kept.alloc ?_ _ | refine Kept.ext ?_ _ | refine Kept.drew ?_ | refine Kept.drewN ?_ _))))).mono ?_
      rintro e w1 ⟨rfl, x, rfl⟩
      rw [e]
      go_wp2_with fail
      refine bodyPost_ret (by simp only [results, Tryz.results259]; go_simp; rfl) rfl ?_
      refine ⟨rfl, ?_⟩
      (repeat (first | exact Kept.refl _ | assumption | refine Kept.alloc ?_ _ | refine Kept.ext ?_ _ | refine Kept.drew ?_ | refine Kept.drewN ?_ _))
    · have e2 : meanS n lo hi = resultS ((sumF n lo).fdiv n) (-((-sumF n hi).fdiv n)) := by unfold meanS; rw [e]; rw [if_pos rfl, if_neg h0]
      rw [e2]
      clear e2
      have hs' := Lib.hid hs
      clear hs
      have f0 : ((n : Int) == 0) = false := by simp; omega
      go_enter Tryz.func259, Tryz.ntmps259
      go_wp2_with fail
      refine (total_any _ _ _ lo hi _ (by omega) (hs'.out.of (by (repeat (first | exact Kept.refl _ | assumption | refine Kept.alloc ?_ _ | refine Kept.ext ?_ _ | refine Kept.drew ?_ | refine Kept.drewN ?_ _))))).mono ?_
      rintro e w1 ⟨rfl, x, rfl⟩
      rw [e]
      have b := B.out
      go_wp2_with (first | (go_at_call 299; refine (down_any _ _ _ (by omega) (by omega) (by omega)).mono ?_; rintro e w1 ⟨rfl, rfl⟩) | (go_at_call 300; refine (up_any _ _ _ (by omega) (by omega) (by omega)).mono ?_; rintro e w1 ⟨rfl, rfl⟩) | (go_at_call 298; refine (result_any _ _ _).mono ?_; rintro e w1 ⟨rfl, x, rfl⟩))
      refine bodyPost_ret (by simp only [results, Tryz.results259]; go_simp; rfl) rfl ?_
      refine ⟨rfl, ?_⟩
      (repeat (first | exact Kept.refl _ | assumption | refine Kept.alloc ?_ _ | refine Kept.ext ?_ _ | refine Kept.drew ?_ | refine Kept.drewN ?_ _))
  all_goals
    have e2 : meanS n lo hi = meanS n lo hi := rfl
    conv at e2 => rhs; unfold meanS; rw [e]
    rw [if_neg (by decide)] at e2
    rw [e2]
    clear e2
    have hs' := Lib.hid hs
    clear hs
    go_enter Tryz.func259, Tryz.ntmps259
    go_wp2_with fail
    refine (total_any _ _ _ lo hi _ (by omega) (hs'.out.of (by (repeat (first | exact Kept.refl _ | assumption | refine Kept.alloc ?_ _ | refine Kept.ext ?_ _ | refine Kept.drew ?_ | refine Kept.drewN ?_ _))))).mono ?_
    rintro e w1 ⟨rfl, x, rfl⟩
    rw [e]
    go_wp2_with fail
    refine bodyPost_ret (by simp only [results, Tryz.results259]; go_simp; rfl) rfl ?_
    refine ⟨rfl, ?_⟩
    (repeat (first | exact Kept.refl _ | assumption | refine Kept.alloc ?_ _ | refine Kept.ext ?_ _ | refine Kept.drew ?_ | refine Kept.drewN ?_ _))
end Go.Proofs.YtnbjealpcjfllaaGreatDoor

namespace Go.Proofs.YtnbjealpcjfllaaGreatDoor
set_option linter.unusedVariables false
set_option linter.unusedSimpArgs false
open Go.RowKit
end Go.Proofs.YtnbjealpcjfllaaGreatDoor
namespace Go.Proofs.YtnbjealpcjfllaaGreatDoor
set_option linter.unusedVariables false
set_option linter.unusedSimpArgs false
open Go.ChangeShapes Go.WideShapes Go.ChangeAt Go.RowKit
end Go.Proofs.YtnbjealpcjfllaaGreatDoor
namespace Go.Proofs.YtnbjealpcjfllaaGreatDoor
set_option linter.unusedVariables false
set_option linter.unusedSimpArgs false
open Go.RowKit
end Go.Proofs.YtnbjealpcjfllaaGreatDoor
namespace Go.Proofs.YtnbjealpcjfllaaGreatDoor
set_option linter.unusedVariables false
set_option linter.unusedSimpArgs false
open Go.RowKit
def d3 (a0 a1 a2 b0 b1 b2 : Int) : Int := a0 * b0 + a1 * b1 + a2 * b2
end Go.Proofs.YtnbjealpcjfllaaGreatDoor

namespace Go.Proofs.YtnbjealpcjfllaaGreatDoor
set_option linter.unusedVariables false
set_option linter.unusedSimpArgs false
open Go.RowKit
instance : Inhabited Pn := ⟨⟨0, 0, 0, 0, 0, 0, 0, 0, 0⟩⟩
/-- Panel k of a mesh. -/
def pnlF (P F : Nat → Nat → Int) (k : Nat) : Pn := ⟨co P F k 0 0, co P F k 0 1, co P F k 0 2, co P F k 1 0, co P F k 1 1, co P F k 1 2, co P F k 2 0, co P F k 2 1, co P F k 2 2⟩
def Pn.mul (s : Int) (p : Pn) : Pn := ⟨s * p.a0, s * p.a1, s * p.a2, s * p.b0, s * p.b1, s * p.b2, s * p.c0, s * p.c1, s * p.c2⟩
/-- The mean of 1/r over a panel, from any point of another one; over both. -/
def betP (d : Nat) (p q : Pn) : R := seenS d p (q.mul (2 ^ d))
def mutP (d : Nat) (p q : Pn) : R := meanS (4 ^ d) (fun k => (seenS d p ((cutL d q).getD k default)).lo) (fun k => (seenS d p ((cutL d q).getD k default)).hi)
/-- The sum of charges. -/
def sumC (c : Nat → Int) : Nat → Int
  | 0 => 0
  | k + 1 => sumC c k + c k
def chBad (c : Nat → Int) (l : Nat) : Bool := (List.range l).any fun i => !(frB (c i) 0 100)
def chE (n : Nat) (P : Nat → Nat → Int) (m : Nat) (F : Nat → Nat → Int) (l : Nat) (c : Nat → Int) : Int :=
  if validE n P m F ≠ 0 then validE n P m F else if l ≠ m then 1 else if chBad c l = true then 1 else if sumC c l = 0 then 11 else 0
def givE (n : Nat) (P : Nat → Nat → Int) (m : Nat) (F : Nat → Nat → Int) (l : Nat) (c : Nat → Int) (d : Int) : Int :=
  if chE n P m F l c ≠ 0 then chE n P m F l c else if frB d 0 2 = true then 0 else 1
/-- The sum of scaled spans; the error of the first ones. -/
def addL (t : Nat → R) (c : Nat → Int) : Nat → Int
  | 0 => 0
  | k + 1 => if addL t c k ≠ 0 then addL t c k else (scaleS (t k).lo (t k).hi (c k)).e
def addR (t : Nat → R) (c : Nat → Int) (n : Nat) : R := if addL t c n ≠ 0 then ⟨0, 0, addL t c n⟩ else sumsS n (fun k => (scaleS (t k).lo (t k).hi (c k)).lo) (fun k => (scaleS (t k).lo (t k).hi (c k)).hi)
def potR (P F : Nat → Nat → Int) (d m : Nat) (c : Nat → Int) (j : Nat) : R := addR (fun i => betP d (pnlF P F i) (pnlF P F j)) c m
def potL (P F : Nat → Nat → Int) (d m : Nat) (c : Nat → Int) : Nat → Int
  | 0 => 0
  | j + 1 => if potL P F d m c j ≠ 0 then potL P F d m c j else (potR P F d m c j).e
def enR (P F : Nat → Nat → Int) (d m : Nat) (c : Nat → Int) : R := addR (fun k => mutP d (pnlF P F (k / m)) (pnlF P F (k % m))) (fun k => c (k / m) * c (k % m)) (m * m)
def mostF (f : Nat → Int) : Nat → Int
  | 0 => f 0
  | k + 1 => max (mostF f k) (f k)
def leastF (f : Nat → Int) : Nat → Int
  | 0 => f 0
  | k + 1 => min (leastF f k) (f k)
def limE (n : Int) : Int := if 1099511627776 < n then 4 else 0
def limV (n : Int) : Int := if 1099511627776 < n then 0 else n
def belN (P F : Nat → Nat → Int) (d m : Nat) (c : Nat → Int) : Int := sumC c m * 1048576 * 1048576 / mostF (fun j => (potR P F d m c j).hi) m
def aboN (P F : Nat → Nat → Int) (d m : Nat) (c : Nat → Int) : Int := (sumC c m * 1048576 * 1048576 + leastF (fun j => (potR P F d m c j).lo) m - 1) / leastF (fun j => (potR P F d m c j).lo) m
def thoN (P F : Nat → Nat → Int) (d m : Nat) (c : Nat → Int) : Int := sumC c m * 1048576 * 1048576 / (((enR P F d m c).hi + sumC c m - 1) / sumC c m)
def farB (P : Nat → Nat → Int) (x0 x1 x2 : Int) : Nat → Int
  | 0 => 0
  | k + 1 => max (farB P x0 x1 x2 k) (sq3 (P k 0) (P k 1) (P k 2) x0 x1 x2)
def ballV (n : Nat) (P : Nat → Nat → Int) : Int := (lenS (farB P ((boxLo P 0 n + boxHi P 0 n) / 2) ((boxLo P 1 n + boxHi P 1 n) / 2) ((boxLo P 2 n + boxHi P 2 n) / 2) n)).hi
/-- What the bounds of a capacity are worth, where mesh, charges and depth are right. -/
def bndR (n : Nat) (P : Nat → Nat → Int) (m : Nat) (F : Nat → Nat → Int) (d : Nat) (c : Nat → Int) : R :=
  if potL P F d m c m ≠ 0 then ⟨0, 0, potL P F d m c m⟩
  else if limE (belN P F d m c) ≠ 0 then ⟨0, 0, limE (belN P F d m c)⟩
  else if (enR P F d m c).e ≠ 0 then ⟨0, 0, (enR P F d m c).e⟩
  else if limE (thoN P F d m c) ≠ 0 then ⟨0, 0, limE (thoN P F d m c)⟩
  else if limE (aboN P F d m c) ≠ 0 then ⟨0, 0, limE (aboN P F d m c)⟩
  else ⟨max (belN P F d m c) (thoN P F d m c), min (aboN P F d m c) (ballV n P), 0⟩
def bndS (n : Nat) (P : Nat → Nat → Int) (m : Nat) (F : Nat → Nat → Int) (l : Nat) (c : Nat → Int) (d : Int) : R := if givE n P m F l c d ≠ 0 then ⟨0, 0, givE n P m F l c d⟩ else bndR n P m F d.toNat c
def workS (n : Nat) (P : Nat → Nat → Int) (m : Nat) (F : Nat → Nat → Int) (d : Int) : Int := if validE n P m F = 0 ∧ frB d 0 2 = true then (m : Int) * m * (4 ^ d.toNat + 16 ^ d.toNat) else 0
def workE (n : Nat) (P : Nat → Nat → Int) (m : Nat) (F : Nat → Nat → Int) (d : Int) : Int := if validE n P m F ≠ 0 then validE n P m F else if frB d 0 2 = true then 0 else 1
end Go.Proofs.YtnbjealpcjfllaaGreatDoor

namespace Go.Proofs.YtnbjealpcjfllaaGreatDoor
set_option linter.unusedVariables false
set_option linter.unusedSimpArgs false
open Go.RowKit
section
variable {n m : Nat} {P F : Nat → Nat → Int}
theorem corn_b (h : validE n P m F = 0) {i k : Nat} (hi : i < m) (hk : k < 3) : (-64 ≤ co P F i k 0 ∧ co P F i k 0 ≤ 64) ∧ (-64 ≤ co P F i k 1 ∧ co P F i k 1 ≤ 64) ∧ (-64 ≤ co P F i k 2 ∧ co P F i k 2 ≤ 64) := by
  obtain ⟨-, -, hb, hf, -⟩ := validE_ok h
  obtain ⟨c0, c1, c2⟩ := cornB_true (faceE_0 (facesE_at hf i hi)).1
  have hc : 0 ≤ F i k ∧ F i k < n := by
    rcases (show k = 0 ∨ k = 1 ∨ k = 2 by omega) with rfl | rfl | rfl <;> assumption
  have := co_bd hb hc
  omega
theorem pn_bd (h : validE n P m F = 0) {i : Nat} (hi : i < m) : (pnlF P F i).bd 64 := by
  have a := corn_b h hi (k := 0) (by omega)
  have b := corn_b h hi (k := 1) (by omega)
  have c := corn_b h hi (k := 2) (by omega)
  exact ⟨a, b, c⟩
theorem sq0 (t : Int) : 0 ≤ t * t := by
  rcases Int.le_total 0 t with h | h
  · exact Int.mul_nonneg h h
  · exact Int.mul_nonneg_of_nonpos_of_nonpos h h
theorem sq1 {t : Int} (h : t ≠ 0) : 1 ≤ t * t := by
  have := sq0 t
  have : t * t ≠ 0 := fun c => h (by rcases Int.mul_eq_zero.mp c with c | c <;> exact c)
  omega
theorem pn_nn (h : validE n P m F = 0) {i : Nat} (hi : i < m) : 1 ≤ (pnlF P F i).nn := by
  obtain ⟨-, -, -, hf, -⟩ := validE_ok h
  have fb := (faceE_0 (facesE_at hf i hi)).2
  unfold flatB at fb
  rw [decide_eq_false_iff_not] at fb
  have e : (pnlF P F i).nn = nX (co P F i 0 0) (co P F i 0 1) (co P F i 0 2) (co P F i 1 0) (co P F i 1 1) (co P F i 1 2) (co P F i 2 0) (co P F i 2 1) (co P F i 2 2) * nX (co P F i 0 0) (co P F i 0 1) (co P F i 0 2) (co P F i 1 0) (co P F i 1 1) (co P F i 1 2) (co P F i 2 0) (co P F i 2 1) (co P F i 2 2) +
      nY (co P F i 0 0) (co P F i 0 1) (co P F i 0 2) (co P F i 1 0) (co P F i 1 1) (co P F i 1 2) (co P F i 2 0) (co P F i 2 1) (co P F i 2 2) * nY (co P F i 0 0) (co P F i 0 1) (co P F i 0 2) (co P F i 1 0) (co P F i 1 1) (co P F i 1 2) (co P F i 2 0) (co P F i 2 1) (co P F i 2 2) +
      nZ (co P F i 0 0) (co P F i 0 1) (co P F i 0 2) (co P F i 1 0) (co P F i 1 1) (co P F i 1 2) (co P F i 2 0) (co P F i 2 1) (co P F i 2 2) * nZ (co P F i 0 0) (co P F i 0 1) (co P F i 0 2) (co P F i 1 0) (co P F i 1 1) (co P F i 1 2) (co P F i 2 0) (co P F i 2 1) (co P F i 2 2) := rfl
  rw [e]
  revert fb
  generalize nX _ _ _ _ _ _ _ _ _ = x, nY _ _ _ _ _ _ _ _ _ = y, nZ _ _ _ _ _ _ _ _ _ = z
  intro fb
  have hx := sq0 x
  have hy := sq0 y
  have hz := sq0 z
  by_cases x0 : x = 0
  · by_cases y0 : y = 0
    · have := sq1 (t := z) (fun z0 => fb ⟨x0, y0, z0⟩)
      omega
    · have := sq1 y0
      omega
  · have := sq1 x0
    omega
theorem mul_bd2 {p : Pn} {d : Nat} (hd : d ≤ 2) (h : p.bd 64) : (p.mul (2 ^ d)).bd 256 := by
  obtain ⟨⟨a, b, c⟩, ⟨e, f, g⟩, i, j, k⟩ := h
  rcases two_pow hd with ⟨w, -, -⟩ | ⟨w, -, -⟩ | ⟨w, -, -⟩ <;> rw [w] <;> refine ⟨⟨?_, ?_, ?_⟩, ⟨?_, ?_, ?_⟩, ?_, ?_, ?_⟩ <;> simp only [Pn.mul] <;> omega
theorem part_256 {p x : Pn} {d : Nat} (hd : d ≤ 2) (h : p.bd 64) (hx : x ∈ cutL d p) : x.bd 256 := by
  obtain ⟨⟨a, b, c⟩, ⟨e, f, g⟩, i, j, k⟩ := cutL_bd d p 64 h x hx
  rcases two_pow hd with ⟨w, -, -⟩ | ⟨w, -, -⟩ | ⟨w, -, -⟩ <;> rw [w] at a b c e f g i j k <;> exact ⟨⟨by omega, by omega, by omega⟩, ⟨by omega, by omega, by omega⟩, by omega, by omega, by omega⟩
theorem low_1 {d : Nat} {p q x : Pn} (hd : d ≤ 2) (hp : p.bd 64) (hq : q.bd 256) (hn : 1 ≤ p.nn) (hx : x ∈ cutL d p) : 1 ≤ lowP d q x := by
  have N1 := Pn.near1 (part_256 hd hp hx) (by omega)
  have N2 := Pn.near1 hq (by omega)
  have FB := farI_bd N1 N2 3 (Nat.le_refl _)
  have NN := nn_far x q rfl
  rw [cutL_nn d p x hx] at NN
  unfold lowP
  revert FB NN
  generalize farI x.at q.at 3 3 = f
  intro FB NN
  have f1 : 1 ≤ f := by
    rcases Int.lt_or_le f 1 with h | h
    · have : f = 0 := by omega
      rw [this] at NN
      omega
    · exact h
  have hs : 1 ≤ (2 : Int) ^ d ∧ (2 : Int) ^ d ≤ 8 ∧ (2 : Int) ^ d * 2 ^ d = 4 ^ d ∧ (4 : Int) ^ d ≤ 16 ∧ 1 ≤ (4 : Int) ^ d := by
    rcases two_pow hd with ⟨a, b, -⟩ | ⟨a, b, -⟩ | ⟨a, b, -⟩ <;> rw [a, b] <;> decide
  have ef : inverseS f (2 ^ d) = invS (2 ^ d * 2 ^ d * 1099511627776) f := if_pos ⟨⟨f1, by omega⟩, hs.1, hs.2.1⟩
  rw [ef, hs.2.2.1]
  obtain ⟨-, k0, k1, k2, k3, k4⟩ := inv_k (t := 4 ^ d * 1099511627776) (n := f) ⟨⟨by omega, by omega⟩, f1⟩
  have t1 : 1 ≤ 4 ^ d * 1099511627776 / f := by
    rw [Int.le_ediv_iff_mul_le (by omega)]
    omega
  obtain ⟨s0, s1, s2⟩ := sqrtS_spec (show 0 ≤ 4 ^ d * 1099511627776 / f by omega)
  have sp : 1 ≤ sqrtS (4 ^ d * 1099511627776 / f) := by
    rcases Int.lt_or_le (sqrtS (4 ^ d * 1099511627776 / f)) 1 with h | h
    · have : sqrtS (4 ^ d * 1099511627776 / f) = 0 := by omega
      rw [this] at s2
      omega
    · exact h
  have s3 : sqrtS (4 ^ d * 1099511627776 / f) ≤ 4194304 := by
    have : 4 ^ d * 1099511627776 / f ≤ 4 ^ d * 1099511627776 := Int.ediv_le_self _ (by omega)
    exact of_sq_le (by decide) (by omega)
  unfold invS
  split <;> unfold resultS <;> rw [if_pos (by unfold validB; exact decide_eq_true (by omega))] <;> simp only <;> omega
theorem seen_1 {d : Nat} {p q : Pn} (hd : d ≤ 2) (hp : p.bd 64) (hq : q.bd 256) (hn : 1 ≤ p.nn) : (seenS d p q).e = 0 ∧ 1 ≤ (seenS d p q).lo ∧ (seenS d p q).lo ≤ (seenS d p q).hi ∧ (seenS d p q).hi ≤ 336640000 := by
  obtain ⟨e, -, h2, h3⟩ := seen_eq hd hp hq hn
  refine ⟨by rw [e], ?_, h2, h3⟩
  rw [e]
  have key : ∀ l : List Pn, (∀ x ∈ l, x ∈ cutL d p) → (l.length : Int) ≤ sumP (lowP d q) l := by
    intro l
    induction l with
    | nil => intro _; simp [sumP]
    | cons x l ih =>
      intro h
      have a := low_1 hd hp hq hn (h x (by simp))
      have b := ih (fun y hy => h y (List.mem_cons_of_mem _ hy))
      show ((x :: l).length : Int) ≤ lowP d q x + sumP (lowP d q) l
      simp only [List.length_cons]
      omega
  have k := key _ (fun x hx => hx)
  rw [cutL_len] at k
  simp only
  rcases two_pow hd with ⟨-, w, v⟩ | ⟨-, w, v⟩ | ⟨-, w, v⟩ <;> rw [v] at k <;> rw [w] <;> omega
theorem bet_ok (h : validE n P m F = 0) {d i j : Nat} (hd : d ≤ 2) (hi : i < m) (hj : j < m) : (betP d (pnlF P F i) (pnlF P F j)).e = 0 ∧ 1 ≤ (betP d (pnlF P F i) (pnlF P F j)).lo ∧ (betP d (pnlF P F i) (pnlF P F j)).lo ≤ (betP d (pnlF P F i) (pnlF P F j)).hi ∧ (betP d (pnlF P F i) (pnlF P F j)).hi ≤ 336640000 :=
  seen_1 hd (pn_bd h hi) (mul_bd2 hd (pn_bd h hj)) (pn_nn h hi)
theorem sumF_in {f g : Nat → Int} : ∀ {k : Nat}, (∀ i, i < k → 1 ≤ f i ∧ f i ≤ g i ∧ g i ≤ 336640000) → (k : Int) ≤ sumF k f ∧ sumF k f ≤ sumF k g ∧ sumF k g ≤ k * 336640000
  | 0, _ => by simp [sumF]
  | k + 1, h => by
    have a := sumF_in (k := k) (fun i hi => h i (by omega))
    have b := h k (by omega)
    show ((k + 1 : Nat) : Int) ≤ sumF k f + f k ∧ sumF k f + f k ≤ sumF k g + g k ∧ sumF k g + g k ≤ _
    omega
theorem mut_ok (h : validE n P m F = 0) {d i j : Nat} (hd : d ≤ 2) (hi : i < m) (hj : j < m) : (mutP d (pnlF P F i) (pnlF P F j)).e = 0 ∧ 1 ≤ (mutP d (pnlF P F i) (pnlF P F j)).lo ∧ (mutP d (pnlF P F i) (pnlF P F j)).lo ≤ (mutP d (pnlF P F i) (pnlF P F j)).hi ∧ (mutP d (pnlF P F i) (pnlF P F j)).hi ≤ 336640000 := by
  have s : ∀ k, k < 4 ^ d → (seenS d (pnlF P F i) ((cutL d (pnlF P F j)).getD k default)).e = 0 ∧ 1 ≤ (seenS d (pnlF P F i) ((cutL d (pnlF P F j)).getD k default)).lo ∧ (seenS d (pnlF P F i) ((cutL d (pnlF P F j)).getD k default)).lo ≤ (seenS d (pnlF P F i) ((cutL d (pnlF P F j)).getD k default)).hi ∧ (seenS d (pnlF P F i) ((cutL d (pnlF P F j)).getD k default)).hi ≤ 336640000 := fun k hk => by
    have hm : (cutL d (pnlF P F j)).getD k default ∈ cutL d (pnlF P F j) := by
      have hl : k < (cutL d (pnlF P F j)).length := by rw [cutL_len]; exact hk
      rw [List.getD_eq_getElem?_getD, List.getElem?_eq_getElem hl]
      exact List.getElem_mem hl
    exact seen_1 hd (pn_bd h hi) (part_256 hd (pn_bd h hj) hm) (pn_nn h hi)
  have b := sumF_in (k := 4 ^ d) (f := fun k => (seenS d (pnlF P F i) ((cutL d (pnlF P F j)).getD k default)).lo) (g := fun k => (seenS d (pnlF P F i) ((cutL d (pnlF P F j)).getD k default)).hi) (fun k hk => (s k hk).2)
  have hv : allV (4 ^ d) (fun k => (seenS d (pnlF P F i) ((cutL d (pnlF P F j)).getD k default)).lo) (fun k => (seenS d (pnlF P F i) ((cutL d (pnlF P F j)).getD k default)).hi) = true := by
    unfold allV
    rw [List.all_eq_true]
    intro k hk
    have := s k (List.mem_range.1 hk)
    exact (show validB (seenS d (pnlF P F i) ((cutL d (pnlF P F j)).getD k default)).lo (seenS d (pnlF P F i) ((cutL d (pnlF P F j)).getD k default)).hi = true from decide_eq_true (by omega))
  unfold mutP meanS totS
  revert b hv
  generalize sumF (4 ^ d) _ = c, sumF (4 ^ d) _ = a
  intro b hv
  rw [hv]
  have h16 : ¬ 10000 < 4 ^ d := by
    rcases two_pow hd with ⟨-, -, v⟩ | ⟨-, -, v⟩ | ⟨-, -, v⟩ <;> rw [v] <;> decide
  have h0 : ¬ 4 ^ d = 0 := by
    rcases two_pow hd with ⟨-, -, v⟩ | ⟨-, -, v⟩ | ⟨-, -, v⟩ <;> rw [v] <;> decide
  rw [if_neg h16, if_pos rfl, if_pos rfl, if_neg h0]
  simp only
  have f1 : Int.fdiv a ((4 ^ d : Nat) : Int) = a / ((4 ^ d : Nat) : Int) := Int.fdiv_eq_ediv_of_nonneg _ (by omega)
  have f2 : Int.fdiv (-c) ((4 ^ d : Nat) : Int) = -c / ((4 ^ d : Nat) : Int) := Int.fdiv_eq_ediv_of_nonneg _ (by omega)
  rw [f1, f2]
  have key : ∀ k : Int, k = 1 ∨ k = 4 ∨ k = 16 → k ≤ a ∧ a ≤ c ∧ c ≤ k * 336640000 → resultS (a / k) (-(-c / k)) = ⟨a / k, -(-c / k), 0⟩ ∧ 1 ≤ a / k ∧ a / k ≤ -(-c / k) ∧ -(-c / k) ≤ 336640000 := fun k hk hb => by
    have hx : 1 ≤ a / k ∧ a / k ≤ -(-c / k) ∧ -(-c / k) ≤ 336640000 := by
      rcases hk with rfl | rfl | rfl <;> omega
    refine ⟨?_, hx⟩
    unfold resultS
    refine if_pos ?_
    unfold validB
    exact decide_eq_true (by omega)
  obtain ⟨e, hx⟩ := key ((4 ^ d : Nat) : Int) (by rcases two_pow hd with ⟨-, -, v⟩ | ⟨-, -, v⟩ | ⟨-, -, v⟩ <;> rw [v] <;> omega) b
  rw [e]
  exact ⟨rfl, hx⟩
end
end Go.Proofs.YtnbjealpcjfllaaGreatDoor

namespace Go.Proofs.YtnbjealpcjfllaaGreatDoor
set_option linter.unusedVariables false
set_option linter.unusedSimpArgs false
open Go.RowKit
theorem scale_in {l h c : Int} (hl : 1 ≤ l ∧ l ≤ h ∧ h ≤ 336640000) (hc : 0 ≤ c ∧ c ≤ 100) : scaleS l h c = ⟨l * c, h * c, 0⟩ ∧ l * c ≤ h * c ∧ 0 ≤ l * c ∧ h * c ≤ 33664000000 := by
  have a := Int.mul_le_mul_of_nonneg_right hl.2.1 hc.1
  have b : h * c ≤ 336640000 * 100 := Int.mul_le_mul hl.2.2 hc.2 hc.1 (by omega)
  have z := Int.mul_nonneg (show 0 ≤ l by omega) hc.1
  refine ⟨?_, a, z, by omega⟩
  unfold scaleS
  have hv : validB l h = true := decide_eq_true (by omega)
  have hw : wholeB c = true := by unfold wholeB; exact decide_eq_true (by omega)
  have p1 : prodS l c = l * c := by unfold prodS; rw [if_neg (by omega), if_neg (by omega)]
  have p2 : prodS h c = h * c := by unfold prodS; rw [if_neg (by omega), if_neg (by omega)]
  rw [hv, hw, p1, p2]
  rw [show (true && true) = true from rfl, if_pos rfl]
  rw [show min (l * c) (h * c) = l * c by omega, show max (l * c) (h * c) = h * c by omega]
  unfold resultS
  refine if_pos ?_
  unfold validB
  exact decide_eq_true (by omega)
theorem sumsS_ok {k : Nat} {f g : Nat → Int} (h : (sumsS k f g).e = 0) : (sumsS k f g).lo = sumF k f ∧ (sumsS k f g).hi = sumF k g ∧ validB (sumF k f) (sumF k g) = true := by
  unfold sumsS at h ⊢
  rcases tot_cases k f g with ⟨t, -⟩ | t | t
  · rw [t] at h ⊢
    rw [if_pos rfl] at h ⊢
    unfold resultS at h ⊢
    split at h
    · rename_i q
      rw [if_pos q]
      exact ⟨rfl, rfl, q⟩
    · cases h
  · rw [t] at h
    rw [if_neg (by decide)] at h
    cases h
  · rw [t] at h
    rw [if_neg (by decide)] at h
    cases h
theorem addL_e {t : Nat → R} {c : Nat → Int} : ∀ {k : Nat}, addL t c k = 0 → ∀ i, i < k → (scaleS (t i).lo (t i).hi (c i)).e = 0
  | 0, _, i, hi => absurd hi (by omega)
  | k + 1, h, i, hi => by
    unfold addL at h
    by_cases q : addL t c k ≠ 0
    · rw [if_pos q] at h
      exact absurd h q
    · rw [if_neg q] at h
      by_cases e : i = k
      · subst e; exact h
      · exact addL_e (k := k) (by simpa using q) i (by omega)
/-- A sum of scaled spans that has no error. -/
theorem addR_ok {t : Nat → R} {c : Nat → Int} {k : Nat} (h : (addR t c k).e = 0) : addL t c k = 0 ∧ (addR t c k).lo = sumF k (fun i => (scaleS (t i).lo (t i).hi (c i)).lo) ∧ (addR t c k).hi = sumF k (fun i => (scaleS (t i).lo (t i).hi (c i)).hi) ∧ validB (addR t c k).lo (addR t c k).hi = true := by
  unfold addR at h ⊢
  by_cases q : addL t c k ≠ 0
  · rw [if_pos q] at h
    exact absurd h q
  · rw [if_neg q] at h ⊢
    obtain ⟨a, b, v⟩ := sumsS_ok h
    exact ⟨by simpa using q, a, b, by rw [a, b]; exact v⟩
theorem sumC_le {c : Nat → Int} {f : Nat → Int} : ∀ {k : Nat}, (∀ i, i < k → c i ≤ f i) → sumC c k ≤ sumF k f
  | 0, _ => Int.le_refl _
  | k + 1, h => by
    have a := sumC_le (k := k) (fun i hi => h i (by omega))
    have b := h k (by omega)
    show sumC c k + c k ≤ sumF k f + f k
    omega
theorem sumC_bd {c : Nat → Int} : ∀ {k : Nat}, (∀ i, i < k → 0 ≤ c i ∧ c i ≤ 100) → 0 ≤ sumC c k ∧ sumC c k ≤ 100 * k
  | 0, _ => by simp [sumC]
  | k + 1, h => by
    have a := sumC_bd (k := k) (fun i hi => h i (by omega))
    have b := h k (by omega)
    show 0 ≤ sumC c k + c k ∧ sumC c k + c k ≤ 100 * ((k + 1 : Nat) : Int)
    omega
section
variable {n m d : Nat} {P F : Nat → Nat → Int} {c : Nat → Int}
theorem pot_ok (hv : validE n P m F = 0) (hd : d ≤ 2) (hc : ∀ i, i < m → 0 ≤ c i ∧ c i ≤ 100) (hs : 1 ≤ sumC c m) {j : Nat} (hj : j < m) (h : (potR P F d m c j).e = 0) : 1 ≤ (potR P F d m c j).lo ∧ (potR P F d m c j).lo ≤ (potR P F d m c j).hi ∧ (potR P F d m c j).hi ≤ 1099511627776 := by
  obtain ⟨-, e1, e2, v⟩ := addR_ok h
  have v' := of_decide_eq_true v
  have k : sumC c m ≤ sumF m (fun i => (scaleS (betP d (pnlF P F i) (pnlF P F j)).lo (betP d (pnlF P F i) (pnlF P F j)).hi (c i)).lo) := sumC_le fun i hi => by
    have b := (bet_ok hv hd hi hj).2
    rw [(scale_in b (hc i hi)).1]
    have := Int.mul_le_mul_of_nonneg_right b.1 (hc i hi).1
    simp only
    omega
  have e1 : (potR P F d m c j).lo = _ := e1
  have v' : -1099511627776 ≤ (potR P F d m c j).lo ∧ (potR P F d m c j).lo ≤ (potR P F d m c j).hi ∧ (potR P F d m c j).hi ≤ 1099511627776 := v'
  refine ⟨?_, v'.2⟩
  rw [e1]
  omega
theorem potL_at : ∀ {k : Nat}, potL P F d m c k = 0 → ∀ j, j < k → (potR P F d m c j).e = 0
  | 0, _, j, hj => absurd hj (by omega)
  | k + 1, h, j, hj => by
    unfold potL at h
    by_cases q : potL P F d m c k ≠ 0
    · rw [if_pos q] at h
      exact absurd h q
    · rw [if_neg q] at h
      by_cases e : j = k
      · subst e; exact h
      · exact potL_at (k := k) (by simpa using q) j (by omega)
theorem mostF_bd {f : Nat → Int} {lo hi : Int} (h0 : 0 < m) (h : ∀ j, j < m → lo ≤ f j ∧ f j ≤ hi) : ∀ k, k ≤ m → (lo ≤ mostF f k ∧ mostF f k ≤ hi) ∧ (lo ≤ leastF f k ∧ leastF f k ≤ hi)
  | 0, _ => ⟨h 0 h0, h 0 h0⟩
  | k + 1, hk => by
    have a := mostF_bd h0 h k (by omega)
    have b := h k (by omega)
    unfold mostF leastF
    omega
theorem most_bd (hv : validE n P m F = 0) (hd : d ≤ 2) (hc : ∀ i, i < m → 0 ≤ c i ∧ c i ≤ 100) (hs : 1 ≤ sumC c m) (h : potL P F d m c m = 0) : (1 ≤ mostF (fun j => (potR P F d m c j).hi) m ∧ mostF (fun j => (potR P F d m c j).hi) m ≤ 1099511627776) ∧ (1 ≤ leastF (fun j => (potR P F d m c j).lo) m ∧ leastF (fun j => (potR P F d m c j).lo) m ≤ 1099511627776) := by
  obtain ⟨-, m1, -⟩ := validE_ok hv
  have p : ∀ j, j < m → _ := fun j hj => pot_ok hv hd hc hs hj (potL_at h j hj)
  exact ⟨(mostF_bd (by omega) (fun j hj => by have := p j hj; omega) m (Nat.le_refl _)).1, (mostF_bd (by omega) (fun j hj => by have := p j hj; omega) m (Nat.le_refl _)).2⟩
theorem scale_pos {l h c : Int} (he : (scaleS l h c).e = 0) (hl : 1 ≤ l ∧ l ≤ h) (hc : 0 ≤ c) : c ≤ (scaleS l h c).lo := by
  obtain ⟨e, -, -, v⟩ := scale_ok he
  have v' := of_decide_eq_true v
  have p1 := prod_in (x := l) (n := c) (by omega)
  have p2 := prod_in (x := h) (n := c) (by omega)
  rw [e, p1, p2]
  have a := Int.mul_le_mul_of_nonneg_right hl.2 hc
  have b := Int.mul_le_mul_of_nonneg_right hl.1 hc
  simp only
  omega
theorem sumC_one {c : Nat → Int} : ∀ {k : Nat}, 1 ≤ sumC c k → ∃ i, i < k ∧ 1 ≤ c i
  | 0, h => by simp [sumC] at h
  | k + 1, h => by
    by_cases q : 1 ≤ c k
    · exact ⟨k, by omega, q⟩
    · obtain ⟨i, hi, hc⟩ := sumC_one (c := c) (k := k) (by
        have : sumC c k + c k = sumC c (k + 1) := rfl
        omega)
      exact ⟨i, by omega, hc⟩
theorem sumF_one {f : Nat → Int} : ∀ {k i : Nat}, (∀ j, j < k → 0 ≤ f j) → i < k → 1 ≤ f i → 1 ≤ sumF k f
  | 0, i, _, hi, _ => absurd hi (by omega)
  | k + 1, i, h, hi, hf => by
    have z : ∀ k', k' ≤ k + 1 → 0 ≤ sumF k' f := by
      intro k'
      induction k' with
      | zero => intro _; exact Int.le_refl _
      | succ k' ih =>
        intro hk
        have a := ih (by omega)
        have b := h k' (by omega)
        show 0 ≤ sumF k' f + f k'
        omega
    show 1 ≤ sumF k f + f k
    by_cases e : i = k
    · subst e
      have := z i (by omega)
      omega
    · have a := sumF_one (k := k) (fun j hj => h j (by omega)) (show i < k by omega) hf
      have b := h k (by omega)
      omega
theorem en_ok (hv : validE n P m F = 0) (hd : d ≤ 2) (hc : ∀ i, i < m → 0 ≤ c i ∧ c i ≤ 100) (hs : 1 ≤ sumC c m) (h : (enR P F d m c).e = 0) : 1 ≤ (enR P F d m c).lo ∧ (enR P F d m c).lo ≤ (enR P F d m c).hi ∧ (enR P F d m c).hi ≤ 1099511627776 := by
  obtain ⟨-, m1, -⟩ := validE_ok hv
  obtain ⟨l0, e1, -, v⟩ := addR_ok h
  have v' : -1099511627776 ≤ (enR P F d m c).lo ∧ (enR P F d m c).lo ≤ (enR P F d m c).hi ∧ (enR P F d m c).hi ≤ 1099511627776 := of_decide_eq_true v
  have e1 : (enR P F d m c).lo = _ := e1
  have dv : ∀ k, k < m * m → k / m < m ∧ k % m < m := fun k hk => ⟨Nat.div_lt_of_lt_mul hk, Nat.mod_lt _ (by omega)⟩
  have key : ∀ k, k < m * m → c (k / m) * c (k % m) ≤ (scaleS (mutP d (pnlF P F (k / m)) (pnlF P F (k % m))).lo (mutP d (pnlF P F (k / m)) (pnlF P F (k % m))).hi (c (k / m) * c (k % m))).lo := fun k hk => by
    obtain ⟨h1, h2⟩ := dv k hk
    have b := (mut_ok hv hd h1 h2).2
    exact scale_pos (addL_e l0 k hk) ⟨b.1, b.2.1⟩ (Int.mul_nonneg (hc _ h1).1 (hc _ h2).1)
  obtain ⟨i, hi, ci⟩ := sumC_one hs
  have hk : i * m + i < m * m := by
    have := Nat.mul_le_mul_right m (show i + 1 ≤ m by omega)
    rw [Nat.add_mul] at this
    omega
  have d1 : (i * m + i) / m = i := by
    rw [Nat.mul_comm, Nat.mul_add_div (by omega), Nat.div_eq_of_lt hi, Nat.add_zero]
  have d2 : (i * m + i) % m = i := by
    rw [Nat.mul_comm, Nat.mul_add_mod, Nat.mod_eq_of_lt hi]
  refine ⟨?_, v'.2⟩
  rw [e1]
  refine sumF_one (i := i * m + i) (fun k hk' => ?_) hk ?_
  · have a := key k hk'
    obtain ⟨h1, h2⟩ := dv k hk'
    have b := Int.mul_nonneg (hc _ h1).1 (hc _ h2).1
    omega
  · have a := key _ hk
    rw [d1, d2] at a
    have b : 1 * 1 ≤ c i * c i := Int.mul_le_mul ci ci (by omega) (by omega)
    simp only [d1, d2]
    omega
end
end Go.Proofs.YtnbjealpcjfllaaGreatDoor

namespace Go.Proofs.YtnbjealpcjfllaaGreatDoor
set_option linter.unusedVariables false
set_option linter.unusedSimpArgs false
open Go.RowKit Go.Deep
theorem kp_le {w w' : World} (h : Kept w w') : w.heap.size ≤ w'.heap.size := h.below.size
theorem kp_cell {w w' : World} {a : Addr} {v : Value} (h : w.cell? a = some v) (hk : Kept w w') : w'.cell? a = some v := by
  have hl := World.block_lt_of_cell? w a h
  exact (World.cell?_of_block (w := w) (w' := w') (hk.below.block _ hl)).trans h
theorem own_grown {w w' : World} {base base2 c c2 n m : Nat} {e e2 : TypeId} {v v2 : Value} {xs ys : List Value} (h : w.ownsRow base e c v n xs) (hg : w.grownBy w' v.ownBlock) (h2 : w.ownsRow base2 e2 c2 v2 m ys) (hne : e2 ≠ e) : w'.ownsRow base2 e2 c2 v2 m ys := by
  refine ⟨h2.1, ?_⟩
  rcases h2.2 with h0 | ⟨g, cap, cur, hv, hb, hgc, h3⟩
  · exact .inl h0
  · exact .inr ⟨g, cap, cur, hv, hb, own_keepsB h hg hgc hne, h3⟩
/-- A list of N lists, all of the call's own: list i has m elements of c cells each. -/
def TabL (base : Nat) (eo e : TypeId) (c N m : Nat) (F : Nat → Nat → Nat → Int) (v : Value) (w : World) : Prop :=
  ∃ V : Nat → Value, w.ownsRow base eo 1 v N ((List.range N).map V) ∧ ∀ i, i < N → w.ownsRow base e c (V i) m (rowC c (F i) m)
theorem TabL.nil (base : Nat) (eo e : TypeId) (c m : Nat) (F : Nat → Nat → Nat → Int) (w : World) : TabL base eo e c 0 m F (.slice none 0 0) w :=
  ⟨fun _ => undef, World.ownsRow_nil _ _ _ _, fun i hi => absurd hi (by omega)⟩
theorem TabL.on {base : Nat} {eo e : TypeId} {c N m : Nat} {F : Nat → Nat → Nat → Int} {v : Value} {w w' : World} (h : TabL base eo e c N m F v w) (hk : Kept w w') : TabL base eo e c N m F v w' := by
  obtain ⟨V, h1, h2⟩ := h
  exact ⟨V, owns_kept h1 hk, fun i hi => owns_kept (h2 i hi) hk⟩
theorem TabL.push {base : Nat} {eo e : TypeId} {c N m : Nat} {F : Nat → Nat → Nat → Int} {v v' u : Value} {w w' : World} {V : Nat → Value} (h1 : w.ownsRow base eo 1 v N ((List.range N).map V)) (h2 : ∀ i, i < N → w.ownsRow base e c (V i) m (rowC c (F i) m)) (hne : e ≠ eo)
    (hu : w.ownsRow base e c u m (rowC c (F N) m)) (hg : w.grownBy w' v.ownBlock) (ho : w'.ownsRow base eo 1 v' (N + 1) ((List.range N).map V ++ [u])) : TabL base eo e c (N + 1) m F v' w' := by
  refine ⟨fun i => if i = N then u else V i, ?_, fun i hi => ?_⟩
  · rw [List.range_succ, List.map_append]
    have e1 : (List.range N).map (fun i => if i = N then u else V i) = (List.range N).map V := List.map_congr_left fun i hi => if_neg (by have := List.mem_range.1 hi; omega)
    rw [e1]
    simpa using ho
  · show w'.ownsRow base e c (if i = N then u else V i) m (rowC c (F i) m)
    by_cases q : i = N
    · subst q
      rw [if_pos rfl]
      exact own_grown h1 hg hu hne
    · rw [if_neg q]
      exact own_grown h1 hg (h2 i (by omega)) hne
/-- A table that can be read, in blocks from lo on: n lists of m elements of c cells. -/
def TabA (lo : Nat) (w : World) (A : Option Addr) (n m c : Nat) (F : Nat → Nat → Nat → Int) : Prop :=
  ∀ k, k < n → ∃ b Bk cp, A = some ⟨b, 0, none⟩ ∧ b < w.heap.size ∧ w.cell? ⟨b, k, none⟩ = some (.slice Bk m cp) ∧ RowsAt w Bk m c (F k) ∧ lo ≤ b ∧ ∀ a, Bk = some a → lo ≤ a.block
theorem TabA.on {lo : Nat} {w w' : World} {A : Option Addr} {n m c : Nat} {F : Nat → Nat → Nat → Int} (h : TabA lo w A n m c F) (hk : Kept w w') : TabA lo w' A n m c F := by
  intro k hkn
  obtain ⟨b, Bk, cp, h1, h2, h3, h4, h5⟩ := h k hkn
  exact ⟨b, Bk, cp, h1, Nat.lt_of_lt_of_le h2 (kp_le hk), kp_cell h3 hk, h4.of hk, h5⟩
theorem TabA.low {lo lo' : Nat} {w : World} {A : Option Addr} {n m c : Nat} {F : Nat → Nat → Nat → Int} (h : TabA lo w A n m c F) (hl : lo' ≤ lo) : TabA lo' w A n m c F := by
  intro k hkn
  obtain ⟨b, Bk, cp, h1, h2, h3, h4, h5, h6⟩ := h k hkn
  exact ⟨b, Bk, cp, h1, h2, h3, h4, Nat.le_trans hl h5, fun a ha => Nat.le_trans hl (h6 a ha)⟩
/-- From block lo on, the worlds are one. -/
structure Late (lo : Nat) (W W' : World) : Prop where
  size : W'.heap.size = W.heap.size
  late : ∀ k, lo ≤ k → W'.heap[k]? = W.heap[k]?
theorem Late.ext {lo : Nat} {W W' : World} (h : Late lo W W') (y : More) : Late lo (ext W y) (ext W' y) := by
  refine ⟨by rw [ext_size, ext_size, h.size], fun k hk => ?_⟩
  show (W'.heap ++ y.obs)[k]? = (W.heap ++ y.obs)[k]?
  rw [Array.getElem?_append, Array.getElem?_append, h.size, h.late k hk]
theorem Late.base {W W' : World} (h : W'.heap.size = W.heap.size) : Late W.heap.size W W' :=
  ⟨h, fun k hk => by rw [Array.getElem?_eq_none (by omega), Array.getElem?_eq_none hk]⟩
theorem TabA.late {lo : Nat} {w w' : World} {A : Option Addr} {n m c : Nat} {F : Nat → Nat → Nat → Int} (h : TabA lo w A n m c F) (hl : Late lo w w') : TabA lo w' A n m c F := by
  intro k hkn
  obtain ⟨b, Bk, cp, h1, h2, h3, h4, h5, h6⟩ := h k hkn
  refine ⟨b, Bk, cp, h1, by rw [hl.size]; exact h2, (World.cell?_of_block (w := w) (w' := w') (hl.late b h5)).trans h3, fun h0 => ?_, h5, h6⟩
  obtain ⟨b', off, e, hb, hc⟩ := h4 h0
  refine ⟨b', off, e, by rw [hl.size]; exact hb, fun i hi j hj => ⟨(World.cell?_of_block (w := w) (w' := w') (hl.late b' (h6 _ e))).trans (hc i hi j hj).1, (hc i hi j hj).2⟩⟩
theorem TabL.slice {base : Nat} {eo e : TypeId} {c N m : Nat} {F : Nat → Nat → Nat → Int} {v : Value} {w : World} (h : TabL base eo e c N m F v w) : ∃ A cp, v = .slice A N cp := by
  obtain ⟨V, h1, -⟩ := h
  exact own_slice2 h1
theorem TabL.read {base : Nat} {eo e : TypeId} {c N m cp : Nat} {F : Nat → Nat → Nat → Int} {A : Option Addr} {w : World} (h : TabL base eo e c N m F (.slice A N cp) w) (hI : ∀ i, i < N → ∀ k, k < m → ∀ j, j < c → I64 (F i k j)) : TabA base w A N m c F := by
  intro k hk
  obtain ⟨V, h1, h2⟩ := h
  rcases h1.2 with ⟨h0, h00⟩ | ⟨g, cap, cur, hv, hb, hg, h3, h4, h5, h6⟩
  · omega
  · simp only [Value.slice.injEq] at hv
    obtain ⟨rfl, -, rfl⟩ := hv
    obtain ⟨A2, c2, e2⟩ := own_slice2 (h2 k hk)
    refine ⟨g, A2, c2, rfl, (Array.getElem?_eq_some_iff.1 hg).1, ?_, ?_, hb, fun a ha => ?_⟩
    · have h7 : cur[k]? = some (V k) := by
        have h8 : (cur.toList.take (N * 1))[k]? = some (V k) := by
          rw [h6]
          simp [hk]
        rw [List.getElem?_take, if_pos (by omega)] at h8
        simpa using h8
      unfold World.cell?
      simp [hg, h7, e2]
    · have := h2 k hk
      rw [e2] at this
      exact rows_of_owns this (hI k hk)
    · have := (h2 k hk).lt a.block
      rw [e2, ha] at this
      exact (this rfl).1
end Go.Proofs.YtnbjealpcjfllaaGreatDoor

namespace Go.Proofs.YtnbjealpcjfllaaGreatDoor
set_option linter.unusedVariables false
set_option linter.unusedSimpArgs false
open Go.RowKit
theorem hrow1 {w : World} {A : Option Addr} {n k : Nat} {f : Nat → Nat → Int} (h : RowsAt w A n 1 f) (hk : k < n) : ∃ b off, A = some ⟨b, off, none⟩ ∧ b < w.heap.size ∧ w.cell? ⟨b, off + k, none⟩ = some (.int .i64 (f k 0)) := by
  obtain ⟨b, off, h1, h2, h3⟩ := h (by omega)
  refine ⟨b, off, h1, h2, ?_⟩
  have := (h3 k hk 0 (by omega)).1
  simpa using this
theorem hrow2 {w : World} {A : Option Addr} {n k : Nat} {f : Nat → Nat → Int} (h : RowsAt w A n 2 f) (hk : k < n) :
    ∃ b off, A = some ⟨b, off, none⟩ ∧ b < w.heap.size ∧ w.cell? ⟨b, off + k * 2, none⟩ = some (.int .i64 (f k 0)) ∧ w.cell? ⟨b, off + k * 2 + 1, none⟩ = some (.int .i64 (f k 1)) := by
  obtain ⟨b, off, hA, hb, hc⟩ := h (by omega)
  refine ⟨b, off, hA, hb, ?_, (hc k hk 1 (by omega)).1⟩
  have := (hc k hk 0 (by omega)).1
  simpa using this
theorem hwithin_any (n lo hi : Int) (w : World) :
    Calls Tryz.prog 123 #[.int .i64 n, .int .i64 lo, .int .i64 hi] w fun e w' => e = .returned (.bool (frB n lo hi)) ∧ w = w' := by
  go_enter Tryz.func123, Tryz.ntmps123
  go_wp2
  all_goals (go_ret; exact ⟨ret_bool (by unfold frB; rw [eq_comm]; first | (rw [decide_eq_decide]; omega) | (rw [decide_eq_false_iff_not]; omega)), rfl⟩)
theorem chBad_at {c : Nat → Int} {l k : Nat} (hk : k < l) (h : frB (c k) 0 100 = false) : chBad c l = true := by
  unfold chBad
  exact List.any_eq_true.2 ⟨k, List.mem_range.2 hk, by rw [h]; rfl⟩
theorem chBad_no {c : Nat → Int} {l : Nat} (h : ∀ k, k < l → frB (c k) 0 100 = true) : chBad c l = false := by
  unfold chBad
  refine List.any_eq_false.2 fun k hk => ?_
  rw [h k (List.mem_range.1 hk)]
  simp
theorem sumC_in {c : Nat → Int} : ∀ {k : Nat}, (∀ i, i < k → frB (c i) 0 100 = true) → 0 ≤ sumC c k ∧ sumC c k ≤ 100 * k
  | 0, _ => by simp [sumC]
  | k + 1, h => by
    have a := sumC_in (k := k) (fun i hi => h i (by omega))
    have b := frB_true (h k (by omega))
    show 0 ≤ sumC c k + c k ∧ sumC c k + c k ≤ 100 * ((k + 1 : Nat) : Int)
    omega
set_option maxRecDepth 100000 in
set_option maxHeartbeats 4000000 in
theorem hvch_any (A B : Option Addr) (n cap m cap2 : Nat) (P F : Nat → Nat → Int) (C : Option Addr) (l cap3 : Nat) (f : Nat → Nat → Int) (w : World) (hn : n ≤ 9223372036854775807 ∧ m ≤ 9223372036854775807) (hl : l ≤ 9223372036854775807) (hP : RowsAt w A n 3 P) (hF : RowsAt w B m 3 F) (hC : RowsAt w C l 1 f) :
    Calls Tryz.prog 220 #[.agg #[.slice A n cap, .slice B m cap2], .slice C l cap3] w fun e w' => e = .returned (.int .i64 (chE n P m F l fun k => f k 0)) ∧ Kept w w' := by
  have HP := Lib.hid hP
  have HF := Lib.hid hF
  have HC := Lib.hid hC
  clear hP hF hC
  obtain ⟨ev, hev⟩ : ∃ e, validE n P m F = e := ⟨_, rfl⟩
  have hva : ∀ w', Kept w w' → _ := fun w' hk => svalidate_any A B n cap m cap2 P F w' hn (HP.out.of hk) (HF.out.of hk)
  rw [hev] at hva
  have HVA := Lib.hid hva
  clear hva
  by_cases hv : ev = 0
  case neg =>
    have e : chE n P m F l (fun k => f k 0) = ev := by unfold chE; rw [hev, if_pos hv]
    rw [e]
    have hv2 : (ev == 0) = false := by simpa using hv
    have hv4 : (ev != 0) = true := by simpa using hv
    clear e hev
    go_enter Tryz.func220, Tryz.ntmps220
    go_wp2_with (go_at_call 71; refine (HVA.out _ (by (repeat (first | exact Kept.refl _ | assumption | refine Kept.alloc ?_ _ | refine Kept.ext ?_ _ | refine Kept.drew ?_ | refine Kept.drewN ?_ _)))).mono ?_; rintro e w1 ⟨rfl, x0, rfl⟩)
    go_ret
    exact ⟨rfl, by (repeat (first | exact Kept.refl _ | assumption | refine Kept.alloc ?_ _ | refine Kept.ext ?_ _ | refine Kept.drew ?_ | refine Kept.drewN ?_ _))⟩
  subst hv
  obtain ⟨-, m96, -⟩ := validE_ok hev
  by_cases hlm : l = m
  case neg =>
    have e : chE n P m F l (fun k => f k 0) = 1 := by unfold chE; rw [hev, if_neg (by omega), if_pos hlm]
    rw [e]
    have hlm2 : ((l : Int) == (m : Int)) = false := by simp; omega
    clear e hev
    go_enter Tryz.func220, Tryz.ntmps220
    go_wp2_with (go_at_call 71; refine (HVA.out _ (by (repeat (first | exact Kept.refl _ | assumption | refine Kept.alloc ?_ _ | refine Kept.ext ?_ _ | refine Kept.drew ?_ | refine Kept.drewN ?_ _)))).mono ?_; rintro e w1 ⟨rfl, x0, rfl⟩)
    go_ret
    exact ⟨rfl, by (repeat (first | exact Kept.refl _ | assumption | refine Kept.alloc ?_ _ | refine Kept.ext ?_ _ | refine Kept.drew ?_ | refine Kept.drewN ?_ _))⟩
  subst hlm
  obtain ⟨c, hc⟩ : ∃ c : Nat → Int, (fun k => f k 0) = c := ⟨_, rfl⟩
  have hck : ∀ k, f k 0 = c k := fun k => by rw [← hc]
  have HCK := Lib.hid hck
  rw [hc]
  have e0 : chE n P l F l c = if chBad c l = true then 1 else if sumC c l = 0 then 11 else 0 := by unfold chE; rw [hev, if_neg (by omega), if_neg (by omega)]
  rw [e0]
  obtain ⟨r, hr⟩ : ∃ r : Int, (if chBad c l = true then 1 else if sumC c l = 0 then 11 else 0) = r := ⟨_, rfl⟩
  rw [hr]
  have HR := Lib.hid hr
  clear hc hck e0 hr hev
  go_enter Tryz.func220, Tryz.ntmps220
  go_wp2_with (go_at_call 71; refine (HVA.out _ (by (repeat (first | exact Kept.refl _ | assumption | refine Kept.alloc ?_ _ | refine Kept.ext ?_ _ | refine Kept.drew ?_ | refine Kept.drewN ?_ _)))).mono ?_; rintro e w1 ⟨rfl, x0, rfl⟩)
  go_loopw [6, 22] (fun s i wr => ∃ k : Nat, k ≤ l ∧ i = .int .i64 k ∧ s = .int .i64 (sumC c k) ∧ (∀ j, j < k → frB (c j) 0 100 = true) ∧ ∃ y, wr = ext (w.alloc (.cells #[.slice A n cap, .slice B l cap2] 42)) y) (fun _ i _ => l - (intOf i).toNat)
  case atStart => exact ⟨0, by omega, rfl, rfl, fun j hj => absurd hj (by omega), show Kept _ _ by (repeat (first | exact Kept.refl _ | assumption | refine Kept.alloc ?_ _ | refine Kept.ext ?_ _ | refine Kept.drew ?_ | refine Kept.drewN ?_ _))⟩
  case round =>
    obtain ⟨k, hk, rfl, rfl, hg, y, rfl⟩ := hrel
    have sb := sumC_in hg
    have HG := Lib.hid hg
    clear hg
    by_cases hlt : k < l
    · obtain ⟨fb, off, rfl, lb, f0⟩ := hrow1 HC.out hlt
      rw [HCK.out] at f0
      have LB : Lower fb w.heap.size := ⟨lb⟩
      clear lb
      cases hq : frB (c k) 0 100
      · have hr := HR.out
        rw [if_pos (chBad_at hlt hq)] at hr
        subst hr
        go_wp2_with (first | (go_at_call 123; refine (hwithin_any _ _ _ _).mono ?_; rintro e w1 ⟨rfl, rfl⟩))
        go_ret
        exact ⟨rfl, by (repeat (first | exact Kept.refl _ | assumption | refine Kept.alloc ?_ _ | refine Kept.ext ?_ _ | refine Kept.drew ?_ | refine Kept.drewN ?_ _))⟩
      · have bq := frB_true hq
        go_wp2_with (first | (go_at_call 123; refine (hwithin_any _ _ _ _).mono ?_; rintro e w1 ⟨rfl, rfl⟩))
        go_roundw
        case rel =>
          refine ⟨k + 1, by omega, by go_num, rfl, fun j hj => ?_, show Kept _ _ by (repeat (first | exact Kept.refl _ | assumption | refine Kept.alloc ?_ _ | refine Kept.ext ?_ _ | refine Kept.drew ?_ | refine Kept.drewN ?_ _))⟩
          by_cases e : j = k
          · subst e; exact hq
          · exact HG.out j (by omega)
        case measure =>
          simp [intOf]
          omega
    · obtain rfl : k = l := by omega
      have hr := HR.out
      rw [if_neg (by rw [chBad_no HG.out]; simp)] at hr
      by_cases hz : sumC c k = 0
      · rw [if_pos hz] at hr
        subst hr
        have hz2 : (sumC c k == 0) = true := by simpa using hz
        go_wp2_with fail
        go_ret
        exact ⟨rfl, by (repeat (first | exact Kept.refl _ | assumption | refine Kept.alloc ?_ _ | refine Kept.ext ?_ _ | refine Kept.drew ?_ | refine Kept.drewN ?_ _))⟩
      · rw [if_neg hz] at hr
        subst hr
        have hz2 : (sumC c k == 0) = false := by simpa using hz
        go_wp2_with fail
        go_ret
        exact ⟨rfl, by (repeat (first | exact Kept.refl _ | assumption | refine Kept.alloc ?_ _ | refine Kept.ext ?_ _ | refine Kept.drew ?_ | refine Kept.drewN ?_ _))⟩
set_option maxRecDepth 100000 in
theorem htotal_any (C : Option Addr) (l cap3 : Nat) (f : Nat → Nat → Int) (w : World) (hl : l ≤ 96) (hC : RowsAt w C l 1 f) (hc : ∀ k, k < l → 0 ≤ f k 0 ∧ f k 0 ≤ 100) :
    Calls Tryz.prog 263 #[.slice C l cap3] w fun e w' => e = .returned (.int .i64 (sumC (fun k => f k 0) l * 1048576 * 1048576)) ∧ w = w' := by
  have HC := Lib.hid hC
  have HB := Lib.hid hc
  clear hC hc
  obtain ⟨c, hc⟩ : ∃ c : Nat → Int, (fun k => f k 0) = c := ⟨_, rfl⟩
  have hck : ∀ k, f k 0 = c k := fun k => by rw [← hc]
  have HCK := Lib.hid hck
  rw [hc]
  clear hc hck
  go_enter Tryz.func263, Tryz.ntmps263
  go_wp2_with fail
  go_loopw [3, 8] (fun s i wr => ∃ k : Nat, k ≤ l ∧ i = .int .i64 k ∧ s = .int .i64 (sumC c k) ∧ wr = w) (fun _ i _ => l - (intOf i).toNat)
  case atStart => exact ⟨0, by omega, rfl, rfl, rfl⟩
  case round =>
    obtain ⟨k, hk, rfl, rfl, rfl⟩ := hrel
    have sb : 0 ≤ sumC c k ∧ sumC c k ≤ 100 * k := sumC_bd (c := c) (k := k) (fun i hi => by have := HB.out i (by omega); rw [HCK.out] at this; exact this)
    by_cases hlt : k < l
    · obtain ⟨fb, off, rfl, lb, f0⟩ := hrow1 HC.out hlt
      rw [HCK.out] at f0
      have LB : Lower fb wr.heap.size := ⟨lb⟩
      have bq := HB.out k hlt
      rw [HCK.out] at bq
      go_wp2_with fail
      go_roundw
      case rel => exact ⟨k + 1, by omega, by go_num, rfl, by trivial⟩
      case measure =>
        simp [intOf]
        omega
    · obtain rfl : k = l := by omega
      go_wp2_with fail
      go_ret
      exact ⟨rfl, rfl⟩
theorem hlim_any (n : Int) (w : World) :
    Calls Tryz.prog 262 #[.int .i64 n] w fun e w' => e = .returned (.tuple #[.int .i64 (limV n), .int .i64 (limE n)]) ∧ w = w' := by
  unfold limV limE
  by_cases h : 1099511627776 < n
  · rw [if_pos h, if_pos h]
    go_enter Tryz.func262, Tryz.ntmps262
    go_wp2
    refine bodyPost_ret (by simp only [results, Tryz.results262]; go_simp; rfl) rfl ?_
    exact ⟨rfl, rfl⟩
  · rw [if_neg h, if_neg h]
    go_enter Tryz.func262, Tryz.ntmps262
    go_wp2
    refine bodyPost_ret (by simp only [results, Tryz.results262]; go_simp; rfl) rfl ?_
    exact ⟨rfl, rfl⟩
theorem hdup_any (n d : Int) (w : World) (h : (0 ≤ n ∧ n ≤ 4611686018427387904) ∧ (1 ≤ d ∧ d ≤ 1099511627776)) :
    Calls Tryz.prog 264 #[.int .i64 n, .int .i64 d] w fun e w' => e = .returned (.int .i64 ((n + d - 1) / d)) ∧ w = w' := by
  obtain ⟨⟨a, b⟩, c, e⟩ := h
  have hd : (d == 0) = false := by simp; omega
  have hd0 : ¬ d = 0 := by omega
  have q0 : (n + d - 1).tdiv d = (n + d - 1) / d := Int.tdiv_eq_ediv_of_nonneg (by omega)
  have q1 : 0 ≤ (n + d - 1) / d := Int.ediv_nonneg (by omega) (by omega)
  have q2 : (n + d - 1) / d ≤ n + d - 1 := Int.ediv_le_self _ (by omega)
  go_enter Tryz.func264, Tryz.ntmps264
  go_wp2
  go_ret
  exact ⟨rfl, rfl⟩
end Go.Proofs.YtnbjealpcjfllaaGreatDoor

