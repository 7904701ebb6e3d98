/- Contracts: whether a number is in a list, of the program and of the reference. Conditions: the list's length is an int. -/
import Derived.Test.YtoejdfpmmgldpaaMi
namespace Go.Proofs.Ytoejdfpmmgldpaa
set_option linter.unusedVariables false
set_option linter.unusedSimpArgs false
open Go.RowKit Go.Deep
def hasB (l : Nat) (x : Nat → Nat → Int) (i : Int) : Bool := (List.range l).any fun k => x k 0 == i
set_option maxRecDepth 100000 in
theorem chas_any (A : Option Addr) (l cap : Nat) (x : Nat → Nat → Int) (i : Int) (w : World) (hl : l ≤ 9223372036854775807) (h : RowsAt w A l 1 x) :
    Calls Try.prog 89 #[.slice A l cap, .int .i64 i] w fun e w' => e = .returned (.bool (hasB l x i)) ∧ w = w' := by
  have HX := Lib.hid h
  clear h
  obtain ⟨r, hr⟩ : ∃ r, hasB l x i = r := ⟨_, rfl⟩
  rw [hr]
  have HR := Lib.hid hr
  clear hr
  go_enter Try.func89, Try.ntmps89
  go_wp2
  go_loopw [9] (fun i1 wr => ∃ k : Nat, k ≤ l ∧ i1 = .int .i64 k ∧ (∀ j, j < k → (x j 0 == i) = false) ∧ w = wr) (fun i1 _ => l - (intOf i1).toNat)
  case atStart => exact ⟨0, by omega, rfl, fun j hj => absurd hj (by omega), by first | rfl | trivial⟩
  case round =>
    obtain ⟨k, hk, rfl, hno, rfl⟩ := hrel
    have HNO := Lib.hid hno
    clear hno
    by_cases hlt : k < l
    · obtain ⟨b, off, rfl, hb, c0, i0⟩ := rows1 HX.out hlt
      have LB : Lower b w.heap.size := ⟨hb⟩
      by_cases he : x k 0 = i
      · have g1 : (x k 0 == i) = true := by simpa using he
        go_wp2
        go_ret
        exact ⟨ret_bool (by rw [← HR.out]; exact (any_range.2 ⟨k, hlt, g1⟩).symm), rfl⟩
      · have g1 : (x k 0 == i) = false := by simpa using he
        go_wp2
        go_roundw
        case rel =>
          refine ⟨k + 1, by omega, by go_num, fun j hj => ?_, by first | rfl | trivial⟩
          by_cases e : j = k
          · rw [e]; exact g1
          · exact HNO.out j (by omega)
        case measure => simp [intOf]; omega
    · obtain rfl : k = l := by omega
      go_wp2
      go_ret
      exact ⟨ret_bool (by rw [← HR.out]; exact (any_range_false.2 HNO.out).symm), rfl⟩
set_option maxRecDepth 100000 in
theorem r6has_any (A : Option Addr) (l cap : Nat) (x : Nat → Nat → Int) (i : Int) (w : World) (hl : l ≤ 9223372036854775807) (h : RowsAt w A l 1 x) :
    Calls Try.prog 90 #[.slice A l cap, .int .i64 i] w fun e w' => e = .returned (.bool (hasB l x i)) ∧ w = w' := by
  have HX := Lib.hid h
  clear h
  obtain ⟨r, hr⟩ : ∃ r, hasB l x i = r := ⟨_, rfl⟩
  rw [hr]
  have HR := Lib.hid hr
  clear hr
  go_enter Try.func90, Try.ntmps90
  go_wp2
  go_loopw [5] (fun i1 wr => ∃ k : Nat, k ≤ l ∧ i1 = .int .i64 k ∧ (∀ j, j < k → (x j 0 == i) = false) ∧ w = wr) (fun i1 _ => l - (intOf i1).toNat)
  case atStart => exact ⟨0, by omega, rfl, fun j hj => absurd hj (by omega), by first | rfl | trivial⟩
  case round =>
    obtain ⟨k, hk, rfl, hno, rfl⟩ := hrel
    have HNO := Lib.hid hno
    clear hno
    by_cases hlt : k < l
    · obtain ⟨b, off, rfl, hb, c0, i0⟩ := rows1 HX.out hlt
      have LB : Lower b w.heap.size := ⟨hb⟩
      by_cases he : x k 0 = i
      · have g1 : (x k 0 == i) = true := by simpa using he
        go_wp2
        go_ret
        exact ⟨ret_bool (by rw [← HR.out]; exact (any_range.2 ⟨k, hlt, g1⟩).symm), rfl⟩
      · have g1 : (x k 0 == i) = false := by simpa using he
        go_wp2
        go_roundw
        case rel =>
          refine ⟨k + 1, by omega, by go_num, fun j hj => ?_, by first | rfl | trivial⟩
          by_cases e : j = k
          · rw [e]; exact g1
          · exact HNO.out j (by omega)
        case measure => simp [intOf]; omega
    · obtain rfl : k = l := by omega
      go_wp2
      go_ret
      exact ⟨ret_bool (by rw [← HR.out]; exact (any_range_false.2 HNO.out).symm), rfl⟩
theorem has_not {l : Nat} {x : Nat → Nat → Int} {i : Int} (h : hasB l x i = false) : ∀ k, k < l → x k 0 ≠ i := by
  intro k hk
  have := any_range_false.1 h k hk
  simpa using this
/-- The list with one more element. -/
def addF (l : Nat) (x : Nat → Nat → Int) (i : Int) : Nat → Nat → Int := fun k _ => if k < l then x k 0 else i
theorem set_up {N l : Nat} {x : Nat → Nat → Int} (h : setB N l x = true) : ∀ d k, k + d < l → x k 0 + d ≤ x (k + d) 0
  | 0, k, hk => by simp
  | d + 1, k, hk => by
    have h1 := set_up h d k (by omega)
    have h2 := (setB_at h hk).2.2 (k + d) (by omega)
    rw [show k + (d + 1) = k + d + 1 by omega] at h2 ⊢
    omega
/-- A set that lacks a number below the bound has fewer elements. -/
theorem set_lt {N l : Nat} {x : Nat → Nat → Int} {i : Int} (h : setB N l x = true) (hi : 0 ≤ i ∧ i < N) (hn : hasB l x i = false) : l < N := by
  have h1 := set_len h
  rcases Nat.lt_or_ge l N with q | q
  · exact q
  · exfalso
    obtain ⟨k, hk⟩ : ∃ k : Nat, i = k := ⟨i.toNat, by omega⟩
    have hkl : k < l := by omega
    have h2 := set_ge h k hkl
    have h3 := set_up h (l - 1 - k) k (by omega)
    rw [show k + (l - 1 - k) = l - 1 by omega] at h3
    have h4 := (setB_at h (show l - 1 < l by omega)).2.1
    exact has_not hn k hkl (by omega)
theorem Mok.add {n : Nat} {m : Nat → Nat} {f : Nat → Nat → Int} {l : Nat} {R C : Nat → Nat → Int} {i j : Int} (h : Mok n m f l R C) (hs : setB n l R = true) (hi : 0 ≤ i ∧ i < n) (hj : 0 ≤ j ∧ j < m 0) (hn : hasB l R i = false) : Mok n m f (l + 1) (addF l R i) (addF l C j) := by
  have := set_lt hs hi hn
  refine ⟨h.n1, h.m1, h.hm, h.hf, fun k hk => ?_, fun k hk => ?_, by have := h.n1; omega⟩
  · unfold addF
    split
    · exact h.hr k (by assumption)
    · exact hi
  · unfold addF
    split
    · exact h.hc k (by assumption)
    · exact hj
/-- The numerator of an element of the residual. -/
def leftV (f : Nat → Nat → Int) (l : Nat) (R C : Nat → Nat → Int) (i j : Int) : Int := if (hasB l R i || hasB l C j) = true then 0 else D (l + 1) (subF f (addF l R i) (addF l C j))
theorem rowC_add (l : Nat) (x : Nat → Nat → Int) (i : Int) : rowC 1 x l ++ [.int .i64 i] = rowC 1 (addF l x i) (l + 1) := by
  have e : rowC 1 (addF l x i) l = rowC 1 x l := rowC_congr fun k hk j hj => by
    obtain rfl : j = 0 := by omega
    exact if_pos hk
  show _ = rowC 1 (addF l x i) l ++ [.int .i64 (addF l x i l 0)]
  rw [e, show addF l x i l 0 = i from if_neg (by omega)]
end Go.Proofs.Ytoejdfpmmgldpaa
