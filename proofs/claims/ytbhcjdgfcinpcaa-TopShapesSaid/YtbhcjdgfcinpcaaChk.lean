/- Contracts: the check of lists of spans, and what needs it alone. No conditions but that the list's cells can be read. -/
import Derived.Test.YtbhcjdgfcinpcaaQuo
namespace Go.Proofs.Ytbhcjdgfcinpcaa
set_option linter.unusedVariables false
set_option linter.unusedSimpArgs false
open Go.RowKit
/-- A slice of n spans that can be read: its bounds. -/
def SpansAt (w : World) (A : Option Addr) (n : Nat) (lo hi : Nat → Int) : Prop :=
  0 < n → ∃ b off, A = some ⟨b, off, none⟩ ∧ b < w.heap.size ∧ ∀ k, k < n → w.cell? ⟨b, off + k * 2, none⟩ = some (.int .i64 (lo k)) ∧ w.cell? ⟨b, off + k * 2 + 1, none⟩ = some (.int .i64 (hi k))
def allV (n : Nat) (lo hi : Nat → Int) : Bool := (List.range n).all fun k => validB (lo k) (hi k)
theorem allV_zero (lo hi : Nat → Int) : allV 0 lo hi = true := rfl
theorem allV_succ (n : Nat) (lo hi : Nat → Int) : allV (n + 1) lo hi = (allV n lo hi && validB (lo n) (hi n)) := by
  simp [allV, List.range_succ]
theorem allV_false {n k : Nat} {lo hi : Nat → Int} (hk : k < n) (h : validB (lo k) (hi k) = false) : allV n lo hi = false := by
  unfold allV
  rw [List.all_eq_false]
  exact ⟨k, List.mem_range.2 hk, by simp [h]⟩
def errV (n : Nat) (lo hi : Nat → Int) : Int := if allV n lo hi then 0 else 1
set_option maxHeartbeats 400000 in
theorem check_any (A : Option Addr) (n cap : Nat) (lo hi : Nat → Int) (w : World) (hn : n ≤ 140737488351232) (h : SpansAt w A n lo hi) :
    Calls Try.prog 39 #[.slice A n cap] w fun e w' => e = .returned (.int .i64 (errV n lo hi)) ∧ Kept w w' := by
  rcases Nat.eq_zero_or_pos n with rfl | h0
  · go_enter Try.func39, Try.ntmps39
    go_wp2
    go_loopw [7] (fun i wr => i = .int .i64 0 ∧ wr = w) (fun _ _ => 0)
    case atStart => exact ⟨rfl, rfl⟩
    case round =>
      obtain ⟨rfl, rfl⟩ := hrel
      go_wp2
      go_ret
      exact ⟨rfl, Kept.refl _⟩
  · obtain ⟨b, off, rfl, hb, hcell⟩ := h h0
    have LB : Lower b w.heap.size := ⟨hb⟩
    go_enter Try.func39, Try.ntmps39
    go_wp2
    go_loopw [7] (fun i wr => ∃ k : Nat, k ≤ n ∧ i = .int .i64 k ∧ allV k lo hi = true ∧ ∃ x, wr = ext w x) (fun i _ => n - (intOf i).toNat)
    case atStart => exact ⟨0, Nat.zero_le _, rfl, rfl, (Kept.refl _)⟩
    case round =>
      obtain ⟨k, hk, rfl, hv, x, rfl⟩ := hrel
      by_cases hlt : k < n
      · obtain ⟨c0, c1⟩ := hcell k hlt
        cases hvk : validB (lo k) (hi k)
        · go_wp2_with (first | (go_at_call 67; refine (valid_any _ _ _).mono ?_; rintro e w1 ⟨rfl, x, rfl⟩))
          go_ret
          exact ⟨ret_int (by rw [errV, allV_false hlt hvk]; rfl), by (repeat (first | exact Kept.refl _ | assumption | refine Kept.alloc ?_ _ | refine Kept.ext ?_ _ | refine Kept.drew ?_ | refine Kept.drewN ?_ _))⟩
        · go_wp2_with (first | (go_at_call 67; refine (valid_any _ _ _).mono ?_; rintro e w1 ⟨rfl, x, rfl⟩))
          go_roundw
          case rel => exact ⟨k + 1, by omega, by go_num, by rw [allV_succ, hv, hvk]; rfl, show Kept w _ by (repeat (first | exact Kept.refl _ | assumption | refine Kept.alloc ?_ _ | refine Kept.ext ?_ _ | refine Kept.drew ?_ | refine Kept.drewN ?_ _))⟩
          case measure => simp [intOf]; omega
      · obtain rfl : k = n := by omega
        go_wp2_with (first | (go_at_call 67; refine (valid_any _ _ _).mono ?_; rintro e w1 ⟨rfl, x, rfl⟩))
        go_ret
        exact ⟨ret_int (by rw [errV, hv]; rfl), by (repeat (first | exact Kept.refl _ | assumption | refine Kept.alloc ?_ _ | refine Kept.ext ?_ _ | refine Kept.drew ?_ | refine Kept.drewN ?_ _))⟩
/-- Of one span and of two. -/
def pick2 (a b : Int) : Nat → Int := fun k => if k = 0 then a else b
theorem check1_any (al ah : Int) (n : Nat) (w : World) (hn : n = w.heap.size) :
    Calls Try.prog 39 #[.slice (some ⟨n, 0, none⟩) 1 1] (w.alloc (.cells #[.int .i64 al, .int .i64 ah] 39)) fun e w' => e = .returned (.int .i64 (if validB al ah then 0 else 1)) ∧ Kept (w.alloc (.cells #[.int .i64 al, .int .i64 ah] 39)) w' := by
  subst hn
  have e : errV 1 (fun _ => al) (fun _ => ah) = if validB al ah then 0 else 1 := by simp [errV, allV, List.range_succ]
  rw [← e]
  refine check_any _ 1 1 _ _ _ (by omega) fun _ => ⟨_, 0, rfl, by simp, fun k hk => ?_⟩
  obtain rfl : k = 0 := by omega
  simp
theorem check2_any (al ah bl bh : Int) (n : Nat) (w : World) (hn : n = w.heap.size) :
    Calls Try.prog 39 #[.slice (some ⟨n, 0, none⟩) 2 2] (w.alloc (.cells #[.int .i64 al, .int .i64 ah, .int .i64 bl, .int .i64 bh] 39)) fun e w' => e = .returned (.int .i64 (if validB al ah && validB bl bh then 0 else 1)) ∧ Kept (w.alloc (.cells #[.int .i64 al, .int .i64 ah, .int .i64 bl, .int .i64 bh] 39)) w' := by
  subst hn
  have e : errV 2 (pick2 al bl) (pick2 ah bh) = if validB al ah && validB bl bh then 0 else 1 := by simp [errV, allV, List.range_succ, pick2]
  rw [← e]
  refine check_any _ 2 2 _ _ _ (by omega) fun _ => ⟨_, 0, rfl, by simp, fun k hk => ?_⟩
  rcases (show k = 0 ∨ k = 1 by omega) with rfl | rfl <;> simp [pick2]
def hullS (al ah bl bh : Int) : R := if validB al ah && validB bl bh then ⟨min al bl, max ah bh, 0⟩ else ⟨0, 0, 1⟩
end Go.Proofs.Ytbhcjdgfcinpcaa
