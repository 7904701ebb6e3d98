/- Contracts: which lists of charged panels are valid, of the program and of the reference. No conditions but that the cells of the list can be read. -/
import Derived.Test.YtbefphfgcbbcpaaDoorMsh
import Derived.Test.YtbefphfgcbbcpaaDoorOpen
namespace Go.Proofs.YtbefphfgcbbcpaaDoor
set_option linter.unusedVariables false
set_option linter.unusedSimpArgs false
open Go.RowKit
/-- The error of a charged panel. -/
def chE (g : Nat → Int) : Int := if vpanS (g 0) (g 1) (g 2) (g 3) (g 4) (g 5) (g 6) (g 7) (g 8) = 0 then (if frB (g 9) (-100) 100 then 0 else 1) else vpanS (g 0) (g 1) (g 2) (g 3) (g 4) (g 5) (g 6) (g 7) (g 8)
def firstE (f : Nat → Nat → Int) : Nat → Int
  | 0 => 0
  | n + 1 => if firstE f n = 0 then chE (f n) else firstE f n
theorem firstE_at {f : Nat → Nat → Int} {n k : Nat} (hk : k < n) (h0 : firstE f k = 0) (h1 : chE (f k) ≠ 0) : firstE f n = chE (f k) := by
  induction n with
  | zero => omega
  | succ n ih =>
    unfold firstE
    by_cases e : k = n
    · subst e; rw [if_pos h0]
    · rw [ih (by omega), if_neg h1]
theorem firstE_le {f : Nat → Nat → Int} {n k : Nat} (hk : k ≤ n) (h : firstE f n = 0) : firstE f k = 0 := by
  induction n with
  | zero => obtain rfl : k = 0 := by omega
            exact h
  | succ n ih =>
    by_cases e : k = n + 1
    · subst e; exact h
    · unfold firstE at h
      split at h
      · rename_i h2; exact ih (by omega) h2
      · rename_i h2; exact absurd h h2
theorem chE_at {f : Nat → Nat → Int} {n k : Nat} (hk : k < n) (h : firstE f n = 0) : chE (f k) = 0 := by
  have := firstE_le (show k + 1 ≤ n by omega) h
  unfold firstE at this
  rw [if_pos (firstE_le (show k ≤ n by omega) h)] at this
  exact this
def vchS (n : Nat) (f : Nat → Nat → Int) : Int := if 96 < n then 4 else firstE f n
theorem vpan_vals (p0 p1 p2 p3 p4 p5 p6 p7 p8 : Int) : vpanS p0 p1 p2 p3 p4 p5 p6 p7 p8 = 0 ∨ vpanS p0 p1 p2 p3 p4 p5 p6 p7 p8 = 1 ∨ vpanS p0 p1 p2 p3 p4 p5 p6 p7 p8 = 6 := by
  unfold vpanS
  split
  · split
    · exact .inr (.inr rfl)
    · exact .inl rfl
  · exact .inr (.inl rfl)
set_option maxRecDepth 100000 in
set_option maxHeartbeats 2000000 in
theorem fvch_any (A : Option Addr) (n cap : Nat) (f : Nat → Nat → Int) (w : World) (hn : n ≤ 9223372036854775807) (hs : RowsAt w A n 10 f) :
    Calls Tryd.prog 91 #[.slice A n cap] w fun e w' => e = .returned (.int .i64 (vchS n f)) ∧ Kept w w' := by
  by_cases h1 : 96 < n
  · have e : vchS n f = 4 := if_pos h1
    rw [e]
    clear e
    go_enter Tryd.func91, Tryd.ntmps91
    go_wp2_with fail
    go_ret
    exact ⟨rfl, by (repeat (first | exact Kept.refl _ | assumption | refine Kept.alloc ?_ _ | refine Kept.ext ?_ _ | refine Kept.drew ?_ | refine Kept.drewN ?_ _))⟩
  have e : vchS n f = firstE f n := if_neg h1
  rw [e]
  clear e
  rcases Nat.eq_zero_or_pos n with rfl | h0
  · go_enter Tryd.func91, Tryd.ntmps91
    go_wp2_with fail
    go_loopw [11] (fun i wr => i = .int .i64 0 ∧ wr = w) (fun _ _ => 0)
    case atStart => exact ⟨rfl, rfl⟩
    case round =>
      obtain ⟨rfl, rfl⟩ := hrel
      go_wp2_with fail
      go_ret
      exact ⟨rfl, Kept.refl _⟩
  · obtain ⟨b, off, rfl, hb, hcell⟩ := hs h0
    clear hs
    have LB : Lower b w.heap.size := ⟨hb⟩
    go_enter Tryd.func91, Tryd.ntmps91
    go_wp2_with fail
    go_loopw [11] (fun i wr => ∃ k : Nat, k ≤ n ∧ i = .int .i64 k ∧ firstE f k = 0 ∧ ∃ y, wr = ext w y) (fun i _ => n - (intOf i).toNat)
    case atStart => exact ⟨0, by omega, rfl, rfl, show Kept _ _ by (repeat (first | exact Kept.refl _ | assumption | refine Kept.alloc ?_ _ | refine Kept.ext ?_ _ | refine Kept.drew ?_ | refine Kept.drewN ?_ _))⟩
    case round =>
      obtain ⟨k, hk, rfl, hv, y, rfl⟩ := hrel
      have HV := Lib.hid hv
      clear hv
      by_cases hlt : k < n
      · have HC := Lib.hid hcell
        have x0 := (hcell k hlt 0 (by omega)).1
        have x1 := (hcell k hlt 1 (by omega)).1
        have x2 := (hcell k hlt 2 (by omega)).1
        have x3 := (hcell k hlt 3 (by omega)).1
        have x4 := (hcell k hlt 4 (by omega)).1
        have x5 := (hcell k hlt 5 (by omega)).1
        have x6 := (hcell k hlt 6 (by omega)).1
        have x7 := (hcell k hlt 7 (by omega)).1
        have x8 := (hcell k hlt 8 (by omega)).1
        have x9 := (hcell k hlt 9 (by omega)).1
        simp only [Nat.add_zero] at x0
        clear hcell
        by_cases v0 : vpanS (f k 0) (f k 1) (f k 2) (f k 3) (f k 4) (f k 5) (f k 6) (f k 7) (f k 8) = 0
        · have g1 : (vpanS (f k 0) (f k 1) (f k 2) (f k 3) (f k 4) (f k 5) (f k 6) (f k 7) (f k 8) != 0) = false := by simpa using v0
          cases v1 : frB (f k 9) (-100) 100
          · have E := Lib.hid (firstE_at hlt HV.out (by unfold chE; rw [if_pos v0, v1]; decide))
            have E2 : chE (f k) = 1 := by unfold chE; rw [if_pos v0, v1]; rfl
            have E3 := Lib.hid (E.out.trans E2)
            clear E2 v0
            go_wp2_with (first | (go_at_call 104; refine (svpan_any _ _ _ _ _ _ _ _ _ _).mono ?_; rintro e w1 ⟨rfl, x, rfl⟩) | (go_at_call 105; refine (fwithin_any _ _ _ _).mono ?_; rintro e w1 ⟨rfl, rfl⟩))
            go_ret
            exact ⟨ret_int E3.out.symm, by (repeat (first | exact Kept.refl _ | assumption | refine Kept.alloc ?_ _ | refine Kept.ext ?_ _ | refine Kept.drew ?_ | refine Kept.drewN ?_ _))⟩
          · have E2 := Lib.hid (show firstE f (k + 1) = 0 by unfold firstE; rw [if_pos HV.out]; unfold chE; rw [if_pos v0, v1]; rfl)
            clear v0
            go_wp2_with (first | (go_at_call 104; refine (svpan_any _ _ _ _ _ _ _ _ _ _).mono ?_; rintro e w1 ⟨rfl, x, rfl⟩) | (go_at_call 105; refine (fwithin_any _ _ _ _).mono ?_; rintro e w1 ⟨rfl, rfl⟩))
            go_roundw
            case rel => exact ⟨k + 1, by omega, by go_num, E2.out, show Kept w _ by (repeat (first | exact Kept.refl _ | assumption | refine Kept.alloc ?_ _ | refine Kept.ext ?_ _ | refine Kept.drew ?_ | refine Kept.drewN ?_ _))⟩
            case measure => simp [intOf]; omega
        · have g1 : (vpanS (f k 0) (f k 1) (f k 2) (f k 3) (f k 4) (f k 5) (f k 6) (f k 7) (f k 8) != 0) = true := by simpa using v0
          have E2 : chE (f k) = vpanS (f k 0) (f k 1) (f k 2) (f k 3) (f k 4) (f k 5) (f k 6) (f k 7) (f k 8) := by unfold chE; rw [if_neg v0]
          have E := firstE_at hlt HV.out (by rw [E2]; exact v0)
          have E3 := Lib.hid (E.trans E2)
          clear E E2 v0
          go_wp2_with (first | (go_at_call 104; refine (svpan_any _ _ _ _ _ _ _ _ _ _).mono ?_; rintro e w1 ⟨rfl, x, rfl⟩) | (go_at_call 105; refine (fwithin_any _ _ _ _).mono ?_; rintro e w1 ⟨rfl, rfl⟩))
          go_ret
          exact ⟨ret_int E3.out.symm, by (repeat (first | exact Kept.refl _ | assumption | refine Kept.alloc ?_ _ | refine Kept.ext ?_ _ | refine Kept.drew ?_ | refine Kept.drewN ?_ _))⟩
      · obtain rfl : k = n := by omega
        go_wp2_with fail
        go_ret
        exact ⟨ret_int HV.out.symm, by (repeat (first | exact Kept.refl _ | assumption | refine Kept.alloc ?_ _ | refine Kept.ext ?_ _ | refine Kept.drew ?_ | refine Kept.drewN ?_ _))⟩
/-- The error of charged panels and a center. -/
def givE (n : Nat) (f : Nat → Nat → Int) (x y z : Int) : Int := if vchS n f = 0 then (if inB x y z 64 then 0 else 1) else vchS n f
set_option maxRecDepth 100000 in
set_option maxHeartbeats 2000000 in
theorem mcharged_any (A : Option Addr) (n cap : Nat) (f : Nat → Nat → Int) (x y z : Int) (w : World) (hn : n ≤ 9223372036854775807) (hs : RowsAt w A n 10 f) :
    Calls Tryd.prog 63 #[.slice A n cap, .agg #[.int .i64 x, .int .i64 y, .int .i64 z]] w fun e w' => e = .returned (.int .i64 (givE n f x y z)) ∧ Kept w w' := by
  have HS := Lib.hid hs
  clear hs
  by_cases v0 : vchS n f = 0
  · have g1 : (vchS n f != 0) = false := by simpa using v0
    cases v1 : inB x y z 64
    · have e : givE n f x y z = 1 := by unfold givE; rw [if_pos v0, v1]; rfl
      rw [e]
      clear e v0
      go_enter Tryd.func63, Tryd.ntmps63
      go_wp2_with fail
      refine (fvch_any _ _ _ f _ (by omega) (HS.out.of (by (repeat (first | exact Kept.refl _ | assumption | refine Kept.alloc ?_ _ | refine Kept.ext ?_ _ | refine Kept.drew ?_ | refine Kept.drewN ?_ _))))).mono ?_
      rintro e w1 ⟨rfl, x1, rfl⟩
      go_wp2_with (first | (go_at_call 65; refine (mnear_any _ _ _ _ _ (by omega)).mono ?_; rintro e w1 ⟨rfl, x, rfl⟩))
      go_ret
      exact ⟨rfl, by (repeat (first | exact Kept.refl _ | assumption | refine Kept.alloc ?_ _ | refine Kept.ext ?_ _ | refine Kept.drew ?_ | refine Kept.drewN ?_ _))⟩
    · have e : givE n f x y z = 0 := by unfold givE; rw [if_pos v0, v1]; rfl
      rw [e]
      clear e v0
      go_enter Tryd.func63, Tryd.ntmps63
      go_wp2_with fail
      refine (fvch_any _ _ _ f _ (by omega) (HS.out.of (by (repeat (first | exact Kept.refl _ | assumption | refine Kept.alloc ?_ _ | refine Kept.ext ?_ _ | refine Kept.drew ?_ | refine Kept.drewN ?_ _))))).mono ?_
      rintro e w1 ⟨rfl, x1, rfl⟩
      go_wp2_with (first | (go_at_call 65; refine (mnear_any _ _ _ _ _ (by omega)).mono ?_; rintro e w1 ⟨rfl, x, rfl⟩))
      go_ret
      exact ⟨rfl, by (repeat (first | exact Kept.refl _ | assumption | refine Kept.alloc ?_ _ | refine Kept.ext ?_ _ | refine Kept.drew ?_ | refine Kept.drewN ?_ _))⟩
  · have g1 : (vchS n f != 0) = true := by simpa using v0
    have e : givE n f x y z = vchS n f := by unfold givE; rw [if_neg v0]
    rw [e]
    clear e v0
    go_enter Tryd.func63, Tryd.ntmps63
    go_wp2_with fail
    refine (fvch_any _ _ _ f _ (by omega) (HS.out.of (by (repeat (first | exact Kept.refl _ | assumption | refine Kept.alloc ?_ _ | refine Kept.ext ?_ _ | refine Kept.drew ?_ | refine Kept.drewN ?_ _))))).mono ?_
    rintro e w1 ⟨rfl, x1, rfl⟩
    go_wp2_with (first | (go_at_call 65; refine (mnear_any _ _ _ _ _ (by omega)).mono ?_; rintro e w1 ⟨rfl, x, rfl⟩))
    go_ret
    exact ⟨rfl, by (repeat (first | exact Kept.refl _ | assumption | refine Kept.alloc ?_ _ | refine Kept.ext ?_ _ | refine Kept.drew ?_ | refine Kept.drewN ?_ _))⟩
end Go.Proofs.YtbefphfgcbbcpaaDoor
