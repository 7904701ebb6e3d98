/- Contracts: which lists of charged panels are valid, of the program and of the reference. No conditions but that the cells of the list can be read. Contract: one panel more in the moments, in the program. Under bounds on numbers. Contract: the moments of a list of charged panels, in the program. No conditions but that the cells of the list can be read. -/
import Derived.Test.YtodmdicegkjicaaZg
import Derived.Test.YtodmdicegkjicaaZb
namespace Go.Proofs.Ytodmdicegkjicaa
set_option linter.unusedVariables false
set_option linter.unusedSimpArgs false
open Go.RowKit
/-- The error of a charged panel. -/
def chE (g : Nat → Int) : Int := if vpanS (g 0) (g 1) (g 2) (g 3) (g 4) (g 5) (g 6) (g 7) (g 8) = 0 then (if frB (g 9) (-100) 100 then 0 else 1) else vpanS (g 0) (g 1) (g 2) (g 3) (g 4) (g 5) (g 6) (g 7) (g 8)
def firstE (f : Nat → Nat → Int) : Nat → Int
  | 0 => 0
  | n + 1 => if firstE f n = 0 then chE (f n) else firstE f n
theorem firstE_at {f : Nat → Nat → Int} {n k : Nat} (hk : k < n) (h0 : firstE f k = 0) (h1 : chE (f k) ≠ 0) : firstE f n = chE (f k) := by
  induction n with
  | zero => omega
  | succ n ih =>
    unfold firstE
    by_cases e : k = n
    · subst e; rw [if_pos h0]
    · rw [ih (by omega), if_neg h1]
theorem firstE_le {f : Nat → Nat → Int} {n k : Nat} (hk : k ≤ n) (h : firstE f n = 0) : firstE f k = 0 := by
  induction n with
  | zero => obtain rfl : k = 0 := by omega
            exact h
  | succ n ih =>
    by_cases e : k = n + 1
    · subst e; exact h
    · unfold firstE at h
      split at h
      · rename_i h2; exact ih (by omega) h2
      · rename_i h2; exact absurd h h2
theorem chE_at {f : Nat → Nat → Int} {n k : Nat} (hk : k < n) (h : firstE f n = 0) : chE (f k) = 0 := by
  have := firstE_le (show k + 1 ≤ n by omega) h
  unfold firstE at this
  rw [if_pos (firstE_le (show k ≤ n by omega) h)] at this
  exact this
def vchS (n : Nat) (f : Nat → Nat → Int) : Int := if 96 < n then 4 else firstE f n
set_option maxRecDepth 100000 in
set_option maxHeartbeats 2000000 in
theorem fvch_any (A : Option Addr) (n cap : Nat) (f : Nat → Nat → Int) (w : World) (hn : n ≤ 9223372036854775807) (hs : RowsAt w A n 10 f) :
    Calls Try.prog 18 #[.slice A n cap] w fun e w' => e = .returned (.int .i64 (vchS n f)) ∧ Kept w w' := by
  by_cases h1 : 96 < n
  · have e : vchS n f = 4 := if_pos h1
    rw [e]
    clear e
    go_enter Try.func18, Try.ntmps18
    go_wp2_with fail
    go_ret
    exact ⟨rfl, by (repeat (first | exact Kept.refl _ | assumption | refine Kept.alloc ?_ _ | refine Kept.ext ?_ _ | refine Kept.drew ?_ | refine Kept.drewN ?_ _))⟩
  have e : vchS n f = firstE f n := if_neg h1
  rw [e]
  clear e
  rcases Nat.eq_zero_or_pos n with rfl | h0
  · go_enter Try.func18, Try.ntmps18
    go_wp2_with fail
    go_loopw [11] (fun i wr => i = .int .i64 0 ∧ wr = w) (fun _ _ => 0)
    case atStart => exact ⟨rfl, rfl⟩
    case round =>
      obtain ⟨rfl, rfl⟩ := hrel
      go_wp2_with fail
      go_ret
      exact ⟨rfl, Kept.refl _⟩
  · obtain ⟨b, off, rfl, hb, hcell⟩ := hs h0
    clear hs
    have LB : Lower b w.heap.size := ⟨hb⟩
    go_enter Try.func18, Try.ntmps18
    go_wp2_with fail
    go_loopw [11] (fun i wr => ∃ k : Nat, k ≤ n ∧ i = .int .i64 k ∧ firstE f k = 0 ∧ ∃ y, wr = ext w y) (fun i _ => n - (intOf i).toNat)
    case atStart => exact ⟨0, by omega, rfl, rfl, show Kept _ _ by (repeat (first | exact Kept.refl _ | assumption | refine Kept.alloc ?_ _ | refine Kept.ext ?_ _ | refine Kept.drew ?_ | refine Kept.drewN ?_ _))⟩
    case round =>
      obtain ⟨k, hk, rfl, hv, y, rfl⟩ := hrel
      have HV := Lib.hid hv
      clear hv
      by_cases hlt : k < n
      · have HC := Lib.hid hcell
        have x0 := (hcell k hlt 0 (by omega)).1
        have x1 := (hcell k hlt 1 (by omega)).1
        have x2 := (hcell k hlt 2 (by omega)).1
        have x3 := (hcell k hlt 3 (by omega)).1
        have x4 := (hcell k hlt 4 (by omega)).1
        have x5 := (hcell k hlt 5 (by omega)).1
        have x6 := (hcell k hlt 6 (by omega)).1
        have x7 := (hcell k hlt 7 (by omega)).1
        have x8 := (hcell k hlt 8 (by omega)).1
        have x9 := (hcell k hlt 9 (by omega)).1
        simp only [Nat.add_zero] at x0
        clear hcell
        by_cases v0 : vpanS (f k 0) (f k 1) (f k 2) (f k 3) (f k 4) (f k 5) (f k 6) (f k 7) (f k 8) = 0
        · have g1 : (vpanS (f k 0) (f k 1) (f k 2) (f k 3) (f k 4) (f k 5) (f k 6) (f k 7) (f k 8) != 0) = false := by simpa using v0
          cases v1 : frB (f k 9) (-100) 100
          · have E := Lib.hid (firstE_at hlt HV.out (by unfold chE; rw [if_pos v0, v1]; decide))
            have E2 : chE (f k) = 1 := by unfold chE; rw [if_pos v0, v1]; rfl
            have E3 := Lib.hid (E.out.trans E2)
            clear E2 v0
            go_wp2_with (first | (go_at_call 33; refine (svpan_any _ _ _ _ _ _ _ _ _ _).mono ?_; rintro e w1 ⟨rfl, x, rfl⟩) | (go_at_call 20; refine (fwithin_any _ _ _ _).mono ?_; rintro e w1 ⟨rfl, rfl⟩))
            go_ret
            exact ⟨ret_int E3.out.symm, by (repeat (first | exact Kept.refl _ | assumption | refine Kept.alloc ?_ _ | refine Kept.ext ?_ _ | refine Kept.drew ?_ | refine Kept.drewN ?_ _))⟩
          · have E2 := Lib.hid (show firstE f (k + 1) = 0 by unfold firstE; rw [if_pos HV.out]; unfold chE; rw [if_pos v0, v1]; rfl)
            clear v0
            go_wp2_with (first | (go_at_call 33; refine (svpan_any _ _ _ _ _ _ _ _ _ _).mono ?_; rintro e w1 ⟨rfl, x, rfl⟩) | (go_at_call 20; refine (fwithin_any _ _ _ _).mono ?_; rintro e w1 ⟨rfl, rfl⟩))
            go_roundw
            case rel => exact ⟨k + 1, by omega, by go_num, E2.out, show Kept w _ by (repeat (first | exact Kept.refl _ | assumption | refine Kept.alloc ?_ _ | refine Kept.ext ?_ _ | refine Kept.drew ?_ | refine Kept.drewN ?_ _))⟩
            case measure => simp [intOf]; omega
        · have g1 : (vpanS (f k 0) (f k 1) (f k 2) (f k 3) (f k 4) (f k 5) (f k 6) (f k 7) (f k 8) != 0) = true := by simpa using v0
          have E2 : chE (f k) = vpanS (f k 0) (f k 1) (f k 2) (f k 3) (f k 4) (f k 5) (f k 6) (f k 7) (f k 8) := by unfold chE; rw [if_neg v0]
          have E := firstE_at hlt HV.out (by rw [E2]; exact v0)
          have E3 := Lib.hid (E.trans E2)
          clear E E2 v0
          go_wp2_with (first | (go_at_call 33; refine (svpan_any _ _ _ _ _ _ _ _ _ _).mono ?_; rintro e w1 ⟨rfl, x, rfl⟩) | (go_at_call 20; refine (fwithin_any _ _ _ _).mono ?_; rintro e w1 ⟨rfl, rfl⟩))
          go_ret
          exact ⟨ret_int E3.out.symm, by (repeat (first | exact Kept.refl _ | assumption | refine Kept.alloc ?_ _ | refine Kept.ext ?_ _ | refine Kept.drew ?_ | refine Kept.drewN ?_ _))⟩
      · obtain rfl : k = n := by omega
        go_wp2_with fail
        go_ret
        exact ⟨ret_int HV.out.symm, by (repeat (first | exact Kept.refl _ | assumption | refine Kept.alloc ?_ _ | refine Kept.ext ?_ _ | refine Kept.drew ?_ | refine Kept.drewN ?_ _))⟩
/-- The error of charged panels and a center. -/
def givE (n : Nat) (f : Nat → Nat → Int) (x y z : Int) : Int := if vchS n f = 0 then (if inB x y z 64 then 0 else 1) else vchS n f
set_option maxRecDepth 100000 in
set_option maxHeartbeats 2000000 in
theorem mcharged_any (A : Option Addr) (n cap : Nat) (f : Nat → Nat → Int) (x y z : Int) (w : World) (hn : n ≤ 9223372036854775807) (hs : RowsAt w A n 10 f) :
    Calls Try.prog 14 #[.slice A n cap, .agg #[.int .i64 x, .int .i64 y, .int .i64 z]] w fun e w' => e = .returned (.int .i64 (givE n f x y z)) ∧ Kept w w' := by
  have HS := Lib.hid hs
  clear hs
  by_cases v0 : vchS n f = 0
  · have g1 : (vchS n f != 0) = false := by simpa using v0
    cases v1 : inB x y z 64
    · have e : givE n f x y z = 1 := by unfold givE; rw [if_pos v0, v1]; rfl
      rw [e]
      clear e v0
      go_enter Try.func14, Try.ntmps14
      go_wp2_with fail
      refine (fvch_any _ _ _ f _ (by omega) (HS.out.of (by (repeat (first | exact Kept.refl _ | assumption | refine Kept.alloc ?_ _ | refine Kept.ext ?_ _ | refine Kept.drew ?_ | refine Kept.drewN ?_ _))))).mono ?_
      rintro e w1 ⟨rfl, x1, rfl⟩
      go_wp2_with (first | (go_at_call 29; refine (mnear_any _ _ _ _ _ (by omega)).mono ?_; rintro e w1 ⟨rfl, x, rfl⟩))
      go_ret
      exact ⟨rfl, by (repeat (first | exact Kept.refl _ | assumption | refine Kept.alloc ?_ _ | refine Kept.ext ?_ _ | refine Kept.drew ?_ | refine Kept.drewN ?_ _))⟩
    · have e : givE n f x y z = 0 := by unfold givE; rw [if_pos v0, v1]; rfl
      rw [e]
      clear e v0
      go_enter Try.func14, Try.ntmps14
      go_wp2_with fail
      refine (fvch_any _ _ _ f _ (by omega) (HS.out.of (by (repeat (first | exact Kept.refl _ | assumption | refine Kept.alloc ?_ _ | refine Kept.ext ?_ _ | refine Kept.drew ?_ | refine Kept.drewN ?_ _))))).mono ?_
      rintro e w1 ⟨rfl, x1, rfl⟩
      go_wp2_with (first | (go_at_call 29; refine (mnear_any _ _ _ _ _ (by omega)).mono ?_; rintro e w1 ⟨rfl, x, rfl⟩))
      go_ret
      exact ⟨rfl, by (repeat (first | exact Kept.refl _ | assumption | refine Kept.alloc ?_ _ | refine Kept.ext ?_ _ | refine Kept.drew ?_ | refine Kept.drewN ?_ _))⟩
  · have g1 : (vchS n f != 0) = true := by simpa using v0
    have e : givE n f x y z = vchS n f := by unfold givE; rw [if_neg v0]
    rw [e]
    clear e v0
    go_enter Try.func14, Try.ntmps14
    go_wp2_with fail
    refine (fvch_any _ _ _ f _ (by omega) (HS.out.of (by (repeat (first | exact Kept.refl _ | assumption | refine Kept.alloc ?_ _ | refine Kept.ext ?_ _ | refine Kept.drew ?_ | refine Kept.drewN ?_ _))))).mono ?_
    rintro e w1 ⟨rfl, x1, rfl⟩
    go_wp2_with (first | (go_at_call 29; refine (mnear_any _ _ _ _ _ (by omega)).mono ?_; rintro e w1 ⟨rfl, x, rfl⟩))
    go_ret
    exact ⟨rfl, by (repeat (first | exact Kept.refl _ | assumption | refine Kept.alloc ?_ _ | refine Kept.ext ?_ _ | refine Kept.drew ?_ | refine Kept.drewN ?_ _))⟩
end Go.Proofs.Ytodmdicegkjicaa

namespace Go.Proofs.Ytodmdicegkjicaa
set_option linter.unusedVariables false
set_option linter.unusedSimpArgs false
open Go.RowKit
attribute [local go_sem ↓] Go.wp_at_zero Go.wp_at_succ
theorem rounds_kept {P : Program} {c : Code} {Q : Exit → Act → World → Prop} {n : Nat} {a : Act} {w : World} (B : World) (h : Kept B w) (H : ∀ z, Code.rounds P c Q n a (ext B z)) : Code.rounds P c Q n a w := by
  obtain ⟨z, rfl⟩ := h
  exact H z
theorem cut9 {W w' : World} {n b : Nat} {x0 x1 x2 x3 x4 x5 x6 x7 x8 : Value} [hs : SizeIs W n] (h : Kept W w') (h1 : n ≤ b ∧ b < w'.heap.size)
    (k0 : w'.cell? ⟨b, 0, none⟩ = some x0) (k1 : w'.cell? ⟨b, 1, none⟩ = some x1) (k2 : w'.cell? ⟨b, 2, none⟩ = some x2) (k3 : w'.cell? ⟨b, 3, none⟩ = some x3) (k4 : w'.cell? ⟨b, 4, none⟩ = some x4) (k5 : w'.cell? ⟨b, 5, none⟩ = some x5) (k6 : w'.cell? ⟨b, 6, none⟩ = some x6) (k7 : w'.cell? ⟨b, 7, none⟩ = some x7) (k8 : w'.cell? ⟨b, 8, none⟩ = some x8) :
    ∃ y i, w' = ext W y ∧ Value.pointer (some ⟨b, 0, none⟩) = .pointer (some ⟨adv n i, 0, none⟩) ∧ i < y.obs.size ∧
      y.cell i 0 = some x0 ∧ y.cell i 1 = some x1 ∧ y.cell i 2 = some x2 ∧ y.cell i 3 = some x3 ∧ y.cell i 4 = some x4 ∧ y.cell i 5 = some x5 ∧ y.cell i 6 = some x6 ∧ y.cell i 7 = some x7 ∧ y.cell i 8 = some x8 := by
  obtain ⟨y, i, j, e0, e1, -, l1, -, k, -⟩ := kept_at2 h h1 h1
  exact ⟨y, i, e0, by rw [e1], l1, by rw [k, k0], by rw [k, k1], by rw [k, k2], by rw [k, k3], by rw [k, k4], by rw [k, k5], by rw [k, k6], by rw [k, k7], by rw [k, k8]⟩
/-- One panel more, by its corners as seen from the center. -/
def addA (m : Mo) (q a0 a1 a2 a3 a4 a5 a6 a7 a8 : Int) : Mo := ⟨m.q + q, m.t + max q (-q), m.x - -q * (a0 + a3 + a6), m.y - -q * (a1 + a4 + a7), m.z - -q * (a2 + a5 + a8), m.a + q * ((a0 + a3 + a6) * (a0 + a3 + a6) + a0 * a0 + a3 * a3 + a6 * a6), m.b + q * ((a0 + a3 + a6) * (a1 + a4 + a7) + a0 * a1 + a3 * a4 + a6 * a7), m.c + q * ((a0 + a3 + a6) * (a2 + a5 + a8) + a0 * a2 + a3 * a5 + a6 * a8), m.d + q * ((a1 + a4 + a7) * (a1 + a4 + a7) + a1 * a1 + a4 * a4 + a7 * a7), m.e + q * ((a1 + a4 + a7) * (a2 + a5 + a8) + a1 * a2 + a4 * a5 + a7 * a8), m.f + q * ((a2 + a5 + a8) * (a2 + a5 + a8) + a2 * a2 + a5 * a5 + a8 * a8)⟩
set_option maxRecDepth 100000 in
set_option maxHeartbeats 40000000 in
theorem about_add (W : World) (n : Nat) (m0 m1 m2 m3 m4 m5 m6 m7 m8 m9 m10 p0 p1 p2 p3 p4 p5 p6 p7 p8 q c0 c1 c2 : Int) (y : More) (hn : n = W.heap.size) (hb : (-64 ≤ p0 ∧ p0 ≤ 64) ∧ (-64 ≤ p1 ∧ p1 ≤ 64) ∧ (-64 ≤ p2 ∧ p2 ≤ 64) ∧ (-64 ≤ p3 ∧ p3 ≤ 64) ∧ (-64 ≤ p4 ∧ p4 ≤ 64) ∧ (-64 ≤ p5 ∧ p5 ≤ 64) ∧ (-64 ≤ p6 ∧ p6 ≤ 64) ∧ (-64 ≤ p7 ∧ p7 ≤ 64) ∧ (-64 ≤ p8 ∧ p8 ≤ 64) ∧ (-100 ≤ q ∧ q ≤ 100) ∧ (-64 ≤ c0 ∧ c0 ≤ 64) ∧ (-64 ≤ c1 ∧ c1 ≤ 64) ∧ (-64 ≤ c2 ∧ c2 ≤ 64) ∧ (-1125899906842624 ≤ m0 ∧ m0 ≤ 1125899906842624) ∧ (-1125899906842624 ≤ m1 ∧ m1 ≤ 1125899906842624) ∧ (-1073741824 ≤ m2 ∧ m2 ≤ 1073741824) ∧ (-1073741824 ≤ m3 ∧ m3 ≤ 1073741824) ∧ (-1073741824 ≤ m4 ∧ m4 ≤ 1073741824) ∧ (-1125899906842624 ≤ m5 ∧ m5 ≤ 1125899906842624) ∧ (-1125899906842624 ≤ m6 ∧ m6 ≤ 1125899906842624) ∧ (-1125899906842624 ≤ m7 ∧ m7 ≤ 1125899906842624) ∧ (-1125899906842624 ≤ m8 ∧ m8 ≤ 1125899906842624) ∧ (-1125899906842624 ≤ m9 ∧ m9 ≤ 1125899906842624) ∧ (-1125899906842624 ≤ m10 ∧ m10 ≤ 1125899906842624)) :
    Calls Try.prog 15 #[.pointer (some ⟨n, 0, none⟩), .agg #[.int .i64 p0, .int .i64 p1, .int .i64 p2, .int .i64 p3, .int .i64 p4, .int .i64 p5, .int .i64 p6, .int .i64 p7, .int .i64 p8, .int .i64 q]] (ext (W.alloc (.cells #[.int .i64 m0, .int .i64 m1, .int .i64 m2, .int .i64 m3, .int .i64 m4, .int .i64 m5, .int .i64 m6, .int .i64 m7, .int .i64 m8, .int .i64 m9, .int .i64 m10, .int .i64 c0, .int .i64 c1, .int .i64 c2] 56)) y) fun e w' => e = .returned (.tuple #[]) ∧ ∃ a0 a1 a2 a3 a4 a5 a6 a7 a8 : Int, (a0 = p0 - c0 ∧ a1 = p1 - c1 ∧ a2 = p2 - c2 ∧ a3 = p3 - c0 ∧ a4 = p4 - c1 ∧ a5 = p5 - c2 ∧ a6 = p6 - c0 ∧ a7 = p7 - c1 ∧ a8 = p8 - c2) ∧ Kept (W.alloc (.cells #[.int .i64 (m0 + q), .int .i64 (m1 + max q (-q)), .int .i64 (m2 - -q * (a0 + a3 + a6)), .int .i64 (m3 - -q * (a1 + a4 + a7)), .int .i64 (m4 - -q * (a2 + a5 + a8)), .int .i64 (m5 + q * ((a0 + a3 + a6) * (a0 + a3 + a6) + a0 * a0 + a3 * a3 + a6 * a6)), .int .i64 (m6 + q * ((a0 + a3 + a6) * (a1 + a4 + a7) + a0 * a1 + a3 * a4 + a6 * a7)), .int .i64 (m7 + q * ((a0 + a3 + a6) * (a2 + a5 + a8) + a0 * a2 + a3 * a5 + a6 * a8)), .int .i64 (m8 + q * ((a1 + a4 + a7) * (a1 + a4 + a7) + a1 * a1 + a4 * a4 + a7 * a7)), .int .i64 (m9 + q * ((a1 + a4 + a7) * (a2 + a5 + a8) + a1 * a2 + a4 * a5 + a7 * a8)), .int .i64 (m10 + q * ((a2 + a5 + a8) * (a2 + a5 + a8) + a2 * a2 + a5 * a5 + a8 * a8)), .int .i64 c0, .int .i64 c1, .int .i64 c2] 56)) w' := by
  subst hn
  obtain ⟨z0, z1, z2, z3, z4, z5, z6, z7, z8, z9, z10, z11, z12, z13, z14, z15, z16, z17, z18, z19, z20, z21, z22, z23⟩ := hb
  go_enter Try.func15, Try.ntmps15
  go_upto_region 1 with fail
  go_cut [4] (fun s4 wx => ∃ z i, wx = ext ((ext (W.alloc (.cells #[.int .i64 m0, .int .i64 m1, .int .i64 m2, .int .i64 m3, .int .i64 m4, .int .i64 m5, .int .i64 m6, .int .i64 m7, .int .i64 m8, .int .i64 m9, .int .i64 m10, .int .i64 c0, .int .i64 c1, .int .i64 c2] 56)) y).alloc (.cells #[.int .i64 p0, .int .i64 p1, .int .i64 p2, .int .i64 p3, .int .i64 p4, .int .i64 p5, .int .i64 p6, .int .i64 p7, .int .i64 p8, .int .i64 q] 51)) z ∧ s4 = .pointer (some ⟨adv (adv (W.heap.size + 1) y.obs.size + 1) i, 0, none⟩) ∧ i < z.obs.size ∧ z.cell i 0 = some (.int .i64 (p0 - c0)) ∧ z.cell i 1 = some (.int .i64 (p1 - c1)) ∧ z.cell i 2 = some (.int .i64 (p2 - c2)) ∧ z.cell i 3 = some (.int .i64 (p3 - c0)) ∧ z.cell i 4 = some (.int .i64 (p4 - c1)) ∧ z.cell i 5 = some (.int .i64 (p5 - c2)) ∧ z.cell i 6 = some (.int .i64 (p6 - c0)) ∧ z.cell i 7 = some (.int .i64 (p7 - c1)) ∧ z.cell i 8 = some (.int .i64 (p8 - c2)))
  case first =>
    go_region_held3 (fun w' => w'.cell? ⟨adv (W.heap.size + 1) y.obs.size, 0, none⟩ = some (.int .i64 p0) ∧ w'.cell? ⟨adv (W.heap.size + 1) y.obs.size, 1, none⟩ = some (.int .i64 p1) ∧ w'.cell? ⟨adv (W.heap.size + 1) y.obs.size, 2, none⟩ = some (.int .i64 p2) ∧ w'.cell? ⟨adv (W.heap.size + 1) y.obs.size, 3, none⟩ = some (.int .i64 p3) ∧ w'.cell? ⟨adv (W.heap.size + 1) y.obs.size, 4, none⟩ = some (.int .i64 p4) ∧ w'.cell? ⟨adv (W.heap.size + 1) y.obs.size, 5, none⟩ = some (.int .i64 p5) ∧ w'.cell? ⟨adv (W.heap.size + 1) y.obs.size, 6, none⟩ = some (.int .i64 p6) ∧ w'.cell? ⟨adv (W.heap.size + 1) y.obs.size, 7, none⟩ = some (.int .i64 p7) ∧ w'.cell? ⟨adv (W.heap.size + 1) y.obs.size, 8, none⟩ = some (.int .i64 p8) ∧ w'.cell? ⟨W.heap.size, 11, none⟩ = some (.int .i64 c0) ∧ w'.cell? ⟨W.heap.size, 12, none⟩ = some (.int .i64 c1) ∧ w'.cell? ⟨W.heap.size, 13, none⟩ = some (.int .i64 c2)) ((refine ⟨?_, ?_, ?_, ?_, ?_, ?_, ?_, ?_, ?_, ?_, ?_, ?_⟩ <;> go_simp)) ((first | (go_at_call 16; refine (mminus_any _ _ _ _ _ _ _ (by omega)).mono ?_; rintro e w1 ⟨rfl, x, rfl⟩)))
    all_goals (go_wp2_with fail; go_meet)
    all_goals
      refine cut9 (show Kept _ _ by (repeat (first | exact Kept.refl _ | assumption | refine Kept.alloc ?_ _ | refine Kept.ext ?_ _ | refine Kept.drew ?_ | refine Kept.drewN ?_ _))) ⟨?_, ?_⟩ ?_ ?_ ?_ ?_ ?_ ?_ ?_ ?_ ?_
      all_goals first | (go_simp; done) | (simp [adv]; done) | (simp [adv]; omega)
  case rest =>
  obtain ⟨z, i, rfl, rfl, li, f0, f1, f2, f3, f4, f5, f6, f7, f8⟩ := hcut
  have Li : Lower i z.obs.size := ⟨li⟩
  clear li
  obtain ⟨a0, ha0⟩ : ∃ a, p0 - c0 = a := ⟨_, rfl⟩
  rw [ha0] at f0
  obtain ⟨a1, ha1⟩ : ∃ a, p1 - c1 = a := ⟨_, rfl⟩
  rw [ha1] at f1
  obtain ⟨a2, ha2⟩ : ∃ a, p2 - c2 = a := ⟨_, rfl⟩
  rw [ha2] at f2
  obtain ⟨a3, ha3⟩ : ∃ a, p3 - c0 = a := ⟨_, rfl⟩
  rw [ha3] at f3
  obtain ⟨a4, ha4⟩ : ∃ a, p4 - c1 = a := ⟨_, rfl⟩
  rw [ha4] at f4
  obtain ⟨a5, ha5⟩ : ∃ a, p5 - c2 = a := ⟨_, rfl⟩
  rw [ha5] at f5
  obtain ⟨a6, ha6⟩ : ∃ a, p6 - c0 = a := ⟨_, rfl⟩
  rw [ha6] at f6
  obtain ⟨a7, ha7⟩ : ∃ a, p7 - c1 = a := ⟨_, rfl⟩
  rw [ha7] at f7
  obtain ⟨a8, ha8⟩ : ∃ a, p8 - c2 = a := ⟨_, rfl⟩
  rw [ha8] at f8
  have w0 : -128 ≤ a0 ∧ a0 ≤ 128 := by omega
  have w1 : -128 ≤ a1 ∧ a1 ≤ 128 := by omega
  have w2 : -128 ≤ a2 ∧ a2 ≤ 128 := by omega
  have w3 : -128 ≤ a3 ∧ a3 ≤ 128 := by omega
  have w4 : -128 ≤ a4 ∧ a4 ≤ 128 := by omega
  have w5 : -128 ≤ a5 ∧ a5 ≤ 128 := by omega
  have w6 : -128 ≤ a6 ∧ a6 ≤ 128 := by omega
  have w7 : -128 ≤ a7 ∧ a7 ≤ 128 := by omega
  have w8 : -128 ≤ a8 ∧ a8 ≤ 128 := by omega
  have HA := Lib.hid (show a0 = p0 - c0 ∧ a1 = p1 - c1 ∧ a2 = p2 - c2 ∧ a3 = p3 - c0 ∧ a4 = p4 - c1 ∧ a5 = p5 - c2 ∧ a6 = p6 - c0 ∧ a7 = p7 - c1 ∧ a8 = p8 - c2 from ⟨ha0.symm, ha1.symm, ha2.symm, ha3.symm, ha4.symm, ha5.symm, ha6.symm, ha7.symm, ha8.symm⟩)
  clear ha0 ha1 ha2 ha3 ha4 ha5 ha6 ha7 ha8
  obtain ⟨s0, hs0⟩ : ∃ s, a0 + a3 + a6 = s := ⟨_, rfl⟩
  have v0 : -384 ≤ s0 ∧ s0 ≤ 384 := by omega
  obtain ⟨s1, hs1⟩ : ∃ s, a1 + a4 + a7 = s := ⟨_, rfl⟩
  have v1 : -384 ≤ s1 ∧ s1 ≤ 384 := by omega
  obtain ⟨s2, hs2⟩ : ∃ s, a2 + a5 + a8 = s := ⟨_, rfl⟩
  have v2 : -384 ≤ s2 ∧ s2 ≤ 384 := by omega
  go_wp2_with fail
  have HS := Lib.hid (show a0 + a3 + a6 = s0 ∧ a1 + a4 + a7 = s1 ∧ a2 + a5 + a8 = s2 from ⟨hs0, hs1, hs2⟩)
  clear hs0 hs1 hs2
  have t0 := mul_bd 38400 (show -100 ≤ -q ∧ -q ≤ 100 by omega) (show -384 ≤ s0 ∧ s0 ≤ 384 by omega) rfl
  have t1 := mul_bd 38400 (show -100 ≤ -q ∧ -q ≤ 100 by omega) (show -384 ≤ s1 ∧ s1 ≤ 384 by omega) rfl
  have t2 := mul_bd 38400 (show -100 ≤ -q ∧ -q ≤ 100 by omega) (show -384 ≤ s2 ∧ s2 ≤ 384 by omega) rfl
  have g0 := mul_bd 147456 (show -384 ≤ s0 ∧ s0 ≤ 384 by omega) (show -384 ≤ s0 ∧ s0 ≤ 384 by omega) rfl
  have h00 := mul_bd 16384 (show -128 ≤ a0 ∧ a0 ≤ 128 by omega) (show -128 ≤ a0 ∧ a0 ≤ 128 by omega) rfl
  have h01 := mul_bd 16384 (show -128 ≤ a3 ∧ a3 ≤ 128 by omega) (show -128 ≤ a3 ∧ a3 ≤ 128 by omega) rfl
  have h02 := mul_bd 16384 (show -128 ≤ a6 ∧ a6 ≤ 128 by omega) (show -128 ≤ a6 ∧ a6 ≤ 128 by omega) rfl
  have q0 := mul_bd 19660800 (show -100 ≤ q ∧ q ≤ 100 by omega) (show -196608 ≤ s0 * s0 + a0 * a0 + a3 * a3 + a6 * a6 ∧ s0 * s0 + a0 * a0 + a3 * a3 + a6 * a6 ≤ 196608 by omega) rfl
  have g1 := mul_bd 147456 (show -384 ≤ s0 ∧ s0 ≤ 384 by omega) (show -384 ≤ s1 ∧ s1 ≤ 384 by omega) rfl
  have h10 := mul_bd 16384 (show -128 ≤ a0 ∧ a0 ≤ 128 by omega) (show -128 ≤ a1 ∧ a1 ≤ 128 by omega) rfl
  have h11 := mul_bd 16384 (show -128 ≤ a3 ∧ a3 ≤ 128 by omega) (show -128 ≤ a4 ∧ a4 ≤ 128 by omega) rfl
  have h12 := mul_bd 16384 (show -128 ≤ a6 ∧ a6 ≤ 128 by omega) (show -128 ≤ a7 ∧ a7 ≤ 128 by omega) rfl
  have q1 := mul_bd 19660800 (show -100 ≤ q ∧ q ≤ 100 by omega) (show -196608 ≤ s0 * s1 + a0 * a1 + a3 * a4 + a6 * a7 ∧ s0 * s1 + a0 * a1 + a3 * a4 + a6 * a7 ≤ 196608 by omega) rfl
  have g2 := mul_bd 147456 (show -384 ≤ s0 ∧ s0 ≤ 384 by omega) (show -384 ≤ s2 ∧ s2 ≤ 384 by omega) rfl
  have h20 := mul_bd 16384 (show -128 ≤ a0 ∧ a0 ≤ 128 by omega) (show -128 ≤ a2 ∧ a2 ≤ 128 by omega) rfl
  have h21 := mul_bd 16384 (show -128 ≤ a3 ∧ a3 ≤ 128 by omega) (show -128 ≤ a5 ∧ a5 ≤ 128 by omega) rfl
  have h22 := mul_bd 16384 (show -128 ≤ a6 ∧ a6 ≤ 128 by omega) (show -128 ≤ a8 ∧ a8 ≤ 128 by omega) rfl
  have q2 := mul_bd 19660800 (show -100 ≤ q ∧ q ≤ 100 by omega) (show -196608 ≤ s0 * s2 + a0 * a2 + a3 * a5 + a6 * a8 ∧ s0 * s2 + a0 * a2 + a3 * a5 + a6 * a8 ≤ 196608 by omega) rfl
  have g3 := mul_bd 147456 (show -384 ≤ s1 ∧ s1 ≤ 384 by omega) (show -384 ≤ s1 ∧ s1 ≤ 384 by omega) rfl
  have h30 := mul_bd 16384 (show -128 ≤ a1 ∧ a1 ≤ 128 by omega) (show -128 ≤ a1 ∧ a1 ≤ 128 by omega) rfl
  have h31 := mul_bd 16384 (show -128 ≤ a4 ∧ a4 ≤ 128 by omega) (show -128 ≤ a4 ∧ a4 ≤ 128 by omega) rfl
  have h32 := mul_bd 16384 (show -128 ≤ a7 ∧ a7 ≤ 128 by omega) (show -128 ≤ a7 ∧ a7 ≤ 128 by omega) rfl
  have q3 := mul_bd 19660800 (show -100 ≤ q ∧ q ≤ 100 by omega) (show -196608 ≤ s1 * s1 + a1 * a1 + a4 * a4 + a7 * a7 ∧ s1 * s1 + a1 * a1 + a4 * a4 + a7 * a7 ≤ 196608 by omega) rfl
  have g4 := mul_bd 147456 (show -384 ≤ s1 ∧ s1 ≤ 384 by omega) (show -384 ≤ s2 ∧ s2 ≤ 384 by omega) rfl
  have h40 := mul_bd 16384 (show -128 ≤ a1 ∧ a1 ≤ 128 by omega) (show -128 ≤ a2 ∧ a2 ≤ 128 by omega) rfl
  have h41 := mul_bd 16384 (show -128 ≤ a4 ∧ a4 ≤ 128 by omega) (show -128 ≤ a5 ∧ a5 ≤ 128 by omega) rfl
  have h42 := mul_bd 16384 (show -128 ≤ a7 ∧ a7 ≤ 128 by omega) (show -128 ≤ a8 ∧ a8 ≤ 128 by omega) rfl
  have q4 := mul_bd 19660800 (show -100 ≤ q ∧ q ≤ 100 by omega) (show -196608 ≤ s1 * s2 + a1 * a2 + a4 * a5 + a7 * a8 ∧ s1 * s2 + a1 * a2 + a4 * a5 + a7 * a8 ≤ 196608 by omega) rfl
  have g5 := mul_bd 147456 (show -384 ≤ s2 ∧ s2 ≤ 384 by omega) (show -384 ≤ s2 ∧ s2 ≤ 384 by omega) rfl
  have h50 := mul_bd 16384 (show -128 ≤ a2 ∧ a2 ≤ 128 by omega) (show -128 ≤ a2 ∧ a2 ≤ 128 by omega) rfl
  have h51 := mul_bd 16384 (show -128 ≤ a5 ∧ a5 ≤ 128 by omega) (show -128 ≤ a5 ∧ a5 ≤ 128 by omega) rfl
  have h52 := mul_bd 16384 (show -128 ≤ a8 ∧ a8 ≤ 128 by omega) (show -128 ≤ a8 ∧ a8 ≤ 128 by omega) rfl
  have q5 := mul_bd 19660800 (show -100 ≤ q ∧ q ≤ 100 by omega) (show -196608 ≤ s2 * s2 + a2 * a2 + a5 * a5 + a8 * a8 ∧ s2 * s2 + a2 * a2 + a5 * a5 + a8 * a8 ≤ 196608 by omega) rfl
  ((first | (with_reducible refine wp_region_tail2 11 (by kernel_rfl) (by kernel_rfl) ?_) | refine wp_region_tail 11 (by kernel_rfl) (by kernel_rfl) ?_); simp only [List.take_succ_cons, List.take_zero, List.drop_succ_cons, List.drop_zero]; (repeat (go_big_quiet_step (first | fail))); refine wpQuiet_nil ?_; intro x)
  go_wp2_with fail
  ((first | (with_reducible refine wp_region_tail2 15 (by kernel_rfl) (by kernel_rfl) ?_) | refine wp_region_tail 15 (by kernel_rfl) (by kernel_rfl) ?_); simp only [List.take_succ_cons, List.take_zero, List.drop_succ_cons, List.drop_zero]; (repeat (go_big_quiet_step (first | fail))); refine wpQuiet_nil ?_; intro x)
  go_wp2_with fail
  ((first | (with_reducible refine wp_region_tail2 29 (by kernel_rfl) (by kernel_rfl) ?_) | refine wp_region_tail 29 (by kernel_rfl) (by kernel_rfl) ?_); simp only [List.take_succ_cons, List.take_zero, List.drop_succ_cons, List.drop_zero]; (repeat (go_big_quiet_step (first | (go_at_call 16; exact Calls.kept_of (mminus_any _ _ _ _ _ _ _ (by omega)))))); refine wpQuiet_nil ?_; intro x)
  go_wp2_with (first | (go_at_call 31; refine (pairs_any _).mono ?_; rintro e w1 ⟨rfl, x, rfl⟩))
  refine wp_loop_rounds 7 ?_
  refine rounds_kept ((ext ((ext (W.alloc (.cells #[.int .i64 (m0 + q), .int .i64 (m1 + max q (-q)), .int .i64 (m2 - -q * s0), .int .i64 (m3 - -q * s1), .int .i64 (m4 - -q * s2), .int .i64 m5, .int .i64 m6, .int .i64 m7, .int .i64 m8, .int .i64 m9, .int .i64 m10, .int .i64 c0, .int .i64 c1, .int .i64 c2] 56)) y).alloc (.cells #[.int .i64 p0, .int .i64 p1, .int .i64 p2, .int .i64 p3, .int .i64 p4, .int .i64 p5, .int .i64 p6, .int .i64 p7, .int .i64 p8, .int .i64 q] 51)) z).alloc (.cells #[.int .i64 s0, .int .i64 s1, .int .i64 s2] 24)) (by (repeat (first | exact Kept.refl _ | assumption | refine Kept.alloc ?_ _ | refine Kept.ext ?_ _ | refine Kept.drew ?_ | refine Kept.drewN ?_ _))) (fun z0 => ?_)
  rw [rounds_succ]
  go_wp2_with fail
  ((first | (with_reducible refine wp_region_kept2 (by kernel_rfl) (by kernel_rfl) ?_) | refine wp_region_kept (by kernel_rfl) (by kernel_rfl) ?_); (repeat (go_big_quiet_step (first | (go_at_call 30; exact Calls.kept_of (coord_any _ _ _ _))))); refine wpQuiet_nil ?_; intro x)
  go_wp2_with fail
  refine wp_loop_rounds 4 ?_
  rw [rounds_succ]
  go_wp2_with fail
  ((first | (with_reducible refine wp_region_kept2 (by kernel_rfl) (by kernel_rfl) ?_) | refine wp_region_kept (by kernel_rfl) (by kernel_rfl) ?_); (repeat (go_big_quiet_step (first | (go_at_call 30; exact Calls.kept_of (coord_any _ _ _ _))))); refine wpQuiet_nil ?_; intro x)
  go_wp2_with fail
  rw [rounds_succ]
  go_wp2_with fail
  ((first | (with_reducible refine wp_region_kept2 (by kernel_rfl) (by kernel_rfl) ?_) | refine wp_region_kept (by kernel_rfl) (by kernel_rfl) ?_); (repeat (go_big_quiet_step (first | (go_at_call 30; exact Calls.kept_of (coord_any _ _ _ _))))); refine wpQuiet_nil ?_; intro x)
  go_wp2_with fail
  rw [rounds_succ]
  go_wp2_with fail
  ((first | (with_reducible refine wp_region_kept2 (by kernel_rfl) (by kernel_rfl) ?_) | refine wp_region_kept (by kernel_rfl) (by kernel_rfl) ?_); (repeat (go_big_quiet_step (first | (go_at_call 30; exact Calls.kept_of (coord_any _ _ _ _))))); refine wpQuiet_nil ?_; intro x)
  go_wp2_with fail
  rw [rounds_succ]
  go_wp2_with fail
  ((first | (with_reducible refine wp_region_tail2 16 (by kernel_rfl) (by kernel_rfl) ?_) | refine wp_region_tail 16 (by kernel_rfl) (by kernel_rfl) ?_); simp only [List.take_succ_cons, List.take_zero, List.drop_succ_cons, List.drop_zero]; (repeat (go_big_quiet_step (first | fail))); refine wpQuiet_nil ?_; intro x)
  go_wp2_with fail
  refine rounds_kept ((ext ((ext (W.alloc (.cells #[.int .i64 (m0 + q), .int .i64 (m1 + max q (-q)), .int .i64 (m2 - -q * s0), .int .i64 (m3 - -q * s1), .int .i64 (m4 - -q * s2), .int .i64 (m5 + q * (s0 * s0 + a0 * a0 + a3 * a3 + a6 * a6)), .int .i64 m6, .int .i64 m7, .int .i64 m8, .int .i64 m9, .int .i64 m10, .int .i64 c0, .int .i64 c1, .int .i64 c2] 56)) y).alloc (.cells #[.int .i64 p0, .int .i64 p1, .int .i64 p2, .int .i64 p3, .int .i64 p4, .int .i64 p5, .int .i64 p6, .int .i64 p7, .int .i64 p8, .int .i64 q] 51)) z).alloc (.cells #[.int .i64 s0, .int .i64 s1, .int .i64 s2] 24)) (by (repeat (first | exact Kept.refl _ | assumption | refine Kept.alloc ?_ _ | refine Kept.ext ?_ _ | refine Kept.drew ?_ | refine Kept.drewN ?_ _))) (fun z1 => ?_)
  rw [rounds_succ]
  go_wp2_with fail
  ((first | (with_reducible refine wp_region_kept2 (by kernel_rfl) (by kernel_rfl) ?_) | refine wp_region_kept (by kernel_rfl) (by kernel_rfl) ?_); (repeat (go_big_quiet_step (first | (go_at_call 30; exact Calls.kept_of (coord_any _ _ _ _))))); refine wpQuiet_nil ?_; intro x)
  go_wp2_with fail
  refine wp_loop_rounds 4 ?_
  rw [rounds_succ]
  go_wp2_with fail
  ((first | (with_reducible refine wp_region_kept2 (by kernel_rfl) (by kernel_rfl) ?_) | refine wp_region_kept (by kernel_rfl) (by kernel_rfl) ?_); (repeat (go_big_quiet_step (first | (go_at_call 30; exact Calls.kept_of (coord_any _ _ _ _))))); refine wpQuiet_nil ?_; intro x)
  go_wp2_with fail
  rw [rounds_succ]
  go_wp2_with fail
  ((first | (with_reducible refine wp_region_kept2 (by kernel_rfl) (by kernel_rfl) ?_) | refine wp_region_kept (by kernel_rfl) (by kernel_rfl) ?_); (repeat (go_big_quiet_step (first | (go_at_call 30; exact Calls.kept_of (coord_any _ _ _ _))))); refine wpQuiet_nil ?_; intro x)
  go_wp2_with fail
  rw [rounds_succ]
  go_wp2_with fail
  ((first | (with_reducible refine wp_region_kept2 (by kernel_rfl) (by kernel_rfl) ?_) | refine wp_region_kept (by kernel_rfl) (by kernel_rfl) ?_); (repeat (go_big_quiet_step (first | (go_at_call 30; exact Calls.kept_of (coord_any _ _ _ _))))); refine wpQuiet_nil ?_; intro x)
  go_wp2_with fail
  rw [rounds_succ]
  go_wp2_with fail
  ((first | (with_reducible refine wp_region_tail2 16 (by kernel_rfl) (by kernel_rfl) ?_) | refine wp_region_tail 16 (by kernel_rfl) (by kernel_rfl) ?_); simp only [List.take_succ_cons, List.take_zero, List.drop_succ_cons, List.drop_zero]; (repeat (go_big_quiet_step (first | fail))); refine wpQuiet_nil ?_; intro x)
  go_wp2_with fail
  refine rounds_kept ((ext ((ext (W.alloc (.cells #[.int .i64 (m0 + q), .int .i64 (m1 + max q (-q)), .int .i64 (m2 - -q * s0), .int .i64 (m3 - -q * s1), .int .i64 (m4 - -q * s2), .int .i64 (m5 + q * (s0 * s0 + a0 * a0 + a3 * a3 + a6 * a6)), .int .i64 (m6 + q * (s0 * s1 + a0 * a1 + a3 * a4 + a6 * a7)), .int .i64 m7, .int .i64 m8, .int .i64 m9, .int .i64 m10, .int .i64 c0, .int .i64 c1, .int .i64 c2] 56)) y).alloc (.cells #[.int .i64 p0, .int .i64 p1, .int .i64 p2, .int .i64 p3, .int .i64 p4, .int .i64 p5, .int .i64 p6, .int .i64 p7, .int .i64 p8, .int .i64 q] 51)) z).alloc (.cells #[.int .i64 s0, .int .i64 s1, .int .i64 s2] 24)) (by (repeat (first | exact Kept.refl _ | assumption | refine Kept.alloc ?_ _ | refine Kept.ext ?_ _ | refine Kept.drew ?_ | refine Kept.drewN ?_ _))) (fun z2 => ?_)
  rw [rounds_succ]
  go_wp2_with fail
  ((first | (with_reducible refine wp_region_kept2 (by kernel_rfl) (by kernel_rfl) ?_) | refine wp_region_kept (by kernel_rfl) (by kernel_rfl) ?_); (repeat (go_big_quiet_step (first | (go_at_call 30; exact Calls.kept_of (coord_any _ _ _ _))))); refine wpQuiet_nil ?_; intro x)
  go_wp2_with fail
  refine wp_loop_rounds 4 ?_
  rw [rounds_succ]
  go_wp2_with fail
  ((first | (with_reducible refine wp_region_kept2 (by kernel_rfl) (by kernel_rfl) ?_) | refine wp_region_kept (by kernel_rfl) (by kernel_rfl) ?_); (repeat (go_big_quiet_step (first | (go_at_call 30; exact Calls.kept_of (coord_any _ _ _ _))))); refine wpQuiet_nil ?_; intro x)
  go_wp2_with fail
  rw [rounds_succ]
  go_wp2_with fail
  ((first | (with_reducible refine wp_region_kept2 (by kernel_rfl) (by kernel_rfl) ?_) | refine wp_region_kept (by kernel_rfl) (by kernel_rfl) ?_); (repeat (go_big_quiet_step (first | (go_at_call 30; exact Calls.kept_of (coord_any _ _ _ _))))); refine wpQuiet_nil ?_; intro x)
  go_wp2_with fail
  rw [rounds_succ]
  go_wp2_with fail
  ((first | (with_reducible refine wp_region_kept2 (by kernel_rfl) (by kernel_rfl) ?_) | refine wp_region_kept (by kernel_rfl) (by kernel_rfl) ?_); (repeat (go_big_quiet_step (first | (go_at_call 30; exact Calls.kept_of (coord_any _ _ _ _))))); refine wpQuiet_nil ?_; intro x)
  go_wp2_with fail
  rw [rounds_succ]
  go_wp2_with fail
  ((first | (with_reducible refine wp_region_tail2 16 (by kernel_rfl) (by kernel_rfl) ?_) | refine wp_region_tail 16 (by kernel_rfl) (by kernel_rfl) ?_); simp only [List.take_succ_cons, List.take_zero, List.drop_succ_cons, List.drop_zero]; (repeat (go_big_quiet_step (first | fail))); refine wpQuiet_nil ?_; intro x)
  go_wp2_with fail
  refine rounds_kept ((ext ((ext (W.alloc (.cells #[.int .i64 (m0 + q), .int .i64 (m1 + max q (-q)), .int .i64 (m2 - -q * s0), .int .i64 (m3 - -q * s1), .int .i64 (m4 - -q * s2), .int .i64 (m5 + q * (s0 * s0 + a0 * a0 + a3 * a3 + a6 * a6)), .int .i64 (m6 + q * (s0 * s1 + a0 * a1 + a3 * a4 + a6 * a7)), .int .i64 (m7 + q * (s0 * s2 + a0 * a2 + a3 * a5 + a6 * a8)), .int .i64 m8, .int .i64 m9, .int .i64 m10, .int .i64 c0, .int .i64 c1, .int .i64 c2] 56)) y).alloc (.cells #[.int .i64 p0, .int .i64 p1, .int .i64 p2, .int .i64 p3, .int .i64 p4, .int .i64 p5, .int .i64 p6, .int .i64 p7, .int .i64 p8, .int .i64 q] 51)) z).alloc (.cells #[.int .i64 s0, .int .i64 s1, .int .i64 s2] 24)) (by (repeat (first | exact Kept.refl _ | assumption | refine Kept.alloc ?_ _ | refine Kept.ext ?_ _ | refine Kept.drew ?_ | refine Kept.drewN ?_ _))) (fun z3 => ?_)
  rw [rounds_succ]
  go_wp2_with fail
  ((first | (with_reducible refine wp_region_kept2 (by kernel_rfl) (by kernel_rfl) ?_) | refine wp_region_kept (by kernel_rfl) (by kernel_rfl) ?_); (repeat (go_big_quiet_step (first | (go_at_call 30; exact Calls.kept_of (coord_any _ _ _ _))))); refine wpQuiet_nil ?_; intro x)
  go_wp2_with fail
  refine wp_loop_rounds 4 ?_
  rw [rounds_succ]
  go_wp2_with fail
  ((first | (with_reducible refine wp_region_kept2 (by kernel_rfl) (by kernel_rfl) ?_) | refine wp_region_kept (by kernel_rfl) (by kernel_rfl) ?_); (repeat (go_big_quiet_step (first | (go_at_call 30; exact Calls.kept_of (coord_any _ _ _ _))))); refine wpQuiet_nil ?_; intro x)
  go_wp2_with fail
  rw [rounds_succ]
  go_wp2_with fail
  ((first | (with_reducible refine wp_region_kept2 (by kernel_rfl) (by kernel_rfl) ?_) | refine wp_region_kept (by kernel_rfl) (by kernel_rfl) ?_); (repeat (go_big_quiet_step (first | (go_at_call 30; exact Calls.kept_of (coord_any _ _ _ _))))); refine wpQuiet_nil ?_; intro x)
  go_wp2_with fail
  rw [rounds_succ]
  go_wp2_with fail
  ((first | (with_reducible refine wp_region_kept2 (by kernel_rfl) (by kernel_rfl) ?_) | refine wp_region_kept (by kernel_rfl) (by kernel_rfl) ?_); (repeat (go_big_quiet_step (first | (go_at_call 30; exact Calls.kept_of (coord_any _ _ _ _))))); refine wpQuiet_nil ?_; intro x)
  go_wp2_with fail
  rw [rounds_succ]
  go_wp2_with fail
  ((first | (with_reducible refine wp_region_tail2 16 (by kernel_rfl) (by kernel_rfl) ?_) | refine wp_region_tail 16 (by kernel_rfl) (by kernel_rfl) ?_); simp only [List.take_succ_cons, List.take_zero, List.drop_succ_cons, List.drop_zero]; (repeat (go_big_quiet_step (first | fail))); refine wpQuiet_nil ?_; intro x)
  go_wp2_with fail
  refine rounds_kept ((ext ((ext (W.alloc (.cells #[.int .i64 (m0 + q), .int .i64 (m1 + max q (-q)), .int .i64 (m2 - -q * s0), .int .i64 (m3 - -q * s1), .int .i64 (m4 - -q * s2), .int .i64 (m5 + q * (s0 * s0 + a0 * a0 + a3 * a3 + a6 * a6)), .int .i64 (m6 + q * (s0 * s1 + a0 * a1 + a3 * a4 + a6 * a7)), .int .i64 (m7 + q * (s0 * s2 + a0 * a2 + a3 * a5 + a6 * a8)), .int .i64 (m8 + q * (s1 * s1 + a1 * a1 + a4 * a4 + a7 * a7)), .int .i64 m9, .int .i64 m10, .int .i64 c0, .int .i64 c1, .int .i64 c2] 56)) y).alloc (.cells #[.int .i64 p0, .int .i64 p1, .int .i64 p2, .int .i64 p3, .int .i64 p4, .int .i64 p5, .int .i64 p6, .int .i64 p7, .int .i64 p8, .int .i64 q] 51)) z).alloc (.cells #[.int .i64 s0, .int .i64 s1, .int .i64 s2] 24)) (by (repeat (first | exact Kept.refl _ | assumption | refine Kept.alloc ?_ _ | refine Kept.ext ?_ _ | refine Kept.drew ?_ | refine Kept.drewN ?_ _))) (fun z4 => ?_)
  rw [rounds_succ]
  go_wp2_with fail
  ((first | (with_reducible refine wp_region_kept2 (by kernel_rfl) (by kernel_rfl) ?_) | refine wp_region_kept (by kernel_rfl) (by kernel_rfl) ?_); (repeat (go_big_quiet_step (first | (go_at_call 30; exact Calls.kept_of (coord_any _ _ _ _))))); refine wpQuiet_nil ?_; intro x)
  go_wp2_with fail
  refine wp_loop_rounds 4 ?_
  rw [rounds_succ]
  go_wp2_with fail
  ((first | (with_reducible refine wp_region_kept2 (by kernel_rfl) (by kernel_rfl) ?_) | refine wp_region_kept (by kernel_rfl) (by kernel_rfl) ?_); (repeat (go_big_quiet_step (first | (go_at_call 30; exact Calls.kept_of (coord_any _ _ _ _))))); refine wpQuiet_nil ?_; intro x)
  go_wp2_with fail
  rw [rounds_succ]
  go_wp2_with fail
  ((first | (with_reducible refine wp_region_kept2 (by kernel_rfl) (by kernel_rfl) ?_) | refine wp_region_kept (by kernel_rfl) (by kernel_rfl) ?_); (repeat (go_big_quiet_step (first | (go_at_call 30; exact Calls.kept_of (coord_any _ _ _ _))))); refine wpQuiet_nil ?_; intro x)
  go_wp2_with fail
  rw [rounds_succ]
  go_wp2_with fail
  ((first | (with_reducible refine wp_region_kept2 (by kernel_rfl) (by kernel_rfl) ?_) | refine wp_region_kept (by kernel_rfl) (by kernel_rfl) ?_); (repeat (go_big_quiet_step (first | (go_at_call 30; exact Calls.kept_of (coord_any _ _ _ _))))); refine wpQuiet_nil ?_; intro x)
  go_wp2_with fail
  rw [rounds_succ]
  go_wp2_with fail
  ((first | (with_reducible refine wp_region_tail2 16 (by kernel_rfl) (by kernel_rfl) ?_) | refine wp_region_tail 16 (by kernel_rfl) (by kernel_rfl) ?_); simp only [List.take_succ_cons, List.take_zero, List.drop_succ_cons, List.drop_zero]; (repeat (go_big_quiet_step (first | fail))); refine wpQuiet_nil ?_; intro x)
  go_wp2_with fail
  refine rounds_kept ((ext ((ext (W.alloc (.cells #[.int .i64 (m0 + q), .int .i64 (m1 + max q (-q)), .int .i64 (m2 - -q * s0), .int .i64 (m3 - -q * s1), .int .i64 (m4 - -q * s2), .int .i64 (m5 + q * (s0 * s0 + a0 * a0 + a3 * a3 + a6 * a6)), .int .i64 (m6 + q * (s0 * s1 + a0 * a1 + a3 * a4 + a6 * a7)), .int .i64 (m7 + q * (s0 * s2 + a0 * a2 + a3 * a5 + a6 * a8)), .int .i64 (m8 + q * (s1 * s1 + a1 * a1 + a4 * a4 + a7 * a7)), .int .i64 (m9 + q * (s1 * s2 + a1 * a2 + a4 * a5 + a7 * a8)), .int .i64 m10, .int .i64 c0, .int .i64 c1, .int .i64 c2] 56)) y).alloc (.cells #[.int .i64 p0, .int .i64 p1, .int .i64 p2, .int .i64 p3, .int .i64 p4, .int .i64 p5, .int .i64 p6, .int .i64 p7, .int .i64 p8, .int .i64 q] 51)) z).alloc (.cells #[.int .i64 s0, .int .i64 s1, .int .i64 s2] 24)) (by (repeat (first | exact Kept.refl _ | assumption | refine Kept.alloc ?_ _ | refine Kept.ext ?_ _ | refine Kept.drew ?_ | refine Kept.drewN ?_ _))) (fun z5 => ?_)
  rw [rounds_succ]
  go_wp2_with fail
  ((first | (with_reducible refine wp_region_kept2 (by kernel_rfl) (by kernel_rfl) ?_) | refine wp_region_kept (by kernel_rfl) (by kernel_rfl) ?_); (repeat (go_big_quiet_step (first | (go_at_call 30; exact Calls.kept_of (coord_any _ _ _ _))))); refine wpQuiet_nil ?_; intro x)
  go_wp2_with fail
  refine wp_loop_rounds 4 ?_
  rw [rounds_succ]
  go_wp2_with fail
  ((first | (with_reducible refine wp_region_kept2 (by kernel_rfl) (by kernel_rfl) ?_) | refine wp_region_kept (by kernel_rfl) (by kernel_rfl) ?_); (repeat (go_big_quiet_step (first | (go_at_call 30; exact Calls.kept_of (coord_any _ _ _ _))))); refine wpQuiet_nil ?_; intro x)
  go_wp2_with fail
  rw [rounds_succ]
  go_wp2_with fail
  ((first | (with_reducible refine wp_region_kept2 (by kernel_rfl) (by kernel_rfl) ?_) | refine wp_region_kept (by kernel_rfl) (by kernel_rfl) ?_); (repeat (go_big_quiet_step (first | (go_at_call 30; exact Calls.kept_of (coord_any _ _ _ _))))); refine wpQuiet_nil ?_; intro x)
  go_wp2_with fail
  rw [rounds_succ]
  go_wp2_with fail
  ((first | (with_reducible refine wp_region_kept2 (by kernel_rfl) (by kernel_rfl) ?_) | refine wp_region_kept (by kernel_rfl) (by kernel_rfl) ?_); (repeat (go_big_quiet_step (first | (go_at_call 30; exact Calls.kept_of (coord_any _ _ _ _))))); refine wpQuiet_nil ?_; intro x)
  go_wp2_with fail
  rw [rounds_succ]
  go_wp2_with fail
  ((first | (with_reducible refine wp_region_tail2 16 (by kernel_rfl) (by kernel_rfl) ?_) | refine wp_region_tail 16 (by kernel_rfl) (by kernel_rfl) ?_); simp only [List.take_succ_cons, List.take_zero, List.drop_succ_cons, List.drop_zero]; (repeat (go_big_quiet_step (first | fail))); refine wpQuiet_nil ?_; intro x)
  go_wp2_with fail
  refine rounds_kept ((ext ((ext (W.alloc (.cells #[.int .i64 (m0 + q), .int .i64 (m1 + max q (-q)), .int .i64 (m2 - -q * s0), .int .i64 (m3 - -q * s1), .int .i64 (m4 - -q * s2), .int .i64 (m5 + q * (s0 * s0 + a0 * a0 + a3 * a3 + a6 * a6)), .int .i64 (m6 + q * (s0 * s1 + a0 * a1 + a3 * a4 + a6 * a7)), .int .i64 (m7 + q * (s0 * s2 + a0 * a2 + a3 * a5 + a6 * a8)), .int .i64 (m8 + q * (s1 * s1 + a1 * a1 + a4 * a4 + a7 * a7)), .int .i64 (m9 + q * (s1 * s2 + a1 * a2 + a4 * a5 + a7 * a8)), .int .i64 (m10 + q * (s2 * s2 + a2 * a2 + a5 * a5 + a8 * a8)), .int .i64 c0, .int .i64 c1, .int .i64 c2] 56)) y).alloc (.cells #[.int .i64 p0, .int .i64 p1, .int .i64 p2, .int .i64 p3, .int .i64 p4, .int .i64 p5, .int .i64 p6, .int .i64 p7, .int .i64 p8, .int .i64 q] 51)) z).alloc (.cells #[.int .i64 s0, .int .i64 s1, .int .i64 s2] 24)) (by (repeat (first | exact Kept.refl _ | assumption | refine Kept.alloc ?_ _ | refine Kept.ext ?_ _ | refine Kept.drew ?_ | refine Kept.drewN ?_ _))) (fun z6 => ?_)
  rw [rounds_succ]
  go_wp2_with fail
  go_end0
  obtain ⟨rfl, rfl, rfl⟩ := HS.out
  refine ⟨rfl, a0, a1, a2, a3, a4, a5, a6, a7, a8, HA.out, ?_⟩
  (repeat (first | exact Kept.refl _ | assumption | refine Kept.alloc ?_ _ | refine Kept.ext ?_ _ | refine Kept.drew ?_ | refine Kept.drewN ?_ _))
end Go.Proofs.Ytodmdicegkjicaa

namespace Go.Proofs.Ytodmdicegkjicaa
set_option linter.unusedVariables false
set_option linter.unusedSimpArgs false
open Go.RowKit
theorem calls_kept {P : Program} {f : FuncId} {args : Array Value} {w : World} {Q : Ending → World → Prop} (B : World) (h : Kept B w) (H : ∀ z, Calls P f args (ext B z) Q) : Calls P f args w Q := by
  obtain ⟨z, rfl⟩ := h
  exact H z
/-- The moments of the first k panels. -/
def momF (f : Nat → Nat → Int) (c0 c1 c2 : Int) : Nat → Mo
  | 0 => moZ
  | k + 1 => addA (momF f c0 c1 c2 k) (f k 9) (f k 0 - c0) (f k 1 - c1) (f k 2 - c2) (f k 3 - c0) (f k 4 - c1) (f k 5 - c2) (f k 6 - c0) (f k 7 - c1) (f k 8 - c2)
def ofM (n : Nat) (f : Nat → Nat → Int) (c0 c1 c2 : Int) : MR := if givE n f c0 c1 c2 = 0 then ⟨momF f c0 c1 c2 n, 0⟩ else ⟨moZ, givE n f c0 c1 c2⟩
theorem chE_bd {g : Nat → Int} (h : chE g = 0) : (-64 ≤ g 0 ∧ g 0 ≤ 64) ∧ (-64 ≤ g 1 ∧ g 1 ≤ 64) ∧ (-64 ≤ g 2 ∧ g 2 ≤ 64) ∧ (-64 ≤ g 3 ∧ g 3 ≤ 64) ∧ (-64 ≤ g 4 ∧ g 4 ≤ 64) ∧ (-64 ≤ g 5 ∧ g 5 ≤ 64) ∧ (-64 ≤ g 6 ∧ g 6 ≤ 64) ∧ (-64 ≤ g 7 ∧ g 7 ≤ 64) ∧ (-64 ≤ g 8 ∧ g 8 ≤ 64) ∧ (-100 ≤ g 9 ∧ g 9 ≤ 100) := by
  unfold chE at h
  split at h
  · rename_i v
    split at h
    · rename_i q
      have q' := frB_true q
      unfold vpanS at v
      split at v
      · rename_i b
        simp only [Bool.and_eq_true] at b
        have b1 := inB_true b.1.1
        have b2 := inB_true b.1.2
        have b3 := inB_true b.2
        omega
      · cases v
    · cases h
  · rename_i v; exact absurd h v
/-- How large moments are. -/
def MoB (m : Mo) (k : Int) : Prop := (-m.t ≤ m.q ∧ m.q ≤ m.t) ∧ (0 ≤ m.t ∧ m.t ≤ 100 * k) ∧ (-(38400 * k) ≤ m.x ∧ m.x ≤ 38400 * k) ∧ (-(38400 * k) ≤ m.y ∧ m.y ≤ 38400 * k) ∧ (-(38400 * k) ≤ m.z ∧ m.z ≤ 38400 * k) ∧ (-(19660800 * k) ≤ m.a ∧ m.a ≤ 19660800 * k) ∧ (-(19660800 * k) ≤ m.b ∧ m.b ≤ 19660800 * k) ∧ (-(19660800 * k) ≤ m.c ∧ m.c ≤ 19660800 * k) ∧ (-(19660800 * k) ≤ m.d ∧ m.d ≤ 19660800 * k) ∧ (-(19660800 * k) ≤ m.e ∧ m.e ≤ 19660800 * k) ∧ (-(19660800 * k) ≤ m.f ∧ m.f ≤ 19660800 * k)
theorem addA_bd {m : Mo} {k q a0 a1 a2 a3 a4 a5 a6 a7 a8 : Int} (h : MoB m k) (hq : -100 ≤ q ∧ q ≤ 100) (ha : (-128 ≤ a0 ∧ a0 ≤ 128) ∧ (-128 ≤ a1 ∧ a1 ≤ 128) ∧ (-128 ≤ a2 ∧ a2 ≤ 128) ∧ (-128 ≤ a3 ∧ a3 ≤ 128) ∧ (-128 ≤ a4 ∧ a4 ≤ 128) ∧ (-128 ≤ a5 ∧ a5 ≤ 128) ∧ (-128 ≤ a6 ∧ a6 ≤ 128) ∧ (-128 ≤ a7 ∧ a7 ≤ 128) ∧ (-128 ≤ a8 ∧ a8 ≤ 128)) : MoB (addA m q a0 a1 a2 a3 a4 a5 a6 a7 a8) (k + 1) := by
  obtain ⟨b0, b1, b2, b3, b4, b5, b6, b7, b8⟩ := ha
  obtain ⟨h0, h1, h2, h3, h4, h5, h6, h7, h8, h9, h10⟩ := h
  have t0 := mul_bd (a := -q) (b := (a0 + a3 + a6)) (A := 100) (B := 384) 38400 (by omega) (by omega) rfl
  have t1 := mul_bd (a := -q) (b := (a1 + a4 + a7)) (A := 100) (B := 384) 38400 (by omega) (by omega) rfl
  have t2 := mul_bd (a := -q) (b := (a2 + a5 + a8)) (A := 100) (B := 384) 38400 (by omega) (by omega) rfl
  have g0 := mul_bd (a := (a0 + a3 + a6)) (b := (a0 + a3 + a6)) (A := 384) (B := 384) 147456 (by omega) (by omega) rfl
  have h00 := mul_bd (a := a0) (b := a0) (A := 128) (B := 128) 16384 (by omega) (by omega) rfl
  have h01 := mul_bd (a := a3) (b := a3) (A := 128) (B := 128) 16384 (by omega) (by omega) rfl
  have h02 := mul_bd (a := a6) (b := a6) (A := 128) (B := 128) 16384 (by omega) (by omega) rfl
  have q0 := mul_bd (a := q) (b := (a0 + a3 + a6) * (a0 + a3 + a6) + a0 * a0 + a3 * a3 + a6 * a6) (A := 100) (B := 196608) 19660800 (by omega) (by omega) rfl
  clear g0 h00 h01 h02
  have g1 := mul_bd (a := (a0 + a3 + a6)) (b := (a1 + a4 + a7)) (A := 384) (B := 384) 147456 (by omega) (by omega) rfl
  have h10 := mul_bd (a := a0) (b := a1) (A := 128) (B := 128) 16384 (by omega) (by omega) rfl
  have h11 := mul_bd (a := a3) (b := a4) (A := 128) (B := 128) 16384 (by omega) (by omega) rfl
  have h12 := mul_bd (a := a6) (b := a7) (A := 128) (B := 128) 16384 (by omega) (by omega) rfl
  have q1 := mul_bd (a := q) (b := (a0 + a3 + a6) * (a1 + a4 + a7) + a0 * a1 + a3 * a4 + a6 * a7) (A := 100) (B := 196608) 19660800 (by omega) (by omega) rfl
  clear g1 h10 h11 h12
  have g2 := mul_bd (a := (a0 + a3 + a6)) (b := (a2 + a5 + a8)) (A := 384) (B := 384) 147456 (by omega) (by omega) rfl
  have h20 := mul_bd (a := a0) (b := a2) (A := 128) (B := 128) 16384 (by omega) (by omega) rfl
  have h21 := mul_bd (a := a3) (b := a5) (A := 128) (B := 128) 16384 (by omega) (by omega) rfl
  have h22 := mul_bd (a := a6) (b := a8) (A := 128) (B := 128) 16384 (by omega) (by omega) rfl
  have q2 := mul_bd (a := q) (b := (a0 + a3 + a6) * (a2 + a5 + a8) + a0 * a2 + a3 * a5 + a6 * a8) (A := 100) (B := 196608) 19660800 (by omega) (by omega) rfl
  clear g2 h20 h21 h22
  have g3 := mul_bd (a := (a1 + a4 + a7)) (b := (a1 + a4 + a7)) (A := 384) (B := 384) 147456 (by omega) (by omega) rfl
  have h30 := mul_bd (a := a1) (b := a1) (A := 128) (B := 128) 16384 (by omega) (by omega) rfl
  have h31 := mul_bd (a := a4) (b := a4) (A := 128) (B := 128) 16384 (by omega) (by omega) rfl
  have h32 := mul_bd (a := a7) (b := a7) (A := 128) (B := 128) 16384 (by omega) (by omega) rfl
  have q3 := mul_bd (a := q) (b := (a1 + a4 + a7) * (a1 + a4 + a7) + a1 * a1 + a4 * a4 + a7 * a7) (A := 100) (B := 196608) 19660800 (by omega) (by omega) rfl
  clear g3 h30 h31 h32
  have g4 := mul_bd (a := (a1 + a4 + a7)) (b := (a2 + a5 + a8)) (A := 384) (B := 384) 147456 (by omega) (by omega) rfl
  have h40 := mul_bd (a := a1) (b := a2) (A := 128) (B := 128) 16384 (by omega) (by omega) rfl
  have h41 := mul_bd (a := a4) (b := a5) (A := 128) (B := 128) 16384 (by omega) (by omega) rfl
  have h42 := mul_bd (a := a7) (b := a8) (A := 128) (B := 128) 16384 (by omega) (by omega) rfl
  have q4 := mul_bd (a := q) (b := (a1 + a4 + a7) * (a2 + a5 + a8) + a1 * a2 + a4 * a5 + a7 * a8) (A := 100) (B := 196608) 19660800 (by omega) (by omega) rfl
  clear g4 h40 h41 h42
  have g5 := mul_bd (a := (a2 + a5 + a8)) (b := (a2 + a5 + a8)) (A := 384) (B := 384) 147456 (by omega) (by omega) rfl
  have h50 := mul_bd (a := a2) (b := a2) (A := 128) (B := 128) 16384 (by omega) (by omega) rfl
  have h51 := mul_bd (a := a5) (b := a5) (A := 128) (B := 128) 16384 (by omega) (by omega) rfl
  have h52 := mul_bd (a := a8) (b := a8) (A := 128) (B := 128) 16384 (by omega) (by omega) rfl
  have q5 := mul_bd (a := q) (b := (a2 + a5 + a8) * (a2 + a5 + a8) + a2 * a2 + a5 * a5 + a8 * a8) (A := 100) (B := 196608) 19660800 (by omega) (by omega) rfl
  clear g5 h50 h51 h52
  unfold MoB addA
  simp only
  refine ⟨?_, ?_, ?_, ?_, ?_, ?_, ?_, ?_, ?_, ?_, ?_⟩ <;> omega
theorem momF_bd {f : Nat → Nat → Int} {c0 c1 c2 : Int} {n k : Nat} (h : firstE f n = 0) (hc : inB c0 c1 c2 64 = true) (hk : k ≤ n) : MoB (momF f c0 c1 c2 k) k := by
  have b := inB_true hc
  induction k with
  | zero => unfold MoB momF moZ; simp
  | succ k ih =>
    have b2 := chE_bd (chE_at (show k < n by omega) h)
    have := addA_bd (ih (by omega)) (q := f k 9) (by omega) (a0 := f k 0 - c0) (a1 := f k 1 - c1) (a2 := f k 2 - c2) (a3 := f k 3 - c0) (a4 := f k 4 - c1) (a5 := f k 5 - c2) (a6 := f k 6 - c0) (a7 := f k 7 - c1) (a8 := f k 8 - c2) (by omega)
    rw [show ((k + 1 : Nat) : Int) = (k : Int) + 1 by omega]
    exact this
theorem givE_ok {n : Nat} {f : Nat → Nat → Int} {c0 c1 c2 : Int} (h : givE n f c0 c1 c2 = 0) : n ≤ 96 ∧ firstE f n = 0 ∧ inB c0 c1 c2 64 = true := by
  unfold givE at h
  split at h
  · rename_i v
    split at h
    · rename_i b
      unfold vchS at v
      split at v
      · cases v
      · exact ⟨by omega, v, b⟩
    · cases h
  · rename_i v; exact absurd h v
set_option maxRecDepth 100000 in
set_option maxHeartbeats 8000000 in
theorem mof_any (A : Option Addr) (n cap : Nat) (f : Nat → Nat → Int) (c0 c1 c2 : Int) (w : World) (hn : n ≤ 9223372036854775807) (hs : RowsAt w A n 10 f) :
    Calls Try.prog 6 #[.slice A n cap, .agg #[.int .i64 c0, .int .i64 c1, .int .i64 c2]] w fun r w' => r = .returned (.tuple #[.agg #[.int .i64 ((ofM n f c0 c1 c2).m).q, .int .i64 ((ofM n f c0 c1 c2).m).t, .int .i64 ((ofM n f c0 c1 c2).m).x, .int .i64 ((ofM n f c0 c1 c2).m).y, .int .i64 ((ofM n f c0 c1 c2).m).z, .int .i64 ((ofM n f c0 c1 c2).m).a, .int .i64 ((ofM n f c0 c1 c2).m).b, .int .i64 ((ofM n f c0 c1 c2).m).c, .int .i64 ((ofM n f c0 c1 c2).m).d, .int .i64 ((ofM n f c0 c1 c2).m).e, .int .i64 ((ofM n f c0 c1 c2).m).f], .int .i64 (ofM n f c0 c1 c2).e]) ∧ Kept w w' := by
  have HS := Lib.hid hs
  by_cases v0 : givE n f c0 c1 c2 = 0
  · have e : ofM n f c0 c1 c2 = ⟨momF f c0 c1 c2 n, 0⟩ := if_pos v0
    rw [e]
    clear e
    obtain ⟨n0, n1, n2⟩ := givE_ok v0
    have N1 := Lib.hid n1
    have N2 := Lib.hid n2
    have bc := inB_true n2
    have g1 : (givE n f c0 c1 c2 != 0) = false := by simpa using v0
    clear v0 n1 n2
    rcases Nat.eq_zero_or_pos n with rfl | h0
    · clear hs
      go_enter Try.func6, Try.ntmps6
      go_wp2_with fail
      refine (mcharged_any _ _ _ f _ _ _ _ (by omega) (HS.out.of (by (repeat (first | exact Kept.refl _ | assumption | refine Kept.alloc ?_ _ | refine Kept.ext ?_ _ | refine Kept.drew ?_ | refine Kept.drewN ?_ _))))).mono ?_
      rintro e w1 ⟨rfl, x0, rfl⟩
      go_wp2_with fail
      refine wp_loop_rounds 1 ?_
      rw [rounds_succ]
      go_wp2_with fail
      refine bodyPost_ret (by simp only [results, Try.results6]; go_simp; rfl) rfl ?_
      exact ⟨rfl, by (repeat (first | exact Kept.refl _ | assumption | refine Kept.alloc ?_ _ | refine Kept.ext ?_ _ | refine Kept.drew ?_ | refine Kept.drewN ?_ _))⟩
    · obtain ⟨b, off, rfl, hb, hcell⟩ := hs h0
      have HC := Lib.hid hcell
      clear hs hcell
      have LB : Lower b w.heap.size := ⟨hb⟩
      go_enter Try.func6, Try.ntmps6
      go_wp2_with fail
      refine (mcharged_any _ _ _ f _ _ _ _ (by omega) (HS.out.of (by (repeat (first | exact Kept.refl _ | assumption | refine Kept.alloc ?_ _ | refine Kept.ext ?_ _ | refine Kept.drew ?_ | refine Kept.drewN ?_ _))))).mono ?_
      rintro e w1 ⟨rfl, x0, rfl⟩
      go_wp2_with fail
      go_loopw [22] (fun i wr => ∃ k : Nat, k ≤ n ∧ i = .int .i64 k ∧ ∃ y, wr = ext (World.alloc (ext ((w.alloc (.cells #[.int .i64 c0, .int .i64 c1, .int .i64 c2] 24)).alloc (.cells #[.int .i64 0, .int .i64 0, .int .i64 0, .int .i64 0, .int .i64 0, .int .i64 0, .int .i64 0, .int .i64 0, .int .i64 0, .int .i64 0, .int .i64 0] 31)) x0) (.cells #[.int .i64 ((momF f c0 c1 c2 k).q), .int .i64 ((momF f c0 c1 c2 k).t), .int .i64 ((momF f c0 c1 c2 k).x), .int .i64 ((momF f c0 c1 c2 k).y), .int .i64 ((momF f c0 c1 c2 k).z), .int .i64 ((momF f c0 c1 c2 k).a), .int .i64 ((momF f c0 c1 c2 k).b), .int .i64 ((momF f c0 c1 c2 k).c), .int .i64 ((momF f c0 c1 c2 k).d), .int .i64 ((momF f c0 c1 c2 k).e), .int .i64 ((momF f c0 c1 c2 k).f), .int .i64 c0, .int .i64 c1, .int .i64 c2] 56)) y) (fun i _ => n - (intOf i).toNat)
      case atStart => exact ⟨0, by omega, rfl, show Kept _ _ by (repeat (first | exact Kept.refl _ | assumption | refine Kept.alloc ?_ _ | refine Kept.ext ?_ _ | refine Kept.drew ?_ | refine Kept.drewN ?_ _))⟩
      case round =>
        obtain ⟨k, hk, rfl, y, rfl⟩ := hrel
        by_cases hlt : k < n
        · have hcell := HC.out
          have cx0 := (hcell k hlt 0 (by omega)).1
          have cx1 := (hcell k hlt 1 (by omega)).1
          have cx2 := (hcell k hlt 2 (by omega)).1
          have cx3 := (hcell k hlt 3 (by omega)).1
          have cx4 := (hcell k hlt 4 (by omega)).1
          have cx5 := (hcell k hlt 5 (by omega)).1
          have cx6 := (hcell k hlt 6 (by omega)).1
          have cx7 := (hcell k hlt 7 (by omega)).1
          have cx8 := (hcell k hlt 8 (by omega)).1
          have cx9 := (hcell k hlt 9 (by omega)).1
          simp only [Nat.add_zero] at cx0
          clear hcell
          go_wp2_with fail
          refine calls_kept (World.alloc (ext ((w.alloc (.cells #[.int .i64 c0, .int .i64 c1, .int .i64 c2] 24)).alloc (.cells #[.int .i64 0, .int .i64 0, .int .i64 0, .int .i64 0, .int .i64 0, .int .i64 0, .int .i64 0, .int .i64 0, .int .i64 0, .int .i64 0, .int .i64 0] 31)) x0) (.cells #[.int .i64 ((momF f c0 c1 c2 k).q), .int .i64 ((momF f c0 c1 c2 k).t), .int .i64 ((momF f c0 c1 c2 k).x), .int .i64 ((momF f c0 c1 c2 k).y), .int .i64 ((momF f c0 c1 c2 k).z), .int .i64 ((momF f c0 c1 c2 k).a), .int .i64 ((momF f c0 c1 c2 k).b), .int .i64 ((momF f c0 c1 c2 k).c), .int .i64 ((momF f c0 c1 c2 k).d), .int .i64 ((momF f c0 c1 c2 k).e), .int .i64 ((momF f c0 c1 c2 k).f), .int .i64 c0, .int .i64 c1, .int .i64 c2] 56)) (by (repeat (first | exact Kept.refl _ | assumption | refine Kept.alloc ?_ _ | refine Kept.ext ?_ _ | refine Kept.drew ?_ | refine Kept.drewN ?_ _))) (fun z => ?_)
          have bm := momF_bd N1.out N2.out (show k ≤ n by omega)
          have bf := chE_bd (chE_at hlt N1.out)
          obtain ⟨u0, u1, u2, u3, u4, u5, u6, u7, u8, u9, u10⟩ := bm
          refine (about_add _ _ (momF f c0 c1 c2 k).q (momF f c0 c1 c2 k).t (momF f c0 c1 c2 k).x (momF f c0 c1 c2 k).y (momF f c0 c1 c2 k).z (momF f c0 c1 c2 k).a (momF f c0 c1 c2 k).b (momF f c0 c1 c2 k).c (momF f c0 c1 c2 k).d (momF f c0 c1 c2 k).e (momF f c0 c1 c2 k).f (f k 0) (f k 1) (f k 2) (f k 3) (f k 4) (f k 5) (f k 6) (f k 7) (f k 8) (f k 9) c0 c1 c2 z (by simp) (by omega)).mono ?_
          rintro e w1 ⟨rfl, a0, a1, a2, a3, a4, a5, a6, a7, a8, ⟨rfl, rfl, rfl, rfl, rfl, rfl, rfl, rfl, rfl⟩, hkk⟩
          have hkk2 : Kept (World.alloc (ext ((w.alloc (.cells #[.int .i64 c0, .int .i64 c1, .int .i64 c2] 24)).alloc (.cells #[.int .i64 0, .int .i64 0, .int .i64 0, .int .i64 0, .int .i64 0, .int .i64 0, .int .i64 0, .int .i64 0, .int .i64 0, .int .i64 0, .int .i64 0] 31)) x0) (.cells #[.int .i64 ((momF f c0 c1 c2 (k + 1)).q), .int .i64 ((momF f c0 c1 c2 (k + 1)).t), .int .i64 ((momF f c0 c1 c2 (k + 1)).x), .int .i64 ((momF f c0 c1 c2 (k + 1)).y), .int .i64 ((momF f c0 c1 c2 (k + 1)).z), .int .i64 ((momF f c0 c1 c2 (k + 1)).a), .int .i64 ((momF f c0 c1 c2 (k + 1)).b), .int .i64 ((momF f c0 c1 c2 (k + 1)).c), .int .i64 ((momF f c0 c1 c2 (k + 1)).d), .int .i64 ((momF f c0 c1 c2 (k + 1)).e), .int .i64 ((momF f c0 c1 c2 (k + 1)).f), .int .i64 c0, .int .i64 c1, .int .i64 c2] 56)) w1 := hkk
          clear hkk u0 u1 u2 u3 u4 u5 u6 u7 u8 u9 u10 bf
          obtain ⟨z2, rfl⟩ := hkk2
          go_wp2_with fail
          go_roundw
          case rel => exact ⟨k + 1, by omega, by go_num, show Kept (World.alloc (ext ((w.alloc (.cells #[.int .i64 c0, .int .i64 c1, .int .i64 c2] 24)).alloc (.cells #[.int .i64 0, .int .i64 0, .int .i64 0, .int .i64 0, .int .i64 0, .int .i64 0, .int .i64 0, .int .i64 0, .int .i64 0, .int .i64 0, .int .i64 0] 31)) x0) (.cells #[.int .i64 ((momF f c0 c1 c2 (k + 1)).q), .int .i64 ((momF f c0 c1 c2 (k + 1)).t), .int .i64 ((momF f c0 c1 c2 (k + 1)).x), .int .i64 ((momF f c0 c1 c2 (k + 1)).y), .int .i64 ((momF f c0 c1 c2 (k + 1)).z), .int .i64 ((momF f c0 c1 c2 (k + 1)).a), .int .i64 ((momF f c0 c1 c2 (k + 1)).b), .int .i64 ((momF f c0 c1 c2 (k + 1)).c), .int .i64 ((momF f c0 c1 c2 (k + 1)).d), .int .i64 ((momF f c0 c1 c2 (k + 1)).e), .int .i64 ((momF f c0 c1 c2 (k + 1)).f), .int .i64 c0, .int .i64 c1, .int .i64 c2] 56)) _ by (repeat (first | exact Kept.refl _ | assumption | refine Kept.alloc ?_ _ | refine Kept.ext ?_ _ | refine Kept.drew ?_ | refine Kept.drewN ?_ _))⟩
          case measure => simp [intOf]; omega
        · obtain rfl : k = n := by omega
          go_wp2_with fail
          refine bodyPost_ret (by simp only [results, Try.results6]; go_simp; rfl) rfl ?_
          exact ⟨rfl, by (repeat (first | exact Kept.refl _ | assumption | refine Kept.alloc ?_ _ | refine Kept.ext ?_ _ | refine Kept.drew ?_ | refine Kept.drewN ?_ _))⟩
  · have e : ofM n f c0 c1 c2 = ⟨moZ, givE n f c0 c1 c2⟩ := if_neg v0
    rw [e]
    clear e hs
    have g1 : (givE n f c0 c1 c2 != 0) = true := by simpa using v0
    clear v0
    go_enter Try.func6, Try.ntmps6
    go_wp2_with fail
    refine (mcharged_any _ _ _ f _ _ _ _ (by omega) (HS.out.of (by (repeat (first | exact Kept.refl _ | assumption | refine Kept.alloc ?_ _ | refine Kept.ext ?_ _ | refine Kept.drew ?_ | refine Kept.drewN ?_ _))))).mono ?_
    rintro e w1 ⟨rfl, x0, rfl⟩
    go_wp2_with fail
    refine bodyPost_ret (by simp only [results, Try.results6]; go_simp; rfl) rfl ?_
    exact ⟨rfl, by (repeat (first | exact Kept.refl _ | assumption | refine Kept.alloc ?_ _ | refine Kept.ext ?_ _ | refine Kept.drew ?_ | refine Kept.drewN ?_ _))⟩
end Go.Proofs.Ytodmdicegkjicaa

