/- Contract: one panel more in the moments, in the program. Under bounds on numbers. -/
import Derived.Test.YtbefphfgcbbcpaaDoorCh
namespace Go.Proofs.YtbefphfgcbbcpaaDoor
set_option linter.unusedVariables false
set_option linter.unusedSimpArgs false
open Go.RowKit
attribute [local go_sem ↓] Go.wp_at_zero Go.wp_at_succ
theorem rounds_kept {P : Program} {c : Code} {Q : Exit → Act → World → Prop} {n : Nat} {a : Act} {w : World} (B : World) (h : Kept B w) (H : ∀ z, Code.rounds P c Q n a (ext B z)) : Code.rounds P c Q n a w := by
  obtain ⟨z, rfl⟩ := h
  exact H z
theorem wp_kept {P : Program} {c : Code} {Q : Exit → Act → World → Prop} {a : Act} {w : World} (B : World) (h : Kept B w) (H : ∀ z, c.wp P Q a (ext B z)) : c.wp P Q a w := by
  obtain ⟨z, rfl⟩ := h
  exact H z
theorem cut9 {W w' : World} {n b : Nat} {x0 x1 x2 x3 x4 x5 x6 x7 x8 : Value} [hs : SizeIs W n] (h : Kept W w') (h1 : n ≤ b ∧ b < w'.heap.size)
    (k0 : w'.cell? ⟨b, 0, none⟩ = some x0) (k1 : w'.cell? ⟨b, 1, none⟩ = some x1) (k2 : w'.cell? ⟨b, 2, none⟩ = some x2) (k3 : w'.cell? ⟨b, 3, none⟩ = some x3) (k4 : w'.cell? ⟨b, 4, none⟩ = some x4) (k5 : w'.cell? ⟨b, 5, none⟩ = some x5) (k6 : w'.cell? ⟨b, 6, none⟩ = some x6) (k7 : w'.cell? ⟨b, 7, none⟩ = some x7) (k8 : w'.cell? ⟨b, 8, none⟩ = some x8) :
    ∃ y i, w' = ext W y ∧ Value.pointer (some ⟨b, 0, none⟩) = .pointer (some ⟨adv n i, 0, none⟩) ∧ i < y.obs.size ∧
      y.cell i 0 = some x0 ∧ y.cell i 1 = some x1 ∧ y.cell i 2 = some x2 ∧ y.cell i 3 = some x3 ∧ y.cell i 4 = some x4 ∧ y.cell i 5 = some x5 ∧ y.cell i 6 = some x6 ∧ y.cell i 7 = some x7 ∧ y.cell i 8 = some x8 := by
  obtain ⟨y, i, j, e0, e1, -, l1, -, k, -⟩ := kept_at2 h h1 h1
  exact ⟨y, i, e0, by rw [e1], l1, by rw [k, k0], by rw [k, k1], by rw [k, k2], by rw [k, k3], by rw [k, k4], by rw [k, k5], by rw [k, k6], by rw [k, k7], by rw [k, k8]⟩
/-- One panel more, by its corners as seen from the center. -/
def addA (m : Mo) (q a0 a1 a2 a3 a4 a5 a6 a7 a8 : Int) : Mo := ⟨m.q + q, m.t + max q (-q), m.x - -q * (a0 + a3 + a6), m.y - -q * (a1 + a4 + a7), m.z - -q * (a2 + a5 + a8), m.a + q * ((a0 + a3 + a6) * (a0 + a3 + a6) + a0 * a0 + a3 * a3 + a6 * a6), m.b + q * ((a0 + a3 + a6) * (a1 + a4 + a7) + a0 * a1 + a3 * a4 + a6 * a7), m.c + q * ((a0 + a3 + a6) * (a2 + a5 + a8) + a0 * a2 + a3 * a5 + a6 * a8), m.d + q * ((a1 + a4 + a7) * (a1 + a4 + a7) + a1 * a1 + a4 * a4 + a7 * a7), m.e + q * ((a1 + a4 + a7) * (a2 + a5 + a8) + a1 * a2 + a4 * a5 + a7 * a8), m.f + q * ((a2 + a5 + a8) * (a2 + a5 + a8) + a2 * a2 + a5 * a5 + a8 * a8)⟩
set_option maxRecDepth 100000 in
set_option maxHeartbeats 40000000 in
theorem about_add (W : World) (n : Nat) (m0 m1 m2 m3 m4 m5 m6 m7 m8 m9 m10 p0 p1 p2 p3 p4 p5 p6 p7 p8 q c0 c1 c2 : Int) (y : More) (hn : n = W.heap.size) (hb : (-64 ≤ p0 ∧ p0 ≤ 64) ∧ (-64 ≤ p1 ∧ p1 ≤ 64) ∧ (-64 ≤ p2 ∧ p2 ≤ 64) ∧ (-64 ≤ p3 ∧ p3 ≤ 64) ∧ (-64 ≤ p4 ∧ p4 ≤ 64) ∧ (-64 ≤ p5 ∧ p5 ≤ 64) ∧ (-64 ≤ p6 ∧ p6 ≤ 64) ∧ (-64 ≤ p7 ∧ p7 ≤ 64) ∧ (-64 ≤ p8 ∧ p8 ≤ 64) ∧ (-100 ≤ q ∧ q ≤ 100) ∧ (-64 ≤ c0 ∧ c0 ≤ 64) ∧ (-64 ≤ c1 ∧ c1 ≤ 64) ∧ (-64 ≤ c2 ∧ c2 ≤ 64) ∧ (-1125899906842624 ≤ m0 ∧ m0 ≤ 1125899906842624) ∧ (-1125899906842624 ≤ m1 ∧ m1 ≤ 1125899906842624) ∧ (-1073741824 ≤ m2 ∧ m2 ≤ 1073741824) ∧ (-1073741824 ≤ m3 ∧ m3 ≤ 1073741824) ∧ (-1073741824 ≤ m4 ∧ m4 ≤ 1073741824) ∧ (-1125899906842624 ≤ m5 ∧ m5 ≤ 1125899906842624) ∧ (-1125899906842624 ≤ m6 ∧ m6 ≤ 1125899906842624) ∧ (-1125899906842624 ≤ m7 ∧ m7 ≤ 1125899906842624) ∧ (-1125899906842624 ≤ m8 ∧ m8 ≤ 1125899906842624) ∧ (-1125899906842624 ≤ m9 ∧ m9 ≤ 1125899906842624) ∧ (-1125899906842624 ≤ m10 ∧ m10 ≤ 1125899906842624)) :
    Calls Tryd.prog 64 #[.pointer (some ⟨n, 0, none⟩), .agg #[.int .i64 p0, .int .i64 p1, .int .i64 p2, .int .i64 p3, .int .i64 p4, .int .i64 p5, .int .i64 p6, .int .i64 p7, .int .i64 p8, .int .i64 q]] (ext (W.alloc (.cells #[.int .i64 m0, .int .i64 m1, .int .i64 m2, .int .i64 m3, .int .i64 m4, .int .i64 m5, .int .i64 m6, .int .i64 m7, .int .i64 m8, .int .i64 m9, .int .i64 m10, .int .i64 c0, .int .i64 c1, .int .i64 c2] 109)) y) fun e w' => e = .returned (.tuple #[]) ∧ ∃ a0 a1 a2 a3 a4 a5 a6 a7 a8 : Int, (a0 = p0 - c0 ∧ a1 = p1 - c1 ∧ a2 = p2 - c2 ∧ a3 = p3 - c0 ∧ a4 = p4 - c1 ∧ a5 = p5 - c2 ∧ a6 = p6 - c0 ∧ a7 = p7 - c1 ∧ a8 = p8 - c2) ∧ Kept (W.alloc (.cells #[.int .i64 (m0 + q), .int .i64 (m1 + max q (-q)), .int .i64 (m2 - -q * (a0 + a3 + a6)), .int .i64 (m3 - -q * (a1 + a4 + a7)), .int .i64 (m4 - -q * (a2 + a5 + a8)), .int .i64 (m5 + q * ((a0 + a3 + a6) * (a0 + a3 + a6) + a0 * a0 + a3 * a3 + a6 * a6)), .int .i64 (m6 + q * ((a0 + a3 + a6) * (a1 + a4 + a7) + a0 * a1 + a3 * a4 + a6 * a7)), .int .i64 (m7 + q * ((a0 + a3 + a6) * (a2 + a5 + a8) + a0 * a2 + a3 * a5 + a6 * a8)), .int .i64 (m8 + q * ((a1 + a4 + a7) * (a1 + a4 + a7) + a1 * a1 + a4 * a4 + a7 * a7)), .int .i64 (m9 + q * ((a1 + a4 + a7) * (a2 + a5 + a8) + a1 * a2 + a4 * a5 + a7 * a8)), .int .i64 (m10 + q * ((a2 + a5 + a8) * (a2 + a5 + a8) + a2 * a2 + a5 * a5 + a8 * a8)), .int .i64 c0, .int .i64 c1, .int .i64 c2] 109)) w' := by
  subst hn
  obtain ⟨z0, z1, z2, z3, z4, z5, z6, z7, z8, z9, z10, z11, z12, z13, z14, z15, z16, z17, z18, z19, z20, z21, z22, z23⟩ := hb
  go_enter Tryd.func64, Tryd.ntmps64
  go_upto_region 1 with fail
  go_cut [4] (fun s4 wx => ∃ z i, wx = ext ((ext (W.alloc (.cells #[.int .i64 m0, .int .i64 m1, .int .i64 m2, .int .i64 m3, .int .i64 m4, .int .i64 m5, .int .i64 m6, .int .i64 m7, .int .i64 m8, .int .i64 m9, .int .i64 m10, .int .i64 c0, .int .i64 c1, .int .i64 c2] 109)) y).alloc (.cells #[.int .i64 p0, .int .i64 p1, .int .i64 p2, .int .i64 p3, .int .i64 p4, .int .i64 p5, .int .i64 p6, .int .i64 p7, .int .i64 p8, .int .i64 q] 69)) z ∧ s4 = .pointer (some ⟨adv (adv (W.heap.size + 1) y.obs.size + 1) i, 0, none⟩) ∧ i < z.obs.size ∧ z.cell i 0 = some (.int .i64 (p0 - c0)) ∧ z.cell i 1 = some (.int .i64 (p1 - c1)) ∧ z.cell i 2 = some (.int .i64 (p2 - c2)) ∧ z.cell i 3 = some (.int .i64 (p3 - c0)) ∧ z.cell i 4 = some (.int .i64 (p4 - c1)) ∧ z.cell i 5 = some (.int .i64 (p5 - c2)) ∧ z.cell i 6 = some (.int .i64 (p6 - c0)) ∧ z.cell i 7 = some (.int .i64 (p7 - c1)) ∧ z.cell i 8 = some (.int .i64 (p8 - c2)))
  case first =>
    go_region_held3 (fun w' => w'.cell? ⟨adv (W.heap.size + 1) y.obs.size, 0, none⟩ = some (.int .i64 p0) ∧ w'.cell? ⟨adv (W.heap.size + 1) y.obs.size, 1, none⟩ = some (.int .i64 p1) ∧ w'.cell? ⟨adv (W.heap.size + 1) y.obs.size, 2, none⟩ = some (.int .i64 p2) ∧ w'.cell? ⟨adv (W.heap.size + 1) y.obs.size, 3, none⟩ = some (.int .i64 p3) ∧ w'.cell? ⟨adv (W.heap.size + 1) y.obs.size, 4, none⟩ = some (.int .i64 p4) ∧ w'.cell? ⟨adv (W.heap.size + 1) y.obs.size, 5, none⟩ = some (.int .i64 p5) ∧ w'.cell? ⟨adv (W.heap.size + 1) y.obs.size, 6, none⟩ = some (.int .i64 p6) ∧ w'.cell? ⟨adv (W.heap.size + 1) y.obs.size, 7, none⟩ = some (.int .i64 p7) ∧ w'.cell? ⟨adv (W.heap.size + 1) y.obs.size, 8, none⟩ = some (.int .i64 p8) ∧ w'.cell? ⟨W.heap.size, 11, none⟩ = some (.int .i64 c0) ∧ w'.cell? ⟨W.heap.size, 12, none⟩ = some (.int .i64 c1) ∧ w'.cell? ⟨W.heap.size, 13, none⟩ = some (.int .i64 c2)) ((refine ⟨?_, ?_, ?_, ?_, ?_, ?_, ?_, ?_, ?_, ?_, ?_, ?_⟩ <;> go_simp)) ((first | (go_at_call 92; refine (mminus_any _ _ _ _ _ _ _ (by omega)).mono ?_; rintro e w1 ⟨rfl, x, rfl⟩)))
    all_goals (go_wp2_with fail; go_meet)
    all_goals
      refine cut9 (show Kept _ _ by (repeat (first | exact Kept.refl _ | assumption | refine Kept.alloc ?_ _ | refine Kept.ext ?_ _ | refine Kept.drew ?_ | refine Kept.drewN ?_ _))) ⟨?_, ?_⟩ ?_ ?_ ?_ ?_ ?_ ?_ ?_ ?_ ?_
      all_goals first | (go_simp; done) | (simp [adv]; done) | (simp [adv]; omega)
  case rest =>
  obtain ⟨z, i, rfl, rfl, li, f0, f1, f2, f3, f4, f5, f6, f7, f8⟩ := hcut
  have Li : Lower i z.obs.size := ⟨li⟩
  clear li
  obtain ⟨a0, ha0⟩ : ∃ a, p0 - c0 = a := ⟨_, rfl⟩
  rw [ha0] at f0
  obtain ⟨a1, ha1⟩ : ∃ a, p1 - c1 = a := ⟨_, rfl⟩
  rw [ha1] at f1
  obtain ⟨a2, ha2⟩ : ∃ a, p2 - c2 = a := ⟨_, rfl⟩
  rw [ha2] at f2
  obtain ⟨a3, ha3⟩ : ∃ a, p3 - c0 = a := ⟨_, rfl⟩
  rw [ha3] at f3
  obtain ⟨a4, ha4⟩ : ∃ a, p4 - c1 = a := ⟨_, rfl⟩
  rw [ha4] at f4
  obtain ⟨a5, ha5⟩ : ∃ a, p5 - c2 = a := ⟨_, rfl⟩
  rw [ha5] at f5
  obtain ⟨a6, ha6⟩ : ∃ a, p6 - c0 = a := ⟨_, rfl⟩
  rw [ha6] at f6
  obtain ⟨a7, ha7⟩ : ∃ a, p7 - c1 = a := ⟨_, rfl⟩
  rw [ha7] at f7
  obtain ⟨a8, ha8⟩ : ∃ a, p8 - c2 = a := ⟨_, rfl⟩
  rw [ha8] at f8
  have w0 : -128 ≤ a0 ∧ a0 ≤ 128 := by omega
  have w1 : -128 ≤ a1 ∧ a1 ≤ 128 := by omega
  have w2 : -128 ≤ a2 ∧ a2 ≤ 128 := by omega
  have w3 : -128 ≤ a3 ∧ a3 ≤ 128 := by omega
  have w4 : -128 ≤ a4 ∧ a4 ≤ 128 := by omega
  have w5 : -128 ≤ a5 ∧ a5 ≤ 128 := by omega
  have w6 : -128 ≤ a6 ∧ a6 ≤ 128 := by omega
  have w7 : -128 ≤ a7 ∧ a7 ≤ 128 := by omega
  have w8 : -128 ≤ a8 ∧ a8 ≤ 128 := by omega
  have HA := Lib.hid (show a0 = p0 - c0 ∧ a1 = p1 - c1 ∧ a2 = p2 - c2 ∧ a3 = p3 - c0 ∧ a4 = p4 - c1 ∧ a5 = p5 - c2 ∧ a6 = p6 - c0 ∧ a7 = p7 - c1 ∧ a8 = p8 - c2 from ⟨ha0.symm, ha1.symm, ha2.symm, ha3.symm, ha4.symm, ha5.symm, ha6.symm, ha7.symm, ha8.symm⟩)
  clear ha0 ha1 ha2 ha3 ha4 ha5 ha6 ha7 ha8
  obtain ⟨s0, hs0⟩ : ∃ s, a0 + a3 + a6 = s := ⟨_, rfl⟩
  have v0 : -384 ≤ s0 ∧ s0 ≤ 384 := by omega
  obtain ⟨s1, hs1⟩ : ∃ s, a1 + a4 + a7 = s := ⟨_, rfl⟩
  have v1 : -384 ≤ s1 ∧ s1 ≤ 384 := by omega
  obtain ⟨s2, hs2⟩ : ∃ s, a2 + a5 + a8 = s := ⟨_, rfl⟩
  have v2 : -384 ≤ s2 ∧ s2 ≤ 384 := by omega
  go_wp2_with fail
  have HS := Lib.hid (show a0 + a3 + a6 = s0 ∧ a1 + a4 + a7 = s1 ∧ a2 + a5 + a8 = s2 from ⟨hs0, hs1, hs2⟩)
  clear hs0 hs1 hs2
  have t0 := mul_bd 38400 (show -100 ≤ -q ∧ -q ≤ 100 by omega) (show -384 ≤ s0 ∧ s0 ≤ 384 by omega) rfl
  have t1 := mul_bd 38400 (show -100 ≤ -q ∧ -q ≤ 100 by omega) (show -384 ≤ s1 ∧ s1 ≤ 384 by omega) rfl
  have t2 := mul_bd 38400 (show -100 ≤ -q ∧ -q ≤ 100 by omega) (show -384 ≤ s2 ∧ s2 ≤ 384 by omega) rfl
  have g0 := mul_bd 147456 (show -384 ≤ s0 ∧ s0 ≤ 384 by omega) (show -384 ≤ s0 ∧ s0 ≤ 384 by omega) rfl
  have h00 := mul_bd 16384 (show -128 ≤ a0 ∧ a0 ≤ 128 by omega) (show -128 ≤ a0 ∧ a0 ≤ 128 by omega) rfl
  have h01 := mul_bd 16384 (show -128 ≤ a3 ∧ a3 ≤ 128 by omega) (show -128 ≤ a3 ∧ a3 ≤ 128 by omega) rfl
  have h02 := mul_bd 16384 (show -128 ≤ a6 ∧ a6 ≤ 128 by omega) (show -128 ≤ a6 ∧ a6 ≤ 128 by omega) rfl
  have q0 := mul_bd 19660800 (show -100 ≤ q ∧ q ≤ 100 by omega) (show -196608 ≤ s0 * s0 + a0 * a0 + a3 * a3 + a6 * a6 ∧ s0 * s0 + a0 * a0 + a3 * a3 + a6 * a6 ≤ 196608 by omega) rfl
  have g1 := mul_bd 147456 (show -384 ≤ s0 ∧ s0 ≤ 384 by omega) (show -384 ≤ s1 ∧ s1 ≤ 384 by omega) rfl
  have h10 := mul_bd 16384 (show -128 ≤ a0 ∧ a0 ≤ 128 by omega) (show -128 ≤ a1 ∧ a1 ≤ 128 by omega) rfl
  have h11 := mul_bd 16384 (show -128 ≤ a3 ∧ a3 ≤ 128 by omega) (show -128 ≤ a4 ∧ a4 ≤ 128 by omega) rfl
  have h12 := mul_bd 16384 (show -128 ≤ a6 ∧ a6 ≤ 128 by omega) (show -128 ≤ a7 ∧ a7 ≤ 128 by omega) rfl
  have q1 := mul_bd 19660800 (show -100 ≤ q ∧ q ≤ 100 by omega) (show -196608 ≤ s0 * s1 + a0 * a1 + a3 * a4 + a6 * a7 ∧ s0 * s1 + a0 * a1 + a3 * a4 + a6 * a7 ≤ 196608 by omega) rfl
  have g2 := mul_bd 147456 (show -384 ≤ s0 ∧ s0 ≤ 384 by omega) (show -384 ≤ s2 ∧ s2 ≤ 384 by omega) rfl
  have h20 := mul_bd 16384 (show -128 ≤ a0 ∧ a0 ≤ 128 by omega) (show -128 ≤ a2 ∧ a2 ≤ 128 by omega) rfl
  have h21 := mul_bd 16384 (show -128 ≤ a3 ∧ a3 ≤ 128 by omega) (show -128 ≤ a5 ∧ a5 ≤ 128 by omega) rfl
  have h22 := mul_bd 16384 (show -128 ≤ a6 ∧ a6 ≤ 128 by omega) (show -128 ≤ a8 ∧ a8 ≤ 128 by omega) rfl
  have q2 := mul_bd 19660800 (show -100 ≤ q ∧ q ≤ 100 by omega) (show -196608 ≤ s0 * s2 + a0 * a2 + a3 * a5 + a6 * a8 ∧ s0 * s2 + a0 * a2 + a3 * a5 + a6 * a8 ≤ 196608 by omega) rfl
  have g3 := mul_bd 147456 (show -384 ≤ s1 ∧ s1 ≤ 384 by omega) (show -384 ≤ s1 ∧ s1 ≤ 384 by omega) rfl
  have h30 := mul_bd 16384 (show -128 ≤ a1 ∧ a1 ≤ 128 by omega) (show -128 ≤ a1 ∧ a1 ≤ 128 by omega) rfl
  have h31 := mul_bd 16384 (show -128 ≤ a4 ∧ a4 ≤ 128 by omega) (show -128 ≤ a4 ∧ a4 ≤ 128 by omega) rfl
  have h32 := mul_bd 16384 (show -128 ≤ a7 ∧ a7 ≤ 128 by omega) (show -128 ≤ a7 ∧ a7 ≤ 128 by omega) rfl
  have q3 := mul_bd 19660800 (show -100 ≤ q ∧ q ≤ 100 by omega) (show -196608 ≤ s1 * s1 + a1 * a1 + a4 * a4 + a7 * a7 ∧ s1 * s1 + a1 * a1 + a4 * a4 + a7 * a7 ≤ 196608 by omega) rfl
  have g4 := mul_bd 147456 (show -384 ≤ s1 ∧ s1 ≤ 384 by omega) (show -384 ≤ s2 ∧ s2 ≤ 384 by omega) rfl
  have h40 := mul_bd 16384 (show -128 ≤ a1 ∧ a1 ≤ 128 by omega) (show -128 ≤ a2 ∧ a2 ≤ 128 by omega) rfl
  have h41 := mul_bd 16384 (show -128 ≤ a4 ∧ a4 ≤ 128 by omega) (show -128 ≤ a5 ∧ a5 ≤ 128 by omega) rfl
  have h42 := mul_bd 16384 (show -128 ≤ a7 ∧ a7 ≤ 128 by omega) (show -128 ≤ a8 ∧ a8 ≤ 128 by omega) rfl
  have q4 := mul_bd 19660800 (show -100 ≤ q ∧ q ≤ 100 by omega) (show -196608 ≤ s1 * s2 + a1 * a2 + a4 * a5 + a7 * a8 ∧ s1 * s2 + a1 * a2 + a4 * a5 + a7 * a8 ≤ 196608 by omega) rfl
  have g5 := mul_bd 147456 (show -384 ≤ s2 ∧ s2 ≤ 384 by omega) (show -384 ≤ s2 ∧ s2 ≤ 384 by omega) rfl
  have h50 := mul_bd 16384 (show -128 ≤ a2 ∧ a2 ≤ 128 by omega) (show -128 ≤ a2 ∧ a2 ≤ 128 by omega) rfl
  have h51 := mul_bd 16384 (show -128 ≤ a5 ∧ a5 ≤ 128 by omega) (show -128 ≤ a5 ∧ a5 ≤ 128 by omega) rfl
  have h52 := mul_bd 16384 (show -128 ≤ a8 ∧ a8 ≤ 128 by omega) (show -128 ≤ a8 ∧ a8 ≤ 128 by omega) rfl
  have q5 := mul_bd 19660800 (show -100 ≤ q ∧ q ≤ 100 by omega) (show -196608 ≤ s2 * s2 + a2 * a2 + a5 * a5 + a8 * a8 ∧ s2 * s2 + a2 * a2 + a5 * a5 + a8 * a8 ≤ 196608 by omega) rfl
  ((first | (with_reducible refine wp_region_tail2 11 (by kernel_rfl) (by kernel_rfl) ?_) | refine wp_region_tail 11 (by kernel_rfl) (by kernel_rfl) ?_); simp only [List.take_succ_cons, List.take_zero, List.drop_succ_cons, List.drop_zero]; (repeat (go_big_quiet_step (first | fail))); refine wpQuiet_nil ?_; intro x)
  go_wp2_with fail
  ((first | (with_reducible refine wp_region_tail2 15 (by kernel_rfl) (by kernel_rfl) ?_) | refine wp_region_tail 15 (by kernel_rfl) (by kernel_rfl) ?_); simp only [List.take_succ_cons, List.take_zero, List.drop_succ_cons, List.drop_zero]; (repeat (go_big_quiet_step (first | fail))); refine wpQuiet_nil ?_; intro x)
  go_wp2_with fail
  ((first | (with_reducible refine wp_region_tail2 29 (by kernel_rfl) (by kernel_rfl) ?_) | refine wp_region_tail 29 (by kernel_rfl) (by kernel_rfl) ?_); simp only [List.take_succ_cons, List.take_zero, List.drop_succ_cons, List.drop_zero]; (repeat (go_big_quiet_step (first | (go_at_call 92; exact Calls.kept_of (mminus_any _ _ _ _ _ _ _ (by omega)))))); refine wpQuiet_nil ?_; intro x)
  go_wp2_with (first | (go_at_call 67; refine (pairs_any _).mono ?_; rintro e w1 ⟨rfl, x, rfl⟩))
  refine wp_loop_rounds 7 ?_
  refine rounds_kept ((ext ((ext (W.alloc (.cells #[.int .i64 (m0 + q), .int .i64 (m1 + max q (-q)), .int .i64 (m2 - -q * s0), .int .i64 (m3 - -q * s1), .int .i64 (m4 - -q * s2), .int .i64 m5, .int .i64 m6, .int .i64 m7, .int .i64 m8, .int .i64 m9, .int .i64 m10, .int .i64 c0, .int .i64 c1, .int .i64 c2] 109)) y).alloc (.cells #[.int .i64 p0, .int .i64 p1, .int .i64 p2, .int .i64 p3, .int .i64 p4, .int .i64 p5, .int .i64 p6, .int .i64 p7, .int .i64 p8, .int .i64 q] 69)) z).alloc (.cells #[.int .i64 s0, .int .i64 s1, .int .i64 s2] 36)) (by (repeat (first | exact Kept.refl _ | assumption | refine Kept.alloc ?_ _ | refine Kept.ext ?_ _ | refine Kept.drew ?_ | refine Kept.drewN ?_ _))) (fun z0 => ?_)
  rw [rounds_succ]
  go_wp2_with fail
  ((first | (with_reducible refine wp_region_kept2 (by kernel_rfl) (by kernel_rfl) ?_) | refine wp_region_kept (by kernel_rfl) (by kernel_rfl) ?_); (repeat (go_big_quiet_step (first | (go_at_call 66; exact Calls.kept_of (coord_any _ _ _ _))))); refine wpQuiet_nil ?_; intro x)
  go_wp2_with fail
  refine wp_loop_rounds 4 ?_
  rw [rounds_succ]
  go_wp2_with fail
  ((first | (with_reducible refine wp_region_kept2 (by kernel_rfl) (by kernel_rfl) ?_) | refine wp_region_kept (by kernel_rfl) (by kernel_rfl) ?_); (repeat (go_big_quiet_step (first | (go_at_call 66; exact Calls.kept_of (coord_any _ _ _ _))))); refine wpQuiet_nil ?_; intro x)
  go_wp2_with fail
  rw [rounds_succ]
  go_wp2_with fail
  ((first | (with_reducible refine wp_region_kept2 (by kernel_rfl) (by kernel_rfl) ?_) | refine wp_region_kept (by kernel_rfl) (by kernel_rfl) ?_); (repeat (go_big_quiet_step (first | (go_at_call 66; exact Calls.kept_of (coord_any _ _ _ _))))); refine wpQuiet_nil ?_; intro x)
  go_wp2_with fail
  rw [rounds_succ]
  go_wp2_with fail
  ((first | (with_reducible refine wp_region_kept2 (by kernel_rfl) (by kernel_rfl) ?_) | refine wp_region_kept (by kernel_rfl) (by kernel_rfl) ?_); (repeat (go_big_quiet_step (first | (go_at_call 66; exact Calls.kept_of (coord_any _ _ _ _))))); refine wpQuiet_nil ?_; intro x)
  go_wp2_with fail
  rw [rounds_succ]
  go_wp2_with fail
  ((first | (with_reducible refine wp_region_tail2 16 (by kernel_rfl) (by kernel_rfl) ?_) | refine wp_region_tail 16 (by kernel_rfl) (by kernel_rfl) ?_); simp only [List.take_succ_cons, List.take_zero, List.drop_succ_cons, List.drop_zero]; (repeat (go_big_quiet_step (first | fail))); refine wpQuiet_nil ?_; intro x)
  go_wp2_with fail
  refine rounds_kept ((ext ((ext (W.alloc (.cells #[.int .i64 (m0 + q), .int .i64 (m1 + max q (-q)), .int .i64 (m2 - -q * s0), .int .i64 (m3 - -q * s1), .int .i64 (m4 - -q * s2), .int .i64 (m5 + q * (s0 * s0 + a0 * a0 + a3 * a3 + a6 * a6)), .int .i64 m6, .int .i64 m7, .int .i64 m8, .int .i64 m9, .int .i64 m10, .int .i64 c0, .int .i64 c1, .int .i64 c2] 109)) y).alloc (.cells #[.int .i64 p0, .int .i64 p1, .int .i64 p2, .int .i64 p3, .int .i64 p4, .int .i64 p5, .int .i64 p6, .int .i64 p7, .int .i64 p8, .int .i64 q] 69)) z).alloc (.cells #[.int .i64 s0, .int .i64 s1, .int .i64 s2] 36)) (by (repeat (first | exact Kept.refl _ | assumption | refine Kept.alloc ?_ _ | refine Kept.ext ?_ _ | refine Kept.drew ?_ | refine Kept.drewN ?_ _))) (fun z1 => ?_)
  rw [rounds_succ]
  go_wp2_with fail
  ((first | (with_reducible refine wp_region_kept2 (by kernel_rfl) (by kernel_rfl) ?_) | refine wp_region_kept (by kernel_rfl) (by kernel_rfl) ?_); (repeat (go_big_quiet_step (first | (go_at_call 66; exact Calls.kept_of (coord_any _ _ _ _))))); refine wpQuiet_nil ?_; intro x)
  go_wp2_with fail
  refine wp_loop_rounds 4 ?_
  rw [rounds_succ]
  go_wp2_with fail
  ((first | (with_reducible refine wp_region_kept2 (by kernel_rfl) (by kernel_rfl) ?_) | refine wp_region_kept (by kernel_rfl) (by kernel_rfl) ?_); (repeat (go_big_quiet_step (first | (go_at_call 66; exact Calls.kept_of (coord_any _ _ _ _))))); refine wpQuiet_nil ?_; intro x)
  go_wp2_with fail
  rw [rounds_succ]
  go_wp2_with fail
  ((first | (with_reducible refine wp_region_kept2 (by kernel_rfl) (by kernel_rfl) ?_) | refine wp_region_kept (by kernel_rfl) (by kernel_rfl) ?_); (repeat (go_big_quiet_step (first | (go_at_call 66; exact Calls.kept_of (coord_any _ _ _ _))))); refine wpQuiet_nil ?_; intro x)
  go_wp2_with fail
  rw [rounds_succ]
  go_wp2_with fail
  ((first | (with_reducible refine wp_region_kept2 (by kernel_rfl) (by kernel_rfl) ?_) | refine wp_region_kept (by kernel_rfl) (by kernel_rfl) ?_); (repeat (go_big_quiet_step (first | (go_at_call 66; exact Calls.kept_of (coord_any _ _ _ _))))); refine wpQuiet_nil ?_; intro x)
  go_wp2_with fail
  rw [rounds_succ]
  go_wp2_with fail
  ((first | (with_reducible refine wp_region_tail2 16 (by kernel_rfl) (by kernel_rfl) ?_) | refine wp_region_tail 16 (by kernel_rfl) (by kernel_rfl) ?_); simp only [List.take_succ_cons, List.take_zero, List.drop_succ_cons, List.drop_zero]; (repeat (go_big_quiet_step (first | fail))); refine wpQuiet_nil ?_; intro x)
  go_wp2_with fail
  refine rounds_kept ((ext ((ext (W.alloc (.cells #[.int .i64 (m0 + q), .int .i64 (m1 + max q (-q)), .int .i64 (m2 - -q * s0), .int .i64 (m3 - -q * s1), .int .i64 (m4 - -q * s2), .int .i64 (m5 + q * (s0 * s0 + a0 * a0 + a3 * a3 + a6 * a6)), .int .i64 (m6 + q * (s0 * s1 + a0 * a1 + a3 * a4 + a6 * a7)), .int .i64 m7, .int .i64 m8, .int .i64 m9, .int .i64 m10, .int .i64 c0, .int .i64 c1, .int .i64 c2] 109)) y).alloc (.cells #[.int .i64 p0, .int .i64 p1, .int .i64 p2, .int .i64 p3, .int .i64 p4, .int .i64 p5, .int .i64 p6, .int .i64 p7, .int .i64 p8, .int .i64 q] 69)) z).alloc (.cells #[.int .i64 s0, .int .i64 s1, .int .i64 s2] 36)) (by (repeat (first | exact Kept.refl _ | assumption | refine Kept.alloc ?_ _ | refine Kept.ext ?_ _ | refine Kept.drew ?_ | refine Kept.drewN ?_ _))) (fun z2 => ?_)
  rw [rounds_succ]
  go_wp2_with fail
  ((first | (with_reducible refine wp_region_kept2 (by kernel_rfl) (by kernel_rfl) ?_) | refine wp_region_kept (by kernel_rfl) (by kernel_rfl) ?_); (repeat (go_big_quiet_step (first | (go_at_call 66; exact Calls.kept_of (coord_any _ _ _ _))))); refine wpQuiet_nil ?_; intro x)
  go_wp2_with fail
  refine wp_loop_rounds 4 ?_
  rw [rounds_succ]
  go_wp2_with fail
  ((first | (with_reducible refine wp_region_kept2 (by kernel_rfl) (by kernel_rfl) ?_) | refine wp_region_kept (by kernel_rfl) (by kernel_rfl) ?_); (repeat (go_big_quiet_step (first | (go_at_call 66; exact Calls.kept_of (coord_any _ _ _ _))))); refine wpQuiet_nil ?_; intro x)
  go_wp2_with fail
  rw [rounds_succ]
  go_wp2_with fail
  ((first | (with_reducible refine wp_region_kept2 (by kernel_rfl) (by kernel_rfl) ?_) | refine wp_region_kept (by kernel_rfl) (by kernel_rfl) ?_); (repeat (go_big_quiet_step (first | (go_at_call 66; exact Calls.kept_of (coord_any _ _ _ _))))); refine wpQuiet_nil ?_; intro x)
  go_wp2_with fail
  rw [rounds_succ]
  go_wp2_with fail
  ((first | (with_reducible refine wp_region_kept2 (by kernel_rfl) (by kernel_rfl) ?_) | refine wp_region_kept (by kernel_rfl) (by kernel_rfl) ?_); (repeat (go_big_quiet_step (first | (go_at_call 66; exact Calls.kept_of (coord_any _ _ _ _))))); refine wpQuiet_nil ?_; intro x)
  go_wp2_with fail
  rw [rounds_succ]
  go_wp2_with fail
  ((first | (with_reducible refine wp_region_tail2 16 (by kernel_rfl) (by kernel_rfl) ?_) | refine wp_region_tail 16 (by kernel_rfl) (by kernel_rfl) ?_); simp only [List.take_succ_cons, List.take_zero, List.drop_succ_cons, List.drop_zero]; (repeat (go_big_quiet_step (first | fail))); refine wpQuiet_nil ?_; intro x)
  go_wp2_with fail
  refine rounds_kept ((ext ((ext (W.alloc (.cells #[.int .i64 (m0 + q), .int .i64 (m1 + max q (-q)), .int .i64 (m2 - -q * s0), .int .i64 (m3 - -q * s1), .int .i64 (m4 - -q * s2), .int .i64 (m5 + q * (s0 * s0 + a0 * a0 + a3 * a3 + a6 * a6)), .int .i64 (m6 + q * (s0 * s1 + a0 * a1 + a3 * a4 + a6 * a7)), .int .i64 (m7 + q * (s0 * s2 + a0 * a2 + a3 * a5 + a6 * a8)), .int .i64 m8, .int .i64 m9, .int .i64 m10, .int .i64 c0, .int .i64 c1, .int .i64 c2] 109)) y).alloc (.cells #[.int .i64 p0, .int .i64 p1, .int .i64 p2, .int .i64 p3, .int .i64 p4, .int .i64 p5, .int .i64 p6, .int .i64 p7, .int .i64 p8, .int .i64 q] 69)) z).alloc (.cells #[.int .i64 s0, .int .i64 s1, .int .i64 s2] 36)) (by (repeat (first | exact Kept.refl _ | assumption | refine Kept.alloc ?_ _ | refine Kept.ext ?_ _ | refine Kept.drew ?_ | refine Kept.drewN ?_ _))) (fun z3 => ?_)
  rw [rounds_succ]
  go_wp2_with fail
  ((first | (with_reducible refine wp_region_kept2 (by kernel_rfl) (by kernel_rfl) ?_) | refine wp_region_kept (by kernel_rfl) (by kernel_rfl) ?_); (repeat (go_big_quiet_step (first | (go_at_call 66; exact Calls.kept_of (coord_any _ _ _ _))))); refine wpQuiet_nil ?_; intro x)
  go_wp2_with fail
  refine wp_loop_rounds 4 ?_
  rw [rounds_succ]
  go_wp2_with fail
  ((first | (with_reducible refine wp_region_kept2 (by kernel_rfl) (by kernel_rfl) ?_) | refine wp_region_kept (by kernel_rfl) (by kernel_rfl) ?_); (repeat (go_big_quiet_step (first | (go_at_call 66; exact Calls.kept_of (coord_any _ _ _ _))))); refine wpQuiet_nil ?_; intro x)
  go_wp2_with fail
  rw [rounds_succ]
  go_wp2_with fail
  ((first | (with_reducible refine wp_region_kept2 (by kernel_rfl) (by kernel_rfl) ?_) | refine wp_region_kept (by kernel_rfl) (by kernel_rfl) ?_); (repeat (go_big_quiet_step (first | (go_at_call 66; exact Calls.kept_of (coord_any _ _ _ _))))); refine wpQuiet_nil ?_; intro x)
  go_wp2_with fail
  rw [rounds_succ]
  go_wp2_with fail
  ((first | (with_reducible refine wp_region_kept2 (by kernel_rfl) (by kernel_rfl) ?_) | refine wp_region_kept (by kernel_rfl) (by kernel_rfl) ?_); (repeat (go_big_quiet_step (first | (go_at_call 66; exact Calls.kept_of (coord_any _ _ _ _))))); refine wpQuiet_nil ?_; intro x)
  go_wp2_with fail
  rw [rounds_succ]
  go_wp2_with fail
  ((first | (with_reducible refine wp_region_tail2 16 (by kernel_rfl) (by kernel_rfl) ?_) | refine wp_region_tail 16 (by kernel_rfl) (by kernel_rfl) ?_); simp only [List.take_succ_cons, List.take_zero, List.drop_succ_cons, List.drop_zero]; (repeat (go_big_quiet_step (first | fail))); refine wpQuiet_nil ?_; intro x)
  go_wp2_with fail
  refine rounds_kept ((ext ((ext (W.alloc (.cells #[.int .i64 (m0 + q), .int .i64 (m1 + max q (-q)), .int .i64 (m2 - -q * s0), .int .i64 (m3 - -q * s1), .int .i64 (m4 - -q * s2), .int .i64 (m5 + q * (s0 * s0 + a0 * a0 + a3 * a3 + a6 * a6)), .int .i64 (m6 + q * (s0 * s1 + a0 * a1 + a3 * a4 + a6 * a7)), .int .i64 (m7 + q * (s0 * s2 + a0 * a2 + a3 * a5 + a6 * a8)), .int .i64 (m8 + q * (s1 * s1 + a1 * a1 + a4 * a4 + a7 * a7)), .int .i64 m9, .int .i64 m10, .int .i64 c0, .int .i64 c1, .int .i64 c2] 109)) y).alloc (.cells #[.int .i64 p0, .int .i64 p1, .int .i64 p2, .int .i64 p3, .int .i64 p4, .int .i64 p5, .int .i64 p6, .int .i64 p7, .int .i64 p8, .int .i64 q] 69)) z).alloc (.cells #[.int .i64 s0, .int .i64 s1, .int .i64 s2] 36)) (by (repeat (first | exact Kept.refl _ | assumption | refine Kept.alloc ?_ _ | refine Kept.ext ?_ _ | refine Kept.drew ?_ | refine Kept.drewN ?_ _))) (fun z4 => ?_)
  rw [rounds_succ]
  go_wp2_with fail
  ((first | (with_reducible refine wp_region_kept2 (by kernel_rfl) (by kernel_rfl) ?_) | refine wp_region_kept (by kernel_rfl) (by kernel_rfl) ?_); (repeat (go_big_quiet_step (first | (go_at_call 66; exact Calls.kept_of (coord_any _ _ _ _))))); refine wpQuiet_nil ?_; intro x)
  go_wp2_with fail
  refine wp_loop_rounds 4 ?_
  rw [rounds_succ]
  go_wp2_with fail
  ((first | (with_reducible refine wp_region_kept2 (by kernel_rfl) (by kernel_rfl) ?_) | refine wp_region_kept (by kernel_rfl) (by kernel_rfl) ?_); (repeat (go_big_quiet_step (first | (go_at_call 66; exact Calls.kept_of (coord_any _ _ _ _))))); refine wpQuiet_nil ?_; intro x)
  go_wp2_with fail
  rw [rounds_succ]
  go_wp2_with fail
  ((first | (with_reducible refine wp_region_kept2 (by kernel_rfl) (by kernel_rfl) ?_) | refine wp_region_kept (by kernel_rfl) (by kernel_rfl) ?_); (repeat (go_big_quiet_step (first | (go_at_call 66; exact Calls.kept_of (coord_any _ _ _ _))))); refine wpQuiet_nil ?_; intro x)
  go_wp2_with fail
  rw [rounds_succ]
  go_wp2_with fail
  ((first | (with_reducible refine wp_region_kept2 (by kernel_rfl) (by kernel_rfl) ?_) | refine wp_region_kept (by kernel_rfl) (by kernel_rfl) ?_); (repeat (go_big_quiet_step (first | (go_at_call 66; exact Calls.kept_of (coord_any _ _ _ _))))); refine wpQuiet_nil ?_; intro x)
  go_wp2_with fail
  rw [rounds_succ]
  go_wp2_with fail
  ((first | (with_reducible refine wp_region_tail2 16 (by kernel_rfl) (by kernel_rfl) ?_) | refine wp_region_tail 16 (by kernel_rfl) (by kernel_rfl) ?_); simp only [List.take_succ_cons, List.take_zero, List.drop_succ_cons, List.drop_zero]; (repeat (go_big_quiet_step (first | fail))); refine wpQuiet_nil ?_; intro x)
  go_wp2_with fail
  refine rounds_kept ((ext ((ext (W.alloc (.cells #[.int .i64 (m0 + q), .int .i64 (m1 + max q (-q)), .int .i64 (m2 - -q * s0), .int .i64 (m3 - -q * s1), .int .i64 (m4 - -q * s2), .int .i64 (m5 + q * (s0 * s0 + a0 * a0 + a3 * a3 + a6 * a6)), .int .i64 (m6 + q * (s0 * s1 + a0 * a1 + a3 * a4 + a6 * a7)), .int .i64 (m7 + q * (s0 * s2 + a0 * a2 + a3 * a5 + a6 * a8)), .int .i64 (m8 + q * (s1 * s1 + a1 * a1 + a4 * a4 + a7 * a7)), .int .i64 (m9 + q * (s1 * s2 + a1 * a2 + a4 * a5 + a7 * a8)), .int .i64 m10, .int .i64 c0, .int .i64 c1, .int .i64 c2] 109)) y).alloc (.cells #[.int .i64 p0, .int .i64 p1, .int .i64 p2, .int .i64 p3, .int .i64 p4, .int .i64 p5, .int .i64 p6, .int .i64 p7, .int .i64 p8, .int .i64 q] 69)) z).alloc (.cells #[.int .i64 s0, .int .i64 s1, .int .i64 s2] 36)) (by (repeat (first | exact Kept.refl _ | assumption | refine Kept.alloc ?_ _ | refine Kept.ext ?_ _ | refine Kept.drew ?_ | refine Kept.drewN ?_ _))) (fun z5 => ?_)
  rw [rounds_succ]
  go_wp2_with fail
  ((first | (with_reducible refine wp_region_kept2 (by kernel_rfl) (by kernel_rfl) ?_) | refine wp_region_kept (by kernel_rfl) (by kernel_rfl) ?_); (repeat (go_big_quiet_step (first | (go_at_call 66; exact Calls.kept_of (coord_any _ _ _ _))))); refine wpQuiet_nil ?_; intro x)
  go_wp2_with fail
  refine wp_loop_rounds 4 ?_
  rw [rounds_succ]
  go_wp2_with fail
  ((first | (with_reducible refine wp_region_kept2 (by kernel_rfl) (by kernel_rfl) ?_) | refine wp_region_kept (by kernel_rfl) (by kernel_rfl) ?_); (repeat (go_big_quiet_step (first | (go_at_call 66; exact Calls.kept_of (coord_any _ _ _ _))))); refine wpQuiet_nil ?_; intro x)
  go_wp2_with fail
  rw [rounds_succ]
  go_wp2_with fail
  ((first | (with_reducible refine wp_region_kept2 (by kernel_rfl) (by kernel_rfl) ?_) | refine wp_region_kept (by kernel_rfl) (by kernel_rfl) ?_); (repeat (go_big_quiet_step (first | (go_at_call 66; exact Calls.kept_of (coord_any _ _ _ _))))); refine wpQuiet_nil ?_; intro x)
  go_wp2_with fail
  rw [rounds_succ]
  go_wp2_with fail
  ((first | (with_reducible refine wp_region_kept2 (by kernel_rfl) (by kernel_rfl) ?_) | refine wp_region_kept (by kernel_rfl) (by kernel_rfl) ?_); (repeat (go_big_quiet_step (first | (go_at_call 66; exact Calls.kept_of (coord_any _ _ _ _))))); refine wpQuiet_nil ?_; intro x)
  go_wp2_with fail
  rw [rounds_succ]
  go_wp2_with fail
  ((first | (with_reducible refine wp_region_tail2 16 (by kernel_rfl) (by kernel_rfl) ?_) | refine wp_region_tail 16 (by kernel_rfl) (by kernel_rfl) ?_); simp only [List.take_succ_cons, List.take_zero, List.drop_succ_cons, List.drop_zero]; (repeat (go_big_quiet_step (first | fail))); refine wpQuiet_nil ?_; intro x)
  go_wp2_with fail
  refine rounds_kept ((ext ((ext (W.alloc (.cells #[.int .i64 (m0 + q), .int .i64 (m1 + max q (-q)), .int .i64 (m2 - -q * s0), .int .i64 (m3 - -q * s1), .int .i64 (m4 - -q * s2), .int .i64 (m5 + q * (s0 * s0 + a0 * a0 + a3 * a3 + a6 * a6)), .int .i64 (m6 + q * (s0 * s1 + a0 * a1 + a3 * a4 + a6 * a7)), .int .i64 (m7 + q * (s0 * s2 + a0 * a2 + a3 * a5 + a6 * a8)), .int .i64 (m8 + q * (s1 * s1 + a1 * a1 + a4 * a4 + a7 * a7)), .int .i64 (m9 + q * (s1 * s2 + a1 * a2 + a4 * a5 + a7 * a8)), .int .i64 (m10 + q * (s2 * s2 + a2 * a2 + a5 * a5 + a8 * a8)), .int .i64 c0, .int .i64 c1, .int .i64 c2] 109)) y).alloc (.cells #[.int .i64 p0, .int .i64 p1, .int .i64 p2, .int .i64 p3, .int .i64 p4, .int .i64 p5, .int .i64 p6, .int .i64 p7, .int .i64 p8, .int .i64 q] 69)) z).alloc (.cells #[.int .i64 s0, .int .i64 s1, .int .i64 s2] 36)) (by (repeat (first | exact Kept.refl _ | assumption | refine Kept.alloc ?_ _ | refine Kept.ext ?_ _ | refine Kept.drew ?_ | refine Kept.drewN ?_ _))) (fun z6 => ?_)
  rw [rounds_succ]
  go_wp2_with fail
  go_end0
  obtain ⟨rfl, rfl, rfl⟩ := HS.out
  refine ⟨rfl, a0, a1, a2, a3, a4, a5, a6, a7, a8, HA.out, ?_⟩
  (repeat (first | exact Kept.refl _ | assumption | refine Kept.alloc ?_ _ | refine Kept.ext ?_ _ | refine Kept.drew ?_ | refine Kept.drewN ?_ _))
end Go.Proofs.YtbefphfgcbbcpaaDoor
