/- Contract: the moments of a list of charged panels, in the program. No conditions but that the cells of the list can be read. -/
import Derived.Test.YtbefphfgcbbcpaaDoorMel
namespace Go.Proofs.YtbefphfgcbbcpaaDoor
set_option linter.unusedVariables false
set_option linter.unusedSimpArgs false
open Go.RowKit
theorem calls_kept {P : Program} {f : FuncId} {args : Array Value} {w : World} {Q : Ending → World → Prop} (B : World) (h : Kept B w) (H : ∀ z, Calls P f args (ext B z) Q) : Calls P f args w Q := by
  obtain ⟨z, rfl⟩ := h
  exact H z
/-- The moments of the first k panels. -/
def momF (f : Nat → Nat → Int) (c0 c1 c2 : Int) : Nat → Mo
  | 0 => moZ
  | k + 1 => addA (momF f c0 c1 c2 k) (f k 9) (f k 0 - c0) (f k 1 - c1) (f k 2 - c2) (f k 3 - c0) (f k 4 - c1) (f k 5 - c2) (f k 6 - c0) (f k 7 - c1) (f k 8 - c2)
def ofM (n : Nat) (f : Nat → Nat → Int) (c0 c1 c2 : Int) : MR := if givE n f c0 c1 c2 = 0 then ⟨momF f c0 c1 c2 n, 0⟩ else ⟨moZ, givE n f c0 c1 c2⟩
theorem chE_bd {g : Nat → Int} (h : chE g = 0) : (-64 ≤ g 0 ∧ g 0 ≤ 64) ∧ (-64 ≤ g 1 ∧ g 1 ≤ 64) ∧ (-64 ≤ g 2 ∧ g 2 ≤ 64) ∧ (-64 ≤ g 3 ∧ g 3 ≤ 64) ∧ (-64 ≤ g 4 ∧ g 4 ≤ 64) ∧ (-64 ≤ g 5 ∧ g 5 ≤ 64) ∧ (-64 ≤ g 6 ∧ g 6 ≤ 64) ∧ (-64 ≤ g 7 ∧ g 7 ≤ 64) ∧ (-64 ≤ g 8 ∧ g 8 ≤ 64) ∧ (-100 ≤ g 9 ∧ g 9 ≤ 100) := by
  unfold chE at h
  split at h
  · rename_i v
    split at h
    · rename_i q
      have q' := frB_true q
      unfold vpanS at v
      split at v
      · rename_i b
        simp only [Bool.and_eq_true] at b
        have b1 := inB_true b.1.1
        have b2 := inB_true b.1.2
        have b3 := inB_true b.2
        omega
      · cases v
    · cases h
  · rename_i v; exact absurd h v
/-- How large moments are. -/
def MoB (m : Mo) (k : Int) : Prop := (-m.t ≤ m.q ∧ m.q ≤ m.t) ∧ (0 ≤ m.t ∧ m.t ≤ 100 * k) ∧ (-(38400 * k) ≤ m.x ∧ m.x ≤ 38400 * k) ∧ (-(38400 * k) ≤ m.y ∧ m.y ≤ 38400 * k) ∧ (-(38400 * k) ≤ m.z ∧ m.z ≤ 38400 * k) ∧ (-(19660800 * k) ≤ m.a ∧ m.a ≤ 19660800 * k) ∧ (-(19660800 * k) ≤ m.b ∧ m.b ≤ 19660800 * k) ∧ (-(19660800 * k) ≤ m.c ∧ m.c ≤ 19660800 * k) ∧ (-(19660800 * k) ≤ m.d ∧ m.d ≤ 19660800 * k) ∧ (-(19660800 * k) ≤ m.e ∧ m.e ≤ 19660800 * k) ∧ (-(19660800 * k) ≤ m.f ∧ m.f ≤ 19660800 * k)
theorem addA_bd {m : Mo} {k q a0 a1 a2 a3 a4 a5 a6 a7 a8 : Int} (h : MoB m k) (hq : -100 ≤ q ∧ q ≤ 100) (ha : (-128 ≤ a0 ∧ a0 ≤ 128) ∧ (-128 ≤ a1 ∧ a1 ≤ 128) ∧ (-128 ≤ a2 ∧ a2 ≤ 128) ∧ (-128 ≤ a3 ∧ a3 ≤ 128) ∧ (-128 ≤ a4 ∧ a4 ≤ 128) ∧ (-128 ≤ a5 ∧ a5 ≤ 128) ∧ (-128 ≤ a6 ∧ a6 ≤ 128) ∧ (-128 ≤ a7 ∧ a7 ≤ 128) ∧ (-128 ≤ a8 ∧ a8 ≤ 128)) : MoB (addA m q a0 a1 a2 a3 a4 a5 a6 a7 a8) (k + 1) := by
  obtain ⟨b0, b1, b2, b3, b4, b5, b6, b7, b8⟩ := ha
  obtain ⟨h0, h1, h2, h3, h4, h5, h6, h7, h8, h9, h10⟩ := h
  have t0 := mul_bd (a := -q) (b := (a0 + a3 + a6)) (A := 100) (B := 384) 38400 (by omega) (by omega) rfl
  have t1 := mul_bd (a := -q) (b := (a1 + a4 + a7)) (A := 100) (B := 384) 38400 (by omega) (by omega) rfl
  have t2 := mul_bd (a := -q) (b := (a2 + a5 + a8)) (A := 100) (B := 384) 38400 (by omega) (by omega) rfl
  have g0 := mul_bd (a := (a0 + a3 + a6)) (b := (a0 + a3 + a6)) (A := 384) (B := 384) 147456 (by omega) (by omega) rfl
  have h00 := mul_bd (a := a0) (b := a0) (A := 128) (B := 128) 16384 (by omega) (by omega) rfl
  have h01 := mul_bd (a := a3) (b := a3) (A := 128) (B := 128) 16384 (by omega) (by omega) rfl
  have h02 := mul_bd (a := a6) (b := a6) (A := 128) (B := 128) 16384 (by omega) (by omega) rfl
  have q0 := mul_bd (a := q) (b := (a0 + a3 + a6) * (a0 + a3 + a6) + a0 * a0 + a3 * a3 + a6 * a6) (A := 100) (B := 196608) 19660800 (by omega) (by omega) rfl
  clear g0 h00 h01 h02
  have g1 := mul_bd (a := (a0 + a3 + a6)) (b := (a1 + a4 + a7)) (A := 384) (B := 384) 147456 (by omega) (by omega) rfl
  have h10 := mul_bd (a := a0) (b := a1) (A := 128) (B := 128) 16384 (by omega) (by omega) rfl
  have h11 := mul_bd (a := a3) (b := a4) (A := 128) (B := 128) 16384 (by omega) (by omega) rfl
  have h12 := mul_bd (a := a6) (b := a7) (A := 128) (B := 128) 16384 (by omega) (by omega) rfl
  have q1 := mul_bd (a := q) (b := (a0 + a3 + a6) * (a1 + a4 + a7) + a0 * a1 + a3 * a4 + a6 * a7) (A := 100) (B := 196608) 19660800 (by omega) (by omega) rfl
  clear g1 h10 h11 h12
  have g2 := mul_bd (a := (a0 + a3 + a6)) (b := (a2 + a5 + a8)) (A := 384) (B := 384) 147456 (by omega) (by omega) rfl
  have h20 := mul_bd (a := a0) (b := a2) (A := 128) (B := 128) 16384 (by omega) (by omega) rfl
  have h21 := mul_bd (a := a3) (b := a5) (A := 128) (B := 128) 16384 (by omega) (by omega) rfl
  have h22 := mul_bd (a := a6) (b := a8) (A := 128) (B := 128) 16384 (by omega) (by omega) rfl
  have q2 := mul_bd (a := q) (b := (a0 + a3 + a6) * (a2 + a5 + a8) + a0 * a2 + a3 * a5 + a6 * a8) (A := 100) (B := 196608) 19660800 (by omega) (by omega) rfl
  clear g2 h20 h21 h22
  have g3 := mul_bd (a := (a1 + a4 + a7)) (b := (a1 + a4 + a7)) (A := 384) (B := 384) 147456 (by omega) (by omega) rfl
  have h30 := mul_bd (a := a1) (b := a1) (A := 128) (B := 128) 16384 (by omega) (by omega) rfl
  have h31 := mul_bd (a := a4) (b := a4) (A := 128) (B := 128) 16384 (by omega) (by omega) rfl
  have h32 := mul_bd (a := a7) (b := a7) (A := 128) (B := 128) 16384 (by omega) (by omega) rfl
  have q3 := mul_bd (a := q) (b := (a1 + a4 + a7) * (a1 + a4 + a7) + a1 * a1 + a4 * a4 + a7 * a7) (A := 100) (B := 196608) 19660800 (by omega) (by omega) rfl
  clear g3 h30 h31 h32
  have g4 := mul_bd (a := (a1 + a4 + a7)) (b := (a2 + a5 + a8)) (A := 384) (B := 384) 147456 (by omega) (by omega) rfl
  have h40 := mul_bd (a := a1) (b := a2) (A := 128) (B := 128) 16384 (by omega) (by omega) rfl
  have h41 := mul_bd (a := a4) (b := a5) (A := 128) (B := 128) 16384 (by omega) (by omega) rfl
  have h42 := mul_bd (a := a7) (b := a8) (A := 128) (B := 128) 16384 (by omega) (by omega) rfl
  have q4 := mul_bd (a := q) (b := (a1 + a4 + a7) * (a2 + a5 + a8) + a1 * a2 + a4 * a5 + a7 * a8) (A := 100) (B := 196608) 19660800 (by omega) (by omega) rfl
  clear g4 h40 h41 h42
  have g5 := mul_bd (a := (a2 + a5 + a8)) (b := (a2 + a5 + a8)) (A := 384) (B := 384) 147456 (by omega) (by omega) rfl
  have h50 := mul_bd (a := a2) (b := a2) (A := 128) (B := 128) 16384 (by omega) (by omega) rfl
  have h51 := mul_bd (a := a5) (b := a5) (A := 128) (B := 128) 16384 (by omega) (by omega) rfl
  have h52 := mul_bd (a := a8) (b := a8) (A := 128) (B := 128) 16384 (by omega) (by omega) rfl
  have q5 := mul_bd (a := q) (b := (a2 + a5 + a8) * (a2 + a5 + a8) + a2 * a2 + a5 * a5 + a8 * a8) (A := 100) (B := 196608) 19660800 (by omega) (by omega) rfl
  clear g5 h50 h51 h52
  unfold MoB addA
  simp only
  refine ⟨?_, ?_, ?_, ?_, ?_, ?_, ?_, ?_, ?_, ?_, ?_⟩ <;> omega
theorem momF_bd {f : Nat → Nat → Int} {c0 c1 c2 : Int} {n k : Nat} (h : firstE f n = 0) (hc : inB c0 c1 c2 64 = true) (hk : k ≤ n) : MoB (momF f c0 c1 c2 k) k := by
  have b := inB_true hc
  induction k with
  | zero => unfold MoB momF moZ; simp
  | succ k ih =>
    have b2 := chE_bd (chE_at (show k < n by omega) h)
    have := addA_bd (ih (by omega)) (q := f k 9) (by omega) (a0 := f k 0 - c0) (a1 := f k 1 - c1) (a2 := f k 2 - c2) (a3 := f k 3 - c0) (a4 := f k 4 - c1) (a5 := f k 5 - c2) (a6 := f k 6 - c0) (a7 := f k 7 - c1) (a8 := f k 8 - c2) (by omega)
    rw [show ((k + 1 : Nat) : Int) = (k : Int) + 1 by omega]
    exact this
theorem givE_ok {n : Nat} {f : Nat → Nat → Int} {c0 c1 c2 : Int} (h : givE n f c0 c1 c2 = 0) : n ≤ 96 ∧ firstE f n = 0 ∧ inB c0 c1 c2 64 = true := by
  unfold givE at h
  split at h
  · rename_i v
    split at h
    · rename_i b
      unfold vchS at v
      split at v
      · cases v
      · exact ⟨by omega, v, b⟩
    · cases h
  · rename_i v; exact absurd h v
set_option maxRecDepth 100000 in
set_option maxHeartbeats 8000000 in
theorem mof_any (A : Option Addr) (n cap : Nat) (f : Nat → Nat → Int) (c0 c1 c2 : Int) (w : World) (hn : n ≤ 9223372036854775807) (hs : RowsAt w A n 10 f) :
    Calls Tryd.prog 30 #[.slice A n cap, .agg #[.int .i64 c0, .int .i64 c1, .int .i64 c2]] w fun r w' => r = .returned (.tuple #[.agg #[.int .i64 ((ofM n f c0 c1 c2).m).q, .int .i64 ((ofM n f c0 c1 c2).m).t, .int .i64 ((ofM n f c0 c1 c2).m).x, .int .i64 ((ofM n f c0 c1 c2).m).y, .int .i64 ((ofM n f c0 c1 c2).m).z, .int .i64 ((ofM n f c0 c1 c2).m).a, .int .i64 ((ofM n f c0 c1 c2).m).b, .int .i64 ((ofM n f c0 c1 c2).m).c, .int .i64 ((ofM n f c0 c1 c2).m).d, .int .i64 ((ofM n f c0 c1 c2).m).e, .int .i64 ((ofM n f c0 c1 c2).m).f], .int .i64 (ofM n f c0 c1 c2).e]) ∧ Kept w w' := by
  have HS := Lib.hid hs
  by_cases v0 : givE n f c0 c1 c2 = 0
  · have e : ofM n f c0 c1 c2 = ⟨momF f c0 c1 c2 n, 0⟩ := if_pos v0
    rw [e]
    clear e
    obtain ⟨n0, n1, n2⟩ := givE_ok v0
    have N1 := Lib.hid n1
    have N2 := Lib.hid n2
    have bc := inB_true n2
    have g1 : (givE n f c0 c1 c2 != 0) = false := by simpa using v0
    clear v0 n1 n2
    rcases Nat.eq_zero_or_pos n with rfl | h0
    · clear hs
      go_enter Tryd.func30, Tryd.ntmps30
      go_wp2_with fail
      refine (mcharged_any _ _ _ f _ _ _ _ (by omega) (HS.out.of (by (repeat (first | exact Kept.refl _ | assumption | refine Kept.alloc ?_ _ | refine Kept.ext ?_ _ | refine Kept.drew ?_ | refine Kept.drewN ?_ _))))).mono ?_
      rintro e w1 ⟨rfl, x0, rfl⟩
      go_wp2_with fail
      refine wp_loop_rounds 1 ?_
      rw [rounds_succ]
      go_wp2_with fail
      refine bodyPost_ret (by simp only [results, Tryd.results30]; go_simp; rfl) rfl ?_
      exact ⟨rfl, by (repeat (first | exact Kept.refl _ | assumption | refine Kept.alloc ?_ _ | refine Kept.ext ?_ _ | refine Kept.drew ?_ | refine Kept.drewN ?_ _))⟩
    · obtain ⟨b, off, rfl, hb, hcell⟩ := hs h0
      have HC := Lib.hid hcell
      clear hs hcell
      have LB : Lower b w.heap.size := ⟨hb⟩
      go_enter Tryd.func30, Tryd.ntmps30
      go_wp2_with fail
      refine (mcharged_any _ _ _ f _ _ _ _ (by omega) (HS.out.of (by (repeat (first | exact Kept.refl _ | assumption | refine Kept.alloc ?_ _ | refine Kept.ext ?_ _ | refine Kept.drew ?_ | refine Kept.drewN ?_ _))))).mono ?_
      rintro e w1 ⟨rfl, x0, rfl⟩
      go_wp2_with fail
      go_loopw [22] (fun i wr => ∃ k : Nat, k ≤ n ∧ i = .int .i64 k ∧ ∃ y, wr = ext (World.alloc (ext ((w.alloc (.cells #[.int .i64 c0, .int .i64 c1, .int .i64 c2] 36)).alloc (.cells #[.int .i64 0, .int .i64 0, .int .i64 0, .int .i64 0, .int .i64 0, .int .i64 0, .int .i64 0, .int .i64 0, .int .i64 0, .int .i64 0, .int .i64 0] 39)) x0) (.cells #[.int .i64 ((momF f c0 c1 c2 k).q), .int .i64 ((momF f c0 c1 c2 k).t), .int .i64 ((momF f c0 c1 c2 k).x), .int .i64 ((momF f c0 c1 c2 k).y), .int .i64 ((momF f c0 c1 c2 k).z), .int .i64 ((momF f c0 c1 c2 k).a), .int .i64 ((momF f c0 c1 c2 k).b), .int .i64 ((momF f c0 c1 c2 k).c), .int .i64 ((momF f c0 c1 c2 k).d), .int .i64 ((momF f c0 c1 c2 k).e), .int .i64 ((momF f c0 c1 c2 k).f), .int .i64 c0, .int .i64 c1, .int .i64 c2] 109)) y) (fun i _ => n - (intOf i).toNat)
      case atStart => exact ⟨0, by omega, rfl, show Kept _ _ by (repeat (first | exact Kept.refl _ | assumption | refine Kept.alloc ?_ _ | refine Kept.ext ?_ _ | refine Kept.drew ?_ | refine Kept.drewN ?_ _))⟩
      case round =>
        obtain ⟨k, hk, rfl, y, rfl⟩ := hrel
        by_cases hlt : k < n
        · have hcell := HC.out
          have cx0 := (hcell k hlt 0 (by omega)).1
          have cx1 := (hcell k hlt 1 (by omega)).1
          have cx2 := (hcell k hlt 2 (by omega)).1
          have cx3 := (hcell k hlt 3 (by omega)).1
          have cx4 := (hcell k hlt 4 (by omega)).1
          have cx5 := (hcell k hlt 5 (by omega)).1
          have cx6 := (hcell k hlt 6 (by omega)).1
          have cx7 := (hcell k hlt 7 (by omega)).1
          have cx8 := (hcell k hlt 8 (by omega)).1
          have cx9 := (hcell k hlt 9 (by omega)).1
          simp only [Nat.add_zero] at cx0
          clear hcell
          go_wp2_with fail
          refine calls_kept (World.alloc (ext ((w.alloc (.cells #[.int .i64 c0, .int .i64 c1, .int .i64 c2] 36)).alloc (.cells #[.int .i64 0, .int .i64 0, .int .i64 0, .int .i64 0, .int .i64 0, .int .i64 0, .int .i64 0, .int .i64 0, .int .i64 0, .int .i64 0, .int .i64 0] 39)) x0) (.cells #[.int .i64 ((momF f c0 c1 c2 k).q), .int .i64 ((momF f c0 c1 c2 k).t), .int .i64 ((momF f c0 c1 c2 k).x), .int .i64 ((momF f c0 c1 c2 k).y), .int .i64 ((momF f c0 c1 c2 k).z), .int .i64 ((momF f c0 c1 c2 k).a), .int .i64 ((momF f c0 c1 c2 k).b), .int .i64 ((momF f c0 c1 c2 k).c), .int .i64 ((momF f c0 c1 c2 k).d), .int .i64 ((momF f c0 c1 c2 k).e), .int .i64 ((momF f c0 c1 c2 k).f), .int .i64 c0, .int .i64 c1, .int .i64 c2] 109)) (by (repeat (first | exact Kept.refl _ | assumption | refine Kept.alloc ?_ _ | refine Kept.ext ?_ _ | refine Kept.drew ?_ | refine Kept.drewN ?_ _))) (fun z => ?_)
          have bm := momF_bd N1.out N2.out (show k ≤ n by omega)
          have bf := chE_bd (chE_at hlt N1.out)
          obtain ⟨u0, u1, u2, u3, u4, u5, u6, u7, u8, u9, u10⟩ := bm
          refine (about_add _ _ (momF f c0 c1 c2 k).q (momF f c0 c1 c2 k).t (momF f c0 c1 c2 k).x (momF f c0 c1 c2 k).y (momF f c0 c1 c2 k).z (momF f c0 c1 c2 k).a (momF f c0 c1 c2 k).b (momF f c0 c1 c2 k).c (momF f c0 c1 c2 k).d (momF f c0 c1 c2 k).e (momF f c0 c1 c2 k).f (f k 0) (f k 1) (f k 2) (f k 3) (f k 4) (f k 5) (f k 6) (f k 7) (f k 8) (f k 9) c0 c1 c2 z (by simp) (by omega)).mono ?_
          rintro e w1 ⟨rfl, a0, a1, a2, a3, a4, a5, a6, a7, a8, ⟨rfl, rfl, rfl, rfl, rfl, rfl, rfl, rfl, rfl⟩, hkk⟩
          have hkk2 : Kept (World.alloc (ext ((w.alloc (.cells #[.int .i64 c0, .int .i64 c1, .int .i64 c2] 36)).alloc (.cells #[.int .i64 0, .int .i64 0, .int .i64 0, .int .i64 0, .int .i64 0, .int .i64 0, .int .i64 0, .int .i64 0, .int .i64 0, .int .i64 0, .int .i64 0] 39)) x0) (.cells #[.int .i64 ((momF f c0 c1 c2 (k + 1)).q), .int .i64 ((momF f c0 c1 c2 (k + 1)).t), .int .i64 ((momF f c0 c1 c2 (k + 1)).x), .int .i64 ((momF f c0 c1 c2 (k + 1)).y), .int .i64 ((momF f c0 c1 c2 (k + 1)).z), .int .i64 ((momF f c0 c1 c2 (k + 1)).a), .int .i64 ((momF f c0 c1 c2 (k + 1)).b), .int .i64 ((momF f c0 c1 c2 (k + 1)).c), .int .i64 ((momF f c0 c1 c2 (k + 1)).d), .int .i64 ((momF f c0 c1 c2 (k + 1)).e), .int .i64 ((momF f c0 c1 c2 (k + 1)).f), .int .i64 c0, .int .i64 c1, .int .i64 c2] 109)) w1 := hkk
          clear hkk u0 u1 u2 u3 u4 u5 u6 u7 u8 u9 u10 bf
          obtain ⟨z2, rfl⟩ := hkk2
          go_wp2_with fail
          go_roundw
          case rel => exact ⟨k + 1, by omega, by go_num, show Kept (World.alloc (ext ((w.alloc (.cells #[.int .i64 c0, .int .i64 c1, .int .i64 c2] 36)).alloc (.cells #[.int .i64 0, .int .i64 0, .int .i64 0, .int .i64 0, .int .i64 0, .int .i64 0, .int .i64 0, .int .i64 0, .int .i64 0, .int .i64 0, .int .i64 0] 39)) x0) (.cells #[.int .i64 ((momF f c0 c1 c2 (k + 1)).q), .int .i64 ((momF f c0 c1 c2 (k + 1)).t), .int .i64 ((momF f c0 c1 c2 (k + 1)).x), .int .i64 ((momF f c0 c1 c2 (k + 1)).y), .int .i64 ((momF f c0 c1 c2 (k + 1)).z), .int .i64 ((momF f c0 c1 c2 (k + 1)).a), .int .i64 ((momF f c0 c1 c2 (k + 1)).b), .int .i64 ((momF f c0 c1 c2 (k + 1)).c), .int .i64 ((momF f c0 c1 c2 (k + 1)).d), .int .i64 ((momF f c0 c1 c2 (k + 1)).e), .int .i64 ((momF f c0 c1 c2 (k + 1)).f), .int .i64 c0, .int .i64 c1, .int .i64 c2] 109)) _ by (repeat (first | exact Kept.refl _ | assumption | refine Kept.alloc ?_ _ | refine Kept.ext ?_ _ | refine Kept.drew ?_ | refine Kept.drewN ?_ _))⟩
          case measure => simp [intOf]; omega
        · obtain rfl : k = n := by omega
          go_wp2_with fail
          refine bodyPost_ret (by simp only [results, Tryd.results30]; go_simp; rfl) rfl ?_
          exact ⟨rfl, by (repeat (first | exact Kept.refl _ | assumption | refine Kept.alloc ?_ _ | refine Kept.ext ?_ _ | refine Kept.drew ?_ | refine Kept.drewN ?_ _))⟩
  · have e : ofM n f c0 c1 c2 = ⟨moZ, givE n f c0 c1 c2⟩ := if_neg v0
    rw [e]
    clear e hs
    have g1 : (givE n f c0 c1 c2 != 0) = true := by simpa using v0
    clear v0
    go_enter Tryd.func30, Tryd.ntmps30
    go_wp2_with fail
    refine (mcharged_any _ _ _ f _ _ _ _ (by omega) (HS.out.of (by (repeat (first | exact Kept.refl _ | assumption | refine Kept.alloc ?_ _ | refine Kept.ext ?_ _ | refine Kept.drew ?_ | refine Kept.drewN ?_ _))))).mono ?_
    rintro e w1 ⟨rfl, x0, rfl⟩
    go_wp2_with fail
    refine bodyPost_ret (by simp only [results, Tryd.results30]; go_simp; rfl) rfl ?_
    exact ⟨rfl, by (repeat (first | exact Kept.refl _ | assumption | refine Kept.alloc ?_ _ | refine Kept.ext ?_ _ | refine Kept.drew ?_ | refine Kept.drewN ?_ _))⟩
end Go.Proofs.YtbefphfgcbbcpaaDoor
