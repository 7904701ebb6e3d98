/- Contracts: the panel of a face, products of corners, of the program and of the reference. Conditions: corners are numbers of points. -/
import Derived.Test.YtoadlneneijfaaaGsp
namespace Go.Proofs.Ytoadlneneijfaaa
set_option linter.unusedVariables false
set_option linter.unusedSimpArgs false
open Go.RowKit
@[go_sem] theorem idx3_0 (a b c : Int) (w : World) : (Instr.index 54 (.agg #[.int .i64 a, .int .i64 b, .int .i64 c]) (.int .i64 0)).run Try.prog w = .ok (.int .i64 a) w := by kernel_rfl
@[go_sem] theorem idx3_1 (a b c : Int) (w : World) : (Instr.index 54 (.agg #[.int .i64 a, .int .i64 b, .int .i64 c]) (.int .i64 1)).run Try.prog w = .ok (.int .i64 b) w := by kernel_rfl
@[go_sem] theorem idx3_2 (a b c : Int) (w : World) : (Instr.index 54 (.agg #[.int .i64 a, .int .i64 b, .int .i64 c]) (.int .i64 2)).run Try.prog w = .ok (.int .i64 c) w := by kernel_rfl
@[go_sem] theorem idxs_0 (a b c d e f : Int) (w : World) : (Instr.index 82 (.agg #[.int .i64 a, .int .i64 b, .int .i64 c, .int .i64 d, .int .i64 e, .int .i64 f]) (.int .i64 0)).run Try.prog w = .ok (.agg #[.int .i64 a, .int .i64 b]) w := by kernel_rfl
@[go_sem] theorem idxs_1 (a b c d e f : Int) (w : World) : (Instr.index 82 (.agg #[.int .i64 a, .int .i64 b, .int .i64 c, .int .i64 d, .int .i64 e, .int .i64 f]) (.int .i64 1)).run Try.prog w = .ok (.agg #[.int .i64 c, .int .i64 d]) w := by kernel_rfl
@[go_sem] theorem idxs_2 (a b c d e f : Int) (w : World) : (Instr.index 82 (.agg #[.int .i64 a, .int .i64 b, .int .i64 c, .int .i64 d, .int .i64 e, .int .i64 f]) (.int .i64 2)).run Try.prog w = .ok (.agg #[.int .i64 e, .int .i64 f]) w := by kernel_rfl
/-- What is at hand of a list of elements of three cells, at a Nat. -/
theorem rows3 {w : World} {A : Option Addr} {n k : Nat} {f : Nat → Nat → Int} (h : RowsAt w A n 3 f) (hk : k < n) :
    ∃ b off, A = some ⟨b, off, none⟩ ∧ b < w.heap.size ∧ w.cell? ⟨b, off + k * 3, none⟩ = some (.int .i64 (f k 0)) ∧ w.cell? ⟨b, off + k * 3 + 1, none⟩ = some (.int .i64 (f k 1)) ∧ w.cell? ⟨b, off + k * 3 + 2, none⟩ = some (.int .i64 (f k 2)) := by
  obtain ⟨b, off, rfl, hb, hc⟩ := h (by omega)
  have h0 := (hc k hk 0 (by omega)).1
  have h1 := (hc k hk 1 (by omega)).1
  have h2 := (hc k hk 2 (by omega)).1
  rw [Nat.add_zero] at h0
  exact ⟨b, off, rfl, hb, h0, h1, h2⟩
theorem sdot_any (a0 a1 a2 b0 b1 b2 : Int) (w : World) (h : (-1099511627776 ≤ a0 * b0 ∧ a0 * b0 ≤ 1099511627776) ∧ (-1099511627776 ≤ a1 * b1 ∧ a1 * b1 ≤ 1099511627776) ∧ (-1099511627776 ≤ a2 * b2 ∧ a2 * b2 ≤ 1099511627776)) :
    Calls Try.prog 110 #[.agg #[.int .i64 a0, .int .i64 a1, .int .i64 a2], .agg #[.int .i64 b0, .int .i64 b1, .int .i64 b2]] w fun e w' => e = .returned (.int .i64 (a0 * b0 + a1 * b1 + a2 * b2)) ∧ Kept w w' := by
  go_enter Try.func110, Try.ntmps110
  go_wp2
  go_ret
  exact ⟨rfl, by (repeat (first | exact Kept.refl _ | assumption | refine Kept.alloc ?_ _ | refine Kept.ext ?_ _ | refine Kept.drew ?_ | refine Kept.drewN ?_ _))⟩
theorem r2dot_any (a0 a1 a2 b0 b1 b2 : Int) (w : World) (h : (-1099511627776 ≤ a0 * b0 ∧ a0 * b0 ≤ 1099511627776) ∧ (-1099511627776 ≤ a1 * b1 ∧ a1 * b1 ≤ 1099511627776) ∧ (-1099511627776 ≤ a2 * b2 ∧ a2 * b2 ≤ 1099511627776)) :
    Calls Try.prog 99 #[.agg #[.int .i64 a0, .int .i64 a1, .int .i64 a2], .agg #[.int .i64 b0, .int .i64 b1, .int .i64 b2]] w fun e w' => e = .returned (.int .i64 (a0 * b0 + a1 * b1 + a2 * b2)) ∧ Kept w w' := by
  go_enter Try.func99, Try.ntmps99
  go_wp2
  go_ret
  exact ⟨rfl, by (repeat (first | exact Kept.refl _ | assumption | refine Kept.alloc ?_ _ | refine Kept.ext ?_ _ | refine Kept.drew ?_ | refine Kept.drewN ?_ _))⟩
theorem cross_key {a x y z v : Int} (ha : -512 ≤ a ∧ a ≤ 512) (hx : -512 ≤ x ∧ x ≤ 512) (hy : -512 ≤ y ∧ y ≤ 512) (hz : -512 ≤ z ∧ z ≤ 512) (hv : -512 ≤ v ∧ v ≤ 512) :
    -1099511627776 ≤ a * (x * y - z * v) ∧ a * (x * y - z * v) ≤ 1099511627776 := by
  have h1 := mul_sq 512 262144 hx hy rfl
  have h2 := mul_sq 512 262144 hz hv rfl
  have := mul_bd 268435456 ha (show -524288 ≤ x * y - z * v ∧ x * y - z * v ≤ 524288 by omega) rfl
  omega
theorem sproduct_any (p0 p1 p2 p3 p4 p5 p6 p7 p8 : Int) (w : World) (h : (-512 ≤ p0 ∧ p0 ≤ 512) ∧ (-512 ≤ p1 ∧ p1 ≤ 512) ∧ (-512 ≤ p2 ∧ p2 ≤ 512) ∧ (-512 ≤ p3 ∧ p3 ≤ 512) ∧ (-512 ≤ p4 ∧ p4 ≤ 512) ∧ (-512 ≤ p5 ∧ p5 ≤ 512) ∧ (-512 ≤ p6 ∧ p6 ≤ 512) ∧ (-512 ≤ p7 ∧ p7 ≤ 512) ∧ (-512 ≤ p8 ∧ p8 ≤ 512)) :
    Calls Try.prog 94 #[.agg #[.int .i64 p0, .int .i64 p1, .int .i64 p2, .int .i64 p3, .int .i64 p4, .int .i64 p5, .int .i64 p6, .int .i64 p7, .int .i64 p8]] w fun e w' => e = .returned (.int .i64 (pr9 p0 p1 p2 p3 p4 p5 p6 p7 p8)) ∧ Kept w w' := by
  obtain ⟨h0, h1, h2, h3, h4, h5, h6, h7, h8⟩ := h
  have k0 := cross_key h0 h4 h8 h5 h7
  have k1 := cross_key h1 h5 h6 h3 h8
  have k2 := cross_key h2 h3 h7 h4 h6
  go_enter Try.func94, Try.ntmps94
  go_wp2
  ((first | (with_reducible refine wp_region_tail2 8 (by kernel_rfl) (by kernel_rfl) ?_) | refine wp_region_tail 8 (by kernel_rfl) (by kernel_rfl) ?_); simp only [List.take_succ_cons, List.take_zero, List.drop_succ_cons, List.drop_zero]; (repeat (go_big_quiet_step (first | (go_at_call 96; exact Calls.kept_of (scross_any _ _ _ _ _ _ _ (by omega))) | (go_at_call 110; exact Calls.kept_of (sdot_any _ _ _ _ _ _ _ (by omega)))))); refine wpQuiet_nil ?_; intro x)
  go_wp2
  go_ret
  exact ⟨rfl, by (repeat (first | exact Kept.refl _ | assumption | refine Kept.alloc ?_ _ | refine Kept.ext ?_ _ | refine Kept.drew ?_ | refine Kept.drewN ?_ _))⟩
set_option maxHeartbeats 2000000 in
theorem spanel_any (A B : Option Addr) (n cap m cap2 : Nat) (k0 k1 k2 : Nat) (P : Nat → Nat → Int) (w : World) (hk : k0 < n ∧ k1 < n ∧ k2 < n ∧ n ≤ 9223372036854775807) (hP : RowsAt w A n 3 P) :
    Calls Try.prog 117 #[.agg #[.slice A n cap, .slice B m cap2], .agg #[.int .i64 k0, .int .i64 k1, .int .i64 k2]] w fun e w' => e = .returned (.agg #[.int .i64 (P k0 0), .int .i64 (P k0 1), .int .i64 (P k0 2), .int .i64 (P k1 0), .int .i64 (P k1 1), .int .i64 (P k1 2), .int .i64 (P k2 0), .int .i64 (P k2 1), .int .i64 (P k2 2)]) ∧ Kept w w' := by
  obtain ⟨h0, h1, h2, h3⟩ := hk
  obtain ⟨b, off, rfl, hb, x0, x1, x2⟩ := rows3 hP h0
  obtain ⟨b', off', e, -, y0, y1, y2⟩ := rows3 hP h1
  cases e
  obtain ⟨b', off', e, -, z0, z1, z2⟩ := rows3 hP h2
  cases e
  clear hP
  have LB : Lower b w.heap.size := ⟨hb⟩
  go_enter Try.func117, Try.ntmps117
  go_wp2
  ((first | (with_reducible refine wp_region_tail2 19 (by kernel_rfl) (by kernel_rfl) ?_) | refine wp_region_tail 19 (by kernel_rfl) (by kernel_rfl) ?_); simp only [List.take_succ_cons, List.take_zero, List.drop_succ_cons, List.drop_zero]; (repeat (go_big_quiet_step (first | fail))); refine wpQuiet_nil ?_; intro x)
  go_wp2
  refine bodyPost_ret (by simp only [results, Try.results117]; go_simp; rfl) rfl ?_
  exact ⟨rfl, by (repeat (first | exact Kept.refl _ | assumption | refine Kept.alloc ?_ _ | refine Kept.ext ?_ _ | refine Kept.drew ?_ | refine Kept.drewN ?_ _))⟩
/-- The corners of a face in order. -/
def faceV (P F : Nat → Nat → Int) (i : Nat) : Value := .agg #[.int .i64 (co P F i 0 0), .int .i64 (co P F i 0 1), .int .i64 (co P F i 0 2), .int .i64 (co P F i 1 0), .int .i64 (co P F i 1 1), .int .i64 (co P F i 1 2), .int .i64 (co P F i 2 0), .int .i64 (co P F i 2 1), .int .i64 (co P F i 2 2)]
theorem co_at {P F : Nat → Nat → Int} {i k q c : Nat} (h : F i k = q) : co P F i k c = P q c := by unfold co; rw [h, Int.toNat_natCast]
theorem spanelF_any (A B : Option Addr) (n cap m cap2 : Nat) (P F : Nat → Nat → Int) (i : Nat) (w : World) (hc : cornB n F i = true) (hn : n ≤ 9223372036854775807) (hP : RowsAt w A n 3 P) :
    Calls Try.prog 117 #[.agg #[.slice A n cap, .slice B m cap2], .agg #[.int .i64 (F i 0), .int .i64 (F i 1), .int .i64 (F i 2)]] w fun e w' => e = .returned (faceV P F i) ∧ Kept w w' := by
  obtain ⟨⟨a0, a1⟩, ⟨b0, b1⟩, c0, c1⟩ := cornB_true hc
  obtain ⟨k0, e0⟩ := Int.eq_ofNat_of_zero_le a0
  obtain ⟨k1, e1⟩ := Int.eq_ofNat_of_zero_le b0
  obtain ⟨k2, e2⟩ := Int.eq_ofNat_of_zero_le c0
  have := spanel_any A B n cap m cap2 k0 k1 k2 P w (by omega) hP
  unfold faceV
  rw [co_at e0, co_at e0, co_at e0, co_at e1, co_at e1, co_at e1, co_at e2, co_at e2, co_at e2, e0, e1, e2]
  exact this
set_option maxHeartbeats 2000000 in
theorem r2corners_any (A B : Option Addr) (n cap m cap2 : Nat) (P F : Nat → Nat → Int) (i : Nat) (w : World) (hc : cornB n F i = true) (hn : n ≤ 9223372036854775807 ∧ m ≤ 9223372036854775807 ∧ i < m) (hP : RowsAt w A n 3 P) (hF : RowsAt w B m 3 F) :
    Calls Try.prog 72 #[.agg #[.slice A n cap, .slice B m cap2], .int .i64 i] w fun e w' => e = .returned (faceV P F i) ∧ Kept w w' := by
  obtain ⟨⟨a0, a1⟩, ⟨b0, b1⟩, c0, c1⟩ := cornB_true hc
  obtain ⟨k0, e0⟩ := Int.eq_ofNat_of_zero_le a0
  obtain ⟨k1, e1⟩ := Int.eq_ofNat_of_zero_le b0
  obtain ⟨k2, e2⟩ := Int.eq_ofNat_of_zero_le c0
  obtain ⟨h1, h2, h3⟩ := hn
  obtain ⟨b, off, rfl, hb, x0, x1, x2⟩ := rows3 hP (show k0 < n by omega)
  obtain ⟨b', off', e, -, y0, y1, y2⟩ := rows3 hP (show k1 < n by omega)
  cases e
  obtain ⟨b', off', e, -, z0, z1, z2⟩ := rows3 hP (show k2 < n by omega)
  cases e
  obtain ⟨d, off2, rfl, hd, f0, f1, f2⟩ := rows3 hF h3
  unfold faceV
  rw [co_at e0, co_at e0, co_at e0, co_at e1, co_at e1, co_at e1, co_at e2, co_at e2, co_at e2]
  rw [e0] at f0
  rw [e1] at f1
  rw [e2] at f2
  have g0 : k0 < n := by omega
  have g1 : k1 < n := by omega
  have g2 : k2 < n := by omega
  clear hP hF e0 e1 e2 a0 a1 b0 b1 c0 c1 hc
  have LB : Lower b w.heap.size := ⟨hb⟩
  have LD : Lower d w.heap.size := ⟨hd⟩
  go_enter Try.func72, Try.ntmps72
  go_wp2
  ((first | (with_reducible refine wp_region_tail2 19 (by kernel_rfl) (by kernel_rfl) ?_) | refine wp_region_tail 19 (by kernel_rfl) (by kernel_rfl) ?_); simp only [List.take_succ_cons, List.take_zero, List.drop_succ_cons, List.drop_zero]; (repeat (go_big_quiet_step (first | fail))); refine wpQuiet_nil ?_; intro x)
  go_wp2
  refine bodyPost_ret (by simp only [results, Try.results72]; go_simp; rfl) rfl ?_
  exact ⟨rfl, by (repeat (first | exact Kept.refl _ | assumption | refine Kept.alloc ?_ _ | refine Kept.ext ?_ _ | refine Kept.drew ?_ | refine Kept.drewN ?_ _))⟩
end Go.Proofs.Ytoadlneneijfaaa
