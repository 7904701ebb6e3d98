/- Contract: a quotient of 128 bits by 64. Conditions: those of each theorem. Quotients in fixed point: plain facts. Contracts: quotients of the program and of the reference. Conditions: those of each theorem. -/
import Derived.Test.YtodmdicegkjicaaZb
namespace Go.Proofs.Ytodmdicegkjicaa
set_option linter.unusedVariables false
set_option linter.unusedSimpArgs false
open Go.RowKit
def lzN (y : Nat) : Nat := 64 - Lib.bitLen y
theorem lz_any (y : Nat) (w : World) (h1 : y < 18446744073709551616) :
    Calls Try.prog 81 #[.int .u64 y] w fun e w' => e = .returned (.int .i64 (lzN y)) ∧ w = w' := by
  have := zeros64_any y w (by omega) (by omega)
  have l : Lib.bitLen y ≤ 64 := Lib.bitLen_le y 64 (by omega) (by omega)
  rw [show (y : Int).toNat = y by omega, show (64 - (Lib.bitLen y : Int)) = (lzN y : Int) by unfold lzN; omega] at this
  exact this
theorem bl_spec : ∀ (y : Nat), 0 < y → y < 2 ^ 64 → ∃ L, Lib.bitLen y = L + 1 ∧ 2 ^ L ≤ y ∧ y < 2 ^ (L + 1) := by
  intro y
  induction y using Nat.strongRecOn with
  | _ y ih =>
    intro h0 h1
    rw [Lib.bitLen_half y (by omega) h1]
    by_cases h2 : y / 2 = 0
    · have : y = 1 := by omega
      subst this
      exact ⟨0, by decide, by decide, by decide⟩
    · obtain ⟨L, e, a, b⟩ := ih (y / 2) (by omega) (by omega) (by omega)
      refine ⟨L + 1, by omega, ?_, ?_⟩
      · rw [Nat.pow_succ]; omega
      · rw [Nat.pow_succ]; omega
/-- Shifted by its leading zeros a word has 64 bits. -/
theorem lz_norm {y : Nat} (h0 : 0 < y) (h1 : y < 18446744073709551616) : lzN y < 64 ∧ 9223372036854775808 ≤ y * 2 ^ lzN y ∧ y * 2 ^ lzN y < 18446744073709551616 := by
  obtain ⟨L, e, a, b⟩ := bl_spec y h0 h1
  have l : Lib.bitLen y ≤ 64 := Lib.bitLen_le y 64 (by omega) (by omega)
  have hs : lzN y + L = 63 := by unfold lzN; omega
  refine ⟨by omega, ?_, ?_⟩
  · have : 2 ^ L * 2 ^ lzN y ≤ y * 2 ^ lzN y := Nat.mul_le_mul_right _ a
    rw [← Nat.pow_add, show L + lzN y = 63 by omega] at this
    omega
  · have : y * 2 ^ lzN y < 2 ^ (L + 1) * 2 ^ lzN y := (Nat.mul_lt_mul_right (Nat.two_pow_pos _)).2 b
    rw [← Nat.pow_add, show L + 1 + lzN y = 64 by omega] at this
    omega
/-- The shifted dividend: its upper word, and its lower one. -/
theorem sh_words {hi lo s : Nat} (hs : s < 64) (h : hi * 2 ^ s < 18446744073709551616) (hl : lo < 18446744073709551616) :
    bits .or .u64 (IntKind.u64.wrap ((hi : Int) * 2 ^ s)) ((lo : Int) / 2 ^ (64 - s)) = ((hi * 2 ^ s + lo / 2 ^ (64 - s) : Nat) : Int) ∧ (hi * 2 ^ s + lo / 2 ^ (64 - s)) * 18446744073709551616 + lo * 2 ^ s % 18446744073709551616 = (hi * 18446744073709551616 + lo) * 2 ^ s := by
  have e : (2 : Nat) ^ s * 2 ^ (64 - s) = 18446744073709551616 := by rw [← Nat.pow_add, show s + (64 - s) = 64 by omega]
  have hq : lo / 2 ^ (64 - s) < 2 ^ s := by
    rw [Nat.div_lt_iff_lt_mul (Nat.two_pow_pos _), e]
    exact hl
  constructor
  · have e1 : (hi : Int) * 2 ^ s = ((hi * 2 ^ s : Nat) : Int) := by simp
    have e2 : (lo : Int) / 2 ^ (64 - s) = ((lo / 2 ^ (64 - s) : Nat) : Int) := by simp
    have hs2 : (2 : Nat) ^ s ≤ 2 ^ 64 := Nat.pow_le_pow_right (by decide) (by omega)
    rw [e1, e2, Mul.wrapN _ h, bits_or_u64_nat _ _ h (by omega)]
    congr 1
    rw [Nat.mul_comm hi, ← Nat.two_pow_add_eq_or_of_lt hq]
  · have hm := Nat.div_add_mod lo (2 ^ (64 - s))
    generalize hQ : lo / 2 ^ (64 - s) = Q at *
    generalize hR : lo % 2 ^ (64 - s) = R at *
    have hRl : R < 2 ^ (64 - s) := by rw [← hR]; exact Nat.mod_lt _ (Nat.two_pow_pos _)
    have k1 : lo * 2 ^ s = Q * 18446744073709551616 + R * 2 ^ s := by
      rw [← hm, Nat.add_mul, ← e]
      congr 1
      rw [Nat.mul_comm (2 ^ (64 - s)) Q, Nat.mul_assoc, Nat.mul_comm (2 ^ (64 - s))]
    have k2 : R * 2 ^ s < 18446744073709551616 := by
      rw [← e, Nat.mul_comm (2 ^ s)]
      exact (Nat.mul_lt_mul_right (Nat.two_pow_pos _)).2 hRl
    have k3 : lo * 2 ^ s % 18446744073709551616 = R * 2 ^ s := by
      rw [k1, Nat.mul_comm Q, Nat.mul_add_mod, Nat.mod_eq_of_lt k2]
    rw [k3]
    have k4 : (hi * 18446744073709551616 + lo) * 2 ^ s = hi * 2 ^ s * 18446744073709551616 + lo * 2 ^ s := by
      rw [Nat.add_mul]
      congr 1
      rw [Nat.mul_assoc, Nat.mul_comm 18446744073709551616, ← Nat.mul_assoc]
    omega
theorem dv_rest {U v q Y R : Nat} (h : U * 4294967296 + v = q * Y + R) (hR : R < 18446744073709551616) : IntKind.u64.wrap (IntKind.u64.wrap (IntKind.u64.wrap ((U : Int) * 4294967296) + v) - IntKind.u64.wrap ((q : Int) * Y)) = R := by
  simp only [IntKind.wrap_u64]
  have : ((q * Y : Nat) : Int) = (q : Int) * Y := by simp
  omega
theorem dg_twom {U Y u v : Nat} : ((U * 4294967296 + u) % Y * 4294967296 + v) % Y = ((U * 4294967296 + u) * 4294967296 + v) % Y := by
  have := Nat.div_add_mod (U * 4294967296 + u) Y
  conv => rhs; rw [← this]
  rw [show (Y * ((U * 4294967296 + u) / Y) + (U * 4294967296 + u) % Y) * 4294967296 + v = (U * 4294967296 + u) % Y * 4294967296 + v + Y * ((U * 4294967296 + u) / Y * 4294967296) by grind, Nat.add_mul_mod_self_left]
theorem dv_end {N s Y U L v1 v0 q p R1 R2 : Nat} {M : Nat} (hY : 0 < Y) (hd : (U * 18446744073709551616 + L) / Y = N) (hm : (U * 18446744073709551616 + L) % Y = M * 2 ^ s) (hl : L = v1 * 4294967296 + v0)
    (hq : q = (U * 4294967296 + v1) / Y) (h1 : (U * 4294967296 + v1) % Y = R1) (hp : p = (R1 * 4294967296 + v0) / Y) (h2 : (R1 * 4294967296 + v0) % Y = R2) :
    Ending.returned (.tuple #[.int .u64 ((q : Int) * 4294967296 + p), .int .u64 ((R2 : Int) / 2 ^ s)]) = Ending.returned (.tuple #[.int .u64 (N : Int), .int .u64 (M : Int)]) := by
  have e : (U * 4294967296 + v1) * 4294967296 + v0 = U * 18446744073709551616 + L := by omega
  have k1 : q * 4294967296 + p = N := by
    rw [hq, hp, ← h1, dg_two (by omega), e, hd]
  have k2 : R2 = M * 2 ^ s := by rw [← h2, ← h1, dg_twom, e, hm]
  have k3 : (R2 : Int) / 2 ^ s = (M : Int) := by
    rw [k2]
    have : (((M * 2 ^ s : Nat)) : Int) / 2 ^ s = ((M * 2 ^ s / 2 ^ s : Nat) : Int) := by simp
    rw [this, Nat.mul_div_cancel _ (Nat.two_pow_pos _)]
  have k4 : (q : Int) * 4294967296 + p = N := by omega
  rw [k3, k4]
theorem dv_start {R d : Nat} (hd : 0 < d) (hR : R < 18446744073709551616) : (R : Int).tdiv d = ((R / d : Nat) : Int) ∧ IntKind.u64.wrap ((R / d : Nat) : Int) = ((R / d : Nat) : Int) ∧ IntKind.u64.wrap ((R : Int) - IntKind.u64.wrap (((R / d : Nat) : Int) * d)) = ((R - R / d * d : Nat) : Int) := by
  have h1 := Nat.div_le_self R d
  have h2 := Nat.div_mul_le_self R d
  refine ⟨?_, Mul.wrapN _ (by omega), ?_⟩
  · rw [Int.tdiv_eq_ediv_of_nonneg (by omega)]; simp
  · rw [show ((R / d : Nat) : Int) * d = ((R / d * d : Nat) : Int) by simp, Mul.wrapN _ (by omega)]
    rw [show (R : Int) - ((R / d * d : Nat) : Int) = ((R - R / d * d : Nat) : Int) by omega]
    exact Mul.wrapN _ (by omega)
set_option maxHeartbeats 4000000 in
theorem div64_any (hi lo y : Nat) (w : World) (h : hi < y) (hy : y < 18446744073709551616) (hl : lo < 18446744073709551616) :
    Calls Try.prog 79 #[.int .u64 hi, .int .u64 lo, .int .u64 y] w fun e w' => e = .returned (.tuple #[.int .u64 ((hi * 18446744073709551616 + lo) / y : Nat), .int .u64 ((hi * 18446744073709551616 + lo) % y : Nat)]) ∧ Kept w w' := by
  have y0 : ((y : Int) == 0) = false := by simp; omega
  have y0' : ¬ (y : Int) = 0 := by omega
  have y1 : decide ((y : Int) ≤ hi) = false := decide_eq_false (by omega)
  by_cases h0 : hi = 0
  · have hh0 : ((hi : Int) == 0) = true := by rw [h0]; rfl
    have e0 : hi * 18446744073709551616 + lo = lo := by omega
    rw [e0]
    clear e0
    go_enter Try.func79, Try.ntmps79
    go_wp2
    ((first | (with_reducible refine wp_region_kept2 (by kernel_rfl) (by kernel_rfl) ?_) | refine wp_region_kept (by kernel_rfl) (by kernel_rfl) ?_); (repeat (go_big_quiet_step (first | fail))); refine wpQuiet_nil ?_; intro x)
    go_wp2
    refine bodyPost_ret (by simp only [results, Try.results79]; go_simp; rfl) rfl ?_
    have q1 : IntKind.u64.wrap ((lo : Int) / y) = ((lo / y : Nat) : Int) := by
      rw [show (lo : Int) / y = ((lo / y : Nat) : Int) from (Int.natCast_ediv lo y).symm]
      have := Nat.div_le_self lo y
      exact Mul.wrapN _ (by omega)
    have q2 : (lo : Int) % y = ((lo % y : Nat) : Int) := (Int.natCast_emod lo y).symm
    exact ⟨by first | rw [q1, q2] | rw [q2] | rfl, by (repeat (first | exact Kept.refl _ | assumption | refine Kept.alloc ?_ _ | refine Kept.ext ?_ _ | refine Kept.drew ?_ | refine Kept.drewN ?_ _))⟩
  have hh0 : ((hi : Int) == 0) = false := by simp; omega
  obtain ⟨s64, n1, n2⟩ := lz_norm (show 0 < y by omega) hy
  generalize hs : lzN y = s at *
  have hlt : hi * 2 ^ s < y * 2 ^ s := (Nat.mul_lt_mul_right (Nat.two_pow_pos _)).2 h
  obtain ⟨hU, hN⟩ := sh_words (lo := lo) s64 (show hi * 2 ^ s < 18446744073709551616 by omega) hl
  have hdiv := dg_shift (hi := hi) (lo := lo) (s := s) (show 0 < y by omega)
  have hmod : (hi * 18446744073709551616 + lo) * 2 ^ s % (y * 2 ^ s) = (hi * 18446744073709551616 + lo) % y * 2 ^ s := Nat.mul_mod_mul_right _ _ _
  have hY : IntKind.u64.wrap ((y : Int) * 2 ^ s) = ((y * 2 ^ s : Nat) : Int) := by
    rw [show (y : Int) * 2 ^ s = ((y * 2 ^ s : Nat) : Int) by simp]
    exact Mul.wrapN _ n2
  have hL : IntKind.u64.wrap ((lo : Int) * 2 ^ s) = ((lo * 2 ^ s % 18446744073709551616 : Nat) : Int) := by
    rw [show (lo : Int) * 2 ^ s = ((lo * 2 ^ s : Nat) : Int) by simp]
    exact Mul.wrapM _
  have hUlt : hi * 2 ^ s + lo / 2 ^ (64 - s) < y * 2 ^ s := by
    have e : (2 : Nat) ^ s * 2 ^ (64 - s) = 18446744073709551616 := by rw [← Nat.pow_add, show s + (64 - s) = 64 by omega]
    have hq : lo / 2 ^ (64 - s) < 2 ^ s := by
      rw [Nat.div_lt_iff_lt_mul (Nat.two_pow_pos _), e]
      exact hl
    have : (hi + 1) * 2 ^ s ≤ y * 2 ^ s := Nat.mul_le_mul_right _ h
    rw [Nat.add_mul, Nat.one_mul] at this
    omega
  rw [← hN] at hdiv hmod
  have hLlt : lo * 2 ^ s % 18446744073709551616 < 18446744073709551616 := Nat.mod_lt _ (by decide)
  generalize hYY : y * 2 ^ s = Y at *
  generalize hi * 2 ^ s + lo / 2 ^ (64 - s) = U at *
  generalize lo * 2 ^ s % 18446744073709551616 = L at *
  obtain ⟨d, hd⟩ : ∃ d, Y / 4294967296 = d := ⟨_, rfl⟩
  obtain ⟨m, hm⟩ : ∃ m, Y % 4294967296 = m := ⟨_, rfl⟩
  obtain ⟨v1, hv1⟩ : ∃ d, L / 4294967296 = d := ⟨_, rfl⟩
  obtain ⟨v0, hv0⟩ : ∃ m, L % 4294967296 = m := ⟨_, rfl⟩
  have a1 : (Y : Int) / 4294967296 = d := by omega
  have a2 : bits .and .u64 (Y : Int) 4294967295 = m := by rw [Mul.maskN _ n2, hm]
  have a3 : (L : Int) / 4294967296 = v1 := by omega
  have a4 : bits .and .u64 (L : Int) 4294967295 = v0 := by rw [Mul.maskN _ hLlt, hv0]
  have a5 : ((d : Int) == 0) = false := by simp; omega
  have a6 : ¬ (d : Int) = 0 := by omega
  have D0 := dg_start n1 n2 hUlt (show v1 < 4294967296 by omega)
  rw [hd] at D0
  obtain ⟨q0, hq0⟩ : ∃ q, U / d = q := ⟨_, rfl⟩
  have hq0' : (U : Int).tdiv d = q0 := by
    rw [Int.tdiv_eq_ediv_of_nonneg (by omega), ← hq0]; simp
  rw [hq0] at D0
  have k0 := D0.e
  have k1 := D0.le
  rw [hd] at k0
  have hr0 : IntKind.u64.wrap ((U : Int) - (q0 : Int) * d) = ((U - q0 * d : Nat) : Int) := by
    rw [show (U : Int) - (q0 : Int) * d = ((U - q0 * d : Nat) : Int) by rw [Int.natCast_sub (by omega)]; simp]
    exact Mul.wrapN _ (by omega)
  have hr1 : IntKind.u64.wrap ((q0 : Int) * d) = (q0 : Int) * d := by
    rw [show (q0 : Int) * d = ((q0 * d : Nat) : Int) by simp]
    exact Mul.wrapN _ (by omega)
  have hr2 : IntKind.u64.wrap (q0 : Int) = q0 := Mul.wrapN _ (by omega)
  generalize hR0 : U - q0 * d = r0 at *
  have HN := Lib.hid hN
  have HD := Lib.hid hdiv
  have HM := Lib.hid hmod
  have HD0 := Lib.hid D0
  have HK := Lib.hid k0
  have UH := hUlt
  have HL := Lib.hid (show L = v1 * 4294967296 + v0 by omega)
  have hv1b : v1 < 4294967296 := by omega
  have hv0b : v0 < 4294967296 := by omega
  have hmb : m < 4294967296 := by omega
  have hdb : 0 < d ∧ d < 4294967296 := by omega
  clear hN hdiv hmod D0 k0 hq0 hYY hR0 hv1 hv0
  go_enter Try.func79, Try.ntmps79
  go_wp2_with (go_at_call 81; refine (lz_any y _ hy).mono ?_; rintro e w' ⟨rfl, rfl⟩; rw [hs])
  go_loopw [15, 16] (fun a b wr => ∃ q r : Nat, a = .int .u64 q ∧ b = .int .u64 r ∧ Dg U Y v1 q r ∧ w = wr) (fun a _ _ => (intOf a).toNat)
  case atStart => exact ⟨q0, r0, rfl, rfl, HD0.out, rfl⟩
  case round =>
    obtain ⟨q, r, rfl, rfl, hD, rfl⟩ := hrel
    by_cases ht : 4294967296 ≤ q ∨ 4294967296 * r + v1 < q * m
    case neg =>
      have hQ := hD.done UH (by rw [hm]; omega)
      have hDl := hD.lt
      have hqm : IntKind.u64.wrap ((q : Int) * m) = ((q * m : Nat) : Int) := by
        rw [show (q : Int) * m = ((q * m : Nat) : Int) by simp]
        exact Mul.wrapN _ (by omega)
      have hg : decide (4294967296 ≤ (q : Int)) = false := by simp; omega
      have hg1 : ¬ 4294967296 ≤ q := by omega
      have hg2 : IntKind.u64.wrap (IntKind.u64.wrap (4294967296 * (r : Int)) + v1) = 4294967296 * (r : Int) + v1 := by
        rw [show 4294967296 * (r : Int) = ((4294967296 * r : Nat) : Int) by simp, Mul.wrapN _ (by omega)]
        rw [show ((4294967296 * r : Nat) : Int) + v1 = ((4294967296 * r + v1 : Nat) : Int) by simp, Mul.wrapN _ (by omega)]
      have hg3 : decide (4294967296 * (r : Int) + v1 < ((q * m : Nat) : Int)) = false := by
        rw [decide_eq_false_iff_not]; omega
      have HQ := Lib.hid hQ
      have HT := Lib.hid ht
      clear hQ ht hD
      generalize hz : q * m = z at hqm hg3
      clear hz
      obtain ⟨R1, hR1⟩ : ∃ R, (U * 4294967296 + v1) % Y = R := ⟨_, rfl⟩
      have hR1l : R1 < Y := by rw [← hR1]; exact Nat.mod_lt _ (by omega)
      have hsum : U * 4294967296 + v1 = q * Y + R1 := by
        have := Nat.div_add_mod (U * 4294967296 + v1) Y
        rw [← HQ.out, hR1, Nat.mul_comm Y q] at this
        exact this.symm
      have b1 := dv_rest hsum (by omega)
      obtain ⟨c1, c2, c3⟩ := dv_start (R := R1) (d := d) hdb.1 (by omega)
      have D1 := dg_start n1 n2 hR1l hv0b
      rw [hd] at D1
      obtain ⟨p0, hp0⟩ : ∃ q, R1 / d = q := ⟨_, rfl⟩
      obtain ⟨t0, ht0⟩ : ∃ q, R1 - p0 * d = q := ⟨_, rfl⟩
      rw [hp0] at c1 c2 c3 D1
      rw [ht0] at c3 D1
      have HD1 := Lib.hid D1
      have HS := Lib.hid hsum
      have HR1 := Lib.hid hR1
      clear D1 hsum hR1 hp0 ht0
      go_wp2
      try clear hg
      try clear hqm
      try clear hg1
      try clear hg2
      try clear hg3
      try clear hrd
      try clear hrd2
      go_loopw [18, 16] (fun a b wr => ∃ q r : Nat, a = .int .u64 q ∧ b = .int .u64 r ∧ Dg R1 Y v0 q r ∧ w = wr) (fun a _ _ => (intOf a).toNat)
      case atStart => exact ⟨p0, t0, rfl, rfl, HD1.out, rfl⟩
      case round =>
        obtain ⟨p, t, rfl, rfl, hD, rfl⟩ := hrel
        have UH0 := UH
        have UH := hR1l
        by_cases ht : 4294967296 ≤ p ∨ 4294967296 * t + v0 < p * m
        case neg =>
          have hQ := hD.done UH (by rw [hm]; omega)
          have hDl := hD.lt
          have hqm : IntKind.u64.wrap ((p : Int) * m) = ((p * m : Nat) : Int) := by
            rw [show (p : Int) * m = ((p * m : Nat) : Int) by simp]
            exact Mul.wrapN _ (by omega)
          have hg : decide (4294967296 ≤ (p : Int)) = false := by simp; omega
          have hg1 : ¬ 4294967296 ≤ p := by omega
          have hg2 : IntKind.u64.wrap (IntKind.u64.wrap (4294967296 * (t : Int)) + v0) = 4294967296 * (t : Int) + v0 := by
            rw [show 4294967296 * (t : Int) = ((4294967296 * t : Nat) : Int) by simp, Mul.wrapN _ (by omega)]
            rw [show ((4294967296 * t : Nat) : Int) + v0 = ((4294967296 * t + v0 : Nat) : Int) by simp, Mul.wrapN _ (by omega)]
          have hg3 : decide (4294967296 * (t : Int) + v0 < ((p * m : Nat) : Int)) = false := by
            rw [decide_eq_false_iff_not]; omega
          have HQ2 := Lib.hid hQ
          have HT := Lib.hid ht
          clear hQ ht hD
          generalize hz : p * m = z at hqm hg3
          clear hz
          obtain ⟨R2, hR2⟩ : ∃ R, (R1 * 4294967296 + v0) % Y = R := ⟨_, rfl⟩
          have hR2l : R2 < Y := by rw [← hR2]; exact Nat.mod_lt _ (by omega)
          have hsum2 : R1 * 4294967296 + v0 = p * Y + R2 := by
            have := Nat.div_add_mod (R1 * 4294967296 + v0) Y
            rw [← HQ2.out, hR2, Nat.mul_comm Y p] at this
            exact this.symm
          have b2 := dv_rest hsum2 (by omega)
          have ql1 := dg_top UH0 hv1b
          have ql2 := dg_top hR1l hv0b
          rw [← HQ.out] at ql1
          rw [← HQ2.out] at ql2
          have b3 : IntKind.u64.wrap (IntKind.u64.wrap ((q : Int) * 4294967296) + p) = ((q * 4294967296 + p : Nat) : Int) := by
            simp only [IntKind.wrap_u64]; omega
          have HR2 := Lib.hid hR2
          clear hR2
          go_wp2
          refine bodyPost_ret (by simp only [results, Try.results79]; go_simp; rfl) rfl ?_
          exact ⟨dv_end (Nat.lt_of_le_of_lt (Nat.zero_le _) hUlt) HD.out HM.out HL.out HQ.out HR1.out HQ2.out HR2.out, by (repeat (first | exact Kept.refl _ | assumption | refine Kept.alloc ?_ _ | refine Kept.ext ?_ _ | refine Kept.drew ?_ | refine Kept.drewN ?_ _))⟩
        case pos =>
          have h1 := hD.more UH (by omega) (by rw [hm]; exact ht)
          have hq1 : 0 < p := Nat.lt_of_lt_of_le (Nat.succ_pos _) h1
          have hDl := hD.lt
          have hD2 := hD.le
          have e1 : IntKind.u64.wrap ((p : Int) - 1) = ((p - 1 : Nat) : Int) := by
            rw [show (p : Int) - 1 = ((p - 1 : Nat) : Int) by omega]
            exact Mul.wrapN _ (by omega)
          have e2 : IntKind.u64.wrap ((t : Int) + d) = ((t + d : Nat) : Int) := by
            rw [show (t : Int) + d = ((t + d : Nat) : Int) by simp]
            exact Mul.wrapN _ (by omega)
          have nx := hD.next UH (by omega) (by rw [hm]; exact ht)
          have lx := hD.last UH (by omega) (by rw [hm]; exact ht)
          rw [hd] at nx lx
          have NX := Lib.hid nx
          have LX := Lib.hid lx
          clear nx lx h1 hD
          obtain ⟨p2, hq2⟩ : ∃ p2, p - 1 = p2 := ⟨_, rfl⟩
          obtain ⟨t2, hr2⟩ : ∃ t2, t + d = t2 := ⟨_, rfl⟩
          rw [hq2] at e1 NX LX
          rw [hr2] at e2 NX LX
          have ht2 : (4294967296 ≤ p) ∨ (¬ 4294967296 ≤ p ∧ p * m < 18446744073709551616 ∧ 4294967296 * t + v0 < p * m) := by
            by_cases h : 4294967296 ≤ p
            · exact .inl h
            · refine .inr ⟨h, ?_, ?_⟩
              · have : p * m ≤ 4294967295 * m := Nat.mul_le_mul_right _ (by omega)
                omega
              · rcases ht with ht | ht
                · exact absurd ht h
                · exact ht
          clear ht
          by_cases hrr : t2 < 4294967296
          case pos =>
            have hrd : decide (4294967296 ≤ (t2 : Int)) = false := by simp; omega
            have hrd2 : ¬ 4294967296 ≤ t2 := by omega
            rcases ht2 with ht | ⟨ht, hz1, hz2⟩
            · have hg : decide (4294967296 ≤ (p : Int)) = true := by simp; omega
              go_wp2
              go_roundw
              case rel => exact ⟨p2, t2, rfl, rfl, NX.out hrr, by trivial⟩
              case measure => simp [intOf]; omega
            · have hg : decide (4294967296 ≤ (p : Int)) = false := by simp; omega
              have hqm : IntKind.u64.wrap ((p : Int) * m) = ((p * m : Nat) : Int) := by
                rw [show (p : Int) * m = ((p * m : Nat) : Int) by simp]
                exact Mul.wrapN _ hz1
              have hg2 : IntKind.u64.wrap (IntKind.u64.wrap (4294967296 * (t : Int)) + v0) = 4294967296 * (t : Int) + v0 := by
                rw [show 4294967296 * (t : Int) = ((4294967296 * t : Nat) : Int) by simp, Mul.wrapN _ (by omega)]
                rw [show ((4294967296 * t : Nat) : Int) + v0 = ((4294967296 * t + v0 : Nat) : Int) by simp, Mul.wrapN _ (by omega)]
              have hg3 : decide (4294967296 * (t : Int) + v0 < ((p * m : Nat) : Int)) = true := by
                rw [decide_eq_true_iff]; omega
              have hz3 := Lib.hid hz2
              generalize hz : p * m = z at hqm hg3
              clear hz hz1 hz2
              go_wp2
              go_roundw
              case rel => exact ⟨p2, t2, rfl, rfl, NX.out hrr, by trivial⟩
              case measure => simp [intOf]; omega
          case neg =>
            have hrd : decide (4294967296 ≤ (t2 : Int)) = true := by simp; omega
            have hrd2 : 4294967296 ≤ t2 := by omega
            have HQ2 := Lib.hid (LX.out hrr)
            have hq2le : p2 ≤ 4294967296 := by omega
            rcases ht2 with ht | ⟨ht, hz1, hz2⟩
            · have hg : decide (4294967296 ≤ (p : Int)) = true := by simp; omega
              obtain ⟨R2, hR2⟩ : ∃ R, (R1 * 4294967296 + v0) % Y = R := ⟨_, rfl⟩
              have hR2l : R2 < Y := by rw [← hR2]; exact Nat.mod_lt _ (by omega)
              have hsum2 : R1 * 4294967296 + v0 = p2 * Y + R2 := by
                have := Nat.div_add_mod (R1 * 4294967296 + v0) Y
                rw [← HQ2.out, hR2, Nat.mul_comm Y p2] at this
                exact this.symm
              have b2 := dv_rest hsum2 (by omega)
              have ql1 := dg_top UH0 hv1b
              have ql2 := dg_top hR1l hv0b
              rw [← HQ.out] at ql1
              rw [← HQ2.out] at ql2
              have b3 : IntKind.u64.wrap (IntKind.u64.wrap ((q : Int) * 4294967296) + p2) = ((q * 4294967296 + p2 : Nat) : Int) := by
                simp only [IntKind.wrap_u64]; omega
              have HR2 := Lib.hid hR2
              clear hR2
              go_wp2
              refine bodyPost_ret (by simp only [results, Try.results79]; go_simp; rfl) rfl ?_
              exact ⟨dv_end (Nat.lt_of_le_of_lt (Nat.zero_le _) hUlt) HD.out HM.out HL.out HQ.out HR1.out HQ2.out HR2.out, by (repeat (first | exact Kept.refl _ | assumption | refine Kept.alloc ?_ _ | refine Kept.ext ?_ _ | refine Kept.drew ?_ | refine Kept.drewN ?_ _))⟩
            · have hg : decide (4294967296 ≤ (p : Int)) = false := by simp; omega
              have hqm : IntKind.u64.wrap ((p : Int) * m) = ((p * m : Nat) : Int) := by
                rw [show (p : Int) * m = ((p * m : Nat) : Int) by simp]
                exact Mul.wrapN _ hz1
              have hg2 : IntKind.u64.wrap (IntKind.u64.wrap (4294967296 * (t : Int)) + v0) = 4294967296 * (t : Int) + v0 := by
                rw [show 4294967296 * (t : Int) = ((4294967296 * t : Nat) : Int) by simp, Mul.wrapN _ (by omega)]
                rw [show ((4294967296 * t : Nat) : Int) + v0 = ((4294967296 * t + v0 : Nat) : Int) by simp, Mul.wrapN _ (by omega)]
              have hg3 : decide (4294967296 * (t : Int) + v0 < ((p * m : Nat) : Int)) = true := by
                rw [decide_eq_true_iff]; omega
              have hz3 := Lib.hid hz2
              generalize hz : p * m = z at hqm hg3
              clear hz hz1 hz2
              obtain ⟨R2, hR2⟩ : ∃ R, (R1 * 4294967296 + v0) % Y = R := ⟨_, rfl⟩
              have hR2l : R2 < Y := by rw [← hR2]; exact Nat.mod_lt _ (by omega)
              have hsum2 : R1 * 4294967296 + v0 = p2 * Y + R2 := by
                have := Nat.div_add_mod (R1 * 4294967296 + v0) Y
                rw [← HQ2.out, hR2, Nat.mul_comm Y p2] at this
                exact this.symm
              have b2 := dv_rest hsum2 (by omega)
              have ql1 := dg_top UH0 hv1b
              have ql2 := dg_top hR1l hv0b
              rw [← HQ.out] at ql1
              rw [← HQ2.out] at ql2
              have b3 : IntKind.u64.wrap (IntKind.u64.wrap ((q : Int) * 4294967296) + p2) = ((q * 4294967296 + p2 : Nat) : Int) := by
                simp only [IntKind.wrap_u64]; omega
              have HR2 := Lib.hid hR2
              clear hR2
              go_wp2
              refine bodyPost_ret (by simp only [results, Try.results79]; go_simp; rfl) rfl ?_
              exact ⟨dv_end (Nat.lt_of_le_of_lt (Nat.zero_le _) hUlt) HD.out HM.out HL.out HQ.out HR1.out HQ2.out HR2.out, by (repeat (first | exact Kept.refl _ | assumption | refine Kept.alloc ?_ _ | refine Kept.ext ?_ _ | refine Kept.drew ?_ | refine Kept.drewN ?_ _))⟩
    case pos =>
      have h1 := hD.more UH (by omega) (by rw [hm]; exact ht)
      have hq1 : 0 < q := Nat.lt_of_lt_of_le (Nat.succ_pos _) h1
      have hDl := hD.lt
      have hD2 := hD.le
      have e1 : IntKind.u64.wrap ((q : Int) - 1) = ((q - 1 : Nat) : Int) := by
        rw [show (q : Int) - 1 = ((q - 1 : Nat) : Int) by omega]
        exact Mul.wrapN _ (by omega)
      have e2 : IntKind.u64.wrap ((r : Int) + d) = ((r + d : Nat) : Int) := by
        rw [show (r : Int) + d = ((r + d : Nat) : Int) by simp]
        exact Mul.wrapN _ (by omega)
      have nx := hD.next UH (by omega) (by rw [hm]; exact ht)
      have lx := hD.last UH (by omega) (by rw [hm]; exact ht)
      rw [hd] at nx lx
      have NX := Lib.hid nx
      have LX := Lib.hid lx
      clear nx lx h1 hD
      obtain ⟨q2, hq2⟩ : ∃ q2, q - 1 = q2 := ⟨_, rfl⟩
      obtain ⟨r2, hr2⟩ : ∃ r2, r + d = r2 := ⟨_, rfl⟩
      rw [hq2] at e1 NX LX
      rw [hr2] at e2 NX LX
      have ht2 : (4294967296 ≤ q) ∨ (¬ 4294967296 ≤ q ∧ q * m < 18446744073709551616 ∧ 4294967296 * r + v1 < q * m) := by
        by_cases h : 4294967296 ≤ q
        · exact .inl h
        · refine .inr ⟨h, ?_, ?_⟩
          · have : q * m ≤ 4294967295 * m := Nat.mul_le_mul_right _ (by omega)
            omega
          · rcases ht with ht | ht
            · exact absurd ht h
            · exact ht
      clear ht
      by_cases hrr : r2 < 4294967296
      case pos =>
        have hrd : decide (4294967296 ≤ (r2 : Int)) = false := by simp; omega
        have hrd2 : ¬ 4294967296 ≤ r2 := by omega
        rcases ht2 with ht | ⟨ht, hz1, hz2⟩
        · have hg : decide (4294967296 ≤ (q : Int)) = true := by simp; omega
          go_wp2
          go_roundw
          case rel => exact ⟨q2, r2, rfl, rfl, NX.out hrr, by trivial⟩
          case measure => simp [intOf]; omega
        · have hg : decide (4294967296 ≤ (q : Int)) = false := by simp; omega
          have hqm : IntKind.u64.wrap ((q : Int) * m) = ((q * m : Nat) : Int) := by
            rw [show (q : Int) * m = ((q * m : Nat) : Int) by simp]
            exact Mul.wrapN _ hz1
          have hg2 : IntKind.u64.wrap (IntKind.u64.wrap (4294967296 * (r : Int)) + v1) = 4294967296 * (r : Int) + v1 := by
            rw [show 4294967296 * (r : Int) = ((4294967296 * r : Nat) : Int) by simp, Mul.wrapN _ (by omega)]
            rw [show ((4294967296 * r : Nat) : Int) + v1 = ((4294967296 * r + v1 : Nat) : Int) by simp, Mul.wrapN _ (by omega)]
          have hg3 : decide (4294967296 * (r : Int) + v1 < ((q * m : Nat) : Int)) = true := by
            rw [decide_eq_true_iff]; omega
          have hz3 := Lib.hid hz2
          generalize hz : q * m = z at hqm hg3
          clear hz hz1 hz2
          go_wp2
          go_roundw
          case rel => exact ⟨q2, r2, rfl, rfl, NX.out hrr, by trivial⟩
          case measure => simp [intOf]; omega
      case neg =>
        have hrd : decide (4294967296 ≤ (r2 : Int)) = true := by simp; omega
        have hrd2 : 4294967296 ≤ r2 := by omega
        have HQ := Lib.hid (LX.out hrr)
        have hq2le : q2 ≤ 4294967296 := by omega
        rcases ht2 with ht | ⟨ht, hz1, hz2⟩
        · have hg : decide (4294967296 ≤ (q : Int)) = true := by simp; omega
          obtain ⟨R1, hR1⟩ : ∃ R, (U * 4294967296 + v1) % Y = R := ⟨_, rfl⟩
          have hR1l : R1 < Y := by rw [← hR1]; exact Nat.mod_lt _ (by omega)
          have hsum : U * 4294967296 + v1 = q2 * Y + R1 := by
            have := Nat.div_add_mod (U * 4294967296 + v1) Y
            rw [← HQ.out, hR1, Nat.mul_comm Y q2] at this
            exact this.symm
          have b1 := dv_rest hsum (by omega)
          obtain ⟨c1, c2, c3⟩ := dv_start (R := R1) (d := d) hdb.1 (by omega)
          have D1 := dg_start n1 n2 hR1l hv0b
          rw [hd] at D1
          obtain ⟨p0, hp0⟩ : ∃ q, R1 / d = q := ⟨_, rfl⟩
          obtain ⟨t0, ht0⟩ : ∃ q, R1 - p0 * d = q := ⟨_, rfl⟩
          rw [hp0] at c1 c2 c3 D1
          rw [ht0] at c3 D1
          have HD1 := Lib.hid D1
          have HS := Lib.hid hsum
          have HR1 := Lib.hid hR1
          clear D1 hsum hR1 hp0 ht0
          go_wp2
          try clear hg
          try clear hqm
          try clear hg1
          try clear hg2
          try clear hg3
          try clear hrd
          try clear hrd2
          go_loopw [18, 16] (fun a b wr => ∃ q r : Nat, a = .int .u64 q ∧ b = .int .u64 r ∧ Dg R1 Y v0 q r ∧ w = wr) (fun a _ _ => (intOf a).toNat)
          case atStart => exact ⟨p0, t0, rfl, rfl, HD1.out, rfl⟩
          case round =>
            obtain ⟨p, t, rfl, rfl, hD, rfl⟩ := hrel
            have UH0 := UH
            have UH := hR1l
            by_cases ht : 4294967296 ≤ p ∨ 4294967296 * t + v0 < p * m
            case neg =>
              have hQ := hD.done UH (by rw [hm]; omega)
              have hDl := hD.lt
              have hqm : IntKind.u64.wrap ((p : Int) * m) = ((p * m : Nat) : Int) := by
                rw [show (p : Int) * m = ((p * m : Nat) : Int) by simp]
                exact Mul.wrapN _ (by omega)
              have hg : decide (4294967296 ≤ (p : Int)) = false := by simp; omega
              have hg1 : ¬ 4294967296 ≤ p := by omega
              have hg2 : IntKind.u64.wrap (IntKind.u64.wrap (4294967296 * (t : Int)) + v0) = 4294967296 * (t : Int) + v0 := by
                rw [show 4294967296 * (t : Int) = ((4294967296 * t : Nat) : Int) by simp, Mul.wrapN _ (by omega)]
                rw [show ((4294967296 * t : Nat) : Int) + v0 = ((4294967296 * t + v0 : Nat) : Int) by simp, Mul.wrapN _ (by omega)]
              have hg3 : decide (4294967296 * (t : Int) + v0 < ((p * m : Nat) : Int)) = false := by
                rw [decide_eq_false_iff_not]; omega
              have HQ2 := Lib.hid hQ
              have HT := Lib.hid ht
              clear hQ ht hD
              generalize hz : p * m = z at hqm hg3
              clear hz
              obtain ⟨R2, hR2⟩ : ∃ R, (R1 * 4294967296 + v0) % Y = R := ⟨_, rfl⟩
              have hR2l : R2 < Y := by rw [← hR2]; exact Nat.mod_lt _ (by omega)
              have hsum2 : R1 * 4294967296 + v0 = p * Y + R2 := by
                have := Nat.div_add_mod (R1 * 4294967296 + v0) Y
                rw [← HQ2.out, hR2, Nat.mul_comm Y p] at this
                exact this.symm
              have b2 := dv_rest hsum2 (by omega)
              have ql1 := dg_top UH0 hv1b
              have ql2 := dg_top hR1l hv0b
              rw [← HQ.out] at ql1
              rw [← HQ2.out] at ql2
              have b3 : IntKind.u64.wrap (IntKind.u64.wrap ((q2 : Int) * 4294967296) + p) = ((q2 * 4294967296 + p : Nat) : Int) := by
                simp only [IntKind.wrap_u64]; omega
              have HR2 := Lib.hid hR2
              clear hR2
              go_wp2
              refine bodyPost_ret (by simp only [results, Try.results79]; go_simp; rfl) rfl ?_
              exact ⟨dv_end (Nat.lt_of_le_of_lt (Nat.zero_le _) hUlt) HD.out HM.out HL.out HQ.out HR1.out HQ2.out HR2.out, by (repeat (first | exact Kept.refl _ | assumption | refine Kept.alloc ?_ _ | refine Kept.ext ?_ _ | refine Kept.drew ?_ | refine Kept.drewN ?_ _))⟩
            case pos =>
              have h1 := hD.more UH (by omega) (by rw [hm]; exact ht)
              have hq1 : 0 < p := Nat.lt_of_lt_of_le (Nat.succ_pos _) h1
              have hDl := hD.lt
              have hD2 := hD.le
              have e1 : IntKind.u64.wrap ((p : Int) - 1) = ((p - 1 : Nat) : Int) := by
                rw [show (p : Int) - 1 = ((p - 1 : Nat) : Int) by omega]
                exact Mul.wrapN _ (by omega)
              have e2 : IntKind.u64.wrap ((t : Int) + d) = ((t + d : Nat) : Int) := by
                rw [show (t : Int) + d = ((t + d : Nat) : Int) by simp]
                exact Mul.wrapN _ (by omega)
              have nx := hD.next UH (by omega) (by rw [hm]; exact ht)
              have lx := hD.last UH (by omega) (by rw [hm]; exact ht)
              rw [hd] at nx lx
              have NX := Lib.hid nx
              have LX := Lib.hid lx
              clear nx lx h1 hD
              obtain ⟨p2, hq2⟩ : ∃ p2, p - 1 = p2 := ⟨_, rfl⟩
              obtain ⟨t2, hr2⟩ : ∃ t2, t + d = t2 := ⟨_, rfl⟩
              rw [hq2] at e1 NX LX
              rw [hr2] at e2 NX LX
              have ht2 : (4294967296 ≤ p) ∨ (¬ 4294967296 ≤ p ∧ p * m < 18446744073709551616 ∧ 4294967296 * t + v0 < p * m) := by
                by_cases h : 4294967296 ≤ p
                · exact .inl h
                · refine .inr ⟨h, ?_, ?_⟩
                  · have : p * m ≤ 4294967295 * m := Nat.mul_le_mul_right _ (by omega)
                    omega
                  · rcases ht with ht | ht
                    · exact absurd ht h
                    · exact ht
              clear ht
              by_cases hrr : t2 < 4294967296
              case pos =>
                have hrd : decide (4294967296 ≤ (t2 : Int)) = false := by simp; omega
                have hrd2 : ¬ 4294967296 ≤ t2 := by omega
                rcases ht2 with ht | ⟨ht, hz1, hz2⟩
                · have hg : decide (4294967296 ≤ (p : Int)) = true := by simp; omega
                  go_wp2
                  go_roundw
                  case rel => exact ⟨p2, t2, rfl, rfl, NX.out hrr, by trivial⟩
                  case measure => simp [intOf]; omega
                · have hg : decide (4294967296 ≤ (p : Int)) = false := by simp; omega
                  have hqm : IntKind.u64.wrap ((p : Int) * m) = ((p * m : Nat) : Int) := by
                    rw [show (p : Int) * m = ((p * m : Nat) : Int) by simp]
                    exact Mul.wrapN _ hz1
                  have hg2 : IntKind.u64.wrap (IntKind.u64.wrap (4294967296 * (t : Int)) + v0) = 4294967296 * (t : Int) + v0 := by
                    rw [show 4294967296 * (t : Int) = ((4294967296 * t : Nat) : Int) by simp, Mul.wrapN _ (by omega)]
                    rw [show ((4294967296 * t : Nat) : Int) + v0 = ((4294967296 * t + v0 : Nat) : Int) by simp, Mul.wrapN _ (by omega)]
                  have hg3 : decide (4294967296 * (t : Int) + v0 < ((p * m : Nat) : Int)) = true := by
                    rw [decide_eq_true_iff]; omega
                  have hz3 := Lib.hid hz2
                  generalize hz : p * m = z at hqm hg3
                  clear hz hz1 hz2
                  go_wp2
                  go_roundw
                  case rel => exact ⟨p2, t2, rfl, rfl, NX.out hrr, by trivial⟩
                  case measure => simp [intOf]; omega
              case neg =>
                have hrd : decide (4294967296 ≤ (t2 : Int)) = true := by simp; omega
                have hrd2 : 4294967296 ≤ t2 := by omega
                have HQ2 := Lib.hid (LX.out hrr)
                have hq2le : p2 ≤ 4294967296 := by omega
                rcases ht2 with ht | ⟨ht, hz1, hz2⟩
                · have hg : decide (4294967296 ≤ (p : Int)) = true := by simp; omega
                  obtain ⟨R2, hR2⟩ : ∃ R, (R1 * 4294967296 + v0) % Y = R := ⟨_, rfl⟩
                  have hR2l : R2 < Y := by rw [← hR2]; exact Nat.mod_lt _ (by omega)
                  have hsum2 : R1 * 4294967296 + v0 = p2 * Y + R2 := by
                    have := Nat.div_add_mod (R1 * 4294967296 + v0) Y
                    rw [← HQ2.out, hR2, Nat.mul_comm Y p2] at this
                    exact this.symm
                  have b2 := dv_rest hsum2 (by omega)
                  have ql1 := dg_top UH0 hv1b
                  have ql2 := dg_top hR1l hv0b
                  rw [← HQ.out] at ql1
                  rw [← HQ2.out] at ql2
                  have b3 : IntKind.u64.wrap (IntKind.u64.wrap ((q2 : Int) * 4294967296) + p2) = ((q2 * 4294967296 + p2 : Nat) : Int) := by
                    simp only [IntKind.wrap_u64]; omega
                  have HR2 := Lib.hid hR2
                  clear hR2
                  go_wp2
                  refine bodyPost_ret (by simp only [results, Try.results79]; go_simp; rfl) rfl ?_
                  exact ⟨dv_end (Nat.lt_of_le_of_lt (Nat.zero_le _) hUlt) HD.out HM.out HL.out HQ.out HR1.out HQ2.out HR2.out, by (repeat (first | exact Kept.refl _ | assumption | refine Kept.alloc ?_ _ | refine Kept.ext ?_ _ | refine Kept.drew ?_ | refine Kept.drewN ?_ _))⟩
                · have hg : decide (4294967296 ≤ (p : Int)) = false := by simp; omega
                  have hqm : IntKind.u64.wrap ((p : Int) * m) = ((p * m : Nat) : Int) := by
                    rw [show (p : Int) * m = ((p * m : Nat) : Int) by simp]
                    exact Mul.wrapN _ hz1
                  have hg2 : IntKind.u64.wrap (IntKind.u64.wrap (4294967296 * (t : Int)) + v0) = 4294967296 * (t : Int) + v0 := by
                    rw [show 4294967296 * (t : Int) = ((4294967296 * t : Nat) : Int) by simp, Mul.wrapN _ (by omega)]
                    rw [show ((4294967296 * t : Nat) : Int) + v0 = ((4294967296 * t + v0 : Nat) : Int) by simp, Mul.wrapN _ (by omega)]
                  have hg3 : decide (4294967296 * (t : Int) + v0 < ((p * m : Nat) : Int)) = true := by
                    rw [decide_eq_true_iff]; omega
                  have hz3 := Lib.hid hz2
                  generalize hz : p * m = z at hqm hg3
                  clear hz hz1 hz2
                  obtain ⟨R2, hR2⟩ : ∃ R, (R1 * 4294967296 + v0) % Y = R := ⟨_, rfl⟩
                  have hR2l : R2 < Y := by rw [← hR2]; exact Nat.mod_lt _ (by omega)
                  have hsum2 : R1 * 4294967296 + v0 = p2 * Y + R2 := by
                    have := Nat.div_add_mod (R1 * 4294967296 + v0) Y
                    rw [← HQ2.out, hR2, Nat.mul_comm Y p2] at this
                    exact this.symm
                  have b2 := dv_rest hsum2 (by omega)
                  have ql1 := dg_top UH0 hv1b
                  have ql2 := dg_top hR1l hv0b
                  rw [← HQ.out] at ql1
                  rw [← HQ2.out] at ql2
                  have b3 : IntKind.u64.wrap (IntKind.u64.wrap ((q2 : Int) * 4294967296) + p2) = ((q2 * 4294967296 + p2 : Nat) : Int) := by
                    simp only [IntKind.wrap_u64]; omega
                  have HR2 := Lib.hid hR2
                  clear hR2
                  go_wp2
                  refine bodyPost_ret (by simp only [results, Try.results79]; go_simp; rfl) rfl ?_
                  exact ⟨dv_end (Nat.lt_of_le_of_lt (Nat.zero_le _) hUlt) HD.out HM.out HL.out HQ.out HR1.out HQ2.out HR2.out, by (repeat (first | exact Kept.refl _ | assumption | refine Kept.alloc ?_ _ | refine Kept.ext ?_ _ | refine Kept.drew ?_ | refine Kept.drewN ?_ _))⟩
        · have hg : decide (4294967296 ≤ (q : Int)) = false := by simp; omega
          have hqm : IntKind.u64.wrap ((q : Int) * m) = ((q * m : Nat) : Int) := by
            rw [show (q : Int) * m = ((q * m : Nat) : Int) by simp]
            exact Mul.wrapN _ hz1
          have hg2 : IntKind.u64.wrap (IntKind.u64.wrap (4294967296 * (r : Int)) + v1) = 4294967296 * (r : Int) + v1 := by
            rw [show 4294967296 * (r : Int) = ((4294967296 * r : Nat) : Int) by simp, Mul.wrapN _ (by omega)]
            rw [show ((4294967296 * r : Nat) : Int) + v1 = ((4294967296 * r + v1 : Nat) : Int) by simp, Mul.wrapN _ (by omega)]
          have hg3 : decide (4294967296 * (r : Int) + v1 < ((q * m : Nat) : Int)) = true := by
            rw [decide_eq_true_iff]; omega
          have hz3 := Lib.hid hz2
          generalize hz : q * m = z at hqm hg3
          clear hz hz1 hz2
          obtain ⟨R1, hR1⟩ : ∃ R, (U * 4294967296 + v1) % Y = R := ⟨_, rfl⟩
          have hR1l : R1 < Y := by rw [← hR1]; exact Nat.mod_lt _ (by omega)
          have hsum : U * 4294967296 + v1 = q2 * Y + R1 := by
            have := Nat.div_add_mod (U * 4294967296 + v1) Y
            rw [← HQ.out, hR1, Nat.mul_comm Y q2] at this
            exact this.symm
          have b1 := dv_rest hsum (by omega)
          obtain ⟨c1, c2, c3⟩ := dv_start (R := R1) (d := d) hdb.1 (by omega)
          have D1 := dg_start n1 n2 hR1l hv0b
          rw [hd] at D1
          obtain ⟨p0, hp0⟩ : ∃ q, R1 / d = q := ⟨_, rfl⟩
          obtain ⟨t0, ht0⟩ : ∃ q, R1 - p0 * d = q := ⟨_, rfl⟩
          rw [hp0] at c1 c2 c3 D1
          rw [ht0] at c3 D1
          have HD1 := Lib.hid D1
          have HS := Lib.hid hsum
          have HR1 := Lib.hid hR1
          clear D1 hsum hR1 hp0 ht0
          go_wp2
          try clear hg
          try clear hqm
          try clear hg1
          try clear hg2
          try clear hg3
          try clear hrd
          try clear hrd2
          go_loopw [18, 16] (fun a b wr => ∃ q r : Nat, a = .int .u64 q ∧ b = .int .u64 r ∧ Dg R1 Y v0 q r ∧ w = wr) (fun a _ _ => (intOf a).toNat)
          case atStart => exact ⟨p0, t0, rfl, rfl, HD1.out, rfl⟩
          case round =>
            obtain ⟨p, t, rfl, rfl, hD, rfl⟩ := hrel
            have UH0 := UH
            have UH := hR1l
            by_cases ht : 4294967296 ≤ p ∨ 4294967296 * t + v0 < p * m
            case neg =>
              have hQ := hD.done UH (by rw [hm]; omega)
              have hDl := hD.lt
              have hqm : IntKind.u64.wrap ((p : Int) * m) = ((p * m : Nat) : Int) := by
                rw [show (p : Int) * m = ((p * m : Nat) : Int) by simp]
                exact Mul.wrapN _ (by omega)
              have hg : decide (4294967296 ≤ (p : Int)) = false := by simp; omega
              have hg1 : ¬ 4294967296 ≤ p := by omega
              have hg2 : IntKind.u64.wrap (IntKind.u64.wrap (4294967296 * (t : Int)) + v0) = 4294967296 * (t : Int) + v0 := by
                rw [show 4294967296 * (t : Int) = ((4294967296 * t : Nat) : Int) by simp, Mul.wrapN _ (by omega)]
                rw [show ((4294967296 * t : Nat) : Int) + v0 = ((4294967296 * t + v0 : Nat) : Int) by simp, Mul.wrapN _ (by omega)]
              have hg3 : decide (4294967296 * (t : Int) + v0 < ((p * m : Nat) : Int)) = false := by
                rw [decide_eq_false_iff_not]; omega
              have HQ2 := Lib.hid hQ
              have HT := Lib.hid ht
              clear hQ ht hD
              generalize hz : p * m = z at hqm hg3
              clear hz
              obtain ⟨R2, hR2⟩ : ∃ R, (R1 * 4294967296 + v0) % Y = R := ⟨_, rfl⟩
              have hR2l : R2 < Y := by rw [← hR2]; exact Nat.mod_lt _ (by omega)
              have hsum2 : R1 * 4294967296 + v0 = p * Y + R2 := by
                have := Nat.div_add_mod (R1 * 4294967296 + v0) Y
                rw [← HQ2.out, hR2, Nat.mul_comm Y p] at this
                exact this.symm
              have b2 := dv_rest hsum2 (by omega)
              have ql1 := dg_top UH0 hv1b
              have ql2 := dg_top hR1l hv0b
              rw [← HQ.out] at ql1
              rw [← HQ2.out] at ql2
              have b3 : IntKind.u64.wrap (IntKind.u64.wrap ((q2 : Int) * 4294967296) + p) = ((q2 * 4294967296 + p : Nat) : Int) := by
                simp only [IntKind.wrap_u64]; omega
              have HR2 := Lib.hid hR2
              clear hR2
              go_wp2
              refine bodyPost_ret (by simp only [results, Try.results79]; go_simp; rfl) rfl ?_
              exact ⟨dv_end (Nat.lt_of_le_of_lt (Nat.zero_le _) hUlt) HD.out HM.out HL.out HQ.out HR1.out HQ2.out HR2.out, by (repeat (first | exact Kept.refl _ | assumption | refine Kept.alloc ?_ _ | refine Kept.ext ?_ _ | refine Kept.drew ?_ | refine Kept.drewN ?_ _))⟩
            case pos =>
              have h1 := hD.more UH (by omega) (by rw [hm]; exact ht)
              have hq1 : 0 < p := Nat.lt_of_lt_of_le (Nat.succ_pos _) h1
              have hDl := hD.lt
              have hD2 := hD.le
              have e1 : IntKind.u64.wrap ((p : Int) - 1) = ((p - 1 : Nat) : Int) := by
                rw [show (p : Int) - 1 = ((p - 1 : Nat) : Int) by omega]
                exact Mul.wrapN _ (by omega)
              have e2 : IntKind.u64.wrap ((t : Int) + d) = ((t + d : Nat) : Int) := by
                rw [show (t : Int) + d = ((t + d : Nat) : Int) by simp]
                exact Mul.wrapN _ (by omega)
              have nx := hD.next UH (by omega) (by rw [hm]; exact ht)
              have lx := hD.last UH (by omega) (by rw [hm]; exact ht)
              rw [hd] at nx lx
              have NX := Lib.hid nx
              have LX := Lib.hid lx
              clear nx lx h1 hD
              obtain ⟨p2, hq2⟩ : ∃ p2, p - 1 = p2 := ⟨_, rfl⟩
              obtain ⟨t2, hr2⟩ : ∃ t2, t + d = t2 := ⟨_, rfl⟩
              rw [hq2] at e1 NX LX
              rw [hr2] at e2 NX LX
              have ht2 : (4294967296 ≤ p) ∨ (¬ 4294967296 ≤ p ∧ p * m < 18446744073709551616 ∧ 4294967296 * t + v0 < p * m) := by
                by_cases h : 4294967296 ≤ p
                · exact .inl h
                · refine .inr ⟨h, ?_, ?_⟩
                  · have : p * m ≤ 4294967295 * m := Nat.mul_le_mul_right _ (by omega)
                    omega
                  · rcases ht with ht | ht
                    · exact absurd ht h
                    · exact ht
              clear ht
              by_cases hrr : t2 < 4294967296
              case pos =>
                have hrd : decide (4294967296 ≤ (t2 : Int)) = false := by simp; omega
                have hrd2 : ¬ 4294967296 ≤ t2 := by omega
                rcases ht2 with ht | ⟨ht, hz1, hz2⟩
                · have hg : decide (4294967296 ≤ (p : Int)) = true := by simp; omega
                  go_wp2
                  go_roundw
                  case rel => exact ⟨p2, t2, rfl, rfl, NX.out hrr, by trivial⟩
                  case measure => simp [intOf]; omega
                · have hg : decide (4294967296 ≤ (p : Int)) = false := by simp; omega
                  have hqm : IntKind.u64.wrap ((p : Int) * m) = ((p * m : Nat) : Int) := by
                    rw [show (p : Int) * m = ((p * m : Nat) : Int) by simp]
                    exact Mul.wrapN _ hz1
                  have hg2 : IntKind.u64.wrap (IntKind.u64.wrap (4294967296 * (t : Int)) + v0) = 4294967296 * (t : Int) + v0 := by
                    rw [show 4294967296 * (t : Int) = ((4294967296 * t : Nat) : Int) by simp, Mul.wrapN _ (by omega)]
                    rw [show ((4294967296 * t : Nat) : Int) + v0 = ((4294967296 * t + v0 : Nat) : Int) by simp, Mul.wrapN _ (by omega)]
                  have hg3 : decide (4294967296 * (t : Int) + v0 < ((p * m : Nat) : Int)) = true := by
                    rw [decide_eq_true_iff]; omega
                  have hz3 := Lib.hid hz2
                  generalize hz : p * m = z at hqm hg3
                  clear hz hz1 hz2
                  go_wp2
                  go_roundw
                  case rel => exact ⟨p2, t2, rfl, rfl, NX.out hrr, by trivial⟩
                  case measure => simp [intOf]; omega
              case neg =>
                have hrd : decide (4294967296 ≤ (t2 : Int)) = true := by simp; omega
                have hrd2 : 4294967296 ≤ t2 := by omega
                have HQ2 := Lib.hid (LX.out hrr)
                have hq2le : p2 ≤ 4294967296 := by omega
                rcases ht2 with ht | ⟨ht, hz1, hz2⟩
                · have hg : decide (4294967296 ≤ (p : Int)) = true := by simp; omega
                  obtain ⟨R2, hR2⟩ : ∃ R, (R1 * 4294967296 + v0) % Y = R := ⟨_, rfl⟩
                  have hR2l : R2 < Y := by rw [← hR2]; exact Nat.mod_lt _ (by omega)
                  have hsum2 : R1 * 4294967296 + v0 = p2 * Y + R2 := by
                    have := Nat.div_add_mod (R1 * 4294967296 + v0) Y
                    rw [← HQ2.out, hR2, Nat.mul_comm Y p2] at this
                    exact this.symm
                  have b2 := dv_rest hsum2 (by omega)
                  have ql1 := dg_top UH0 hv1b
                  have ql2 := dg_top hR1l hv0b
                  rw [← HQ.out] at ql1
                  rw [← HQ2.out] at ql2
                  have b3 : IntKind.u64.wrap (IntKind.u64.wrap ((q2 : Int) * 4294967296) + p2) = ((q2 * 4294967296 + p2 : Nat) : Int) := by
                    simp only [IntKind.wrap_u64]; omega
                  have HR2 := Lib.hid hR2
                  clear hR2
                  go_wp2
                  refine bodyPost_ret (by simp only [results, Try.results79]; go_simp; rfl) rfl ?_
                  exact ⟨dv_end (Nat.lt_of_le_of_lt (Nat.zero_le _) hUlt) HD.out HM.out HL.out HQ.out HR1.out HQ2.out HR2.out, by (repeat (first | exact Kept.refl _ | assumption | refine Kept.alloc ?_ _ | refine Kept.ext ?_ _ | refine Kept.drew ?_ | refine Kept.drewN ?_ _))⟩
                · have hg : decide (4294967296 ≤ (p : Int)) = false := by simp; omega
                  have hqm : IntKind.u64.wrap ((p : Int) * m) = ((p * m : Nat) : Int) := by
                    rw [show (p : Int) * m = ((p * m : Nat) : Int) by simp]
                    exact Mul.wrapN _ hz1
                  have hg2 : IntKind.u64.wrap (IntKind.u64.wrap (4294967296 * (t : Int)) + v0) = 4294967296 * (t : Int) + v0 := by
                    rw [show 4294967296 * (t : Int) = ((4294967296 * t : Nat) : Int) by simp, Mul.wrapN _ (by omega)]
                    rw [show ((4294967296 * t : Nat) : Int) + v0 = ((4294967296 * t + v0 : Nat) : Int) by simp, Mul.wrapN _ (by omega)]
                  have hg3 : decide (4294967296 * (t : Int) + v0 < ((p * m : Nat) : Int)) = true := by
                    rw [decide_eq_true_iff]; omega
                  have hz3 := Lib.hid hz2
                  generalize hz : p * m = z at hqm hg3
                  clear hz hz1 hz2
                  obtain ⟨R2, hR2⟩ : ∃ R, (R1 * 4294967296 + v0) % Y = R := ⟨_, rfl⟩
                  have hR2l : R2 < Y := by rw [← hR2]; exact Nat.mod_lt _ (by omega)
                  have hsum2 : R1 * 4294967296 + v0 = p2 * Y + R2 := by
                    have := Nat.div_add_mod (R1 * 4294967296 + v0) Y
                    rw [← HQ2.out, hR2, Nat.mul_comm Y p2] at this
                    exact this.symm
                  have b2 := dv_rest hsum2 (by omega)
                  have ql1 := dg_top UH0 hv1b
                  have ql2 := dg_top hR1l hv0b
                  rw [← HQ.out] at ql1
                  rw [← HQ2.out] at ql2
                  have b3 : IntKind.u64.wrap (IntKind.u64.wrap ((q2 : Int) * 4294967296) + p2) = ((q2 * 4294967296 + p2 : Nat) : Int) := by
                    simp only [IntKind.wrap_u64]; omega
                  have HR2 := Lib.hid hR2
                  clear hR2
                  go_wp2
                  refine bodyPost_ret (by simp only [results, Try.results79]; go_simp; rfl) rfl ?_
                  exact ⟨dv_end (Nat.lt_of_le_of_lt (Nat.zero_le _) hUlt) HD.out HM.out HL.out HQ.out HR1.out HQ2.out HR2.out, by (repeat (first | exact Kept.refl _ | assumption | refine Kept.alloc ?_ _ | refine Kept.ext ?_ _ | refine Kept.drew ?_ | refine Kept.drewN ?_ _))⟩
end Go.Proofs.Ytodmdicegkjicaa

namespace Go.Proofs.Ytodmdicegkjicaa
set_option linter.unusedVariables false
set_option linter.unusedSimpArgs false
open Go.ChangeShapes Go.WideShapes Go.ChangeAt Go.RowKit
/-- The least span of a quotient. -/
def qmS (num den : Int) : R := resultS ((num * 1048576).fdiv den) (-((-(num * 1048576)).fdiv den))
def upN (P d : Nat) : Nat := P / d + (if P % d = 0 then 0 else 1)
theorem fdiv_nat (P d : Nat) (hd : 0 < d) : (P : Int).fdiv d = (P / d : Nat) ∧ (-(P : Int)).fdiv d = -(upN P d : Nat) := by
  rw [Int.fdiv_eq_ediv_of_nonneg _ (by omega), Int.fdiv_eq_ediv_of_nonneg _ (by omega)]
  refine ⟨by rw [Int.natCast_ediv], ?_⟩
  have h1 := Nat.div_add_mod P d
  have h2 := Nat.mod_lt P hd
  unfold upN
  generalize P / d = q at *
  generalize P % d = r at *
  have h3 : ((d * q : Nat) : Int) = (d : Int) * q := Int.natCast_mul d q
  by_cases hr : r = 0
  · rw [if_pos hr]
    have e : -(P : Int) = (d : Int) * (-(q : Int)) := by rw [Int.mul_neg]; omega
    rw [e, Int.mul_ediv_cancel_left _ (by omega)]
    omega
  · rw [if_neg hr]
    have e : -(P : Int) = ((d - r : Nat) : Int) + (d : Int) * (-((q + 1 : Nat) : Int)) := by
      rw [Int.mul_neg, show ((q + 1 : Nat) : Int) = (q : Int) + 1 by omega, Int.mul_add, Int.mul_one]
      omega
    rw [e, Int.add_mul_ediv_left _ _ (by omega), Int.ediv_eq_zero_of_lt (by omega) (by omega)]
    omega
theorem qmS_nat {num : Int} {a d : Nat} (ha : num.natAbs = a) (hd : 0 < d) : qmS num d = if 0 ≤ num then resultS (a * 1048576 / d : Nat) (upN (a * 1048576) d : Nat) else resultS (-(upN (a * 1048576) d : Nat)) (-(a * 1048576 / d : Nat)) := by
  obtain ⟨h1, h2⟩ := fdiv_nat (a * 1048576) d hd
  unfold qmS
  by_cases h : 0 ≤ num
  · rw [if_pos h, show num * 1048576 = ((a * 1048576 : Nat) : Int) by omega, h1, h2, Int.neg_neg]
  · rw [if_neg h, show num * 1048576 = -((a * 1048576 : Nat) : Int) by omega, Int.neg_neg, h1, h2]
theorem upN_le (P d : Nat) : P / d ≤ upN P d ∧ upN P d ≤ P / d + 1 := by
  unfold upN
  split <;> omega
theorem res_up {q u : Nat} (h : q ≤ u) : (resultS (q : Int) u = (if u ≤ 1099511627776 then ⟨q, u, 0⟩ else ⟨0, 0, 4⟩)) ∧ (resultS (-(u : Int)) (-(q : Int)) = (if u ≤ 1099511627776 then ⟨-u, -q, 0⟩ else ⟨0, 0, 4⟩)) := by
  unfold resultS validB
  by_cases hu : u ≤ 1099511627776
  · rw [decide_eq_true (by omega), decide_eq_true (by omega), if_pos hu, if_pos hu]
    exact ⟨rfl, rfl⟩
  · rw [decide_eq_false (by omega), decide_eq_false (by omega), if_neg hu, if_neg hu]
    exact ⟨rfl, rfl⟩
theorem qm_cases {num : Int} {a d : Nat} (ha : num.natAbs = a) (hd : 0 < d) :
    (upN (a * 1048576) d ≤ 1099511627776 ∧ qmS num d = (if 0 ≤ num then ⟨(a * 1048576 / d : Nat), upN (a * 1048576) d, 0⟩ else ⟨-(upN (a * 1048576) d : Nat), -(a * 1048576 / d : Nat), 0⟩)) ∨ (1099511627776 < upN (a * 1048576) d ∧ qmS num d = ⟨0, 0, 4⟩) := by
  obtain ⟨h1, h2⟩ := res_up (upN_le (a * 1048576) d).1
  rw [qmS_nat ha hd, h1, h2]
  by_cases h : upN (a * 1048576) d ≤ 1099511627776
  · left
    refine ⟨h, ?_⟩
    rw [if_pos h, if_pos h]
  · right
    refine ⟨by omega, ?_⟩
    rw [if_neg h, if_neg h]
    split <;> rfl
theorem hi_big {P d : Nat} (hd : 0 < d) (h : d ≤ P / 18446744073709551616) : 1099511627776 < upN P d := by
  have h1 := (upN_le P d).1
  have h2 : 18446744073709551616 ≤ P / d := by
    rw [Nat.le_div_iff_mul_le hd]
    have := Nat.mul_le_mul_left 18446744073709551616 h
    have h3 := Nat.mul_div_le P 18446744073709551616
    omega
  omega
theorem hi_small {P d : Nat} (h : P / 18446744073709551616 < d) : P / d < 18446744073709551616 := by
  rw [Nat.div_lt_iff_lt_mul (by omega)]
  have h3 := Nat.div_add_mod P 18446744073709551616
  have h4 := Nat.mod_lt P (show 0 < 18446744073709551616 by omega)
  have h5 := Nat.mul_le_mul_left 18446744073709551616 (show P / 18446744073709551616 + 1 ≤ d by omega)
  omega
end Go.Proofs.Ytodmdicegkjicaa

