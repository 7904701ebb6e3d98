/- Contract: all choices of k rows and columns, each given to the function value of the program's search. Conditions: what that function value does. -/
import Derived.Test.YtjadpehpempjoaaFx
namespace Go.Proofs.Ytjadpehpempjoaa
set_option linter.unusedVariables false
set_option linter.unusedSimpArgs false
open Go.RowKit Go.Deep
set_option maxRecDepth 100000 in
set_option maxHeartbeats 4000000 in
theorem cchoices_c (A : Option Addr) (n cap : Nat) (B : Nat → Option Addr) (m cp : Nat → Nat) (f : Nat → Nat → Int) (k : Int) (c0 c1 c2 c3 c4 : Value) (I : Nat → Nat → World → Prop) (J : World → Prop) (W0 w : World)
    (hv : (1 ≤ n ∧ n ≤ 6) ∧ (1 ≤ m 0 ∧ m 0 ≤ 6)) (hM : MatAt W0 A n B m cp f)
    (hK : ∀ r c w', I r c w' → Kept W0 w') (hkept : ∀ r c w' w'', I r c w' → Kept w' w'' → I r c w'')
    (hstep : ∀ r c w' (RA CA : Option Addr) (rc cc : Nat), r < 2 ^ n → c < 2 ^ m 0 → ((bl r n).length : Int) = k → ((bl c (m 0)).length : Int) = k → I r c w' →
      w'.ownsRow w.heap.size 3 1 (.slice RA (bl r n).length rc) (bl r n).length (rowC 1 (blF r n) (bl r n).length) → w'.ownsRow w.heap.size 3 1 (.slice CA (bl c (m 0)).length cc) (bl c (m 0)).length (rowC 1 (blF c (m 0)) (bl c (m 0)).length) →
      Calls Try.prog 19 #[.slice RA (bl r n).length rc, .slice CA (bl c (m 0)).length cc, c0, c1, c2, c3, c4] w' fun e w'' => ∃ b, e = .returned (.bool b) ∧ (b = true → I r (c + 1) w'' ∧ FromOn w.heap.size w' w'') ∧ (b = false → J w''))
    (hc : ∀ r c w', c < 2 ^ m 0 → ((bl c (m 0)).length : Int) ≠ k → I r c w' → I r (c + 1) w')
    (hr : ∀ r w', r < 2 ^ n → ((bl r n).length : Int) ≠ k → I r 0 w' → I (r + 1) 0 w')
    (he : ∀ r w', ((bl r n).length : Int) = k → I r (2 ^ m 0) w' → I (r + 1) 0 w') (h0 : I 0 0 w) :
    Calls Try.prog 18 #[.slice A n cap, .int .i64 k, .func (.func 19) #[] #[c0, c1, c2, c3, c4]] w fun e w' => e = .returned (.tuple #[]) ∧ (I (2 ^ n) 0 w' ∨ J w') := by
  obtain ⟨⟨n1, n6⟩, m1, m6⟩ := hv
  have HM := Lib.hid hM
  have HK := Lib.hid hK
  have HKE := Lib.hid hkept
  have HST := Lib.hid hstep
  have HC := Lib.hid hc
  have HR := Lib.hid hr
  have HE := Lib.hid he
  have H0 := Lib.hid h0
  clear hM hK hkept hstep hc hr he h0
  go_enter Try.func18, Try.ntmps18
  go_wp2
  refine wp_scope_straight ?_
  refine wp_seq (wp_label ?_)
  simp only [Exit.then]
  go_wp2
  have hp1 : wrap64 (2 ^ n) = ((2 ^ n : Nat) : Int) := by
    rcases (show n = 1 ∨ n = 2 ∨ n = 3 ∨ n = 4 ∨ n = 5 ∨ n = 6 by omega) with h | h | h | h | h | h <;> subst h <;> decide +kernel
  have hp2 : wrap64 (2 ^ m 0) = ((2 ^ m 0 : Nat) : Int) := by
    generalize m 0 = q at m1 m6
    rcases (show q = 1 ∨ q = 2 ∨ q = 3 ∨ q = 4 ∨ q = 5 ∨ q = 6 by omega) with h | h | h | h | h | h <;> subst h <;> decide +kernel
  have hp3 : 2 ^ n ≤ 64 := Nat.pow_le_pow_right (by omega) n6
  have hp4 : 2 ^ m 0 ≤ 64 := Nat.pow_le_pow_right (by omega) m6
  rw [hp1]
  have HP2 := Lib.hid hp2
  clear hp1 hp2
  obtain ⟨N, hN⟩ : ∃ N, 2 ^ n = N := ⟨_, rfl⟩
  obtain ⟨M, hM⟩ : ∃ M, 2 ^ m 0 = M := ⟨_, rfl⟩
  rw [hN] at hp3 HST HR ⊢
  rw [hM] at hp4 HST HC HE HP2
  have HN := Lib.hid hN
  have HMM := Lib.hid hM
  clear hN hM
  go_loopw [13] (fun i wr => ∃ r : Nat, r ≤ N ∧ i = .int .i64 r ∧ I r 0 wr ∧ w.heap.size ≤ wr.heap.size) (fun i _ => N - (intOf i).toNat)
  case atStart => exact ⟨0, by omega, rfl, H0.out, Nat.le_refl _⟩
  case round =>
    obtain ⟨r, hr, rfl, hI, hsz⟩ := hrel
    have HI := Lib.hid hI
    by_cases hlt : r < N
    · obtain ⟨ab, ao, hA, hab, c1⟩ := (HM.out.of (HK.out r 0 wr hI)).at (k := 0) (by omega)
      subst hA
      rw [Nat.add_zero] at c1
      have LA : Lower ab wr.heap.size := ⟨hab⟩
      clear hI
      by_cases hl : ((bl r n).length : Int) = k
      · have HL := Lib.hid hl
        have hl2 : (((bl r n).length : Int) == k) = true := by simpa using hl
        have hl3 : (((bl r n).length : Int) != k) = false := by simpa using hl
        clear hl
        go_wp2_with (go_at_call 33; refine (cmem_any _ n _ n6 (by rw [HN.out]; exact hlt)).mono ?_; rintro e w1 ⟨v, rfl, ⟨x, rfl⟩, ho⟩; obtain ⟨RA, rc, rfl⟩ := own_slice2 ho; have HO := Lib.hid ho; clear ho)
        rw [HP2.out]
        go_loopw [27] (fun j w2 => ∃ c : Nat, c ≤ M ∧ j = .int .i64 c ∧ I r c w2 ∧ w.heap.size ≤ w2.heap.size ∧ w2.ownsRow w.heap.size 3 1 (.slice RA (bl r n).length rc) (bl r n).length (rowC 1 (blF r n) (bl r n).length)) (fun j _ => M - (intOf j).toNat)
        case atStart =>
          have hko : Kept wr (ext wr x) := by (repeat (first | exact Kept.refl _ | assumption | refine Kept.alloc ?_ _ | refine Kept.ext ?_ _ | refine Kept.drew ?_ | refine Kept.drewN ?_ _))
          exact ⟨0, by omega, rfl, HKE.out _ _ _ _ HI.out hko, Nat.le_trans hsz (kept_le hko), own_lo2 HO.out hsz⟩
        case round =>
          obtain ⟨c, hc, rfl, hI, hs2, ho2⟩ := hrel
          have HI2 := Lib.hid hI
          have HO2 := Lib.hid ho2
          clear hI ho2
          by_cases hlc : c < M
          · by_cases hcl : ((bl c (m 0)).length : Int) = k
            · have HCL := Lib.hid hcl
              have hcl2 : (((bl c (m 0)).length : Int) == k) = true := by simpa using hcl
              clear hcl
              go_wp2_with (first | (go_at_call 33; refine (cmem_any _ (m 0) _ m6 (by rw [HMM.out]; exact hlc)).mono ?_; rintro e w1 ⟨v, rfl, ⟨x2, rfl⟩, ho⟩; obtain ⟨CA, cc, rfl⟩ := own_slice2 ho; have HO3 := Lib.hid ho; clear ho) | (go_at_call 19; refine (HST.out r c _ RA CA rc cc hlt hlc HL.out HCL.out (HKE.out _ _ _ _ HI2.out (by (repeat (first | exact Kept.refl _ | assumption | refine Kept.alloc ?_ _ | refine Kept.ext ?_ _ | refine Kept.drew ?_ | refine Kept.drewN ?_ _)))) (owns_kept HO2.out (by (repeat (first | exact Kept.refl _ | assumption | refine Kept.alloc ?_ _ | refine Kept.ext ?_ _ | refine Kept.drew ?_ | refine Kept.drewN ?_ _)))) (own_lo2 HO3.out hs2)).mono ?_; rintro e w3 ⟨b, rfl, hb1, hb2⟩; cases b))
              · simp only [Exit.noGoto]
                refine bodyPost_ret (by simp only [results, Try.results18]; go_simp; rfl) rfl ?_
                exact ⟨rfl, .inr (hb2 trivial)⟩
              · obtain ⟨hb3, hb4⟩ := hb1 trivial
                go_roundw
                case rel => exact ⟨c + 1, by omega, by go_num, hb3, Nat.le_trans hs2 (Nat.le_trans (kept_le (by (repeat (first | exact Kept.refl _ | assumption | refine Kept.alloc ?_ _ | refine Kept.ext ?_ _ | refine Kept.drew ?_ | refine Kept.drewN ?_ _)))) hb4.1), hb4.owns (owns_kept HO2.out (by (repeat (first | exact Kept.refl _ | assumption | refine Kept.alloc ?_ _ | refine Kept.ext ?_ _ | refine Kept.drew ?_ | refine Kept.drewN ?_ _))))⟩
                case measure => simp [intOf]; omega
            · have HCL := Lib.hid hcl
              have hcl2 : (((bl c (m 0)).length : Int) == k) = false := by simpa using hcl
              clear hcl
              go_wp2_with (first | (go_at_call 33; refine (cmem_any _ (m 0) _ m6 (by rw [HMM.out]; exact hlc)).mono ?_; rintro e w1 ⟨v, rfl, ⟨x2, rfl⟩, ho⟩; obtain ⟨CA, cc, rfl⟩ := own_slice2 ho; have HO3 := Lib.hid ho; clear ho))
              go_roundw
              case rel => exact ⟨c + 1, by omega, by go_num, HC.out r c _ hlc HCL.out (HKE.out _ _ _ _ HI2.out (by (repeat (first | exact Kept.refl _ | assumption | refine Kept.alloc ?_ _ | refine Kept.ext ?_ _ | refine Kept.drew ?_ | refine Kept.drewN ?_ _)))), Nat.le_trans hs2 (kept_le (by (repeat (first | exact Kept.refl _ | assumption | refine Kept.alloc ?_ _ | refine Kept.ext ?_ _ | refine Kept.drew ?_ | refine Kept.drewN ?_ _)))), owns_kept HO2.out (by (repeat (first | exact Kept.refl _ | assumption | refine Kept.alloc ?_ _ | refine Kept.ext ?_ _ | refine Kept.drew ?_ | refine Kept.drewN ?_ _)))⟩
              case measure => simp [intOf]; omega
          · obtain rfl : c = M := by omega
            go_wp2
            go_roundw
            case rel => exact ⟨r + 1, by omega, by go_num, HE.out r _ HL.out HI2.out, hs2⟩
            case measure => simp [intOf]; omega
      · have HL := Lib.hid hl
        have hl2 : (((bl r n).length : Int) == k) = false := by simpa using hl
        have hl3 : (((bl r n).length : Int) != k) = true := by simpa using hl
        clear hl
        go_wp2_with (go_at_call 33; refine (cmem_any _ n _ n6 (by rw [HN.out]; exact hlt)).mono ?_; rintro e w1 ⟨v, rfl, ⟨x, rfl⟩, ho⟩; obtain ⟨RA, rc, rfl⟩ := own_slice2 ho; have HO := Lib.hid ho; clear ho)
        go_roundw
        case rel => exact ⟨r + 1, by omega, by go_num, HR.out r _ hlt HL.out (HKE.out _ _ _ _ HI.out (by (repeat (first | exact Kept.refl _ | assumption | refine Kept.alloc ?_ _ | refine Kept.ext ?_ _ | refine Kept.drew ?_ | refine Kept.drewN ?_ _)))), Nat.le_trans hsz (kept_le (by (repeat (first | exact Kept.refl _ | assumption | refine Kept.alloc ?_ _ | refine Kept.ext ?_ _ | refine Kept.drew ?_ | refine Kept.drewN ?_ _))))⟩
        case measure => simp [intOf]; omega
    · obtain rfl : r = N := by omega
      clear hI
      go_wp2
      simp only [Exit.noGoto]
      refine bodyPost_end (by simp only [results, Try.results18]; go_simp; rfl) rfl ?_
      exact ⟨rfl, .inl (by rw [HN.out]; exact HI.out)⟩
end Go.Proofs.Ytjadpehpempjoaa
