/- Contracts: the greatest minors and the rank with their errors, of the program and of the reference. Conditions: the list's length is an int. -/
import Derived.Test.YtoejdfpmmgldpaaRv
namespace Go.Proofs.Ytoejdfpmmgldpaa
set_option linter.unusedVariables false
set_option linter.unusedSimpArgs false
open Go.RowKit Go.Deep
def sizE (n : Nat) (m : Nat → Nat) (f : Nat → Nat → Int) (k : Int) : Int := if valE n m f = 0 then (if 0 ≤ k ∧ k ≤ ((min n (m 0) : Nat) : Int) then 0 else 1) else valE n m f
theorem sizE_0 {n : Nat} {m : Nat → Nat} {f : Nat → Nat → Int} {k : Int} (h : sizE n m f k = 0) : valE n m f = 0 ∧ 0 ≤ k ∧ k ≤ ((min n (m 0) : Nat) : Int) := by
  unfold sizE at h
  split at h
  · rename_i hv
    split at h
    · rename_i hk; exact ⟨hv, hk⟩
    · cases h
  · rename_i hv; exact absurd h hv
set_option maxRecDepth 100000 in
set_option maxHeartbeats 4000000 in
theorem csized_any (A : Option Addr) (n cap : Nat) (B : Nat → Option Addr) (m cp : Nat → Nat) (f : Nat → Nat → Int) (k : Int) (w : World) (hn : n ≤ 9223372036854775807) (hM : MatAt w A n B m cp f) :
    Calls Try.prog 71 #[.slice A n cap, .int .i64 k] w fun e w' => e = .returned (.int .i64 (sizE n m f k)) ∧ w = w' := by
  have HM := Lib.hid hM
  clear hM
  by_cases hv : valE n m f = 0
  · have HV := Lib.hid hv
    have hmo : Calls Try.prog 75 #[.slice A n cap] w fun e w' => e = .returned (.int .i64 (min n (m 0) : Nat)) ∧ w = w' := cmost_any A n cap B m cp f w hv HM.out
    have e : sizE n m f k = (if 0 ≤ k ∧ k ≤ ((min n (m 0) : Nat) : Int) then 0 else 1) := if_pos hv
    rw [e]
    clear hv e
    obtain ⟨q, hq⟩ : ∃ q : Nat, min n (m 0) = q := ⟨_, rfl⟩
    rw [hq] at hmo ⊢
    have HMO := Lib.hid hmo
    clear hq hmo
    by_cases h : 0 ≤ k ∧ k ≤ (q : Int)
    · rw [if_pos h]
      have hf : ∀ w', Calls Try.prog 54 #[.int .i64 k, .int .i64 0, .int .i64 (q : Int)] w' fun e w'' => e = .returned (.bool true) ∧ w' = w'' := fun w' => by
        have := from_any k 0 q w'
        rwa [decide_eq_true h] at this
      have HF := Lib.hid hf
      clear hf h
      go_enter Try.func71, Try.ntmps71
      go_wp2_with (first | (go_at_call 22; refine (cval_any _ _ _ _ _ _ _ _ hn (HM.out.of (by (repeat (first | exact Kept.refl _ | assumption | refine Kept.alloc ?_ _ | refine Kept.ext ?_ _ | refine Kept.drew ?_ | refine Kept.drewN ?_ _))))).mono ?_; rintro e w1 ⟨rfl, rfl⟩; rw [HV.out]) | (go_at_call 75; refine HMO.out.mono ?_; rintro e w1 ⟨rfl, rfl⟩) | (go_at_call 54; refine (HF.out _).mono ?_; rintro e w1 ⟨rfl, rfl⟩))
      go_ret
      exact ⟨rfl, rfl⟩
    · rw [if_neg h]
      have hf : ∀ w', Calls Try.prog 54 #[.int .i64 k, .int .i64 0, .int .i64 (q : Int)] w' fun e w'' => e = .returned (.bool false) ∧ w' = w'' := fun w' => by
        have := from_any k 0 q w'
        rwa [decide_eq_false h] at this
      have HF := Lib.hid hf
      clear hf h
      go_enter Try.func71, Try.ntmps71
      go_wp2_with (first | (go_at_call 22; refine (cval_any _ _ _ _ _ _ _ _ hn (HM.out.of (by (repeat (first | exact Kept.refl _ | assumption | refine Kept.alloc ?_ _ | refine Kept.ext ?_ _ | refine Kept.drew ?_ | refine Kept.drewN ?_ _))))).mono ?_; rintro e w1 ⟨rfl, rfl⟩; rw [HV.out]) | (go_at_call 75; refine HMO.out.mono ?_; rintro e w1 ⟨rfl, rfl⟩) | (go_at_call 54; refine (HF.out _).mono ?_; rintro e w1 ⟨rfl, rfl⟩))
      go_ret
      exact ⟨rfl, rfl⟩
  · have e : sizE n m f k = valE n m f := if_neg hv
    rw [e]
    obtain ⟨v, hve⟩ : ∃ v, valE n m f = v := ⟨_, rfl⟩
    rw [hve] at hv ⊢
    have HV := Lib.hid hve
    have hv2 : (v == 0) = false := by simpa using hv
    have hv3 : decide (v = 0) = false := by simpa using hv
    clear e hve
    go_enter Try.func71, Try.ntmps71
    go_wp2_with (go_at_call 22; refine (cval_any _ _ _ _ _ _ _ _ hn (HM.out.of (by (repeat (first | exact Kept.refl _ | assumption | refine Kept.alloc ?_ _ | refine Kept.ext ?_ _ | refine Kept.drew ?_ | refine Kept.drewN ?_ _))))).mono ?_; rintro e w1 ⟨rfl, rfl⟩; rw [HV.out])
    go_ret
    exact ⟨rfl, rfl⟩
def volV (n : Nat) (m : Nat → Nat) (f : Nat → Nat → Int) (k : Int) : Int := if sizE n m f k = 0 then volS f n (m 0) k else 0
set_option maxRecDepth 100000 in
set_option maxHeartbeats 4000000 in
theorem cVolume_any (A : Option Addr) (n cap : Nat) (B : Nat → Option Addr) (m cp : Nat → Nat) (f : Nat → Nat → Int) (k : Int) (w : World) (hn : n ≤ 9223372036854775807) (hM : MatAt w A n B m cp f) :
    Calls Try.prog 29 #[.slice A n cap, .int .i64 k] w fun e w' => e = .returned (.tuple #[.int .i64 (volV n m f k), .int .i64 (sizE n m f k)]) ∧ Kept w w' := by
  have HM := Lib.hid hM
  clear hM
  obtain ⟨E, hE⟩ : ∃ e, sizE n m f k = e := ⟨_, rfl⟩
  by_cases h0 : E = 0
  · subst h0
    obtain ⟨hv, hk⟩ := sizE_0 hE
    have hvo : volV n m f k = vmat f n (m 0) k (-1) (2 ^ n) := by
      unfold volV
      rw [if_pos hE, volS_eq hk]
    rw [hvo, hE]
    obtain ⟨V, hV⟩ : ∃ v, vmat f n (m 0) k (-1) (2 ^ n) = v := ⟨_, rfl⟩
    have hlg : ∀ w', Kept w w' → Calls Try.prog 72 #[.slice A n cap, .int .i64 k] w' fun e w'' => ∃ vr vc, e = .returned (.tuple #[vr, vc, .int .i64 V]) ∧ Kept w' w'' := fun w' hkw => by
      rw [← hV]
      exact (clargest_any A n cap B m cp f k w' hv (HM.out.of hkw)).mono fun e w'' ⟨vr, vc, h1, h2, _⟩ => ⟨vr, vc, h1, h2⟩
    rw [hV]
    have HE := Lib.hid hE
    have HLG := Lib.hid hlg
    clear hv hk hvo hV hlg hE
    go_enter Try.func29, Try.ntmps29
    go_wp2_with (first | (go_at_call 71; refine (csized_any _ _ _ _ _ _ _ _ _ hn (HM.out.of (by (repeat (first | exact Kept.refl _ | assumption | refine Kept.alloc ?_ _ | refine Kept.ext ?_ _ | refine Kept.drew ?_ | refine Kept.drewN ?_ _))))).mono ?_; rintro e w1 ⟨rfl, rfl⟩; rw [HE.out]) | (go_at_call 72; refine (HLG.out _ (by (repeat (first | exact Kept.refl _ | assumption | refine Kept.alloc ?_ _ | refine Kept.ext ?_ _ | refine Kept.drew ?_ | refine Kept.drewN ?_ _)))).mono ?_; rintro e w1 ⟨vr, vc, rfl, x, rfl⟩))
    refine bodyPost_ret (by simp only [results, Try.results29]; go_simp; rfl) rfl ?_
    exact ⟨rfl, by (repeat (first | exact Kept.refl _ | assumption | refine Kept.alloc ?_ _ | refine Kept.ext ?_ _ | refine Kept.drew ?_ | refine Kept.drewN ?_ _))⟩
  · have hvo : volV n m f k = 0 := by
      unfold volV
      rw [if_neg (by rw [hE]; exact h0)]
    rw [hvo, hE]
    have HE := Lib.hid hE
    have hv2 : (E == 0) = false := by simpa using h0
    have hv3 : decide (E = 0) = false := by simpa using h0
    clear hvo hE
    go_enter Try.func29, Try.ntmps29
    go_wp2_with (go_at_call 71; refine (csized_any _ _ _ _ _ _ _ _ _ hn (HM.out.of (by (repeat (first | exact Kept.refl _ | assumption | refine Kept.alloc ?_ _ | refine Kept.ext ?_ _ | refine Kept.drew ?_ | refine Kept.drewN ?_ _))))).mono ?_; rintro e w1 ⟨rfl, rfl⟩; rw [HE.out])
    refine bodyPost_ret (by simp only [results, Try.results29]; go_simp; rfl) rfl ?_
    exact ⟨rfl, by (repeat (first | exact Kept.refl _ | assumption | refine Kept.alloc ?_ _ | refine Kept.ext ?_ _ | refine Kept.drew ?_ | refine Kept.drewN ?_ _))⟩
/-- A choice with the greatest minor. -/
def BstC (f : Nat → Nat → Int) (n M : Nat) (k : Int) (b : Nat) (vr vc : Value) (w : World) : Prop :=
  ∃ r c, r < 2 ^ n ∧ c < 2 ^ M ∧ ((bl r n).length : Int) = k ∧ ((bl c M).length : Int) = k ∧ volS f n M k = dV f n M r c ∧
    w.ownsRow b 3 1 vr (bl r n).length (rowC 1 (blF r n) (bl r n).length) ∧ w.ownsRow b 3 1 vc (bl c M).length (rowC 1 (blF c M) (bl c M).length)
theorem Bst.c {f : Nat → Nat → Int} {n M : Nat} {k : Int} {b : Nat} {vr vc : Value} {w : World} (hk : 0 ≤ k ∧ k ≤ ((min n M : Nat) : Int)) (h : Bst f n M k b vr vc (vmat f n M k (-1) (2 ^ n)) w) : BstC f n M k b vr vc w := by
  rw [volS_eq hk] at h
  rcases h with ⟨h, -⟩ | h
  · have := volS_pos (f := f) (n := n) (M := M) (k := k)
    omega
  · exact h
set_option maxRecDepth 100000 in
set_option maxHeartbeats 4000000 in
theorem cLargest_any (A : Option Addr) (n cap : Nat) (B : Nat → Option Addr) (m cp : Nat → Nat) (f : Nat → Nat → Int) (k : Int) (w : World) (hn : n ≤ 9223372036854775807) (hM : MatAt w A n B m cp f) :
    Calls Try.prog 31 #[.slice A n cap, .int .i64 k] w fun e w' => ∃ vr vc, e = .returned (.tuple #[vr, vc, .int .i64 (sizE n m f k)]) ∧ Kept w w' ∧ (sizE n m f k = 0 → BstC f n (m 0) k w.heap.size vr vc w') ∧ (sizE n m f k ≠ 0 → vr = .slice none 0 0 ∧ vc = .slice none 0 0) := by
  have HM := Lib.hid hM
  clear hM
  obtain ⟨E, hE⟩ : ∃ e, sizE n m f k = e := ⟨_, rfl⟩
  rw [hE]
  have HE := Lib.hid hE
  by_cases h0 : E = 0
  · subst h0
    obtain ⟨hv, hk⟩ := sizE_0 hE
    obtain ⟨V, hV⟩ : ∃ v, vmat f n (m 0) k (-1) (2 ^ n) = v := ⟨_, rfl⟩
    have hlg : Calls Try.prog 72 #[.slice A n cap, .int .i64 k] w fun e w'' => ∃ vr vc, e = .returned (.tuple #[vr, vc, .int .i64 V]) ∧ Kept w w'' ∧ BstC f n (m 0) k w.heap.size vr vc w'' := by
      rw [← hV]
      exact (clargest_any A n cap B m cp f k w hv HM.out).mono fun e w'' ⟨vr, vc, h1, h2, h3⟩ => ⟨vr, vc, h1, h2, h3.c hk⟩
    have HLG := Lib.hid hlg
    clear hv hk hV hlg hE
    go_enter Try.func31, Try.ntmps31
    go_wp2_with (first | (go_at_call 71; refine (csized_any _ _ _ _ _ _ _ _ _ hn (HM.out.of (by (repeat (first | exact Kept.refl _ | assumption | refine Kept.alloc ?_ _ | refine Kept.ext ?_ _ | refine Kept.drew ?_ | refine Kept.drewN ?_ _))))).mono ?_; rintro e w1 ⟨rfl, rfl⟩; rw [HE.out]) | (go_at_call 72; refine HLG.out.mono ?_; rintro e w1 ⟨vr, vc, rfl, ⟨x, rfl⟩, hb⟩; have HB := Lib.hid hb; clear hb))
    refine bodyPost_ret (by simp only [results, Try.results31]; go_simp; rfl) rfl ?_
    exact ⟨_, _, rfl, by (repeat (first | exact Kept.refl _ | assumption | refine Kept.alloc ?_ _ | refine Kept.ext ?_ _ | refine Kept.drew ?_ | refine Kept.drewN ?_ _)), fun _ => HB.out, fun h => absurd rfl h⟩
  · have hv2 : (E == 0) = false := by simpa using h0
    have hv3 : decide (E = 0) = false := by simpa using h0
    clear hE
    go_enter Try.func31, Try.ntmps31
    go_wp2_with (go_at_call 71; refine (csized_any _ _ _ _ _ _ _ _ _ hn (HM.out.of (by (repeat (first | exact Kept.refl _ | assumption | refine Kept.alloc ?_ _ | refine Kept.ext ?_ _ | refine Kept.drew ?_ | refine Kept.drewN ?_ _))))).mono ?_; rintro e w1 ⟨rfl, rfl⟩; rw [HE.out])
    refine bodyPost_ret (by simp only [results, Try.results31]; go_simp; rfl) rfl ?_
    exact ⟨_, _, rfl, by (repeat (first | exact Kept.refl _ | assumption | refine Kept.alloc ?_ _ | refine Kept.ext ?_ _ | refine Kept.drew ?_ | refine Kept.drewN ?_ _)), fun h => absurd h h0, fun _ => ⟨rfl, rfl⟩⟩
set_option maxRecDepth 100000 in
set_option maxHeartbeats 4000000 in
theorem r6Volume_any (A : Option Addr) (n cap : Nat) (B : Nat → Option Addr) (m cp : Nat → Nat) (f : Nat → Nat → Int) (k : Int) (w : World) (hn : n ≤ 9223372036854775807) (hM : MatAt w A n B m cp f) :
    Calls Try.prog 30 #[.slice A n cap, .int .i64 k] w fun e w' => e = .returned (.tuple #[.int .i64 (volV n m f k), .int .i64 (sizE n m f k)]) ∧ Kept w w' := by
  have HM := Lib.hid hM
  clear hM
  by_cases hv : valE n m f = 0
  · have HV := Lib.hid hv
    have hmo : ∀ w', Kept w w' → Calls Try.prog 73 #[.slice A n cap] w' fun e w'' => e = .returned (.int .i64 (min n (m 0) : Nat)) ∧ w' = w'' := fun w' hk => r6sides_any A n cap B m cp f w' hv (HM.out.of hk)
    have e : sizE n m f k = (if 0 ≤ k ∧ k ≤ ((min n (m 0) : Nat) : Int) then 0 else 1) := if_pos hv
    have hvo : volV n m f k = (if 0 ≤ k ∧ k ≤ ((min n (m 0) : Nat) : Int) then volS f n (m 0) k else 0) := by
      unfold volV
      rw [e]
      by_cases h : 0 ≤ k ∧ k ≤ ((min n (m 0) : Nat) : Int)
      · rw [if_pos h, if_pos rfl, if_pos h]
      · rw [if_neg h, if_neg (by decide), if_neg h]
    have hvl : ∀ w', Kept w w' → Calls Try.prog 74 #[.slice A n cap, .int .i64 k] w' fun e w'' => e = .returned (.int .i64 (volS f n (m 0) k)) ∧ Kept w' w'' := fun w' hk => r6vol_any A n cap B m cp f k w' hv (HM.out.of hk)
    rw [hvo, e]
    clear hv e hvo
    obtain ⟨q, hq⟩ : ∃ q : Nat, min n (m 0) = q := ⟨_, rfl⟩
    obtain ⟨V, hV⟩ : ∃ v, volS f n (m 0) k = v := ⟨_, rfl⟩
    rw [hq] at hmo ⊢
    rw [hV] at hvl ⊢
    have HMO := Lib.hid hmo
    have HVL := Lib.hid hvl
    clear hq hmo hV hvl
    by_cases h : 0 ≤ k ∧ k ≤ (q : Int)
    · rw [if_pos h, if_pos h]
      have hf : ∀ w', Calls Try.prog 58 #[.int .i64 k, .int .i64 0, .int .i64 (q : Int)] w' fun e w'' => e = .returned (.bool true) ∧ w' = w'' := fun w' => by
        have := r6within_any k 0 q w'
        rwa [decide_eq_true h] at this
      have HF := Lib.hid hf
      clear hf h
      go_enter Try.func30, Try.ntmps30
      go_wp2_with (first | (go_at_call 23; refine (r6val_any _ _ _ _ _ _ _ _ hn (HM.out.of (by (repeat (first | exact Kept.refl _ | assumption | refine Kept.alloc ?_ _ | refine Kept.ext ?_ _ | refine Kept.drew ?_ | refine Kept.drewN ?_ _))))).mono ?_; rintro e w1 ⟨rfl, x0, rfl⟩; rw [HV.out]) | (go_at_call 73; refine (HMO.out _ (by (repeat (first | exact Kept.refl _ | assumption | refine Kept.alloc ?_ _ | refine Kept.ext ?_ _ | refine Kept.drew ?_ | refine Kept.drewN ?_ _)))).mono ?_; rintro e w1 ⟨rfl, rfl⟩) | (go_at_call 58; refine (HF.out _).mono ?_; rintro e w1 ⟨rfl, rfl⟩) | (go_at_call 74; refine (HVL.out _ (by (repeat (first | exact Kept.refl _ | assumption | refine Kept.alloc ?_ _ | refine Kept.ext ?_ _ | refine Kept.drew ?_ | refine Kept.drewN ?_ _)))).mono ?_; rintro e w1 ⟨rfl, x1, rfl⟩))
      refine bodyPost_ret (by simp only [results, Try.results30]; go_simp; rfl) rfl ?_
      exact ⟨rfl, by (repeat (first | exact Kept.refl _ | assumption | refine Kept.alloc ?_ _ | refine Kept.ext ?_ _ | refine Kept.drew ?_ | refine Kept.drewN ?_ _))⟩
    · rw [if_neg h, if_neg h]
      have hf : ∀ w', Calls Try.prog 58 #[.int .i64 k, .int .i64 0, .int .i64 (q : Int)] w' fun e w'' => e = .returned (.bool false) ∧ w' = w'' := fun w' => by
        have := r6within_any k 0 q w'
        rwa [decide_eq_false h] at this
      have HF := Lib.hid hf
      clear hf h
      go_enter Try.func30, Try.ntmps30
      go_wp2_with (first | (go_at_call 23; refine (r6val_any _ _ _ _ _ _ _ _ hn (HM.out.of (by (repeat (first | exact Kept.refl _ | assumption | refine Kept.alloc ?_ _ | refine Kept.ext ?_ _ | refine Kept.drew ?_ | refine Kept.drewN ?_ _))))).mono ?_; rintro e w1 ⟨rfl, x0, rfl⟩; rw [HV.out]) | (go_at_call 73; refine (HMO.out _ (by (repeat (first | exact Kept.refl _ | assumption | refine Kept.alloc ?_ _ | refine Kept.ext ?_ _ | refine Kept.drew ?_ | refine Kept.drewN ?_ _)))).mono ?_; rintro e w1 ⟨rfl, rfl⟩) | (go_at_call 58; refine (HF.out _).mono ?_; rintro e w1 ⟨rfl, rfl⟩))
      refine bodyPost_ret (by simp only [results, Try.results30]; go_simp; rfl) rfl ?_
      exact ⟨rfl, by (repeat (first | exact Kept.refl _ | assumption | refine Kept.alloc ?_ _ | refine Kept.ext ?_ _ | refine Kept.drew ?_ | refine Kept.drewN ?_ _))⟩
  · have e : sizE n m f k = valE n m f := if_neg hv
    have hvo : volV n m f k = 0 := by
      unfold volV
      rw [e, if_neg hv]
    rw [hvo, e]
    obtain ⟨v, hve⟩ : ∃ v, valE n m f = v := ⟨_, rfl⟩
    rw [hve] at hv ⊢
    have HV := Lib.hid hve
    have hv2 : (v == 0) = false := by simpa using hv
    have hv3 : decide (v = 0) = false := by simpa using hv
    clear e hve hvo
    go_enter Try.func30, Try.ntmps30
    go_wp2_with (go_at_call 23; refine (r6val_any _ _ _ _ _ _ _ _ hn (HM.out.of (by (repeat (first | exact Kept.refl _ | assumption | refine Kept.alloc ?_ _ | refine Kept.ext ?_ _ | refine Kept.drew ?_ | refine Kept.drewN ?_ _))))).mono ?_; rintro e w1 ⟨rfl, x0, rfl⟩; rw [HV.out])
    refine bodyPost_ret (by simp only [results, Try.results30]; go_simp; rfl) rfl ?_
    exact ⟨rfl, by (repeat (first | exact Kept.refl _ | assumption | refine Kept.alloc ?_ _ | refine Kept.ext ?_ _ | refine Kept.drew ?_ | refine Kept.drewN ?_ _))⟩
end Go.Proofs.Ytoejdfpmmgldpaa
