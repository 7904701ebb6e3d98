/- Contracts: edges, parts and handles, of the program. Conditions: the lists' lengths are ints. -/
import Derived.Test.YtoadlneneijfaaaGsl
import Derived.Test.YtoadlneneijfaaaGgv
import Derived.Test.YtoadlneneijfaaaGva
namespace Go.Proofs.Ytoadlneneijfaaa
set_option linter.unusedVariables false
set_option linter.unusedSimpArgs false
open Go.RowKit  Go.Maps
/-- p parts and d handles, if the mesh is valid. -/
def Top (n : Nat) (P : Nat → Nat → Int) (m : Nat) (F : Nat → Nat → Int) (p d : Nat) : Prop :=
  validE n P m F = 0 → ∃ (al : Nat → Nat) (c : Nat), Oth F al m ∧ GrN (fun _ => True) (adjF al m) m p ∧ (∀ fan : Nat → Nat, (∀ v, v < n → GrN (selV F v) (adjV F al m v) m (fan v)) → sumN fan n = c) ∧ 2 * c + 4 * d = m + 4 * p ∧ p ≤ m ∧ c ≤ 3 * m
theorem GrN.le {sel : Nat → Prop} {adj : Nat → Nat → Prop} {m c : Nat} (h : GrN sel adj m c) : c ≤ m := by
  obtain ⟨p, -, rfl⟩ := h
  exact cnB_le p m
theorem Top.ex (n : Nat) (P : Nat → Nat → Int) (m : Nat) (F : Nat → Nat → Int) : ∃ p d, Top n P m F p d := by
  by_cases h : validE n P m F = 0
  · obtain ⟨al, ho⟩ := (clo_of h).oth
    obtain ⟨c, p, d, h1, h2, h3⟩ := (clo_of h).handles ho
    have hp := h2.le
    exact ⟨p, d, fun _ => ⟨al, c, ho, h2, h1, h3, hp, by omega⟩⟩
  · exact ⟨0, 0, fun k => absurd k h⟩
theorem valid_sz {n m : Nat} {P F : Nat → Nat → Int} (h : validE n P m F = 0) : n ≤ 64 ∧ 1 ≤ m ∧ m ≤ 96 := by
  unfold validE at h
  split at h
  · omega
  · rename_i h1
    unfold largeB at h1
    simp only [Bool.or_eq_true, decide_eq_true_eq, Bool.not_eq_true', decide_eq_false_iff_not, not_or, Nat.not_lt] at h1
    omega
set_option maxRecDepth 100000 in
theorem sedges_any (A B : Option Addr) (n cap m cap2 : Nat) (w : World) (hm : m ≤ 96) :
    Calls Try.prog 101 #[.agg #[.slice A n cap, .slice B m cap2]] w fun r w' => r = .returned (.int .i64 ((3 * m / 2 : Nat) : Int)) ∧ Kept w w' := by
  go_enter Try.func101, Try.ntmps101
  go_wp2_with fail
  refine bodyPost_ret (by simp only [results, Try.results101]; go_simp; rfl) rfl ?_
  exact ⟨by congr 1, by (repeat (first | exact Kept.refl _ | assumption | refine Kept.alloc ?_ _ | refine Kept.ext ?_ _ | refine Kept.drew ?_ | refine Kept.drewN ?_ _))⟩
set_option maxRecDepth 100000 in
theorem sparts_any (A B : Option Addr) (n cap m cap2 : Nat) (F : Nat → Nat → Int) (al : Nat → Nat) (p : Nat) (w : World) (hm : m ≤ 96) (hF : RowsAt w B m 3 F) (ho : Oth F al m) (hp : GrN (fun _ => True) (adjF al m) m p) :
    Calls Try.prog 102 #[.agg #[.slice A n cap, .slice B m cap2]] w fun r w' => r = .returned (.int .i64 (p : Int)) ∧ Kept w w' := by
  have HF := Lib.hid hF
  have HO := Lib.hid ho
  have HP := Lib.hid hp
  clear hF ho hp
  go_enter Try.func102, Try.ntmps102
  go_wp2_with fail
  refine (groupsF_any _ _ _ _ _ _ F al _ hm (HF.out.of (by (repeat (first | exact Kept.refl _ | assumption | refine Kept.alloc ?_ _ | refine Kept.ext ?_ _ | refine Kept.drew ?_ | refine Kept.drewN ?_ _)))) HO.out).mono ?_
  rintro e w1 ⟨c, rfl, ⟨x, rfl⟩, hc⟩
  have := hc.uniq HP.out
  subst this
  clear hc
  go_wp2_with fail
  refine bodyPost_ret (by simp only [results, Try.results102]; go_simp; rfl) rfl ?_
  exact ⟨rfl, by (repeat (first | exact Kept.refl _ | assumption | refine Kept.alloc ?_ _ | refine Kept.ext ?_ _ | refine Kept.drew ?_ | refine Kept.drewN ?_ _))⟩
set_option maxRecDepth 100000 in
theorem sfans_any (A B : Option Addr) (n cap m cap2 : Nat) (F : Nat → Nat → Int) (al : Nat → Nat) (v : Int) (w : World) (hm : m ≤ 96) (hF : RowsAt w B m 3 F) (ho : Oth F al m) :
    Calls Try.prog 104 #[.agg #[.slice A n cap, .slice B m cap2], .int .i64 v] w fun r w' => ∃ c : Nat, r = .returned (.int .i64 (c : Int)) ∧ Kept w w' ∧ GrN (selV F v) (adjV F al m v) m c := by
  have HF := Lib.hid hF
  have HO := Lib.hid ho
  clear hF ho
  go_enter Try.func104, Try.ntmps104
  go_wp2_with fail
  refine (groupsV_any _ _ _ _ _ _ F al v (w.heap.size + 1) _ hm (HF.out.of (by (repeat (first | exact Kept.refl _ | assumption | refine Kept.alloc ?_ _ | refine Kept.ext ?_ _ | refine Kept.drew ?_ | refine Kept.drewN ?_ _)))) (by go_simp) HO.out).mono ?_
  rintro e w1 ⟨c, rfl, ⟨x, rfl⟩, hc⟩
  have HC := Lib.hid hc
  clear hc
  go_wp2_with fail
  refine bodyPost_ret (by simp only [results, Try.results104]; go_simp; rfl) rfl ?_
  exact ⟨c, rfl, by (repeat (first | exact Kept.refl _ | assumption | refine Kept.alloc ?_ _ | refine Kept.ext ?_ _ | refine Kept.drew ?_ | refine Kept.drewN ?_ _)), HC.out⟩
def edgeV (n : Nat) (P : Nat → Nat → Int) (m : Nat) (F : Nat → Nat → Int) : Int := if validE n P m F = 0 then ((3 * m / 2 : Nat) : Int) else 0
def numV (n : Nat) (P : Nat → Nat → Int) (m : Nat) (F : Nat → Nat → Int) (p : Nat) : Int := if validE n P m F = 0 then (p : Int) else 0
set_option maxRecDepth 100000 in
theorem sEdges_any (A B : Option Addr) (n cap m cap2 : Nat) (P F : Nat → Nat → Int) (w : World) (hn : n ≤ 9223372036854775807 ∧ m ≤ 9223372036854775807) (hP : RowsAt w A n 3 P) (hF : RowsAt w B m 3 F) :
    Calls Try.prog 46 #[.agg #[.slice A n cap, .slice B m cap2]] w fun r w' => r = .returned (.tuple #[.int .i64 (edgeV n P m F), .int .i64 (validE n P m F)]) ∧ Kept w w' := by
  have HP := Lib.hid hP
  have HF := Lib.hid hF
  clear hP hF
  unfold edgeV
  obtain ⟨e, he⟩ : ∃ e, validE n P m F = e := ⟨_, rfl⟩
  have HE := Lib.hid he
  rw [he]
  by_cases h0 : e = 0
  · subst h0
    have hsz := valid_sz he
    clear he
    go_enter Try.func46, Try.ntmps46
    go_wp2_with (first | (go_at_call 30; refine (svalidate_any _ _ _ _ _ _ P F _ hn (HP.out.of (by (repeat (first | exact Kept.refl _ | assumption | refine Kept.alloc ?_ _ | refine Kept.ext ?_ _ | refine Kept.drew ?_ | refine Kept.drewN ?_ _)))) (HF.out.of (by (repeat (first | exact Kept.refl _ | assumption | refine Kept.alloc ?_ _ | refine Kept.ext ?_ _ | refine Kept.drew ?_ | refine Kept.drewN ?_ _))))).mono ?_; rintro e w1 ⟨rfl, x, rfl⟩; rw [HE.out]) | (go_at_call 101; refine (sedges_any _ _ _ _ _ _ _ (by omega)).mono ?_; rintro e w1 ⟨rfl, x2, rfl⟩))
    refine bodyPost_ret (by simp only [results, Try.results46]; go_simp; rfl) rfl ?_
    exact ⟨rfl, by (repeat (first | exact Kept.refl _ | assumption | refine Kept.alloc ?_ _ | refine Kept.ext ?_ _ | refine Kept.drew ?_ | refine Kept.drewN ?_ _))⟩
  · have h0b : (e == 0) = false := by simpa using h0
    rw [if_neg h0]
    clear he
    go_enter Try.func46, Try.ntmps46
    go_wp2_with (first | (go_at_call 30; refine (svalidate_any _ _ _ _ _ _ P F _ hn (HP.out.of (by (repeat (first | exact Kept.refl _ | assumption | refine Kept.alloc ?_ _ | refine Kept.ext ?_ _ | refine Kept.drew ?_ | refine Kept.drewN ?_ _)))) (HF.out.of (by (repeat (first | exact Kept.refl _ | assumption | refine Kept.alloc ?_ _ | refine Kept.ext ?_ _ | refine Kept.drew ?_ | refine Kept.drewN ?_ _))))).mono ?_; rintro e w1 ⟨rfl, x, rfl⟩; rw [HE.out]))
    refine bodyPost_ret (by simp only [results, Try.results46]; go_simp; rfl) rfl ?_
    exact ⟨rfl, by (repeat (first | exact Kept.refl _ | assumption | refine Kept.alloc ?_ _ | refine Kept.ext ?_ _ | refine Kept.drew ?_ | refine Kept.drewN ?_ _))⟩
set_option maxRecDepth 100000 in
theorem sParts_any (A B : Option Addr) (n cap m cap2 : Nat) (P F : Nat → Nat → Int) (p d : Nat) (w : World) (hn : n ≤ 9223372036854775807 ∧ m ≤ 9223372036854775807) (hP : RowsAt w A n 3 P) (hF : RowsAt w B m 3 F) (hT : Top n P m F p d) :
    Calls Try.prog 48 #[.agg #[.slice A n cap, .slice B m cap2]] w fun r w' => r = .returned (.tuple #[.int .i64 (numV n P m F p), .int .i64 (validE n P m F)]) ∧ Kept w w' := by
  have HP := Lib.hid hP
  have HF := Lib.hid hF
  unfold Top at hT
  clear hP hF
  unfold numV
  obtain ⟨e, he⟩ : ∃ e, validE n P m F = e := ⟨_, rfl⟩
  have HE := Lib.hid he
  rw [he]
  rw [he] at hT
  by_cases h0 : e = 0
  · subst h0
    have hsz := valid_sz he
    obtain ⟨al, c, ho, hg, -⟩ := hT rfl
    have HO := Lib.hid ho
    have HG := Lib.hid hg
    clear he hT ho hg
    go_enter Try.func48, Try.ntmps48
    go_wp2_with (first | (go_at_call 30; refine (svalidate_any _ _ _ _ _ _ P F _ hn (HP.out.of (by (repeat (first | exact Kept.refl _ | assumption | refine Kept.alloc ?_ _ | refine Kept.ext ?_ _ | refine Kept.drew ?_ | refine Kept.drewN ?_ _)))) (HF.out.of (by (repeat (first | exact Kept.refl _ | assumption | refine Kept.alloc ?_ _ | refine Kept.ext ?_ _ | refine Kept.drew ?_ | refine Kept.drewN ?_ _))))).mono ?_; rintro e w1 ⟨rfl, x, rfl⟩; rw [HE.out]) | (go_at_call 102; refine (sparts_any _ _ _ _ _ _ F al p _ (by omega) (HF.out.of (by (repeat (first | exact Kept.refl _ | assumption | refine Kept.alloc ?_ _ | refine Kept.ext ?_ _ | refine Kept.drew ?_ | refine Kept.drewN ?_ _)))) HO.out HG.out).mono ?_; rintro e w1 ⟨rfl, x2, rfl⟩))
    refine bodyPost_ret (by simp only [results, Try.results48]; go_simp; rfl) rfl ?_
    exact ⟨rfl, by (repeat (first | exact Kept.refl _ | assumption | refine Kept.alloc ?_ _ | refine Kept.ext ?_ _ | refine Kept.drew ?_ | refine Kept.drewN ?_ _))⟩
  · have h0b : (e == 0) = false := by simpa using h0
    rw [if_neg h0]
    clear he hT
    go_enter Try.func48, Try.ntmps48
    go_wp2_with (first | (go_at_call 30; refine (svalidate_any _ _ _ _ _ _ P F _ hn (HP.out.of (by (repeat (first | exact Kept.refl _ | assumption | refine Kept.alloc ?_ _ | refine Kept.ext ?_ _ | refine Kept.drew ?_ | refine Kept.drewN ?_ _)))) (HF.out.of (by (repeat (first | exact Kept.refl _ | assumption | refine Kept.alloc ?_ _ | refine Kept.ext ?_ _ | refine Kept.drew ?_ | refine Kept.drewN ?_ _))))).mono ?_; rintro e w1 ⟨rfl, x, rfl⟩; rw [HE.out]))
    refine bodyPost_ret (by simp only [results, Try.results48]; go_simp; rfl) rfl ?_
    exact ⟨rfl, by (repeat (first | exact Kept.refl _ | assumption | refine Kept.alloc ?_ _ | refine Kept.ext ?_ _ | refine Kept.drew ?_ | refine Kept.drewN ?_ _))⟩
theorem sumN_up (f : Nat → Nat) (k c : Nat) : sumN (fun v => if v = k then c else f v) (k + 1) = sumN f k + c := by
  show sumN _ k + (if k = k then c else f k) = _
  rw [if_pos rfl, sumN_congr (g := f) fun v hv => if_neg (by omega)]
theorem sumN_le {f : Nat → Nat} {m : Nat} : ∀ {n : Nat}, (∀ v, v < n → f v ≤ m) → sumN f n ≤ n * m
  | 0, _ => by simp [sumN]
  | n + 1, h => by
    have := sumN_le (n := n) fun v hv => h v (by omega)
    have h2 := h n (by omega)
    show sumN f n + f n ≤ _
    rw [Nat.add_mul]
    omega
set_option maxRecDepth 100000 in
set_option maxHeartbeats 4000000 in
theorem sHandles_any (A B : Option Addr) (n cap m cap2 : Nat) (P F : Nat → Nat → Int) (p d : Nat) (w : World) (hn : n ≤ 9223372036854775807 ∧ m ≤ 9223372036854775807) (hP : RowsAt w A n 3 P) (hF : RowsAt w B m 3 F) (hT : Top n P m F p d) :
    Calls Try.prog 50 #[.agg #[.slice A n cap, .slice B m cap2]] w fun r w' => r = .returned (.tuple #[.int .i64 (numV n P m F d), .int .i64 (validE n P m F)]) ∧ Kept w w' := by
  have HP := Lib.hid hP
  have HF := Lib.hid hF
  unfold Top at hT
  clear hP hF
  unfold numV
  obtain ⟨e, he⟩ : ∃ e, validE n P m F = e := ⟨_, rfl⟩
  have HE := Lib.hid he
  rw [he]
  rw [he] at hT
  by_cases h0 : e = 0
  · subst h0
    have hsz := valid_sz he
    obtain ⟨al, c, ho, hg, hf, heq, hpm, hcm⟩ := hT rfl
    have HO := Lib.hid ho
    have HG := Lib.hid hg
    have HFN := Lib.hid hf
    clear he hT ho hg hf
    go_enter Try.func50, Try.ntmps50
    go_wp2_with (first | (go_at_call 30; refine (svalidate_any _ _ _ _ _ _ P F _ hn (HP.out.of (by (repeat (first | exact Kept.refl _ | assumption | refine Kept.alloc ?_ _ | refine Kept.ext ?_ _ | refine Kept.drew ?_ | refine Kept.drewN ?_ _)))) (HF.out.of (by (repeat (first | exact Kept.refl _ | assumption | refine Kept.alloc ?_ _ | refine Kept.ext ?_ _ | refine Kept.drew ?_ | refine Kept.drewN ?_ _))))).mono ?_; rintro e w1 ⟨rfl, x, rfl⟩; rw [HE.out]))
    go_loopw [5, 16] (fun t i wr => ∃ (k : Nat) (fan : Nat → Nat), k ≤ n ∧ i = .int .i64 k ∧ t = .int .i64 ((sumN fan k : Int) - k) ∧ (∀ v, v < k → GrN (selV F v) (adjV F al m v) m (fan v)) ∧ (∃ y, wr = ext (w.alloc (.cells #[.slice A n cap, .slice B m cap2] 25)) y)) (fun _ i _ => n - (intOf i).toNat)
    case atStart => exact ⟨0, fun _ => 0, by omega, rfl, rfl, fun v h => absurd h (by omega), show Kept _ _ by (repeat (first | exact Kept.refl _ | assumption | refine Kept.alloc ?_ _ | refine Kept.ext ?_ _ | refine Kept.drew ?_ | refine Kept.drewN ?_ _))⟩
    case round =>
      obtain ⟨k, fan, hk, rfl, rfl, hfan, y, rfl⟩ := hrel
      have hb := sumN_le (n := k) (m := m) fun v hv => (hfan v hv).le
      have hb2 : k * m ≤ 64 * 96 := Nat.mul_le_mul (by omega) (by omega)
      obtain ⟨s, hs⟩ : ∃ s, sumN fan k = s := ⟨_, rfl⟩
      have HS := Lib.hid hs
      have HFA := Lib.hid hfan
      rw [hs] at hb ⊢
      clear hs hfan
      by_cases hlt : k < n
      · go_wp2_with fail
        refine (sfans_any _ _ _ _ _ _ F al _ _ (by omega) (HF.out.of (by (repeat (first | exact Kept.refl _ | assumption | refine Kept.alloc ?_ _ | refine Kept.ext ?_ _ | refine Kept.drew ?_ | refine Kept.drewN ?_ _)))) HO.out).mono ?_
        rintro e w1 ⟨c0, rfl, ⟨x, rfl⟩, hc⟩
        have hcl := hc.le
        have HC := Lib.hid hc
        clear hc
        go_wp2_with fail
        go_roundw
        case rel => exact ⟨k + 1, fun v => if v = k then c0 else fan v, by omega, by go_num, by rw [sumN_up, HS.out]; go_num, fun v hv => by
            by_cases q : v = k
            · subst q; simpa using HC.out
            · simpa [q] using HFA.out v (by omega), show Kept _ _ by (repeat (first | exact Kept.refl _ | assumption | refine Kept.alloc ?_ _ | refine Kept.ext ?_ _ | refine Kept.drew ?_ | refine Kept.drewN ?_ _))⟩
        case measure => simp [intOf]; omega
      · obtain rfl : k = n := by omega
        have hsc : s = c := by rw [← HS.out]; exact HFN.out fan HFA.out
        have hh := hand_num (n := k) (m := m) (c := s) (p := p) (d := d) (by omega)
        have HH := Lib.hid hh
        clear hh
        go_wp2_with fail
        ((first | (with_reducible refine wp_region_kept2 (by kernel_rfl) (by kernel_rfl) ?_) | refine wp_region_kept (by kernel_rfl) (by kernel_rfl) ?_); (repeat (go_big_quiet_step (first | (go_at_call 101; exact Calls.kept_of (sedges_any _ _ _ _ _ _ _ (by omega)))))); refine wpQuiet_nil ?_; intro x)
        go_wp2_with (go_at_call 102; refine (sparts_any _ _ _ _ _ _ F al p _ (by omega) (HF.out.of (by (repeat (first | exact Kept.refl _ | assumption | refine Kept.alloc ?_ _ | refine Kept.ext ?_ _ | refine Kept.drew ?_ | refine Kept.drewN ?_ _)))) HO.out HG.out).mono ?_; rintro e w1 ⟨rfl, x2, rfl⟩)

        refine bodyPost_ret (by simp only [results, Try.results50]; go_simp; rfl) rfl ?_
        exact ⟨ret_int2 (by omega) rfl, by (repeat (first | exact Kept.refl _ | assumption | refine Kept.alloc ?_ _ | refine Kept.ext ?_ _ | refine Kept.drew ?_ | refine Kept.drewN ?_ _))⟩
  · have h0b : (e == 0) = false := by simpa using h0
    rw [if_neg h0]
    clear he hT
    go_enter Try.func50, Try.ntmps50
    go_wp2_with (first | (go_at_call 30; refine (svalidate_any _ _ _ _ _ _ P F _ hn (HP.out.of (by (repeat (first | exact Kept.refl _ | assumption | refine Kept.alloc ?_ _ | refine Kept.ext ?_ _ | refine Kept.drew ?_ | refine Kept.drewN ?_ _)))) (HF.out.of (by (repeat (first | exact Kept.refl _ | assumption | refine Kept.alloc ?_ _ | refine Kept.ext ?_ _ | refine Kept.drew ?_ | refine Kept.drewN ?_ _))))).mono ?_; rintro e w1 ⟨rfl, x, rfl⟩; rw [HE.out]))
    refine bodyPost_ret (by simp only [results, Try.results50]; go_simp; rfl) rfl ?_
    exact ⟨rfl, by (repeat (first | exact Kept.refl _ | assumption | refine Kept.alloc ?_ _ | refine Kept.ext ?_ _ | refine Kept.drew ?_ | refine Kept.drewN ?_ _))⟩
end Go.Proofs.Ytoadlneneijfaaa
