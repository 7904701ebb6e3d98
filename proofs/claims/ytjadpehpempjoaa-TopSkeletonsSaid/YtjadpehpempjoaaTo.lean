/- Contract: a set with one more number put in its place, of the statement's own helper. Conditions: the list is a set of at most 5 numbers. -/
import Derived.Test.YtjadpehpempjoaaIns
import Derived.Test.YtjadpehpempjoaaPe
namespace Go.Proofs.Ytjadpehpempjoaa
set_option linter.unusedVariables false
set_option linter.unusedSimpArgs false
open Go.RowKit Go.Deep
/-- A set with z at the place s. -/
def insZ (s : Nat) (x : Nat → Nat → Int) (z : Int) (a _ : Nat) : Int := if a < s then x a 0 else if a = s then z else x (a - 1) 0
theorem set_place {N l : Nat} {x : Nat → Nat → Int} {z : Int} (h : setB N l x = true) (hn : hasB l x z = false) : ∃ s, s ≤ l ∧ (∀ a, a < s → x a 0 < z) ∧ ∀ a, s ≤ a → a < l → z < x a 0 := by
  have hne := has_not hn
  by_cases hall : ∃ a, a < l ∧ z < x a 0
  · obtain ⟨s, hs⟩ : ∃ s, (s < l ∧ z < x s 0) ∧ ∀ a, a < s → ¬ (a < l ∧ z < x a 0) := by
      obtain ⟨a, ha⟩ := hall
      induction a using Nat.strongRecOn with
      | ind a ih =>
        by_cases hm : ∃ b, b < a ∧ b < l ∧ z < x b 0
        · obtain ⟨b, h1, h2⟩ := hm
          exact ih b h1 h2
        · exact ⟨a, ha, fun b hb hc => hm ⟨b, hb, hc⟩⟩
    refine ⟨s, by omega, fun a ha => ?_, fun a ha hal => ?_⟩
    · have h1 := hs.2 a ha
      have h2 := hne a (by omega)
      omega
    · have := set_up h (a - s) s (by omega)
      rw [show s + (a - s) = a by omega] at this
      omega
  · refine ⟨l, Nat.le_refl _, fun a ha => ?_, fun a h1 h2 => absurd h2 (by omega)⟩
    have h2 := hne a ha
    have : ¬ z < x a 0 := fun h3 => hall ⟨a, ha, h3⟩
    omega
theorem set_found {N l : Nat} {x : Nat → Nat → Int} {z : Int} (h : setB N l x = true) (hn : hasB l x z = true) : ∃ s, s < l ∧ (∀ a, a < s → x a 0 < z) ∧ x s 0 = z := by
  obtain ⟨s, hs, he⟩ := any_range.1 hn
  have he : x s 0 = z := by simpa using he
  refine ⟨s, hs, fun a ha => ?_, he⟩
  have := set_up h (s - a) a (by omega)
  rw [show a + (s - a) = s by omega] at this
  omega
theorem insZ_set {N l s : Nat} {x : Nat → Nat → Int} {z : Int} (h : setB N l x = true) (hz : 0 ≤ z ∧ z < N) (hs : s ≤ l) (h2 : ∀ a, a < s → x a 0 < z) (h3 : ∀ a, s ≤ a → a < l → z < x a 0) : setB N (l + 1) (insZ s x z) = true := by
  unfold setB
  rw [Bool.not_eq_true', any_range_false]
  intro k hk
  have hb : 0 ≤ insZ s x z k 0 ∧ insZ s x z k 0 < N ∧ ∀ j, j + 1 = k → insZ s x z j 0 < insZ s x z k 0 := by
    unfold insZ
    by_cases c1 : k < s
    · rw [if_pos c1]
      have := setB_at h (show k < l by omega)
      exact ⟨this.1, this.2.1, fun j hj => by rw [if_pos (by omega)]; exact this.2.2 j hj⟩
    · rw [if_neg c1]
      by_cases c2 : k = s
      · rw [if_pos c2]
        exact ⟨hz.1, hz.2, fun j hj => by rw [if_pos (by omega)]; exact h2 j (by omega)⟩
      · rw [if_neg c2]
        have := setB_at h (show k - 1 < l by omega)
        refine ⟨this.1, this.2.1, fun j hj => ?_⟩
        rw [if_neg (by omega)]
        by_cases c3 : j = s
        · rw [if_pos c3]
          exact h3 (k - 1) (by omega) (by omega)
        · rw [if_neg c3]
          exact this.2.2 (j - 1) (by omega)
  unfold badS
  have e1 : decide (0 ≤ insZ s x z k 0 ∧ insZ s x z k 0 ≤ (N : Int) - 1) = true := decide_eq_true (by omega)
  rw [e1]
  by_cases h0 : 0 < k
  · have := hb.2.2 (k - 1) (by omega)
    rw [decide_eq_false (show ¬ insZ s x z k 0 ≤ insZ s x z (k - 1) 0 by omega)]
    simp
  · rw [decide_eq_false h0]
    simp
theorem rowC_put {F : Nat → Nat → Int} {k : Nat} {v : Int} (h : F k 0 = v) : rowC 1 F k ++ rowC 1 (fun _ _ => v) 1 = rowC 1 F (k + 1) := by
  subst h
  rfl
theorem rows1T {w : World} {A : Option Addr} {n k : Nat} {f : Nat → Nat → Int} (h : RowsAt w A n 1 f) (hk : k < n) :
    ∃ b off, A = some ⟨b, off, none⟩ ∧ b < w.heap.size ∧ w.cell? ⟨b, off + k, none⟩ = some (.int .i64 (f k 0)) ∧ I64 (f k 0) := by
  obtain ⟨b, off, hA, hb, hc⟩ := h (by omega)
  have := hc k hk 0 (by omega)
  simp only [Nat.mul_one, Nat.add_zero] at this
  exact ⟨b, off, hA, hb, this.1, this.2⟩
set_option maxRecDepth 100000 in
set_option maxHeartbeats 4000000 in
theorem longerF_any (A : Option Addr) (l cap : Nat) (x : Nat → Nat → Int) (z : Int) (s : Nat) (w : World) (hl : l ≤ 5) (hz : I64 z) (hs : s < l) (h2 : ∀ a, a < s → x a 0 < z) (h3 : x s 0 = z) (hX : RowsAt w A l 1 x) :
    Calls Try.prog 11 #[.slice A l cap, .int .i64 z] w fun e w' => e = .returned (.tuple #[.slice none 0 0, .bool false]) ∧ Kept w w' := by
  obtain ⟨ti, hti, hte⟩ := Option.map_eq_some_iff.1 info_I
  simp only [Prod.mk.injEq] at hte
  have HT := Lib.hid hti
  have HTE := Lib.hid hte
  have HX := Lib.hid hX
  have H2 := Lib.hid h2
  have H3 := Lib.hid h3
  clear hti hte hX h2 h3
  go_enter Try.func11, Try.ntmps11
  go_wp2_with fail
  go_loopw [6, 7, 8] (fun o p i wr => ∃ k : Nat, k ≤ s ∧ i = .int .i64 k ∧ p = .bool false ∧ Kept w wr ∧ wr.ownsRow w.heap.size 3 1 o k (rowC 1 x k)) (fun _ _ i _ => s - (intOf i).toNat)
  case atStart => exact ⟨0, by omega, rfl, rfl, by (repeat (first | exact Kept.refl _ | assumption | refine Kept.alloc ?_ _ | refine Kept.ext ?_ _ | refine Kept.drew ?_ | refine Kept.drewN ?_ _)), World.ownsRow_nil _ _ _ _⟩
  case round =>
    obtain ⟨k, hk, rfl, rfl, hkw, hO⟩ := hrel
    have HKW := Lib.hid hkw
    obtain ⟨OA, oc, rfl⟩ := own_slice2 hO
    obtain ⟨pb, po, rfl, hpb, c1, c2⟩ := rows1T HX.out (show k < l by omega)
    have Lb : Lower pb wr.heap.size := ⟨Nat.lt_of_lt_of_le hpb (kept_le hkw)⟩
    have c1 := cell_on c1 hpb hkw
    clear hkw
    have HO := Lib.hid hO
    clear hO
    have d0 : decide ((k : Int) < l) = true := decide_eq_true (by omega)
    by_cases hlt : k < s
    · have h4 := H2.out k hlt
      have HAP := Lib.hid (rowC_put (F := x) (k := k) rfl)
      obtain ⟨v, hv⟩ : ∃ v, x k 0 = v := ⟨_, rfl⟩
      rw [hv] at c1 c2 h4
      have HV := Lib.hid hv
      clear hv
      have g1 : (v == z) = false := by simpa using (show v ≠ z by omega)
      have g2 : decide (z < v) = false := decide_eq_false (by omega)
      rw [HV.out] at HAP
      clear h4
      go_wp2_with (at_builtin; refine wpList_app rfl (.tmp 35) (.tmp 40) 23 rfl w.heap.size ti _ Try.underlying23 HT.out HTE.out.1 HTE.out.2.1 HTE.out.2.2 rfl (kept_le (HKW.out.trans (by (repeat (first | exact Kept.refl _ | assumption | refine Kept.alloc ?_ _ | refine Kept.ext ?_ _ | refine Kept.drew ?_ | refine Kept.drewN ?_ _))))) _ k _ rfl (owns_kept HO.out (by (repeat (first | exact Kept.refl _ | assumption | refine Kept.alloc ?_ _ | refine Kept.ext ?_ _ | refine Kept.drew ?_ | refine Kept.drewN ?_ _)))) _ 1 1 _ rfl (rows_lit1 _ v c2) (k + 1) rfl _ HAP.out (by omega) ?_; intro A1 cp1 w1 k1 k2 k3; have E1 := Lib.hid (kept_grown (W := w) (HKW.out.trans (by (repeat (first | exact Kept.refl _ | assumption | refine Kept.alloc ?_ _ | refine Kept.ext ?_ _ | refine Kept.drew ?_ | refine Kept.drewN ?_ _)))) (owns_kept HO.out (by (repeat (first | exact Kept.refl _ | assumption | refine Kept.alloc ?_ _ | refine Kept.ext ?_ _ | refine Kept.drew ?_ | refine Kept.drewN ?_ _)))) (Nat.le_refl _) k2); have K1 := Lib.hid k1; clear k1 k2 k3)
      go_roundw
      case rel => exact ⟨k + 1, by omega, by go_num, rfl, E1.out, K1.out⟩
      case measure => simp [intOf]; omega
    · obtain rfl : k = s := by omega
      rw [H3.out] at c1
      have g1 : (z == z) = true := by simp
      go_wp2_with fail
      refine bodyPost_ret (by simp only [results, Try.results11]; go_simp; rfl) rfl ?_
      exact ⟨rfl, HKW.out⟩
theorem rowC_pre {s : Nat} {x : Nat → Nat → Int} {z : Int} {k : Nat} (hk : k ≤ s) : rowC 1 x k = rowC 1 (insZ s x z) k :=
  rowC_congr fun q hq j hj => by
    obtain rfl : j = 0 := by omega
    unfold insZ
    rw [if_pos (by omega)]
theorem insZ_at {s : Nat} {x : Nat → Nat → Int} {z : Int} : insZ s x z s 0 = z := by
  unfold insZ
  rw [if_neg (by omega), if_pos rfl]
theorem insZ_past {s k : Nat} {x : Nat → Nat → Int} {z : Int} (h : s ≤ k) : insZ s x z (k + 1) 0 = x k 0 := by
  unfold insZ
  rw [if_neg (by omega), if_neg (by omega)]
  rfl
set_option maxRecDepth 100000 in
set_option maxHeartbeats 4000000 in
theorem longerN_any (A : Option Addr) (l cap : Nat) (x : Nat → Nat → Int) (z : Int) (s : Nat) (w : World) (hl : l ≤ 5) (hz : I64 z) (hs : s ≤ l) (h2 : ∀ a, a < s → x a 0 < z) (h3 : ∀ a, s ≤ a → a < l → z < x a 0) (hX : RowsAt w A l 1 x) :
    Calls Try.prog 11 #[.slice A l cap, .int .i64 z] w fun e w' => ∃ v, e = .returned (.tuple #[v, .bool true]) ∧ Kept w w' ∧ w'.ownsRow w.heap.size 3 1 v (l + 1) (rowC 1 (insZ s x z) (l + 1)) := by
  obtain ⟨ti, hti, hte⟩ := Option.map_eq_some_iff.1 info_I
  simp only [Prod.mk.injEq] at hte
  have HT := Lib.hid hti
  have HTE := Lib.hid hte
  have HX := Lib.hid hX
  have H2 := Lib.hid h2
  have H3 := Lib.hid h3
  clear hti hte hX h2 h3
  go_enter Try.func11, Try.ntmps11
  go_wp2_with fail
  go_loopw [6, 7, 8] (fun o p i wr => ∃ k : Nat, k ≤ l ∧ i = .int .i64 k ∧ Kept w wr ∧ ((k ≤ s ∧ p = .bool false ∧ wr.ownsRow w.heap.size 3 1 o k (rowC 1 x k)) ∨ (s < k ∧ p = .bool true ∧ wr.ownsRow w.heap.size 3 1 o (k + 1) (rowC 1 (insZ s x z) (k + 1))))) (fun _ _ i _ => l - (intOf i).toNat)
  case atStart => exact ⟨0, by omega, rfl, by (repeat (first | exact Kept.refl _ | assumption | refine Kept.alloc ?_ _ | refine Kept.ext ?_ _ | refine Kept.drew ?_ | refine Kept.drewN ?_ _)), Or.inl ⟨by omega, rfl, World.ownsRow_nil _ _ _ _⟩⟩
  case round =>
    obtain ⟨k, hk, rfl, hkw, hO⟩ := hrel
    have HKW := Lib.hid hkw
    by_cases hlt : k < l
    · have d0 : decide ((k : Int) < l) = true := decide_eq_true (by omega)
      obtain ⟨pb, po, rfl, hpb, c1, c2⟩ := rows1T HX.out hlt
      have Lb : Lower pb wr.heap.size := ⟨Nat.lt_of_lt_of_le hpb (kept_le hkw)⟩
      obtain ⟨v, hv⟩ : ∃ v, x k 0 = v := ⟨_, rfl⟩
      rw [hv] at c1 c2
      have CX := Lib.hid (And.intro hpb c1)
      have c1 := cell_on c1 hpb hkw
      clear hkw
      have HV := Lib.hid hv
      clear hv
      rcases hO with ⟨hks, rfl, hO⟩ | ⟨hks, rfl, hO⟩
      · obtain ⟨OA, oc, rfl⟩ := own_slice2 hO
        have HO := Lib.hid hO
        clear hO
        by_cases hlt2 : k < s
        · have h4 := H2.out k hlt2
          rw [HV.out] at h4
          have HAP := Lib.hid (rowC_put (F := x) (k := k) HV.out)
          have g1 : (v == z) = false := by simpa using (show v ≠ z by omega)
          have g2 : decide (z < v) = false := decide_eq_false (by omega)
          clear h4
          go_wp2_with (at_builtin; refine wpList_app rfl (.tmp 35) (.tmp 40) 23 rfl w.heap.size ti _ Try.underlying23 HT.out HTE.out.1 HTE.out.2.1 HTE.out.2.2 rfl (kept_le (HKW.out.trans (by (repeat (first | exact Kept.refl _ | assumption | refine Kept.alloc ?_ _ | refine Kept.ext ?_ _ | refine Kept.drew ?_ | refine Kept.drewN ?_ _))))) _ k _ rfl (owns_kept HO.out (by (repeat (first | exact Kept.refl _ | assumption | refine Kept.alloc ?_ _ | refine Kept.ext ?_ _ | refine Kept.drew ?_ | refine Kept.drewN ?_ _)))) _ 1 1 _ rfl (rows_lit1 _ v c2) (k + 1) rfl _ HAP.out (by omega) ?_; intro A1 cp1 w1 k1 k2 k3; have E1 := Lib.hid (kept_grown (W := w) (HKW.out.trans (by (repeat (first | exact Kept.refl _ | assumption | refine Kept.alloc ?_ _ | refine Kept.ext ?_ _ | refine Kept.drew ?_ | refine Kept.drewN ?_ _)))) (owns_kept HO.out (by (repeat (first | exact Kept.refl _ | assumption | refine Kept.alloc ?_ _ | refine Kept.ext ?_ _ | refine Kept.drew ?_ | refine Kept.drewN ?_ _)))) (Nat.le_refl _) k2); have K1 := Lib.hid k1; clear k1 k2 k3)
          go_roundw
          case rel => exact ⟨k + 1, by omega, by go_num, E1.out, Or.inl ⟨by omega, rfl, K1.out⟩⟩
          case measure => simp [intOf]; omega
        · obtain rfl : k = s := by omega
          have h4 := H3.out k (Nat.le_refl _) hlt
          rw [HV.out] at h4
          have e0 := rowC_put (F := insZ k x z) (k := k) (v := z) insZ_at
          rw [← rowC_pre (Nat.le_refl k)] at e0
          have HAP := Lib.hid e0
          have HAP2 := Lib.hid (rowC_put (F := insZ k x z) (k := k + 1) (v := v) ((insZ_past (Nat.le_refl k)).trans HV.out))
          have g1 : (v == z) = false := by simpa using (show v ≠ z by omega)
          have g2 : decide (z < v) = true := decide_eq_true (by omega)
          clear h4 e0
          go_wp2_with (first | (at_builtin; refine wpList_app rfl (.tmp 31) (.tmp 33) 23 rfl w.heap.size ti _ Try.underlying23 HT.out HTE.out.1 HTE.out.2.1 HTE.out.2.2 rfl (kept_le (HKW.out.trans (by (repeat (first | exact Kept.refl _ | assumption | refine Kept.alloc ?_ _ | refine Kept.ext ?_ _ | refine Kept.drew ?_ | refine Kept.drewN ?_ _))))) _ k _ rfl (owns_kept HO.out (by (repeat (first | exact Kept.refl _ | assumption | refine Kept.alloc ?_ _ | refine Kept.ext ?_ _ | refine Kept.drew ?_ | refine Kept.drewN ?_ _)))) _ 1 1 _ rfl (rows_lit1 _ z hz) (k + 1) rfl _ HAP.out (by omega) ?_; intro A1 cp1 w1 k1 k2 k3; have E1 := Lib.hid (kept_grown (W := w) (HKW.out.trans (by (repeat (first | exact Kept.refl _ | assumption | refine Kept.alloc ?_ _ | refine Kept.ext ?_ _ | refine Kept.drew ?_ | refine Kept.drewN ?_ _)))) (owns_kept HO.out (by (repeat (first | exact Kept.refl _ | assumption | refine Kept.alloc ?_ _ | refine Kept.ext ?_ _ | refine Kept.drew ?_ | refine Kept.drewN ?_ _)))) (Nat.le_refl _) k2); have K1 := Lib.hid k1; clear k1 k2 k3; have cc := cell_on CX.out.2 CX.out.1 E1.out; have LL : Lower pb w1.heap.size := ⟨Nat.lt_of_lt_of_le CX.out.1 (kept_le E1.out)⟩) | (at_builtin; refine wpList_app rfl (.tmp 35) (.tmp 40) 23 rfl w.heap.size ti _ Try.underlying23 HT.out HTE.out.1 HTE.out.2.1 HTE.out.2.2 rfl (kept_le (E1.out.trans (by (repeat (first | exact Kept.refl _ | assumption | refine Kept.alloc ?_ _ | refine Kept.ext ?_ _ | refine Kept.drew ?_ | refine Kept.drewN ?_ _))))) _ (k + 1) _ rfl (owns_kept K1.out (by (repeat (first | exact Kept.refl _ | assumption | refine Kept.alloc ?_ _ | refine Kept.ext ?_ _ | refine Kept.drew ?_ | refine Kept.drewN ?_ _)))) _ 1 1 _ rfl (rows_lit1 _ v c2) (k + 2) rfl _ HAP2.out (by omega) ?_; intro A2 cp2 w2 k1 k2 k3; have E2 := Lib.hid (kept_grown (W := w) (E1.out.trans (by (repeat (first | exact Kept.refl _ | assumption | refine Kept.alloc ?_ _ | refine Kept.ext ?_ _ | refine Kept.drew ?_ | refine Kept.drewN ?_ _)))) (owns_kept K1.out (by (repeat (first | exact Kept.refl _ | assumption | refine Kept.alloc ?_ _ | refine Kept.ext ?_ _ | refine Kept.drew ?_ | refine Kept.drewN ?_ _)))) (Nat.le_refl _) k2); have K2 := Lib.hid k1; clear k1 k2 k3))
          go_roundw
          case rel => exact ⟨k + 1, by omega, by go_num, E2.out, Or.inr ⟨by omega, rfl, K2.out⟩⟩
          case measure => simp [intOf]; omega
      · obtain ⟨OA, oc, rfl⟩ := own_slice2 hO
        have HO := Lib.hid hO
        clear hO
        have h4 := H3.out k (by omega) hlt
        rw [HV.out] at h4
        have HAP := Lib.hid (rowC_put (F := insZ s x z) (k := k + 1) (v := v) ((insZ_past (show s ≤ k by omega)).trans HV.out))
        have g1 : (v == z) = false := by simpa using (show v ≠ z by omega)
        clear h4
        go_wp2_with (at_builtin; refine wpList_app rfl (.tmp 35) (.tmp 40) 23 rfl w.heap.size ti _ Try.underlying23 HT.out HTE.out.1 HTE.out.2.1 HTE.out.2.2 rfl (kept_le (HKW.out.trans (by (repeat (first | exact Kept.refl _ | assumption | refine Kept.alloc ?_ _ | refine Kept.ext ?_ _ | refine Kept.drew ?_ | refine Kept.drewN ?_ _))))) _ (k + 1) _ rfl (owns_kept HO.out (by (repeat (first | exact Kept.refl _ | assumption | refine Kept.alloc ?_ _ | refine Kept.ext ?_ _ | refine Kept.drew ?_ | refine Kept.drewN ?_ _)))) _ 1 1 _ rfl (rows_lit1 _ v c2) (k + 2) rfl _ HAP.out (by omega) ?_; intro A1 cp1 w1 k1 k2 k3; have E1 := Lib.hid (kept_grown (W := w) (HKW.out.trans (by (repeat (first | exact Kept.refl _ | assumption | refine Kept.alloc ?_ _ | refine Kept.ext ?_ _ | refine Kept.drew ?_ | refine Kept.drewN ?_ _)))) (owns_kept HO.out (by (repeat (first | exact Kept.refl _ | assumption | refine Kept.alloc ?_ _ | refine Kept.ext ?_ _ | refine Kept.drew ?_ | refine Kept.drewN ?_ _)))) (Nat.le_refl _) k2); have K1 := Lib.hid k1; clear k1 k2 k3)
        go_roundw
        case rel => exact ⟨k + 1, by omega, by go_num, E1.out, Or.inr ⟨by omega, rfl, K1.out⟩⟩
        case measure => simp [intOf]; omega
    · clear hkw
      obtain rfl : k = l := by omega
      have d0 : decide ((k : Int) < k) = false := decide_eq_false (by omega)
      rcases hO with ⟨hks, rfl, hO⟩ | ⟨hks, rfl, hO⟩
      · obtain ⟨OA, oc, rfl⟩ := own_slice2 hO
        have HO := Lib.hid hO
        clear hO
        obtain rfl : k = s := by omega
        have e0 := rowC_put (F := insZ k x z) (k := k) (v := z) insZ_at
        rw [← rowC_pre (Nat.le_refl k)] at e0
        have HAP := Lib.hid e0
        clear e0
        go_wp2_with (at_builtin; refine wpList_app rfl (.tmp 44) (.tmp 46) 23 rfl w.heap.size ti _ Try.underlying23 HT.out HTE.out.1 HTE.out.2.1 HTE.out.2.2 rfl (kept_le (HKW.out.trans (by (repeat (first | exact Kept.refl _ | assumption | refine Kept.alloc ?_ _ | refine Kept.ext ?_ _ | refine Kept.drew ?_ | refine Kept.drewN ?_ _))))) _ k _ rfl (owns_kept HO.out (by (repeat (first | exact Kept.refl _ | assumption | refine Kept.alloc ?_ _ | refine Kept.ext ?_ _ | refine Kept.drew ?_ | refine Kept.drewN ?_ _)))) _ 1 1 _ rfl (rows_lit1 _ z hz) (k + 1) rfl _ HAP.out (by omega) ?_; intro A1 cp1 w1 k1 k2 k3; have E1 := Lib.hid (kept_grown (W := w) (HKW.out.trans (by (repeat (first | exact Kept.refl _ | assumption | refine Kept.alloc ?_ _ | refine Kept.ext ?_ _ | refine Kept.drew ?_ | refine Kept.drewN ?_ _)))) (owns_kept HO.out (by (repeat (first | exact Kept.refl _ | assumption | refine Kept.alloc ?_ _ | refine Kept.ext ?_ _ | refine Kept.drew ?_ | refine Kept.drewN ?_ _)))) (Nat.le_refl _) k2); have K1 := Lib.hid k1; clear k1 k2 k3)
        refine bodyPost_ret (by simp only [results, Try.results11]; go_simp; rfl) rfl ?_
        exact ⟨_, rfl, E1.out, K1.out⟩
      · obtain ⟨OA, oc, rfl⟩ := own_slice2 hO
        have HO := Lib.hid hO
        clear hO
        go_wp2_with fail
        refine bodyPost_ret (by simp only [results, Try.results11]; go_simp; rfl) rfl ?_
        exact ⟨_, rfl, HKW.out, HO.out⟩
end Go.Proofs.Ytjadpehpempjoaa
