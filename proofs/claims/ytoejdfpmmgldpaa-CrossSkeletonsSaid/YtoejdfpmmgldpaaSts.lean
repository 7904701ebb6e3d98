/- Contract: all sets of k numbers, of the reference. Conditions: at most six numbers. -/
import Derived.Test.YtoejdfpmmgldpaaOut
namespace Go.Proofs.Ytoejdfpmmgldpaa
set_option linter.unusedVariables false
set_option linter.unusedSimpArgs false
open Go.RowKit Go.Deep
/-- The numbers below r whose sets have k numbers. -/
def slN (n : Nat) (k : Int) : Nat → List Nat
  | 0 => []
  | r + 1 => if ((bl r n).length : Int) = k then slN n k r ++ [r] else slN n k r
theorem slN_mem {n : Nat} {k : Int} : ∀ {r x : Nat}, x ∈ slN n k r ↔ x < r ∧ ((bl x n).length : Int) = k
  | 0, x => by simp [slN]
  | r + 1, x => by
    unfold slN
    split
    · rename_i h
      rw [List.mem_append, slN_mem]
      simp only [List.mem_singleton]
      constructor
      · rintro (h1 | rfl)
        · exact ⟨by omega, h1.2⟩
        · exact ⟨by omega, h⟩
      · rintro ⟨h1, h2⟩
        by_cases e : x = r
        · exact .inr e
        · exact .inl ⟨by omega, h2⟩
    · rename_i h
      rw [slN_mem]
      constructor
      · rintro ⟨h1, h2⟩
        exact ⟨by omega, h2⟩
      · rintro ⟨h1, h2⟩
        refine ⟨?_, h2⟩
        by_cases e : x = r
        · subst e; exact absurd h2 h
        · omega
theorem slN_len {n : Nat} {k : Int} : ∀ {r : Nat}, (slN n k r).length ≤ r
  | 0 => by simp [slN]
  | r + 1 => by
    have := slN_len (n := n) (k := k) (r := r)
    unfold slN
    split
    · rw [List.length_append, List.length_singleton]; omega
    · omega
/-- List i of these sets. -/
def stF (l : List Nat) (n i : Nat) : Nat → Nat → Int := blF (l.getD i 0) n
def stL (l : List Nat) (n i : Nat) : Nat := (bl (l.getD i 0) n).length
theorem st_more {l : List Nat} {n r i : Nat} (h : i < l.length) : stF (l ++ [r]) n i = stF l n i ∧ stL (l ++ [r]) n i = stL l n i := by
  have e : (l ++ [r]).getD i 0 = l.getD i 0 := by rw [List.getD_eq_getElem?_getD, List.getD_eq_getElem?_getD, List.getElem?_append_left h]
  exact ⟨by unfold stF; rw [e], by unfold stL; rw [e]⟩
theorem st_last {l : List Nat} {n r : Nat} : stF (l ++ [r]) n l.length = blF r n ∧ stL (l ++ [r]) n l.length = (bl r n).length := by
  have e : (l ++ [r]).getD l.length 0 = r := by rw [List.getD_eq_getElem?_getD, List.getElem?_append_right (Nat.le_refl _)]; simp
  exact ⟨by unfold stF; rw [e], by unfold stL; rw [e]⟩
theorem lit_cell (X : World) (v : Value) (T : TypeId) : ∀ (j : Nat) (u : Value), [v][j]? = some u → (X.alloc (.cells #[v] T)).cell? ((Addr.mk X.heap.size 0 none).add j) = some u := by
  intro j u h
  cases j with
  | zero =>
    simp only [List.getElem?_cons_zero, Option.some.injEq] at h
    subst h
    have e : (Addr.mk X.heap.size 0 none).add 0 = ⟨X.heap.size, 0, none⟩ := rfl
    rw [e]
    exact (box_at (alloc_at2 X _ _)).1
  | succ j => simp at h
theorem lit_one (v : Value) (h : v.oneCell' = true) : ∀ u ∈ [v], u.oneCell' = true := by
  intro u hu
  simp only [List.mem_singleton] at hu
  subst hu
  exact h
set_option maxRecDepth 100000 in
set_option maxHeartbeats 8000000 in
theorem r6sets_any (n : Nat) (k : Int) (w : World) (hn : n ≤ 6) :
    Calls Try.prog 76 #[.int .i64 n, .int .i64 k] w fun e w' => ∃ v, e = .returned v ∧ Kept w w' ∧ OutL w.heap.size 23 3 1 (slN n k (2 ^ n)).length (stL (slN n k (2 ^ n)) n) (stF (slN n k (2 ^ n)) n) v w' := by
  have hp1 : wrap64 (2 ^ n) = ((2 ^ n : Nat) : Int) := by
    rcases (show n = 0 ∨ n = 1 ∨ n = 2 ∨ n = 3 ∨ n = 4 ∨ n = 5 ∨ n = 6 by omega) with h | h | h | h | h | h | h <;> subst h <;> decide +kernel
  have hp3 : 2 ^ n ≤ 64 := Nat.pow_le_pow_right (by omega) hn
  have HP := Lib.hid hp1
  obtain ⟨ti, hti, hte⟩ := Option.map_eq_some_iff.1 info_I
  simp only [Prod.mk.injEq] at hte
  have HT := Lib.hid hti
  have HTE := Lib.hid hte
  clear hti hte hp1
  obtain ⟨tj, htj, htf⟩ := Option.map_eq_some_iff.1 info_S
  simp only [Prod.mk.injEq] at htf
  have HU := Lib.hid htj
  have HUE := Lib.hid htf
  clear htj htf
  obtain ⟨N, hN⟩ : ∃ N, 2 ^ n = N := ⟨_, rfl⟩
  rw [hN] at hp3 HP ⊢
  have HN := Lib.hid hN
  clear hN
  go_enter Try.func76, Try.ntmps76
  go_wp2_with fail
  go_loopw [5, 6] (fun o i wr => ∃ r : Nat, r ≤ N ∧ i = .int .i64 r ∧ Kept w wr ∧ OutL w.heap.size 23 3 1 (slN n k r).length (stL (slN n k r) n) (stF (slN n k r) n) o wr) (fun _ i _ => N - (intOf i).toNat)
  case atStart => exact ⟨0, by omega, rfl, Kept.refl _, OutL.nil _ _ _ _ _ _ _⟩
  case round =>
    obtain ⟨r, hr, rfl, hkw, hO⟩ := hrel
    obtain ⟨Wi, rfl⟩ : ∃ x, x = wr := ⟨_, rfl⟩
    have HKW := Lib.hid hkw
    obtain ⟨OA, oc, rfl⟩ := hO.slice
    have HO := Lib.hid hO
    clear hkw hO
    by_cases hlt : r < N
    · have hr64 : r < 64 := by omega
      have hrn : r < 2 ^ n := by rw [HN.out]; exact hlt
      have HRN := Lib.hid hrn
      have g0 : decide ((r : Int) < wrap64 (2 ^ n)) = true := by rw [HP.out]; exact decide_eq_true (by omega)
      clear hrn
      go_wp2_with fail
      go_loopw [7, 8] (fun l i w2 => ∃ j : Nat, j ≤ n ∧ i = .int .i64 j ∧ Kept Wi w2 ∧ w2.ownsRow Wi.heap.size 3 1 l (bl r j).length (rowC 1 (blF r j) (bl r j).length)) (fun _ i _ => n - (intOf i).toNat)
      case atStart => exact ⟨0, by omega, rfl, Kept.refl _, World.ownsRow_nil _ _ _ _⟩
      case round =>
        obtain ⟨j, hj, rfl, hk2, hL⟩ := hrel
        obtain ⟨LA, lc, rfl⟩ := own_slice2 hL
        have HL := Lib.hid hL
        have HK2 := Lib.hid hk2
        clear hL hk2
        by_cases hlj : j < n
        · have g2 := bit_and r hr64 j (by omega)
          cases hb : r.testBit j with
          | true =>
            rw [hb] at g2
            have hap := blF_app hb
            have hlen : (bl r j).length + 1 = (bl r (j + 1)).length := by rw [bl_more hb]; simp
            have hl6 := bl_len (r := r) (n := j)
            have h9 : (bl r (j + 1)).length ≤ 1000 := by omega
            have HAP := Lib.hid hap
            have HLEN := Lib.hid hlen
            clear hap hlen hb
            go_wp2_with (at_builtin; refine wpList_app rfl (.tmp 27) (.tmp 29) 23 rfl Wi.heap.size ti _ Try.underlying23 HT.out HTE.out.1 HTE.out.2.1 HTE.out.2.2 rfl (kept_le (HK2.out.trans (by (repeat (first | exact Kept.refl _ | assumption | refine Kept.alloc ?_ _ | refine Kept.ext ?_ _ | refine Kept.drew ?_ | refine Kept.drewN ?_ _))))) _ (bl r j).length _ rfl (owns_kept HL.out (by (repeat (first | exact Kept.refl _ | assumption | refine Kept.alloc ?_ _ | refine Kept.ext ?_ _ | refine Kept.drew ?_ | refine Kept.drewN ?_ _)))) _ 1 1 _ rfl (rows_lit1 _ j (by unfold I64; omega)) (bl r (j + 1)).length HLEN.out _ HAP.out h9 ?_; intro A1 cp1 w1 k1 k2 k3; have E1 := Lib.hid (kept_grown (HK2.out.trans (by (repeat (first | exact Kept.refl _ | assumption | refine Kept.alloc ?_ _ | refine Kept.ext ?_ _ | refine Kept.drew ?_ | refine Kept.drewN ?_ _)))) (owns_kept HL.out (by (repeat (first | exact Kept.refl _ | assumption | refine Kept.alloc ?_ _ | refine Kept.ext ?_ _ | refine Kept.drew ?_ | refine Kept.drewN ?_ _)))) (Nat.le_refl _) k2); have K1 := Lib.hid k1; clear k1 k2 k3)
            go_roundw
            case rel => exact ⟨j + 1, by omega, by go_num, E1.out, K1.out⟩
            case measure => simp [intOf]; omega
          | false =>
            rw [hb] at g2
            have HB := Lib.hid (bl_less hb)
            clear hb
            go_wp2_with fail
            go_roundw
            case rel => exact ⟨j + 1, by omega, by go_num, HK2.out, by rw [show blF r (j + 1) = blF r j from by funext q t; unfold blF; rw [HB.out], HB.out]; exact HL.out⟩
            case measure => simp [intOf]; omega
        · obtain rfl : j = n := by omega
          by_cases hsel : ((bl r j).length : Int) = k
          · have HS := Lib.hid hsel
            have g3 : (((bl r j).length : Int) == k) = true := by simpa using hsel
            clear hsel
            obtain ⟨V, h1, h2⟩ := HO.out
            have H1 := Lib.hid h1
            have H2 := Lib.hid h2
            have hlw := slN_len (n := j) (k := k) (r := r)
            clear h1 h2
            go_wp2_with (at_builtin; refine wpList_append_lies _ rfl (.tmp 35) (.tmp 37) 22 rfl w.heap.size 23 tj _ 1 24 Try.underlying22 HU.out HUE.out.1 HUE.out.2.1 HUE.out.2.2 rfl (by omega) _ _ _ rfl (owns_kept (owns_kept H1.out HK2.out) (by (repeat (first | exact Kept.refl _ | assumption | refine Kept.alloc ?_ _ | refine Kept.ext ?_ _ | refine Kept.drew ?_ | refine Kept.drewN ?_ _)))) _ 1 1 [.slice LA (bl r j).length lc] rfl rfl (lit_cell _ _ _) (lit_one _ rfl) (by omega) (by unfold maxLen; omega) (by omega) (by rw [World.size_alloc]; exact Nat.le_trans (kept_le (HKW.out.trans HK2.out)) (Nat.le_succ _)) _ rfl ?_; intro g1 cp1 w1 k1 k2 k3 k4; have E1 := Lib.hid k2; have K1 := Lib.hid k1; clear k1 k2 k3 k4)
            go_roundw
            case rel =>
              have e1 : slN j k (r + 1) = slN j k r ++ [r] := if_pos HS.out
              have hKB : Kept wr (wr.alloc (.cells #[.slice LA (bl r j).length lc] 23)) := by (repeat (first | exact Kept.refl _ | assumption | refine Kept.alloc ?_ _ | refine Kept.ext ?_ _ | refine Kept.drew ?_ | refine Kept.drewN ?_ _))
              refine ⟨r + 1, by omega, by go_num, ?_, ?_⟩
              · exact kept_grown (W := w) ((HKW.out.trans HK2.out).trans hKB) (owns_kept (owns_kept H1.out HK2.out) hKB) (Nat.le_refl _) E1.out
              · rw [e1, List.length_append, List.length_singleton]
                have h3 : OutL w.heap.size 23 3 1 ((slN j k r).length + 1) (stL (slN j k r ++ [r]) j) (stF (slN j k r ++ [r]) j) (.slice (some ⟨g1, 0, none⟩) ((slN j k r).length + 1) cp1) w1 := by
                  refine OutL.push (V := V) (u := .slice LA (bl r j).length lc) (owns_kept (owns_kept H1.out HK2.out) hKB) (fun i hi => ?_) (by decide) ?_ E1.out K1.out
                  · rw [(st_more hi).1, (st_more hi).2]
                    exact owns_kept (owns_kept (H2.out i hi) HK2.out) hKB
                  · rw [st_last.1, st_last.2]
                    exact owns_kept (own_lo2 HL.out (kept_le HKW.out)) hKB
                exact h3
            case measure => simp [intOf]; omega
          · have HS := Lib.hid hsel
            have g3 : (((bl r j).length : Int) == k) = false := by simpa using hsel
            clear hsel
            go_wp2_with fail
            go_roundw
            case rel => exact ⟨r + 1, by omega, by go_num, HKW.out.trans HK2.out, by rw [show slN j k (r + 1) = slN j k r from if_neg HS.out]; exact HO.out.on HK2.out⟩
            case measure => simp [intOf]; omega
    · obtain rfl : r = N := by omega
      have g0 : decide ((r : Int) < wrap64 (2 ^ n)) = false := by rw [HP.out]; exact decide_eq_false (by omega)
      go_wp2_with fail
      go_ret
      exact ⟨_, rfl, HKW.out, HO.out⟩
end Go.Proofs.Ytoejdfpmmgldpaa
