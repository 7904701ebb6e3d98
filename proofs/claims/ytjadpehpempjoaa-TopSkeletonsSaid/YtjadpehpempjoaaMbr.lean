/- Contract: the places of the bits of a number, of the program. Conditions: the number is below 2^n, n at most 6. -/
import Derived.Test.YtjadpehpempjoaaBts
import Derived.Test.YtjadpehpempjoaaBo
namespace Go.Proofs.Ytjadpehpempjoaa
set_option linter.unusedVariables false
set_option linter.unusedSimpArgs false
open Go.RowKit Go.Deep
theorem blF_app {r k : Nat} (h : r.testBit k = true) : rowC 1 (blF r k) (bl r k).length ++ rowC 1 (fun _ _ => (k : Int)) 1 = rowC 1 (blF r (k + 1)) (bl r (k + 1)).length := by
  have e : bl r (k + 1) = bl r k ++ [k] := if_pos h
  have h1 : rowC 1 (blF r k) (bl r k).length = rowC 1 (blF r (k + 1)) (bl r k).length := rowC_congr fun q hq j _ => by
    unfold blF
    rw [e, List.getD_eq_getElem?_getD, List.getD_eq_getElem?_getD, List.getElem?_append_left hq]
  rw [h1, e, List.length_append, List.length_singleton]
  show _ ++ [Value.int .i64 (k : Int)] = _ ++ [Value.int .i64 (blF r (k + 1) (bl r k).length 0)]
  have h2 : blF r (k + 1) (bl r k).length 0 = (k : Int) := by
    unfold blF
    rw [e, List.getD_eq_getElem?_getD, List.getElem?_append_right (Nat.le_refl _)]
    simp
  rw [h2]
theorem bit_and : ∀ r : Nat, r < 64 → ∀ k : Nat, k < 7 → (bits BinOp.and IntKind.i64 ((r : Int) / 2 ^ k) 1 == 1) = r.testBit k := by decide +kernel
theorem bit_go : ∀ r : Nat, r < 64 → ∀ k : Nat, k < 7 → decide (0 < (r : Int) / 2 ^ k) = decide (2 ^ k ≤ r) := by decide +kernel
theorem bl_more {r k : Nat} (h : r.testBit k = true) : bl r (k + 1) = bl r k ++ [k] := if_pos h
theorem bl_less {r k : Nat} (h : r.testBit k = false) : bl r (k + 1) = bl r k := if_neg (by simp [h])
set_option maxRecDepth 100000 in
set_option maxHeartbeats 4000000 in
theorem cmem_any (r n : Nat) (w : World) (hn : n ≤ 6) (hr : r < 2 ^ n) :
    Calls Try.prog 33 #[.int .i64 r] w fun e w' => ∃ v, e = .returned v ∧ Kept w w' ∧ w'.ownsRow w.heap.size 3 1 v (bl r n).length (rowC 1 (blF r n) (bl r n).length) := by
  have hr64 : r < 64 := Nat.lt_of_lt_of_le hr (Nat.pow_le_pow_right (by omega) hn)
  obtain ⟨ti, hti, hte⟩ := Option.map_eq_some_iff.1 info_I
  simp only [Prod.mk.injEq] at hte
  have HT := Lib.hid hti
  have HTE := Lib.hid hte
  clear hti hte
  go_enter Try.func33, Try.ntmps33
  go_wp2
  go_loopw [3, 4] (fun o i wr => ∃ k : Nat, k ≤ n ∧ i = .int .i64 k ∧ Kept w wr ∧ wr.ownsRow w.heap.size 3 1 o (bl r k).length (rowC 1 (blF r k) (bl r k).length)) (fun _ i _ => n - (intOf i).toNat)
  case atStart => exact ⟨0, by omega, rfl, by (repeat (first | exact Kept.refl _ | assumption | refine Kept.alloc ?_ _ | refine Kept.ext ?_ _ | refine Kept.drew ?_ | refine Kept.drewN ?_ _)), World.ownsRow_nil _ _ _ _⟩
  case round =>
    obtain ⟨k, hk, rfl, hkw, hO⟩ := hrel
    have g1 := bit_go r hr64 k (by omega)
    have g2 := bit_and r hr64 k (by omega)
    obtain ⟨OA, oc, rfl⟩ := own_slice2 hO
    have HO := Lib.hid hO
    have HKW := Lib.hid hkw
    clear hO hkw
    by_cases hlt : 2 ^ k ≤ r
    · rw [decide_eq_true hlt] at g1
      have hkn : k < n := by
        rcases Nat.lt_or_ge k n with q | q
        · exact q
        · have := Nat.pow_le_pow_right (show 0 < 2 by omega) q
          omega
      cases hb : r.testBit k with
      | true =>
        rw [hb] at g2
        have hap := blF_app hb
        have hlen : (bl r k).length + 1 = (bl r (k + 1)).length := by rw [bl_more hb]; simp
        have hl6 := bl_len (r := r) (n := k)
        have h9 : (bl r (k + 1)).length ≤ 1000 := by omega
        have HAP := Lib.hid hap
        have HLEN := Lib.hid hlen
        clear hap hlen hb hlt
        go_wp2_with (at_builtin; refine wpList_app rfl (.tmp 16) (.tmp 18) 23 rfl w.heap.size ti _ Try.underlying23 HT.out HTE.out.1 HTE.out.2.1 HTE.out.2.2 rfl (kept_le (HKW.out.trans (by (repeat (first | exact Kept.refl _ | assumption | refine Kept.alloc ?_ _ | refine Kept.ext ?_ _ | refine Kept.drew ?_ | refine Kept.drewN ?_ _))))) _ (bl r k).length _ rfl (owns_kept HO.out (by (repeat (first | exact Kept.refl _ | assumption | refine Kept.alloc ?_ _ | refine Kept.ext ?_ _ | refine Kept.drew ?_ | refine Kept.drewN ?_ _)))) _ 1 1 _ rfl (rows_lit1 _ k (by unfold I64; omega)) (bl r (k + 1)).length HLEN.out _ HAP.out h9 ?_; intro A1 cp1 w1 k1 k2 k3; have E1 := Lib.hid (kept_grown (W := w) (HKW.out.trans (by (repeat (first | exact Kept.refl _ | assumption | refine Kept.alloc ?_ _ | refine Kept.ext ?_ _ | refine Kept.drew ?_ | refine Kept.drewN ?_ _)))) (owns_kept HO.out (by (repeat (first | exact Kept.refl _ | assumption | refine Kept.alloc ?_ _ | refine Kept.ext ?_ _ | refine Kept.drew ?_ | refine Kept.drewN ?_ _)))) (Nat.le_refl _) k2); have K1 := Lib.hid k1; clear k1 k2 k3)
        go_roundw
        case rel => exact ⟨k + 1, by omega, by go_num, E1.out, K1.out⟩
        case measure => simp [intOf]; omega
      | false =>
        rw [hb] at g2
        have HB := Lib.hid (bl_less hb)
        clear hb hlt
        go_wp2
        go_roundw
        case rel => exact ⟨k + 1, by omega, by go_num, HKW.out, by rw [show blF r (k + 1) = blF r k from by funext q j; unfold blF; rw [HB.out], HB.out]; exact HO.out⟩
        case measure => simp [intOf]; omega
    · rw [decide_eq_false hlt] at g1
      have hbe := bl_eq (n := n) (i := k) hr (by omega)
      have hl : (bl r k).length = (bl r n).length := by rw [hbe]
      have hF : ∀ q j, blF r k q j = blF r n q j := fun q j => by unfold blF; rw [hbe]
      have hq : ∀ q, q = (bl r k).length → wr.ownsRow w.heap.size 3 1 (.slice OA (bl r k).length oc) q (rowC 1 (blF r n) q) := by
        rintro q rfl
        rw [← rowC_congr fun q _ j _ => hF q j]
        exact HO.out
      have HO2 := Lib.hid (hq (bl r n).length hl.symm)
      clear hq
      clear HO hl hF hbe g2
      go_wp2
      go_ret
      exact ⟨_, rfl, HKW.out, HO2.out⟩
end Go.Proofs.Ytjadpehpempjoaa
