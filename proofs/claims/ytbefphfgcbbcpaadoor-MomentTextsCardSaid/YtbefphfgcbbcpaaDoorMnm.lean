/- Contract: the addresses of the eleven numbers of moments, of the program. Conditions: the moments lie in memory. -/
import Derived.Test.YtbefphfgcbbcpaaDoorLst
import Derived.Test.YtbefphfgcbbcpaaDoorMtp
namespace Go.Proofs.YtbefphfgcbbcpaaDoor
set_option linter.unusedVariables false
set_option linter.unusedSimpArgs false
open Go.ChangeShapes Go.WideShapes Go.ChangeAt Go.RowKit Go.Deep
def ptrV (g j : Nat) : Value := .pointer (some ⟨g, j, none⟩)
theorem info_Pi : ((Tryd.prog.info? 77).map fun i => (i.zero, i.size, i.bytes)) = some (some (.pointer none), 1, 8) := by kernel_rfl
theorem own_p5 (X : World) (g : Nat) : (X.alloc (.cells #[ptrV g 0, ptrV g 1, ptrV g 2, ptrV g 3, ptrV g 4] 77)).ownsRow X.heap.size 77 1 (.slice (some ⟨X.heap.size, 0, none⟩) 5 5) 5 ((List.range 5).map (ptrV g)) :=
  World.ownsRow_lit X #[ptrV g 0, ptrV g 1, ptrV g 2, ptrV g 3, ptrV g 4] 5 (Nat.le_refl _) (by unfold maxLen; omega) rfl
set_option maxRecDepth 100000 in
set_option maxHeartbeats 8000000 in
theorem mnum_any (g : Nat) (w : World) (hg : g < w.heap.size) :
    Calls Tryd.prog 33 #[.pointer (some ⟨g, 0, none⟩)] w fun e w' => ∃ b cp, e = .returned (.slice (some ⟨b, 0, none⟩) 11 cp) ∧ Kept w w' ∧ w'.ownsRow w.heap.size 77 1 (.slice (some ⟨b, 0, none⟩) 11 cp) 11 ((List.range 11).map (ptrV g)) := by
  obtain ⟨ti, hti, hte⟩ := Option.map_eq_some_iff.1 info_Pi
  simp only [Prod.mk.injEq] at hte
  have HT := Lib.hid hti
  have HTE := Lib.hid hte
  clear hti hte
  go_enter Tryd.func33, Tryd.ntmps33
  go_wp2_with fail
  ((first | (with_reducible refine wp_region_tail2 18 (by kernel_rfl) (by kernel_rfl) ?_) | refine wp_region_tail 18 (by kernel_rfl) (by kernel_rfl) ?_); simp only [List.take_succ_cons, List.take_zero, List.drop_succ_cons, List.drop_zero]; (repeat (go_big_quiet_step (first | fail))); refine wpQuiet_nil ?_; intro x)
  go_wp2_with fail
  go_loopw [3, 24] (fun o i wr => ∃ r : Nat, r ≤ 6 ∧ i = .int .i64 r ∧ Kept w wr ∧ wr.ownsRow w.heap.size 77 1 o (5 + r) ((List.range (5 + r)).map (ptrV g))) (fun _ i _ => 6 - (intOf i).toNat)
  case atStart =>
    refine ⟨0, by omega, rfl, show Kept _ _ by (repeat (first | exact Kept.refl _ | assumption | refine Kept.alloc ?_ _ | refine Kept.ext ?_ _ | refine Kept.drew ?_ | refine Kept.drewN ?_ _)), ?_⟩
    have h5 := own_lo2 (own_p5 (ext w x) g) (kept_le (⟨x, rfl⟩ : Kept w (ext w x)))
    rw [ext_size] at h5
    exact h5
  case round =>
    obtain ⟨r, hr, rfl, hkw, hO⟩ := hrel
    obtain ⟨Wi, rfl⟩ : ∃ x, x = wr := ⟨_, rfl⟩
    have HKW := Lib.hid hkw
    obtain ⟨OA, oc, rfl⟩ := own_slice2 hO
    have HO := Lib.hid hO
    clear hkw hO
    by_cases hlt : r < 6
    · have g0 : decide ((r : Int) < 6) = true := decide_eq_true (by omega)
      have g1 : ¬ (6 : Int) ≤ r := by omega
      go_wp2_with (at_builtin; refine wpList_append_lies _ rfl (.tmp 27) (.tmp 33) 74 rfl w.heap.size 77 ti _ 1 8 Tryd.underlying74 HT.out HTE.out.1 HTE.out.2.1 HTE.out.2.2 rfl (by omega) _ _ _ rfl (owns_kept HO.out (by (repeat (first | exact Kept.refl _ | assumption | refine Kept.alloc ?_ _ | refine Kept.ext ?_ _ | refine Kept.drew ?_ | refine Kept.drewN ?_ _)))) _ 1 1 [ptrV g (5 + r)] rfl rfl (lit_cell _ _ _) (lit_one _ rfl) (by omega) (by unfold maxLen; omega) (by omega) (by rw [World.size_alloc]; exact Nat.le_trans (kept_le HKW.out) (Nat.le_succ _)) _ rfl ?_; intro g1 cp1 w1 k1 k2 k3 k4; have E1 := Lib.hid k2; have K1 := Lib.hid k1; clear k1 k2 k3 k4)
      go_roundw
      case rel =>
        have hKB : Kept Wi (Wi.alloc (.cells #[ptrV g (5 + r)] 77)) := by (repeat (first | exact Kept.refl _ | assumption | refine Kept.alloc ?_ _ | refine Kept.ext ?_ _ | refine Kept.drew ?_ | refine Kept.drewN ?_ _))
        refine ⟨r + 1, by omega, by go_num, ?_, ?_⟩
        · exact kept_grown (W := w) (HKW.out.trans hKB) (owns_kept HO.out hKB) (Nat.le_refl _) E1.out
        · rw [show 5 + (r + 1) = (5 + r) + 1 by omega, List.range_succ, List.map_append]
          exact K1.out
      case measure => simp [intOf]; omega
    · obtain rfl : r = 6 := by omega
      go_wp2_with fail
      go_ret
      obtain ⟨b, cap, cur, hv, -⟩ := HO.out.2.resolve_left (by rintro ⟨-, h⟩; simp at h)
      simp only [Value.slice.injEq] at hv
      obtain ⟨rfl, -, -⟩ := hv
      exact ⟨_, _, rfl, HKW.out, HO.out⟩
end Go.Proofs.YtbefphfgcbbcpaaDoor
