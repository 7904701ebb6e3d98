/- Contract: texts of spans, of the reference. Conditions: none. -/
import Derived.Test.YtfaeakhnlodpfaaDoorFm
namespace Go.Proofs.YtfaeakhnlodpfaaDoor
set_option linter.unusedVariables false
set_option linter.unusedSimpArgs false
open Go.ChangeShapes Go.WideShapes Go.ChangeAt Go.RowKit
set_option maxRecDepth 100000 in
set_option maxHeartbeats 4000000 in
theorem r1Format_any (lo hi : Int) (w : World) :
    Calls Tryd.prog 6 #[.agg #[.int .i64 lo, .int .i64 hi]] w fun e w' => e = .returned (.tuple #[.string ⟨(fmtS lo hi).toArray⟩, .int .i64 (if validB lo hi then 0 else 1)]) ∧ Kept w w' := by
  cases hv : validB lo hi
  · have e : fmtS lo hi = [] := by unfold fmtS; rw [hv]; rfl
    rw [e, if_neg (by simp)]
    have HV := Lib.hid hv
    clear hv e
    go_enter Tryd.func6, Tryd.ntmps6
    go_wp2_with (go_at_call 14; refine (rvalid_any _ _ _).mono ?_; rintro e w1 ⟨rfl, x1, rfl⟩; rw [HV.out])
    refine bodyPost_ret (by simp only [results, Tryd.results6]; go_simp; rfl) rfl ?_
    exact ⟨rfl, by (repeat (first | exact Kept.refl _ | assumption | refine Kept.alloc ?_ _ | refine Kept.ext ?_ _ | refine Kept.drew ?_ | refine Kept.drewN ?_ _))⟩
  · have hb := valid_bd hv
    have e : fmtS lo hi = Lib.itoa lo ++ 32 :: Lib.itoa hi := by unfold fmtS; rw [hv]; rfl
    rw [e, if_pos rfl]
    have l1 := Lib.itoa_length_le lo (by omega) (by omega)
    have l2 := Lib.itoa_length_le hi (by omega) (by omega)
    have HV := Lib.hid hv
    have g1 : ¬ 9223372036854775807 < (Lib.itoa lo).length + 1 := by omega
    have g2 : ¬ 9223372036854775807 < (Lib.itoa lo).length + 1 + (Lib.itoa hi).length := by omega
    clear e hv
    go_enter Tryd.func6, Tryd.ntmps6
    go_wp2_with (go_at_call 14; refine (rvalid_any _ _ _).mono ?_; rintro e w1 ⟨rfl, x1, rfl⟩; rw [HV.out])
    ((first | (with_reducible refine wp_region_kept2 (by kernel_rfl) (by kernel_rfl) ?_) | refine wp_region_kept (by kernel_rfl) (by kernel_rfl) ?_); (repeat (go_big_quiet_step (first | (go_at_call 15; exact Calls.kept_of (r1dig_any _ _ (by omega)))))); refine wpQuiet_nil ?_; intro x5)
    go_wp2_with fail
    refine bodyPost_ret (by simp only [results, Tryd.results6]; go_simp; rfl) rfl ?_
    exact ⟨by rw [cat3], by (repeat (first | exact Kept.refl _ | assumption | refine Kept.alloc ?_ _ | refine Kept.ext ?_ _ | refine Kept.drew ?_ | refine Kept.drewN ?_ _))⟩
end Go.Proofs.YtfaeakhnlodpfaaDoor
