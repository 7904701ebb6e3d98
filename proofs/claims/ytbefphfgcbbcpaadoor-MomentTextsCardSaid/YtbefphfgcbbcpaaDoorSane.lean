/- The sanity check of the statements about moments returns true. No conditions. -/
import Derived.Test.YtbefphfgcbbcpaaDoorMof
import Derived.Test.YtbefphfgcbbcpaaDoorArq
namespace Go.Proofs.YtbefphfgcbbcpaaDoor
set_option linter.unusedVariables false
set_option linter.unusedSimpArgs false
open Go.RowKit
def fS : Nat → Nat → Int := fun _ j => if j = 3 then 3 else if j = 7 then 3 else if j = 9 then 2 else 0
theorem sane_of : ofM 1 fS 0 0 0 = ⟨⟨2, 2, 6, 6, 0, 36, 18, 0, 36, 0, 0⟩, 0⟩ := by rfl
theorem sane_shift : shiftM ⟨2, 2, 6, 6, 0, 36, 18, 0, 36, 0, 0⟩ 1 1 0 = ⟨⟨2, 2, 0, 0, 0, 12, -6, 0, 12, 0, 0⟩, 0⟩ := by rfl
theorem sane_rows (w : World) (n : Nat) (hn : n = w.heap.size) : RowsAt (w.alloc (.cells #[.int .i64 0, .int .i64 0, .int .i64 0, .int .i64 3, .int .i64 0, .int .i64 0, .int .i64 0, .int .i64 3, .int .i64 0, .int .i64 2] 69)) (some ⟨n, 0, none⟩) 1 10 fS := by
  subst hn
  refine fun _ => ⟨_, 0, rfl, by simp, fun k hk j hj => ?_⟩
  obtain rfl : k = 0 := by omega
  rcases (show j = 0 ∨ j = 1 ∨ j = 2 ∨ j = 3 ∨ j = 4 ∨ j = 5 ∨ j = 6 ∨ j = 7 ∨ j = 8 ∨ j = 9 by omega) with rfl | rfl | rfl | rfl | rfl | rfl | rfl | rfl | rfl | rfl <;> refine ⟨?_, by unfold I64; decide⟩ <;> simp [fS, go_sem]
set_option maxRecDepth 100000 in
set_option maxHeartbeats 4000000 in
theorem sane_any (w : World) :
    Calls Tryd.prog 12 #[] w fun r w' => r = .returned (.bool true) ∧ Kept w w' := by
  have e1 := sane_of
  have e2 := sane_shift
  go_enter Tryd.func12, Tryd.ntmps12
  go_wp2_with fail
  refine (mof_any _ _ _ fS _ _ _ _ (by omega) (sane_rows _ _ (by simp))).mono ?_
  rintro r w1 ⟨rfl, x, rfl⟩
  rw [e1]
  go_wp2_with fail
  refine (mshift_any _ _ _ _ _ _ _ _ _ _ _ _ _ _ _).mono ?_
  rintro r w1 ⟨rfl, x, rfl⟩
  rw [e2]
  go_wp2_with fail
  go_ret
  exact ⟨rfl, by (repeat (first | exact Kept.refl _ | assumption | refine Kept.alloc ?_ _ | refine Kept.ext ?_ _ | refine Kept.drew ?_ | refine Kept.drewN ?_ _))⟩
end Go.Proofs.YtbefphfgcbbcpaaDoor
