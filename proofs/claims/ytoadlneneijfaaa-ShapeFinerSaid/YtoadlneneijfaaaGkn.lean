/- Contract: the document's box has the document's volume and center. No conditions. -/
import Derived.Test.YtoadlneneijfaaaGbl
import Derived.Test.YtoadlneneijfaaaGeq
namespace Go.Proofs.Ytoadlneneijfaaa
set_option linter.unusedVariables false
set_option linter.unusedSimpArgs false
open Go.RowKit
theorem block222 : blockE 2 2 2 = 0 := by kernel_rfl
theorem valid222 : validE 8 (blockP 2 2 2) 12 blockF = 0 := by kernel_rfl
theorem cen222 : cenV 8 (blockP 2 2 2) 12 blockF 0 = 192 ∧ cenV 8 (blockP 2 2 2) 12 blockF 1 = 192 ∧ cenV 8 (blockP 2 2 2) 12 blockF 2 = 192 := ⟨by kernel_rfl, by kernel_rfl, by kernel_rfl⟩
set_option maxRecDepth 100000 in
theorem s2known_any (w : World) : Calls Try.prog 19 #[] w fun r w' => r = .returned (.bool true) ∧ Kept w w' := by
  obtain ⟨c0, c1, c2⟩ := cen222
  have k0 : okN 0 8 = 8 := rfl
  have k1 : okN 0 12 = 12 := rfl
  go_enter Try.func19, Try.ntmps19
  go_wp2_with fail
  refine (sblock_any 2 2 2 _).mono ?_
  rintro r w1 ⟨A, cap, B, cap2, rfl, ⟨x, rfl⟩, hP, hF⟩
  rw [block222, k0] at hP
  rw [block222, k1] at hF
  rw [block222, k0, k1]
  have HP := Lib.hid hP
  have HF := Lib.hid hF
  clear hP hF
  go_wp2_with fail
  refine (scenter_any _ _ _ _ _ _ (blockP 2 2 2) blockF _ (by omega) (HP.out.of (by (repeat (first | exact Kept.refl _ | assumption | refine Kept.alloc ?_ _ | refine Kept.ext ?_ _ | refine Kept.drew ?_ | refine Kept.drewN ?_ _)))) (HF.out.of (by (repeat (first | exact Kept.refl _ | assumption | refine Kept.alloc ?_ _ | refine Kept.ext ?_ _ | refine Kept.drew ?_ | refine Kept.drewN ?_ _))))).mono ?_
  rintro r w1 ⟨rfl, y, rfl⟩
  rw [valid222, c0, c1, c2]
  go_wp2_with fail
  go_ret
  exact ⟨rfl, by (repeat (first | exact Kept.refl _ | assumption | refine Kept.alloc ?_ _ | refine Kept.ext ?_ _ | refine Kept.drew ?_ | refine Kept.drewN ?_ _))⟩
end Go.Proofs.Ytoadlneneijfaaa
