/- Contracts: texts of spans, of the program and of the reference. Conditions: the library's variables hold what start-up lays. -/
import Derived.Test.YtfaeakhnlodpfaaDoorSt
import Derived.Test.YtfaeakhnlodpfaaDoorChk
namespace Go.Proofs.YtfaeakhnlodpfaaDoor
set_option linter.unusedVariables false
set_option linter.unusedSimpArgs false
open Go.ChangeShapes Go.WideShapes Go.ChangeAt Go.RowKit
def fmtS (lo hi : Int) : List UInt8 := if validB lo hi then fmtL lo hi else []
theorem cat3 (a b : List UInt8) : ((⟨a.toArray⟩ ++ ⟨#[32]⟩ : ByteArray) ++ ⟨b.toArray⟩) = ⟨(a ++ 32 :: b).toArray⟩ := by
  apply ByteArray.ext
  simp
set_option maxRecDepth 100000 in
set_option maxHeartbeats 4000000 in
theorem mFormat_any (lo hi : Int) (w : World) (h : Ld w) :
    Calls Tryd.prog 5 #[.agg #[.int .i64 lo, .int .i64 hi]] w fun e w' => e = .returned (.tuple #[.string ⟨(fmtS lo hi).toArray⟩, .int .i64 (if validB lo hi then 0 else 1)]) ∧ Kept w w' := by
  cases hv : validB lo hi
  · have e : fmtS lo hi = [] := by unfold fmtS; rw [hv]; rfl
    rw [e, if_neg (by simp)]
    have HV := Lib.hid hv
    clear hv e
    go_enter Tryd.func5, Tryd.ntmps5
    go_wp2_with (go_at_call 12; refine (check1_any _ _ _ _ (by simp)).mono ?_; rintro e w1 ⟨rfl, x1, rfl⟩; rw [HV.out, if_neg (by simp)])
    refine bodyPost_ret (by simp only [results, Tryd.results5]; go_simp; rfl) rfl ?_
    exact ⟨rfl, by (repeat (first | exact Kept.refl _ | assumption | refine Kept.alloc ?_ _ | refine Kept.ext ?_ _ | refine Kept.drew ?_ | refine Kept.drewN ?_ _))⟩
  · have hb := valid_bd hv
    have e : fmtS lo hi = Lib.itoa lo ++ 32 :: Lib.itoa hi := by unfold fmtS; rw [hv]; rfl
    rw [e, if_pos rfl]
    have hlo : ∀ w', Kept w w' → _ := fun w' hk => sItoa lo w' (by omega) (h.on hk)
    have hhi : ∀ w', Kept w w' → _ := fun w' hk => sItoa hi w' (by omega) (h.on hk)
    have l1 := Lib.itoa_length_le lo (by omega) (by omega)
    have l2 := Lib.itoa_length_le hi (by omega) (by omega)
    obtain ⟨a, ha⟩ : ∃ a, Lib.itoa lo = a := ⟨_, rfl⟩
    obtain ⟨b, hb2⟩ : ∃ a, Lib.itoa hi = a := ⟨_, rfl⟩
    rw [ha] at hlo l1 ⊢
    rw [hb2] at hhi l2 ⊢
    have HLO := Lib.hid hlo
    have HHI := Lib.hid hhi
    have HV := Lib.hid hv
    have g1 : ¬ 9223372036854775807 < a.length + 1 := by omega
    have g2 : ¬ 9223372036854775807 < a.length + 1 + b.length := by omega
    clear hlo hhi e ha hb2 hv h
    go_enter Tryd.func5, Tryd.ntmps5
    go_wp2_with (go_at_call 12; refine (check1_any _ _ _ _ (by simp)).mono ?_; rintro e w1 ⟨rfl, x1, rfl⟩; rw [HV.out, if_pos rfl])
    ((first | (with_reducible refine wp_region_kept2 (by kernel_rfl) (by kernel_rfl) ?_) | refine wp_region_kept (by kernel_rfl) (by kernel_rfl) ?_); (repeat (go_big_quiet_step (first | (go_at_call 13; exact Calls.kept_of (HLO.out _ (by (repeat (first | exact Kept.refl _ | assumption | refine Kept.alloc ?_ _ | refine Kept.ext ?_ _ | refine Kept.drew ?_ | refine Kept.drewN ?_ _))))) | (go_at_call 13; exact Calls.kept_of (HHI.out _ (by (repeat (first | exact Kept.refl _ | assumption | refine Kept.alloc ?_ _ | refine Kept.ext ?_ _ | refine Kept.drew ?_ | refine Kept.drewN ?_ _)))))))); refine wpQuiet_nil ?_; intro x5)
    go_wp2_with fail
    refine bodyPost_ret (by simp only [results, Tryd.results5]; go_simp; rfl) rfl ?_
    exact ⟨by rw [cat3], by (repeat (first | exact Kept.refl _ | assumption | refine Kept.alloc ?_ _ | refine Kept.ext ?_ _ | refine Kept.drew ?_ | refine Kept.drewN ?_ _))⟩
end Go.Proofs.YtfaeakhnlodpfaaDoor
