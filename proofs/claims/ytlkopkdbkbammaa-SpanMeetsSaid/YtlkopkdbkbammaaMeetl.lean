/- For every input the statement SpanMeets returns true and leaves its arguments as they were. No conditions. -/
import Derived.Test.YtlkopkdbkbammaaMeet
namespace Go.Proofs.Ytlkopkdbkbammaa
set_option linter.unusedVariables false
set_option linter.unusedSimpArgs false
open Go.ChangeShapes Go.WideShapes Go.ChangeAt Go.RowKit
set_option maxRecDepth 100000 in
set_option maxHeartbeats 1000000 in
theorem meets_1 (al ah bl bh : Int) (w : World) (h : (validB al ah && validB bl bh) = false) :
    Calls Try.prog 5 #[.agg #[.int .i64 al, .int .i64 ah], .agg #[.int .i64 bl, .int .i64 bh]] w fun r w' => r = .returned (.bool true) ∧ Kept w w' := by
  have e1 : hullS al ah bl bh = ⟨0, 0, 1⟩ := by simp [hullS, h]
  have e2 : meetS al ah bl bh = ⟨0, 0, false, 1⟩ := by simp [meetS, h]
  have e3 : withinS al ah bl bh = false := by simp [withinS, h]
  have e4 : cmpS al ah bl bh = 0 := by simp [cmpS, h]
  have e5 : err2 al ah bl bh = 1 := by simp [err2, h]
  go_enter Try.func5, Try.ntmps5
  go_wp2_with (first | (go_at_call 26; refine (hull_any _ _ _ _ _).mono ?_; rintro e w1 ⟨rfl, x, rfl⟩) | (go_at_call 27; refine (rhull_any _ _ _ _ _).mono ?_; rintro e w1 ⟨rfl, x, rfl⟩) | (go_at_call 28; refine (meet_any _ _ _ _ _).mono ?_; rintro e w1 ⟨rfl, x, rfl⟩) | (go_at_call 29; refine (rmeet_any _ _ _ _ _).mono ?_; rintro e w1 ⟨rfl, x, rfl⟩) | (go_at_call 30; refine (inside_any _ _ _ _ _).mono ?_; rintro e w1 ⟨rfl, x, rfl⟩) | (go_at_call 31; refine (rinside_any _ _ _ _ _).mono ?_; rintro e w1 ⟨rfl, x, rfl⟩) | (go_at_call 32; refine (cmp_any _ _ _ _ _).mono ?_; rintro e w1 ⟨rfl, x, rfl⟩) | (go_at_call 33; refine (rcmp_any _ _ _ _ _).mono ?_; rintro e w1 ⟨rfl, x, rfl⟩) | (go_at_call 21; refine (known_any _).mono ?_; rintro e w1 ⟨rfl, x, rfl⟩))
  go_ret
  refine ⟨rfl, ?_⟩
  (repeat (first | exact Kept.refl _ | assumption | refine Kept.alloc ?_ _ | refine Kept.ext ?_ _ | refine Kept.drew ?_ | refine Kept.drewN ?_ _))
set_option maxRecDepth 100000 in
set_option maxHeartbeats 1000000 in
theorem meets_2 (al ah bl bh : Int) (w : World) (h1 : validB al ah = true) (h2 : validB bl bh = true) (c : max al bl ≤ min ah bh) (i : bl ≤ al ∧ ah ≤ bh) :
    Calls Try.prog 5 #[.agg #[.int .i64 al, .int .i64 ah], .agg #[.int .i64 bl, .int .i64 bh]] w fun r w' => r = .returned (.bool true) ∧ Kept w w' := by
  have e1 : hullS al ah bl bh = ⟨bl, bh, 0⟩ := by simp [hullS, h1, h2]; omega
  have e3 : withinS al ah bl bh = true := by simp [withinS, h1, h2, i]
  have e5 : err2 al ah bl bh = 0 := by simp [err2, h1, h2]
  have e2 : meetS al ah bl bh = ⟨al, ah, true, 0⟩ := by simp only [meetS, h1, h2, Bool.and_self, if_true]; rw [if_pos c]; simp; omega
  have e4 : cmpS al ah bl bh = 0 := by simp only [cmpS, h1, h2, Bool.and_self, if_true]; rw [if_neg (by omega), if_neg (by omega)]
  go_enter Try.func5, Try.ntmps5
  go_wp2_with (first | (go_at_call 26; refine (hull_any _ _ _ _ _).mono ?_; rintro e w1 ⟨rfl, x, rfl⟩) | (go_at_call 27; refine (rhull_any _ _ _ _ _).mono ?_; rintro e w1 ⟨rfl, x, rfl⟩) | (go_at_call 28; refine (meet_any _ _ _ _ _).mono ?_; rintro e w1 ⟨rfl, x, rfl⟩) | (go_at_call 29; refine (rmeet_any _ _ _ _ _).mono ?_; rintro e w1 ⟨rfl, x, rfl⟩) | (go_at_call 30; refine (inside_any _ _ _ _ _).mono ?_; rintro e w1 ⟨rfl, x, rfl⟩) | (go_at_call 31; refine (rinside_any _ _ _ _ _).mono ?_; rintro e w1 ⟨rfl, x, rfl⟩) | (go_at_call 32; refine (cmp_any _ _ _ _ _).mono ?_; rintro e w1 ⟨rfl, x, rfl⟩) | (go_at_call 33; refine (rcmp_any _ _ _ _ _).mono ?_; rintro e w1 ⟨rfl, x, rfl⟩) | (go_at_call 21; refine (known_any _).mono ?_; rintro e w1 ⟨rfl, x, rfl⟩))
  go_ret
  refine ⟨rfl, ?_⟩
  (repeat (first | exact Kept.refl _ | assumption | refine Kept.alloc ?_ _ | refine Kept.ext ?_ _ | refine Kept.drew ?_ | refine Kept.drewN ?_ _))
set_option maxRecDepth 100000 in
set_option maxHeartbeats 1000000 in
theorem meets_3 (al ah bl bh : Int) (w : World) (h1 : validB al ah = true) (h2 : validB bl bh = true) (c : max al bl ≤ min ah bh) (i1 : al < bl) (i2 : ah ≤ bh) :
    Calls Try.prog 5 #[.agg #[.int .i64 al, .int .i64 ah], .agg #[.int .i64 bl, .int .i64 bh]] w fun r w' => r = .returned (.bool true) ∧ Kept w w' := by
  have v1 := valid_bd h1
  have v2 := valid_bd h2
  have e1 : hullS al ah bl bh = ⟨al, bh, 0⟩ := by simp [hullS, h1, h2]; omega
  have e3 : withinS al ah bl bh = false := by simp [withinS, h1, h2]; omega
  have e5 : err2 al ah bl bh = 0 := by simp [err2, h1, h2]
  have e2 : meetS al ah bl bh = ⟨bl, ah, true, 0⟩ := by simp only [meetS, h1, h2, Bool.and_self, if_true]; first | (rw [if_pos (by omega)]; simp; omega) | (rw [if_neg (by omega)]; done)
  have e4 : cmpS al ah bl bh = 0 := by simp only [cmpS, h1, h2, Bool.and_self, if_true]; omega
  have n1 : (bl == al) = false := by simp; omega
  have n2 : (al == bl) = false := by simp; omega
  go_enter Try.func5, Try.ntmps5
  go_wp2_with (first | (go_at_call 26; refine (hull_any _ _ _ _ _).mono ?_; rintro e w1 ⟨rfl, x, rfl⟩) | (go_at_call 27; refine (rhull_any _ _ _ _ _).mono ?_; rintro e w1 ⟨rfl, x, rfl⟩) | (go_at_call 28; refine (meet_any _ _ _ _ _).mono ?_; rintro e w1 ⟨rfl, x, rfl⟩) | (go_at_call 29; refine (rmeet_any _ _ _ _ _).mono ?_; rintro e w1 ⟨rfl, x, rfl⟩) | (go_at_call 30; refine (inside_any _ _ _ _ _).mono ?_; rintro e w1 ⟨rfl, x, rfl⟩) | (go_at_call 31; refine (rinside_any _ _ _ _ _).mono ?_; rintro e w1 ⟨rfl, x, rfl⟩) | (go_at_call 32; refine (cmp_any _ _ _ _ _).mono ?_; rintro e w1 ⟨rfl, x, rfl⟩) | (go_at_call 33; refine (rcmp_any _ _ _ _ _).mono ?_; rintro e w1 ⟨rfl, x, rfl⟩) | (go_at_call 21; refine (known_any _).mono ?_; rintro e w1 ⟨rfl, x, rfl⟩))
  go_ret
  refine ⟨rfl, ?_⟩
  (repeat (first | exact Kept.refl _ | assumption | refine Kept.alloc ?_ _ | refine Kept.ext ?_ _ | refine Kept.drew ?_ | refine Kept.drewN ?_ _))
set_option maxRecDepth 100000 in
set_option maxHeartbeats 1000000 in
theorem meets_4 (al ah bl bh : Int) (w : World) (h1 : validB al ah = true) (h2 : validB bl bh = true) (c : max al bl ≤ min ah bh) (i1 : al < bl) (i2 : bh < ah) :
    Calls Try.prog 5 #[.agg #[.int .i64 al, .int .i64 ah], .agg #[.int .i64 bl, .int .i64 bh]] w fun r w' => r = .returned (.bool true) ∧ Kept w w' := by
  have v1 := valid_bd h1
  have v2 := valid_bd h2
  have e1 : hullS al ah bl bh = ⟨al, ah, 0⟩ := by simp [hullS, h1, h2]; omega
  have e3 : withinS al ah bl bh = false := by simp [withinS, h1, h2]; omega
  have e5 : err2 al ah bl bh = 0 := by simp [err2, h1, h2]
  have e2 : meetS al ah bl bh = ⟨bl, bh, true, 0⟩ := by simp only [meetS, h1, h2, Bool.and_self, if_true]; first | (rw [if_pos (by omega)]; simp; omega) | (rw [if_neg (by omega)]; done)
  have e4 : cmpS al ah bl bh = 0 := by simp only [cmpS, h1, h2, Bool.and_self, if_true]; omega
  have n1 : (bl == al) = false := by simp; omega
  have n2 : (al == bl) = false := by simp; omega
  go_enter Try.func5, Try.ntmps5
  go_wp2_with (first | (go_at_call 26; refine (hull_any _ _ _ _ _).mono ?_; rintro e w1 ⟨rfl, x, rfl⟩) | (go_at_call 27; refine (rhull_any _ _ _ _ _).mono ?_; rintro e w1 ⟨rfl, x, rfl⟩) | (go_at_call 28; refine (meet_any _ _ _ _ _).mono ?_; rintro e w1 ⟨rfl, x, rfl⟩) | (go_at_call 29; refine (rmeet_any _ _ _ _ _).mono ?_; rintro e w1 ⟨rfl, x, rfl⟩) | (go_at_call 30; refine (inside_any _ _ _ _ _).mono ?_; rintro e w1 ⟨rfl, x, rfl⟩) | (go_at_call 31; refine (rinside_any _ _ _ _ _).mono ?_; rintro e w1 ⟨rfl, x, rfl⟩) | (go_at_call 32; refine (cmp_any _ _ _ _ _).mono ?_; rintro e w1 ⟨rfl, x, rfl⟩) | (go_at_call 33; refine (rcmp_any _ _ _ _ _).mono ?_; rintro e w1 ⟨rfl, x, rfl⟩) | (go_at_call 21; refine (known_any _).mono ?_; rintro e w1 ⟨rfl, x, rfl⟩))
  go_ret
  refine ⟨rfl, ?_⟩
  (repeat (first | exact Kept.refl _ | assumption | refine Kept.alloc ?_ _ | refine Kept.ext ?_ _ | refine Kept.drew ?_ | refine Kept.drewN ?_ _))
set_option maxRecDepth 100000 in
set_option maxHeartbeats 1000000 in
theorem meets_5 (al ah bl bh : Int) (w : World) (h1 : validB al ah = true) (h2 : validB bl bh = true) (c : max al bl ≤ min ah bh) (i1 : bl ≤ al) (i2 : bh < ah) :
    Calls Try.prog 5 #[.agg #[.int .i64 al, .int .i64 ah], .agg #[.int .i64 bl, .int .i64 bh]] w fun r w' => r = .returned (.bool true) ∧ Kept w w' := by
  have v1 := valid_bd h1
  have v2 := valid_bd h2
  have e1 : hullS al ah bl bh = ⟨bl, ah, 0⟩ := by simp [hullS, h1, h2]; omega
  have e3 : withinS al ah bl bh = false := by simp [withinS, h1, h2]; omega
  have e5 : err2 al ah bl bh = 0 := by simp [err2, h1, h2]
  have e2 : meetS al ah bl bh = ⟨al, bh, true, 0⟩ := by simp only [meetS, h1, h2, Bool.and_self, if_true]; first | (rw [if_pos (by omega)]; simp; omega) | (rw [if_neg (by omega)]; done)
  have e4 : cmpS al ah bl bh = 0 := by simp only [cmpS, h1, h2, Bool.and_self, if_true]; omega
  have n1 : (bh == ah) = false := by simp; omega
  have n2 : (ah == bh) = false := by simp; omega
  go_enter Try.func5, Try.ntmps5
  go_wp2_with (first | (go_at_call 26; refine (hull_any _ _ _ _ _).mono ?_; rintro e w1 ⟨rfl, x, rfl⟩) | (go_at_call 27; refine (rhull_any _ _ _ _ _).mono ?_; rintro e w1 ⟨rfl, x, rfl⟩) | (go_at_call 28; refine (meet_any _ _ _ _ _).mono ?_; rintro e w1 ⟨rfl, x, rfl⟩) | (go_at_call 29; refine (rmeet_any _ _ _ _ _).mono ?_; rintro e w1 ⟨rfl, x, rfl⟩) | (go_at_call 30; refine (inside_any _ _ _ _ _).mono ?_; rintro e w1 ⟨rfl, x, rfl⟩) | (go_at_call 31; refine (rinside_any _ _ _ _ _).mono ?_; rintro e w1 ⟨rfl, x, rfl⟩) | (go_at_call 32; refine (cmp_any _ _ _ _ _).mono ?_; rintro e w1 ⟨rfl, x, rfl⟩) | (go_at_call 33; refine (rcmp_any _ _ _ _ _).mono ?_; rintro e w1 ⟨rfl, x, rfl⟩) | (go_at_call 21; refine (known_any _).mono ?_; rintro e w1 ⟨rfl, x, rfl⟩))
  go_ret
  refine ⟨rfl, ?_⟩
  (repeat (first | exact Kept.refl _ | assumption | refine Kept.alloc ?_ _ | refine Kept.ext ?_ _ | refine Kept.drew ?_ | refine Kept.drewN ?_ _))
set_option maxRecDepth 100000 in
set_option maxHeartbeats 1000000 in
theorem meets_6 (al ah bl bh : Int) (w : World) (h1 : validB al ah = true) (h2 : validB bl bh = true) (i1 : ah < bl) :
    Calls Try.prog 5 #[.agg #[.int .i64 al, .int .i64 ah], .agg #[.int .i64 bl, .int .i64 bh]] w fun r w' => r = .returned (.bool true) ∧ Kept w w' := by
  have v1 := valid_bd h1
  have v2 := valid_bd h2
  have e1 : hullS al ah bl bh = ⟨al, bh, 0⟩ := by simp [hullS, h1, h2]; omega
  have e3 : withinS al ah bl bh = false := by simp [withinS, h1, h2]; omega
  have e5 : err2 al ah bl bh = 0 := by simp [err2, h1, h2]
  have e2 : meetS al ah bl bh = ⟨0, 0, false, 0⟩ := by simp only [meetS, h1, h2, Bool.and_self, if_true]; first | (rw [if_pos (by omega)]; simp; omega) | (rw [if_neg (by omega)]; done)
  have e4 : cmpS al ah bl bh = -1 := by simp only [cmpS, h1, h2, Bool.and_self, if_true]; omega
  have n1 : (bl == al) = false := by simp; omega
  have n2 : (al == bl) = false := by simp; omega
  go_enter Try.func5, Try.ntmps5
  go_wp2_with (first | (go_at_call 26; refine (hull_any _ _ _ _ _).mono ?_; rintro e w1 ⟨rfl, x, rfl⟩) | (go_at_call 27; refine (rhull_any _ _ _ _ _).mono ?_; rintro e w1 ⟨rfl, x, rfl⟩) | (go_at_call 28; refine (meet_any _ _ _ _ _).mono ?_; rintro e w1 ⟨rfl, x, rfl⟩) | (go_at_call 29; refine (rmeet_any _ _ _ _ _).mono ?_; rintro e w1 ⟨rfl, x, rfl⟩) | (go_at_call 30; refine (inside_any _ _ _ _ _).mono ?_; rintro e w1 ⟨rfl, x, rfl⟩) | (go_at_call 31; refine (rinside_any _ _ _ _ _).mono ?_; rintro e w1 ⟨rfl, x, rfl⟩) | (go_at_call 32; refine (cmp_any _ _ _ _ _).mono ?_; rintro e w1 ⟨rfl, x, rfl⟩) | (go_at_call 33; refine (rcmp_any _ _ _ _ _).mono ?_; rintro e w1 ⟨rfl, x, rfl⟩) | (go_at_call 21; refine (known_any _).mono ?_; rintro e w1 ⟨rfl, x, rfl⟩))
  go_ret
  refine ⟨rfl, ?_⟩
  (repeat (first | exact Kept.refl _ | assumption | refine Kept.alloc ?_ _ | refine Kept.ext ?_ _ | refine Kept.drew ?_ | refine Kept.drewN ?_ _))
set_option maxRecDepth 100000 in
set_option maxHeartbeats 1000000 in
theorem meets_7 (al ah bl bh : Int) (w : World) (h1 : validB al ah = true) (h2 : validB bl bh = true) (i1 : bh < al) :
    Calls Try.prog 5 #[.agg #[.int .i64 al, .int .i64 ah], .agg #[.int .i64 bl, .int .i64 bh]] w fun r w' => r = .returned (.bool true) ∧ Kept w w' := by
  have v1 := valid_bd h1
  have v2 := valid_bd h2
  have e1 : hullS al ah bl bh = ⟨bl, ah, 0⟩ := by simp [hullS, h1, h2]; omega
  have e3 : withinS al ah bl bh = false := by simp [withinS, h1, h2]; omega
  have e5 : err2 al ah bl bh = 0 := by simp [err2, h1, h2]
  have e2 : meetS al ah bl bh = ⟨0, 0, false, 0⟩ := by simp only [meetS, h1, h2, Bool.and_self, if_true]; first | (rw [if_pos (by omega)]; simp; omega) | (rw [if_neg (by omega)]; done)
  have e4 : cmpS al ah bl bh = 1 := by simp only [cmpS, h1, h2, Bool.and_self, if_true]; omega
  have n1 : (bh == ah) = false := by simp; omega
  have n2 : (ah == bh) = false := by simp; omega
  go_enter Try.func5, Try.ntmps5
  go_wp2_with (first | (go_at_call 26; refine (hull_any _ _ _ _ _).mono ?_; rintro e w1 ⟨rfl, x, rfl⟩) | (go_at_call 27; refine (rhull_any _ _ _ _ _).mono ?_; rintro e w1 ⟨rfl, x, rfl⟩) | (go_at_call 28; refine (meet_any _ _ _ _ _).mono ?_; rintro e w1 ⟨rfl, x, rfl⟩) | (go_at_call 29; refine (rmeet_any _ _ _ _ _).mono ?_; rintro e w1 ⟨rfl, x, rfl⟩) | (go_at_call 30; refine (inside_any _ _ _ _ _).mono ?_; rintro e w1 ⟨rfl, x, rfl⟩) | (go_at_call 31; refine (rinside_any _ _ _ _ _).mono ?_; rintro e w1 ⟨rfl, x, rfl⟩) | (go_at_call 32; refine (cmp_any _ _ _ _ _).mono ?_; rintro e w1 ⟨rfl, x, rfl⟩) | (go_at_call 33; refine (rcmp_any _ _ _ _ _).mono ?_; rintro e w1 ⟨rfl, x, rfl⟩) | (go_at_call 21; refine (known_any _).mono ?_; rintro e w1 ⟨rfl, x, rfl⟩))
  go_ret
  refine ⟨rfl, ?_⟩
  (repeat (first | exact Kept.refl _ | assumption | refine Kept.alloc ?_ _ | refine Kept.ext ?_ _ | refine Kept.drew ?_ | refine Kept.drewN ?_ _))
theorem meets_law (al ah bl bh : Int) (w : World) :
    Calls Try.prog 5 #[.agg #[.int .i64 al, .int .i64 ah], .agg #[.int .i64 bl, .int .i64 bh]] w fun r w' => r = .returned (.bool true) ∧ Kept w w' := by
  cases h : (validB al ah && validB bl bh)
  · exact meets_1 _ _ _ _ _ h
  · simp only [Bool.and_eq_true] at h
    obtain ⟨h1, h2⟩ := h
    have v1 := valid_bd h1
    have v2 := valid_bd h2
    by_cases c : max al bl ≤ min ah bh
    · by_cases i1 : al < bl
      · by_cases i2 : bh < ah
        · exact meets_4 _ _ _ _ _ h1 h2 c i1 i2
        · exact meets_3 _ _ _ _ _ h1 h2 c i1 (by omega)
      · by_cases i2 : bh < ah
        · exact meets_5 _ _ _ _ _ h1 h2 c (by omega) i2
        · exact meets_2 _ _ _ _ _ h1 h2 c ⟨by omega, by omega⟩
    · by_cases i1 : ah < bl
      · exact meets_6 _ _ _ _ _ h1 h2 i1
      · exact meets_7 _ _ _ _ _ h1 h2 (by omega)
theorem ownSpanMeets : ownKnob Try.prog.godebug = none := by kernel_rfl
theorem laidOutSpanMeets : laidOutB Try.prog = true := by kernel_rfl
set_option linter.unusedVariables false in
set_option maxRecDepth 100000 in
theorem liftedSpanMeets (os : Os) (started : os.Started) (H : Type) (enc : TypeId × Value → H) :
    ReturnsInHanded {} Try.checked os 5 .any (Rows.spanMeetsSpec.pre6 enc Try.prog Try.f5 Rows.spanMeetsRow.domain false) (Rows.spanMeetsSpec.post enc Try.prog Try.f5 false true false false) := by
  refine returnsInHanded_of_change (C := Try.checked) ownSpanMeets started (by kernel_rfl) Try.func5
    (ChangeSpec.witness6 (enc := enc) (C := Try.checked) false ⟨#[], #[.agg #[.int .i64 0, .int .i64 0], .agg #[.int .i64 0, .int .i64 0]], []⟩ 8 (by kernel_rfl) (by kernel_rfl) (by kernel_rfl) (by kernel_rfl)) ?_
  intro W base args ds gs before hval0 hW hcnd _
  have hval : ∀ (j : Nat) t v, Try.f5.params[j]? = some t → args[j]? = some v → Value.okWide Try.prog W .any base t v := hval0
  have hW' := hW
  obtain ⟨p, q, hA0, hV, rfl, hfz, hnd⟩ := hW
  have hA : DataW.TrodAll enc Try.prog W 0 (fun _ => true) true Try.f5.params.toList args.toList ds p := hA0
  rw [Try.params5] at hA hval
  obtain ⟨v0, vs0, d0, ds0, p0, q0, hargs, rfl, rfl, h0, r0⟩ := trodAll_cons hA
  obtain ⟨v1, vs1, d1, ds1, p1, q1, rfl, rfl, rfl, h1, r1⟩ := trodAll_cons r0
  obtain ⟨rfl, rfl, rfl⟩ := trodAll_nil r1
  obtain rfl : args = #[v0, v1] := by cases args; simp_all
  obtain ⟨rfl, rfl⟩ := trodVars_none hV
  have lt0 : ∀ x ∈ p0, x.block < W.heap.size := by obtain ⟨m, hm⟩ := h0; exact DataW.trod_lt m _ _ _ hm
  obtain ⟨l0, rfl, e0, b0⟩ := open_agg_ints 2 (by kernel_rfl) (by kernel_rfl) (ts := [3, 3]) (by kernel_rfl) (by intro u hu; simp at hu; subst hu; exact Try.underlying3) (hval 0 23 v0 rfl rfl)
  obtain ⟨z0_0, z0_1, rfl⟩ := len2 e0
  simp only [List.map_cons, List.map_nil] at *
  simp only [List.mem_cons, List.not_mem_nil, or_false, forall_eq_or_imp, forall_eq] at b0
  have lt1 : ∀ x ∈ p1, x.block < W.heap.size := by obtain ⟨m, hm⟩ := h1; exact DataW.trod_lt m _ _ _ hm
  obtain ⟨l1, rfl, e1, b1⟩ := open_agg_ints 2 (by kernel_rfl) (by kernel_rfl) (ts := [3, 3]) (by kernel_rfl) (by intro u hu; simp at hu; subst hu; exact Try.underlying3) (hval 1 23 v1 rfl rfl)
  obtain ⟨z1_0, z1_1, rfl⟩ := len2 e1
  simp only [List.map_cons, List.map_nil] at *
  simp only [List.mem_cons, List.not_mem_nil, or_false, forall_eq_or_imp, forall_eq] at b1
  clear hA0 hval0
  refine (meets_law z0_0 z0_1 z1_0 z1_1 W).mono fun e W' ⟨he, hk⟩ => ?_
  subst he
  have bel := hk.below
  exact ⟨_, rfl, _, _, _, [], _, [], hW', trodAll_mk1 (shut_bool Try.underlying4 _), (trodAll_cons_mk (Below.trod laidOutSpanMeets (by kernel_rfl) (of_decide_eq_true (by kernel_rfl)) h0 bel lt0) (trodAll_cons_mk (Below.trod laidOutSpanMeets (by kernel_rfl) (of_decide_eq_true (by kernel_rfl)) h1 bel lt1) trodAll_mk0)), rfl, bel.frame _, fun h => by cases h⟩
/-- For every input the statement SpanMeets returns true, and each argument reads afterwards as it read before. -/
theorem spanMeets_holds : Rows.SpanMeetsSaid :=
  OpenClaim.holds_of_wide 5 Try.f5 rfl rfl rfl rfl rfl rfl rfl ⟨rfl, rfl, rfl, rfl, rfl⟩ rfl rfl rfl rfl rfl (by kernel_rfl) Try.func5 (by kernel_rfl)
    (of_decide_eq_true (by kernel_rfl)) (by unfold Func.isWrapper; first | (rw [if_pos (by decide +kernel)]; kernel_rfl) | (rw [if_neg (by decide +kernel)]; exact ⟨rfl, rfl⟩))
    (fun os started H enc _ => liftedSpanMeets os started H enc)
#print axioms spanMeets_holds

end Go.Proofs.Ytlkopkdbkbammaa
