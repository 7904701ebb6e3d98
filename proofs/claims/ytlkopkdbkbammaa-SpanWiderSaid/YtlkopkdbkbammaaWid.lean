/- For every input the statement SpanWider returns true and leaves its arguments as they were. No conditions. -/
import Derived.Test.YtlkopkdbkbammaaWidp
import Derived.Deep.DeepCutAuto
namespace Go.Proofs.Ytlkopkdbkbammaa
set_option linter.unusedVariables false
set_option linter.unusedSimpArgs false
open Go.ChangeShapes Go.WideShapes Go.ChangeAt Go.RowKit
set_option maxRecDepth 100000 in
set_option maxHeartbeats 4000000 in
theorem wider_law (al ah bl bh cl ch dl dh : Int) (w : World) :
    Calls Try.prog 13 #[.agg #[.int .i64 al, .int .i64 ah], .agg #[.int .i64 bl, .int .i64 bh], .agg #[.int .i64 cl, .int .i64 ch, .int .i64 dl, .int .i64 dh]] w fun r w' => r = .returned (.bool true) ∧ Kept w w' := by
  cases h1 : (validB al ah && validB cl ch)
  · have f1 : ((hullS al ah cl ch).e != 0) = true := by unfold hullS; rw [h1]; rfl
    clear h1
    go_enter Try.func13, Try.ntmps13
    go_wp2_with (first | (go_at_call 26; refine (hull_any _ _ _ _ _).mono ?_; rintro e w1 ⟨rfl, x, rfl⟩) | (go_at_call 21; refine (known_any _).mono ?_; rintro e w1 ⟨rfl, x, rfl⟩))
    go_ret
    refine ⟨rfl, ?_⟩
    (repeat (first | exact Kept.refl _ | assumption | refine Kept.alloc ?_ _ | refine Kept.ext ?_ _ | refine Kept.drew ?_ | refine Kept.drewN ?_ _))
  cases h2 : (validB bl bh && validB dl dh)
  · have f1 : ((hullS al ah cl ch).e != 0) = false := by unfold hullS; rw [h1]; rfl
    have f2 : ((hullS bl bh dl dh).e != 0) = true := by unfold hullS; rw [h2]; rfl
    clear h1 h2
    go_enter Try.func13, Try.ntmps13
    go_wp2_with (first | (go_at_call 26; refine (hull_any _ _ _ _ _).mono ?_; rintro e w1 ⟨rfl, x, rfl⟩) | (go_at_call 21; refine (known_any _).mono ?_; rintro e w1 ⟨rfl, x, rfl⟩))
    go_ret
    refine ⟨rfl, ?_⟩
    (repeat (first | exact Kept.refl _ | assumption | refine Kept.alloc ?_ _ | refine Kept.ext ?_ _ | refine Kept.drew ?_ | refine Kept.drewN ?_ _))
  obtain ⟨e1, wx⟩ := hull_wide h1
  obtain ⟨e2, wy⟩ := hull_wide h2
  clear h1 h2
  generalize min al cl = xl at *
  generalize max ah ch = xh at *
  generalize min bl dl = yl at *
  generalize max bh dh = yh at *
  have k1 := Lib.hid (fun h => add_wide wx wy h)
  have k2 := Lib.hid (fun h => sub_wide wx wy h)
  have k3 := Lib.hid (fun h => mul_wide wx wy h)
  have k4 := Lib.hid (fun h => div_wide wx wy h)
  have k5 := Lib.hid (fun h => sq_wide wx h)
  have k6 := Lib.hid (fun h => root_wide wx h)
  clear wx wy
  go_enter Try.func13, Try.ntmps13
  go_upto_region 7 with (first | (go_at_call 26; refine (hull_any _ _ _ _ _).mono ?_; rintro e w1 ⟨rfl, x, rfl⟩) | (go_at_call 39; refine (add_any _ _ _ _ _).mono ?_; rintro e w1 ⟨rfl, x, rfl⟩))
  refine wp_gen (fun W hW => ?_)
  have HW := Lib.hid hW
  clear hW
  go_cut [54] (fun s wx => s = .bool false ∧ ∃ x, wx = ext W x)
  case first =>
    have hW := HW.out
    clear HW
    subst hW
    by_cases h : (addS al ah bl bh).e = 0
    · have he2 := k1.out h
      have he3 : ((addS al ah bl bh).e == 0) = true := by simpa using h
      clear h
      go_wp2_with (first | (go_at_call 38; refine (encloses_any _ _ _ _ _ _).mono ?_; rintro e w1 ⟨rfl, x, rfl⟩))
      go_meet
      exact ⟨rfl, show Kept _ _ by (repeat (first | exact Kept.refl _ | assumption | refine Kept.alloc ?_ _ | refine Kept.ext ?_ _ | refine Kept.drew ?_ | refine Kept.drewN ?_ _))⟩
    · have he3 : ((addS al ah bl bh).e == 0) = false := by simpa using h
      clear h
      go_wp2_with (first | (go_at_call 38; refine (encloses_any _ _ _ _ _ _).mono ?_; rintro e w1 ⟨rfl, x, rfl⟩))
      go_meet
      exact ⟨rfl, show Kept _ _ by (repeat (first | exact Kept.refl _ | assumption | refine Kept.alloc ?_ _ | refine Kept.ext ?_ _ | refine Kept.drew ?_ | refine Kept.drewN ?_ _))⟩
  case rest =>
  obtain ⟨rfl, x, rfl⟩ := hcut
  have hW := HW.out
  clear HW
  subst hW
  go_upto_region 11 with (first | (go_at_call 41; refine (sub_any _ _ _ _ _).mono ?_; rintro e w1 ⟨rfl, x, rfl⟩))
  refine wp_gen (fun W hW => ?_)
  have HW := Lib.hid hW
  clear hW
  go_cut [75] (fun s wx => s = .bool false ∧ ∃ x, wx = ext W x)
  case first =>
    have hW := HW.out
    clear HW
    subst hW
    by_cases h : (subS al ah bl bh).e = 0
    · have he2 := k2.out h
      have he3 : ((subS al ah bl bh).e == 0) = true := by simpa using h
      clear h
      go_wp2_with (first | (go_at_call 38; refine (encloses_any _ _ _ _ _ _).mono ?_; rintro e w1 ⟨rfl, x, rfl⟩))
      go_meet
      exact ⟨rfl, show Kept _ _ by (repeat (first | exact Kept.refl _ | assumption | refine Kept.alloc ?_ _ | refine Kept.ext ?_ _ | refine Kept.drew ?_ | refine Kept.drewN ?_ _))⟩
    · have he3 : ((subS al ah bl bh).e == 0) = false := by simpa using h
      clear h
      go_wp2_with (first | (go_at_call 38; refine (encloses_any _ _ _ _ _ _).mono ?_; rintro e w1 ⟨rfl, x, rfl⟩))
      go_meet
      exact ⟨rfl, show Kept _ _ by (repeat (first | exact Kept.refl _ | assumption | refine Kept.alloc ?_ _ | refine Kept.ext ?_ _ | refine Kept.drew ?_ | refine Kept.drewN ?_ _))⟩
  case rest =>
  obtain ⟨rfl, x, rfl⟩ := hcut
  have hW := HW.out
  clear HW
  subst hW
  go_upto_region 15 with (first | (go_at_call 45; refine (mul_any _ _ _ _ _).mono ?_; rintro e w1 ⟨rfl, x, rfl⟩))
  refine wp_gen (fun W hW => ?_)
  have HW := Lib.hid hW
  clear hW
  go_cut [96] (fun s wx => s = .bool false ∧ ∃ x, wx = ext W x)
  case first =>
    have hW := HW.out
    clear HW
    subst hW
    by_cases h : (mulS al ah bl bh).e = 0
    · have he2 := k3.out h
      have he3 : ((mulS al ah bl bh).e == 0) = true := by simpa using h
      clear h
      go_wp2_with (first | (go_at_call 38; refine (encloses_any _ _ _ _ _ _).mono ?_; rintro e w1 ⟨rfl, x, rfl⟩))
      go_meet
      exact ⟨rfl, show Kept _ _ by (repeat (first | exact Kept.refl _ | assumption | refine Kept.alloc ?_ _ | refine Kept.ext ?_ _ | refine Kept.drew ?_ | refine Kept.drewN ?_ _))⟩
    · have he3 : ((mulS al ah bl bh).e == 0) = false := by simpa using h
      clear h
      go_wp2_with (first | (go_at_call 38; refine (encloses_any _ _ _ _ _ _).mono ?_; rintro e w1 ⟨rfl, x, rfl⟩))
      go_meet
      exact ⟨rfl, show Kept _ _ by (repeat (first | exact Kept.refl _ | assumption | refine Kept.alloc ?_ _ | refine Kept.ext ?_ _ | refine Kept.drew ?_ | refine Kept.drewN ?_ _))⟩
  case rest =>
  obtain ⟨rfl, x, rfl⟩ := hcut
  have hW := HW.out
  clear HW
  subst hW
  go_upto_region 19 with (first | (go_at_call 43; refine (div_any _ _ _ _ _).mono ?_; rintro e w1 ⟨rfl, x, rfl⟩))
  refine wp_gen (fun W hW => ?_)
  have HW := Lib.hid hW
  clear hW
  go_cut [117] (fun s wx => s = .bool false ∧ ∃ x, wx = ext W x)
  case first =>
    have hW := HW.out
    clear HW
    subst hW
    by_cases h : (divS al ah bl bh).e = 0
    · have he2 := k4.out h
      have he3 : ((divS al ah bl bh).e == 0) = true := by simpa using h
      clear h
      go_wp2_with (first | (go_at_call 38; refine (encloses_any _ _ _ _ _ _).mono ?_; rintro e w1 ⟨rfl, x, rfl⟩))
      go_meet
      exact ⟨rfl, show Kept _ _ by (repeat (first | exact Kept.refl _ | assumption | refine Kept.alloc ?_ _ | refine Kept.ext ?_ _ | refine Kept.drew ?_ | refine Kept.drewN ?_ _))⟩
    · have he3 : ((divS al ah bl bh).e == 0) = false := by simpa using h
      clear h
      go_wp2_with (first | (go_at_call 38; refine (encloses_any _ _ _ _ _ _).mono ?_; rintro e w1 ⟨rfl, x, rfl⟩))
      go_meet
      exact ⟨rfl, show Kept _ _ by (repeat (first | exact Kept.refl _ | assumption | refine Kept.alloc ?_ _ | refine Kept.ext ?_ _ | refine Kept.drew ?_ | refine Kept.drewN ?_ _))⟩
  case rest =>
  obtain ⟨rfl, x, rfl⟩ := hcut
  have hW := HW.out
  clear HW
  subst hW
  go_upto_region 23 with (first | (go_at_call 48; refine (sq_any _ _ _).mono ?_; rintro e w1 ⟨rfl, x, rfl⟩))
  refine wp_gen (fun W hW => ?_)
  have HW := Lib.hid hW
  clear hW
  go_cut [136] (fun s wx => s = .bool false ∧ ∃ x, wx = ext W x)
  case first =>
    have hW := HW.out
    clear HW
    subst hW
    by_cases h : (sqS al ah).e = 0
    · have he2 := k5.out h
      have he3 : ((sqS al ah).e == 0) = true := by simpa using h
      clear h
      go_wp2_with (first | (go_at_call 38; refine (encloses_any _ _ _ _ _ _).mono ?_; rintro e w1 ⟨rfl, x, rfl⟩))
      go_meet
      exact ⟨rfl, show Kept _ _ by (repeat (first | exact Kept.refl _ | assumption | refine Kept.alloc ?_ _ | refine Kept.ext ?_ _ | refine Kept.drew ?_ | refine Kept.drewN ?_ _))⟩
    · have he3 : ((sqS al ah).e == 0) = false := by simpa using h
      clear h
      go_wp2_with (first | (go_at_call 38; refine (encloses_any _ _ _ _ _ _).mono ?_; rintro e w1 ⟨rfl, x, rfl⟩))
      go_meet
      exact ⟨rfl, show Kept _ _ by (repeat (first | exact Kept.refl _ | assumption | refine Kept.alloc ?_ _ | refine Kept.ext ?_ _ | refine Kept.drew ?_ | refine Kept.drewN ?_ _))⟩
  case rest =>
  obtain ⟨rfl, x, rfl⟩ := hcut
  have hW := HW.out
  clear HW
  subst hW
  by_cases h : (rootS al ah).e = 0
  · have he2 := k6.out h
    have he3 : ((rootS al ah).e != 0) = false := by simpa using h
    clear h
    go_wp2_with (first | (go_at_call 46; refine (spanRoot_any _ _ _).mono ?_; rintro e w1 ⟨rfl, x, rfl⟩) | (go_at_call 38; refine (encloses_any _ _ _ _ _ _).mono ?_; rintro e w1 ⟨rfl, x, rfl⟩) | (go_at_call 21; refine (known_any _).mono ?_; rintro e w1 ⟨rfl, x, rfl⟩))
    go_ret
    refine ⟨rfl, ?_⟩
    (repeat (first | exact Kept.refl _ | assumption | refine Kept.alloc ?_ _ | refine Kept.ext ?_ _ | refine Kept.drew ?_ | refine Kept.drewN ?_ _))
  · have he3 : ((rootS al ah).e != 0) = true := by simpa using h
    clear h
    go_wp2_with (first | (go_at_call 46; refine (spanRoot_any _ _ _).mono ?_; rintro e w1 ⟨rfl, x, rfl⟩) | (go_at_call 38; refine (encloses_any _ _ _ _ _ _).mono ?_; rintro e w1 ⟨rfl, x, rfl⟩) | (go_at_call 21; refine (known_any _).mono ?_; rintro e w1 ⟨rfl, x, rfl⟩))
    go_ret
    refine ⟨rfl, ?_⟩
    (repeat (first | exact Kept.refl _ | assumption | refine Kept.alloc ?_ _ | refine Kept.ext ?_ _ | refine Kept.drew ?_ | refine Kept.drewN ?_ _))
theorem ownSpanWider : ownKnob Try.prog.godebug = none := by kernel_rfl
theorem laidOutSpanWider : laidOutB Try.prog = true := by kernel_rfl
set_option linter.unusedVariables false in
set_option maxRecDepth 100000 in
theorem liftedSpanWider (os : Os) (started : os.Started) (H : Type) (enc : TypeId × Value → H) :
    ReturnsInHanded {} Try.checked os 13 .any (Rows.spanWiderSpec.pre6 enc Try.prog Try.f13 Rows.spanWiderRow.domain false) (Rows.spanWiderSpec.post enc Try.prog Try.f13 false true false false) := by
  refine returnsInHanded_of_change (C := Try.checked) ownSpanWider started (by kernel_rfl) Try.func13
    (ChangeSpec.witness6 (enc := enc) (C := Try.checked) false ⟨#[], #[.agg #[.int .i64 0, .int .i64 0], .agg #[.int .i64 0, .int .i64 0], .agg #[.int .i64 0, .int .i64 0, .int .i64 0, .int .i64 0]], []⟩ 8 (by kernel_rfl) (by kernel_rfl) (by kernel_rfl) (by kernel_rfl)) ?_
  intro W base args ds gs before hval0 hW hcnd _
  have hval : ∀ (j : Nat) t v, Try.f13.params[j]? = some t → args[j]? = some v → Value.okWide Try.prog W .any base t v := hval0
  have hW' := hW
  obtain ⟨p, q, hA0, hV, rfl, hfz, hnd⟩ := hW
  have hA : DataW.TrodAll enc Try.prog W 0 (fun _ => true) true Try.f13.params.toList args.toList ds p := hA0
  rw [Try.params13] at hA hval
  obtain ⟨v0, vs0, d0, ds0, p0, q0, hargs, rfl, rfl, h0, r0⟩ := trodAll_cons hA
  obtain ⟨v1, vs1, d1, ds1, p1, q1, rfl, rfl, rfl, h1, r1⟩ := trodAll_cons r0
  obtain ⟨v2, vs2, d2, ds2, p2, q2, rfl, rfl, rfl, h2, r2⟩ := trodAll_cons r1
  obtain ⟨rfl, rfl, rfl⟩ := trodAll_nil r2
  obtain rfl : args = #[v0, v1, v2] := by cases args; simp_all
  obtain ⟨rfl, rfl⟩ := trodVars_none hV
  have lt0 : ∀ x ∈ p0, x.block < W.heap.size := by obtain ⟨m, hm⟩ := h0; exact DataW.trod_lt m _ _ _ hm
  obtain ⟨l0, rfl, e0, b0⟩ := open_agg_ints 2 (by kernel_rfl) (by kernel_rfl) (ts := [3, 3]) (by kernel_rfl) (by intro u hu; simp at hu; subst hu; exact Try.underlying3) (hval 0 23 v0 rfl rfl)
  obtain ⟨z0_0, z0_1, rfl⟩ := len2 e0
  simp only [List.map_cons, List.map_nil] at *
  simp only [List.mem_cons, List.not_mem_nil, or_false, forall_eq_or_imp, forall_eq] at b0
  have lt1 : ∀ x ∈ p1, x.block < W.heap.size := by obtain ⟨m, hm⟩ := h1; exact DataW.trod_lt m _ _ _ hm
  obtain ⟨l1, rfl, e1, b1⟩ := open_agg_ints 2 (by kernel_rfl) (by kernel_rfl) (ts := [3, 3]) (by kernel_rfl) (by intro u hu; simp at hu; subst hu; exact Try.underlying3) (hval 1 23 v1 rfl rfl)
  obtain ⟨z1_0, z1_1, rfl⟩ := len2 e1
  simp only [List.map_cons, List.map_nil] at *
  simp only [List.mem_cons, List.not_mem_nil, or_false, forall_eq_or_imp, forall_eq] at b1
  have lt2 : ∀ x ∈ p2, x.block < W.heap.size := by obtain ⟨m, hm⟩ := h2; exact DataW.trod_lt m _ _ _ hm
  obtain ⟨l2, rfl, e2, b2⟩ := open_agg_ints 4 (by kernel_rfl) (by kernel_rfl) (ts := [3, 3, 3, 3]) (by kernel_rfl) (by intro u hu; simp at hu; subst hu; exact Try.underlying3) (hval 2 49 v2 rfl rfl)
  obtain ⟨z2_0, z2_1, z2_2, z2_3, rfl⟩ := len4 e2
  simp only [List.map_cons, List.map_nil] at *
  simp only [List.mem_cons, List.not_mem_nil, or_false, forall_eq_or_imp, forall_eq] at b2
  clear hA0 hval0
  refine (wider_law z0_0 z0_1 z1_0 z1_1 z2_0 z2_1 z2_2 z2_3 W).mono fun e W' ⟨he, hk⟩ => ?_
  subst he
  have bel := hk.below
  exact ⟨_, rfl, _, _, _, [], _, [], hW', trodAll_mk1 (shut_bool Try.underlying4 _), (trodAll_cons_mk (Below.trod laidOutSpanWider (by kernel_rfl) (of_decide_eq_true (by kernel_rfl)) h0 bel lt0) (trodAll_cons_mk (Below.trod laidOutSpanWider (by kernel_rfl) (of_decide_eq_true (by kernel_rfl)) h1 bel lt1) (trodAll_cons_mk (Below.trod laidOutSpanWider (by kernel_rfl) (of_decide_eq_true (by kernel_rfl)) h2 bel lt2) trodAll_mk0))), rfl, bel.frame _, fun h => by cases h⟩
/-- For every input the statement SpanWider returns true, and each argument reads afterwards as it read before. -/
theorem spanWider_holds : Rows.SpanWiderSaid :=
  OpenClaim.holds_of_wide 13 Try.f13 rfl rfl rfl rfl rfl rfl rfl ⟨rfl, rfl, rfl, rfl, rfl⟩ rfl rfl rfl rfl rfl (by kernel_rfl) Try.func13 (by kernel_rfl)
    (of_decide_eq_true (by kernel_rfl)) (by unfold Func.isWrapper; first | (rw [if_pos (by decide +kernel)]; kernel_rfl) | (rw [if_neg (by decide +kernel)]; exact ⟨rfl, rfl⟩))
    (fun os started H enc _ => liftedSpanWider os started H enc)
#print axioms spanWider_holds

end Go.Proofs.Ytlkopkdbkbammaa
