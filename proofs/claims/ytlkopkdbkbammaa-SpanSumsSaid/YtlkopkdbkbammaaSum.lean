/- For every input the statement SpanSums returns true and leaves its arguments as they were. No conditions. -/
import Derived.Test.YtlkopkdbkbammaaRefb
import Derived.Test.YtlkopkdbkbammaaQuob
namespace Go.Proofs.Ytlkopkdbkbammaa
set_option linter.unusedVariables false
set_option linter.unusedSimpArgs false
open Go.ChangeShapes Go.WideShapes Go.ChangeAt Go.RowKit
theorem result_ok {lo hi : Int} (h : (resultS lo hi).e = 0) : resultS lo hi = ⟨lo, hi, 0⟩ ∧ validB lo hi = true := by
  unfold resultS at *
  split at h
  · rename_i k; rw [if_pos k]; exact ⟨rfl, k⟩
  · cases h
/-- A result encloses a span, if it is none, or if its bounds do. -/
theorem encl_result {lo hi a b : Int} (h1 : lo ≤ a) (h2 : b ≤ hi) : enclosesB (resultS lo hi).lo (resultS lo hi).hi (resultS lo hi).e a b = true := by
  unfold resultS
  split
  · simp [enclosesB, h1, h2]
  · simp [enclosesB]
theorem add_ok {al ah bl bh : Int} (h : (addS al ah bl bh).e = 0) : addS al ah bl bh = ⟨al + bl, ah + bh, 0⟩ ∧ validB al ah = true ∧ validB bl bh = true ∧ validB (al + bl) (ah + bh) = true := by
  unfold addS at *
  split at h
  · rename_i k
    simp only [Bool.and_eq_true] at k
    obtain ⟨e, v⟩ := result_ok h
    rw [if_pos (by simp [k]), e]
    exact ⟨rfl, k.1, k.2, v⟩
  · cases h
theorem sums_encl {al ah bl bh : Int} (h : (addS al ah bl bh).e = 0) :
    enclosesB (subS (addS al ah bl bh).lo (addS al ah bl bh).hi bl bh).lo (subS (addS al ah bl bh).lo (addS al ah bl bh).hi bl bh).hi (subS (addS al ah bl bh).lo (addS al ah bl bh).hi bl bh).e al ah = true := by
  obtain ⟨e, v1, v2, v3⟩ := add_ok h
  rw [e]
  have b2 := valid_bd v2
  unfold subS
  rw [if_pos (by simp [v2, v3])]
  exact encl_result (by show al + bl - bh ≤ al; omega) (by show ah ≤ ah + bh - bl; omega)
set_option maxRecDepth 100000 in
set_option maxHeartbeats 2000000 in
theorem sums_law (al ah bl bh : Int) (w : World) :
    Calls Try.prog 7 #[.agg #[.int .i64 al, .int .i64 ah], .agg #[.int .i64 bl, .int .i64 bh]] w fun r w' => r = .returned (.bool true) ∧ Kept w w' := by
  by_cases h : (addS al ah bl bh).e = 0
  · have he := Lib.hid (sums_encl h)
    go_enter Try.func7, Try.ntmps7
    go_wp2_with (first | (go_at_call 39; refine (add_any _ _ _ _ _).mono ?_; rintro e w1 ⟨rfl, x, rfl⟩) | (go_at_call 40; refine (radd_any _ _ _ _ _).mono ?_; rintro e w1 ⟨rfl, x, rfl⟩) | (go_at_call 41; refine (sub_any _ _ _ _ _).mono ?_; rintro e w1 ⟨rfl, x, rfl⟩) | (go_at_call 42; refine (rsub_any _ _ _ _ _).mono ?_; rintro e w1 ⟨rfl, x, rfl⟩) | (go_at_call 21; refine (known_any _).mono ?_; rintro e w1 ⟨rfl, x, rfl⟩) | (go_at_call 38; refine (encloses_any _ _ _ _ _ _).mono ?_; rintro e w1 ⟨rfl, x, rfl⟩))
    have he2 := he.out
    clear he
    go_wp2_with (first | (go_at_call 21; refine (known_any _).mono ?_; rintro e w1 ⟨rfl, x, rfl⟩) | (go_at_call 38; refine (encloses_any _ _ _ _ _ _).mono ?_; rintro e w1 ⟨rfl, x, rfl⟩))
    go_ret
    refine ⟨rfl, ?_⟩
    (repeat (first | exact Kept.refl _ | assumption | refine Kept.alloc ?_ _ | refine Kept.ext ?_ _ | refine Kept.drew ?_ | refine Kept.drewN ?_ _))
  · have he : ((addS al ah bl bh).e == 0) = false := by simpa using h
    have he' : ((addS al ah bl bh).e != 0) = true := by simpa using h
    clear h
    go_enter Try.func7, Try.ntmps7
    go_wp2_with (first | (go_at_call 39; refine (add_any _ _ _ _ _).mono ?_; rintro e w1 ⟨rfl, x, rfl⟩) | (go_at_call 40; refine (radd_any _ _ _ _ _).mono ?_; rintro e w1 ⟨rfl, x, rfl⟩) | (go_at_call 41; refine (sub_any _ _ _ _ _).mono ?_; rintro e w1 ⟨rfl, x, rfl⟩) | (go_at_call 42; refine (rsub_any _ _ _ _ _).mono ?_; rintro e w1 ⟨rfl, x, rfl⟩) | (go_at_call 21; refine (known_any _).mono ?_; rintro e w1 ⟨rfl, x, rfl⟩) | (go_at_call 38; refine (encloses_any _ _ _ _ _ _).mono ?_; rintro e w1 ⟨rfl, x, rfl⟩))
    go_ret
    refine ⟨rfl, ?_⟩
    (repeat (first | exact Kept.refl _ | assumption | refine Kept.alloc ?_ _ | refine Kept.ext ?_ _ | refine Kept.drew ?_ | refine Kept.drewN ?_ _))
theorem ownSpanSums : ownKnob Try.prog.godebug = none := by kernel_rfl
theorem laidOutSpanSums : laidOutB Try.prog = true := by kernel_rfl
set_option linter.unusedVariables false in
set_option maxRecDepth 100000 in
theorem liftedSpanSums (os : Os) (started : os.Started) (H : Type) (enc : TypeId × Value → H) :
    ReturnsInHanded {} Try.checked os 7 .any (Rows.spanSumsSpec.pre6 enc Try.prog Try.f7 Rows.spanSumsRow.domain false) (Rows.spanSumsSpec.post enc Try.prog Try.f7 false true false false) := by
  refine returnsInHanded_of_change (C := Try.checked) ownSpanSums started (by kernel_rfl) Try.func7
    (ChangeSpec.witness6 (enc := enc) (C := Try.checked) false ⟨#[], #[.agg #[.int .i64 0, .int .i64 0], .agg #[.int .i64 0, .int .i64 0]], []⟩ 8 (by kernel_rfl) (by kernel_rfl) (by kernel_rfl) (by kernel_rfl)) ?_
  intro W base args ds gs before hval0 hW hcnd _
  have hval : ∀ (j : Nat) t v, Try.f7.params[j]? = some t → args[j]? = some v → Value.okWide Try.prog W .any base t v := hval0
  have hW' := hW
  obtain ⟨p, q, hA0, hV, rfl, hfz, hnd⟩ := hW
  have hA : DataW.TrodAll enc Try.prog W 0 (fun _ => true) true Try.f7.params.toList args.toList ds p := hA0
  rw [Try.params7] at hA hval
  obtain ⟨v0, vs0, d0, ds0, p0, q0, hargs, rfl, rfl, h0, r0⟩ := trodAll_cons hA
  obtain ⟨v1, vs1, d1, ds1, p1, q1, rfl, rfl, rfl, h1, r1⟩ := trodAll_cons r0
  obtain ⟨rfl, rfl, rfl⟩ := trodAll_nil r1
  obtain rfl : args = #[v0, v1] := by cases args; simp_all
  obtain ⟨rfl, rfl⟩ := trodVars_none hV
  have lt0 : ∀ x ∈ p0, x.block < W.heap.size := by obtain ⟨m, hm⟩ := h0; exact DataW.trod_lt m _ _ _ hm
  obtain ⟨l0, rfl, e0, b0⟩ := open_agg_ints 2 (by kernel_rfl) (by kernel_rfl) (ts := [3, 3]) (by kernel_rfl) (by intro u hu; simp at hu; subst hu; exact Try.underlying3) (hval 0 23 v0 rfl rfl)
  obtain ⟨z0_0, z0_1, rfl⟩ := len2 e0
  simp only [List.map_cons, List.map_nil] at *
  simp only [List.mem_cons, List.not_mem_nil, or_false, forall_eq_or_imp, forall_eq] at b0
  have lt1 : ∀ x ∈ p1, x.block < W.heap.size := by obtain ⟨m, hm⟩ := h1; exact DataW.trod_lt m _ _ _ hm
  obtain ⟨l1, rfl, e1, b1⟩ := open_agg_ints 2 (by kernel_rfl) (by kernel_rfl) (ts := [3, 3]) (by kernel_rfl) (by intro u hu; simp at hu; subst hu; exact Try.underlying3) (hval 1 23 v1 rfl rfl)
  obtain ⟨z1_0, z1_1, rfl⟩ := len2 e1
  simp only [List.map_cons, List.map_nil] at *
  simp only [List.mem_cons, List.not_mem_nil, or_false, forall_eq_or_imp, forall_eq] at b1
  clear hA0 hval0
  refine (sums_law z0_0 z0_1 z1_0 z1_1 W).mono fun e W' ⟨he, hk⟩ => ?_
  subst he
  have bel := hk.below
  exact ⟨_, rfl, _, _, _, [], _, [], hW', trodAll_mk1 (shut_bool Try.underlying4 _), (trodAll_cons_mk (Below.trod laidOutSpanSums (by kernel_rfl) (of_decide_eq_true (by kernel_rfl)) h0 bel lt0) (trodAll_cons_mk (Below.trod laidOutSpanSums (by kernel_rfl) (of_decide_eq_true (by kernel_rfl)) h1 bel lt1) trodAll_mk0)), rfl, bel.frame _, fun h => by cases h⟩
/-- For every input the statement SpanSums returns true, and each argument reads afterwards as it read before. -/
theorem spanSums_holds : Rows.SpanSumsSaid :=
  OpenClaim.holds_of_wide 7 Try.f7 rfl rfl rfl rfl rfl rfl rfl ⟨rfl, rfl, rfl, rfl, rfl⟩ rfl rfl rfl rfl rfl (by kernel_rfl) Try.func7 (by kernel_rfl)
    (of_decide_eq_true (by kernel_rfl)) (by unfold Func.isWrapper; first | (rw [if_pos (by decide +kernel)]; kernel_rfl) | (rw [if_neg (by decide +kernel)]; exact ⟨rfl, rfl⟩))
    (fun os started H enc _ => liftedSpanSums os started H enc)
#print axioms spanSums_holds

end Go.Proofs.Ytlkopkdbkbammaa
