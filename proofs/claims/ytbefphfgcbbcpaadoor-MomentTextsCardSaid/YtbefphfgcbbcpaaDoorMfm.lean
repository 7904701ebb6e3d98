/- Contract: texts of moments, of the program. Conditions: the library's variables hold what start-up lays. -/
import Derived.Test.YtbefphfgcbbcpaaDoorMnm
import Derived.Test.YtbefphfgcbbcpaaDoorMem
namespace Go.Proofs.YtbefphfgcbbcpaaDoor
set_option linter.unusedVariables false
set_option linter.unusedSimpArgs false
open Go.ChangeShapes Go.WideShapes Go.ChangeAt Go.RowKit Go.Deep
theorem cellsM (w : World) (m : Mo) : ∀ j, j < 11 → (w.alloc (.cells #[.int .i64 m.q, .int .i64 m.t, .int .i64 m.x, .int .i64 m.y, .int .i64 m.z, .int .i64 m.a, .int .i64 m.b, .int .i64 m.c, .int .i64 m.d, .int .i64 m.e, .int .i64 m.f] 39)).cell? ⟨w.heap.size, j, none⟩ = some (.int .i64 ((mL m).getD j 0)) := by
  intro j hj
  unfold World.cell?
  have h := heap_alloc_new w (.cells #[.int .i64 m.q, .int .i64 m.t, .int .i64 m.x, .int .i64 m.y, .int .i64 m.z, .int .i64 m.a, .int .i64 m.b, .int .i64 m.c, .int .i64 m.d, .int .i64 m.e, .int .i64 m.f] 39)
  show (match (w.alloc (.cells #[.int .i64 m.q, .int .i64 m.t, .int .i64 m.x, .int .i64 m.y, .int .i64 m.z, .int .i64 m.a, .int .i64 m.b, .int .i64 m.c, .int .i64 m.d, .int .i64 m.e, .int .i64 m.f] 39)).heap[w.heap.size]? with | some (Obj.cells c elem frozen) => c[j]? | x => none) = _
  rw [h]
  rcases (show j = 0 ∨ j = 1 ∨ j = 2 ∨ j = 3 ∨ j = 4 ∨ j = 5 ∨ j = 6 ∨ j = 7 ∨ j = 8 ∨ j = 9 ∨ j = 10 by omega) with rfl | rfl | rfl | rfl | rfl | rfl | rfl | rfl | rfl | rfl | rfl <;> rfl
set_option maxRecDepth 100000 in
set_option maxHeartbeats 8000000 in
theorem mFmt_any (m0 m1 m2 m3 m4 m5 m6 m7 m8 m9 m10 : Int) (w : World) (h : Ld w) :
    Calls Tryd.prog 13 #[.agg #[.int .i64 m0, .int .i64 m1, .int .i64 m2, .int .i64 m3, .int .i64 m4, .int .i64 m5, .int .i64 m6, .int .i64 m7, .int .i64 m8, .int .i64 m9, .int .i64 m10]] w fun e w' => e = .returned (.tuple #[.string ⟨(fmtM ⟨m0, m1, m2, m3, m4, m5, m6, m7, m8, m9, m10⟩).toArray⟩, .int .i64 (vmS ⟨m0, m1, m2, m3, m4, m5, m6, m7, m8, m9, m10⟩)]) ∧ Kept w w' := by
  obtain ⟨M, hM⟩ : ∃ M : Mo, M = ⟨m0, m1, m2, m3, m4, m5, m6, m7, m8, m9, m10⟩ := ⟨_, rfl⟩
  have hval : ∀ w, _ := fun w => mval_any m0 m1 m2 m3 m4 m5 m6 m7 m8 m9 m10 w
  have hcm : ∀ w : World, _ := fun w => cellsM w M
  rw [← hM] at hval ⊢
  cases hv : okM M
  · have e1 : fmtM M = [] := by unfold fmtM; rw [hv]; rfl
    have e2 : vmS M = 1 := by unfold vmS; rw [hv]; rfl
    rw [e2] at hval
    rw [e1, e2]
    have HV := Lib.hid hval
    clear hval e1 e2 hv hM hcm
    go_enter Tryd.func13, Tryd.ntmps13
    go_wp2_with (go_at_call 32; refine (HV.out _).mono ?_; rintro e w1 ⟨rfl, x1, rfl⟩)
    refine bodyPost_ret (by simp only [results, Tryd.results13]; go_simp; rfl) rfl ?_
    exact ⟨rfl, by (repeat (first | exact Kept.refl _ | assumption | refine Kept.alloc ?_ _ | refine Kept.ext ?_ _ | refine Kept.drew ?_ | refine Kept.drewN ?_ _))⟩
  · have e1 : fmtM M = jn (mL M) := by unfold fmtM; rw [hv]; rfl
    have e2 : vmS M = 0 := by unfold vmS; rw [hv]; rfl
    have hbd := mL_bd hv
    have hjl := jn_len hbd
    have hl11 : (mL M).length = 11 := rfl
    rw [e2] at hval
    rw [e1, e2]
    have hcm1 := hcm w
    simp only [hM] at hcm1
    rw [← hM] at hcm1
    have HV := Lib.hid hval
    have HC := Lib.hid hcm1
    obtain ⟨xs, hxs⟩ : ∃ xs, mL M = xs := ⟨_, rfl⟩
    rw [hxs] at hbd hjl hl11 HC ⊢
    have HB := Lib.hid hbd
    have HL := Lib.hid h
    clear hval e1 e2 hv hM hcm hcm1 hbd hxs h
    obtain ⟨ti, hti, hte⟩ := Option.map_eq_some_iff.1 info_St
    simp only [Prod.mk.injEq] at hte
    have HT := Lib.hid hti
    have HTE := Lib.hid hte
    clear hti hte
    go_enter Tryd.func13, Tryd.ntmps13
    go_wp2_with (first | (go_at_call 32; refine (HV.out _).mono ?_; rintro e w1 ⟨rfl, x1, rfl⟩) | (go_at_call 33; refine (mnum_any _ _ (by simp [adv]; omega)).mono ?_; rintro e w1 ⟨b, cp, rfl, ⟨x2, rfl⟩, hob⟩; have HOB := Lib.hid hob; clear hob))
    refine wp_gen (fun W0 hW0 => ?_)
    have k0 : Kept w W0 := by rw [hW0]; (repeat (first | exact Kept.refl _ | assumption | refine Kept.alloc ?_ _ | refine Kept.ext ?_ _ | refine Kept.drew ?_ | refine Kept.drewN ?_ _))
    have cm : ∀ j, j < 11 → W0.cell? ⟨w.heap.size, j, none⟩ = some (.int .i64 (xs.getD j 0)) := fun j hj => by
      rw [hW0]
      exact cell_old (HC.out j hj) (by show w.heap.size < _; simp) (by (repeat (first | exact Kept.refl _ | assumption | refine Kept.alloc ?_ _ | refine Kept.ext ?_ _ | refine Kept.drew ?_ | refine Kept.drewN ?_ _)))
    have hob := HOB.out
    rw [← hW0] at hob
    obtain ⟨b', he, hb1, hb2, -, -, hb3⟩ := own_at hob (by omega)
    obtain rfl : b = b' := by simpa using he
    have cl : ∀ j, j < 11 → W0.cell? ⟨b, j, none⟩ = some (ptrV w.heap.size j) := fun j hj => by
      rw [hb3 j hj]
      simp [hj]
    have hg0 : w.heap.size < W0.heap.size := by rw [hW0]; simp [adv]; omega
    have HK0 := Lib.hid k0
    have HCM := Lib.hid cm
    have HCL := Lib.hid cl
    clear hW0 k0 cm cl hob HOB HC he hb3 hb1
    go_loopw [5, 15] (fun o i wr => ∃ r : Nat, r ≤ 11 ∧ i = .int .i64 r ∧ Kept W0 wr ∧ wr.ownsRow W0.heap.size 9 1 o r (((xs.take r).map Lib.itoa).map strV)) (fun _ i _ => 11 - (intOf i).toNat)
    case atStart => exact ⟨0, by omega, rfl, Kept.refl _, World.ownsRow_nil _ _ _ _⟩
    case round =>
      obtain ⟨r, hr, rfl, hkw, hO⟩ := hrel
      obtain ⟨Wi, rfl⟩ : ∃ x, x = wr := ⟨_, rfl⟩
      obtain ⟨OA, oc, rfl⟩ := own_slice2 hO
      have HO := Lib.hid hO
      have HKW := Lib.hid hkw
      by_cases hlt : r < 11
      · have g0 : decide ((r : Int) < 11) = true := decide_eq_true (by omega)
        have g1 : ¬ (11 : Int) ≤ r := by omega
        obtain ⟨u, hu⟩ : ∃ u, xs.getD r 0 = u := ⟨_, rfl⟩
        have c1 : Wi.cell? ⟨b, r, none⟩ = some (.pointer (some ⟨w.heap.size, r, none⟩)) := cell_old (HCL.out r hlt) hb2 hkw
        have c2 : Wi.cell? ⟨w.heap.size, r, none⟩ = some (.int .i64 u) := by rw [← hu]; exact cell_old (HCM.out r hlt) hg0 hkw
        have LB : Lower b Wi.heap.size := ⟨Nat.lt_of_lt_of_le hb2 (kept_le hkw)⟩
        have LG : Lower w.heap.size Wi.heap.size := ⟨Nat.lt_of_lt_of_le hg0 (kept_le hkw)⟩
        have hget : xs[r]? = some u := by
          rw [← hu, List.getD_eq_getElem?_getD, List.getElem?_eq_getElem (by omega)]
          rfl
        have hub := HB.out u (List.mem_of_getElem? hget)
        have htk : ((xs.take (r + 1)).map Lib.itoa).map strV = ((xs.take r).map Lib.itoa).map strV ++ [strV (Lib.itoa u)] := by
          rw [List.take_add_one, hget]
          simp
        have hit : ∀ w', Kept w w' → _ := fun w' hk => sItoa u w' (by omega) (HL.out.on hk)
        have HIT := Lib.hid hit
        have HTK := Lib.hid htk
        clear hkw hO hu hget hub hit htk
        go_wp2_with (first | (go_at_call 34; refine (HIT.out _ ((HK0.out.trans HKW.out).trans (by (repeat (first | exact Kept.refl _ | assumption | refine Kept.alloc ?_ _ | refine Kept.ext ?_ _ | refine Kept.drew ?_ | refine Kept.drewN ?_ _))))).mono ?_; rintro e w1 ⟨rfl, x3, rfl⟩) | (at_builtin; refine wpList_append_lies _ rfl (.tmp 19) (.tmp 24) 60 rfl W0.heap.size 9 ti _ 1 16 Tryd.underlying60 HT.out HTE.out.1 HTE.out.2.1 HTE.out.2.2 rfl (by omega) _ _ _ rfl (owns_kept HO.out (by (repeat (first | exact Kept.refl _ | assumption | refine Kept.alloc ?_ _ | refine Kept.ext ?_ _ | refine Kept.drew ?_ | refine Kept.drewN ?_ _)))) _ 1 1 [strV (Lib.itoa u)] rfl rfl (by rw [← ext_size]; exact lit_cell _ _ _) (lit_one _ rfl) (by omega) (by unfold maxLen; omega) (by omega) (by rw [World.size_alloc]; exact Nat.le_trans (kept_le (HKW.out.trans (by (repeat (first | exact Kept.refl _ | assumption | refine Kept.alloc ?_ _ | refine Kept.ext ?_ _ | refine Kept.drew ?_ | refine Kept.drewN ?_ _))))) (Nat.le_succ _)) _ rfl ?_; intro g1 cp1 w1 k1 k2 k3 k4; have E1 := Lib.hid (kept_grown (W := W0) (HKW.out.trans (by (repeat (first | exact Kept.refl _ | assumption | refine Kept.alloc ?_ _ | refine Kept.ext ?_ _ | refine Kept.drew ?_ | refine Kept.drewN ?_ _)))) (owns_kept HO.out (by (repeat (first | exact Kept.refl _ | assumption | refine Kept.alloc ?_ _ | refine Kept.ext ?_ _ | refine Kept.drew ?_ | refine Kept.drewN ?_ _)))) (Nat.le_refl _) k2); have K1 := Lib.hid k1; clear k1 k2 k3 k4))
        go_roundw
        case rel => exact ⟨r + 1, by omega, by go_num, E1.out, by rw [HTK.out]; exact K1.out⟩
        case measure => simp [intOf]; omega
      · obtain rfl : r = 11 := by omega
        have hO := HO.out
        rw [List.take_of_length_le (by omega)] at hO
        have hj : ∀ w', Kept Wi w' → _ := fun w' hk => sJoin (xs.map Lib.itoa) 32 OA 11 oc W0.heap.size w' (owns_kept hO hk) (by rw [List.length_map, hl11]) (by omega) (by omega) (by unfold jn at hjl; omega)
        have HJ := Lib.hid hj
        clear hkw hO hj HO
        go_wp2_with (go_at_call 35; refine (HJ.out _ (by (repeat (first | exact Kept.refl _ | assumption | refine Kept.alloc ?_ _ | refine Kept.ext ?_ _ | refine Kept.drew ?_ | refine Kept.drewN ?_ _)))).mono ?_; rintro e w1 ⟨rfl, x4, rfl⟩)
        refine bodyPost_ret (by simp only [results, Tryd.results13]; go_simp; rfl) rfl ?_
        exact ⟨rfl, HK0.out.trans (HKW.out.trans (by (repeat (first | exact Kept.refl _ | assumption | refine Kept.alloc ?_ _ | refine Kept.ext ?_ _ | refine Kept.drew ?_ | refine Kept.drewN ?_ _))))⟩
end Go.Proofs.YtbefphfgcbbcpaaDoor
