/- Contract: texts of moments, of the reference. Conditions: the numbers are ints; the library's variables hold what start-up lays. -/
import Derived.Test.YtbefphfgcbbcpaaDoorRnm
namespace Go.Proofs.YtbefphfgcbbcpaaDoor
set_option linter.unusedVariables false
set_option linter.unusedSimpArgs false
open Go.ChangeShapes Go.WideShapes Go.ChangeAt Go.RowKit Go.Deep
theorem join_snoc {c : UInt8} (y : List UInt8) : ∀ {xs : List (List UInt8)}, xs ≠ [] → Lib.join (xs ++ [y]) [c] = Lib.join xs [c] ++ c :: y
  | [], h => absurd rfl h
  | [x], _ => by
    show Lib.join [x, y] [c] = _
    rw [join_two, Lib.join_one, Lib.join_one]
  | x :: z :: r, _ => by
    show Lib.join (x :: z :: (r ++ [y])) [c] = _
    rw [join_two, join_two]
    have := join_snoc (c := c) y (xs := z :: r) (by simp)
    rw [List.cons_append] at this
    rw [this]
    simp
theorem jn_step {xs : List Int} {r : Nat} {u : Int} (h0 : 1 ≤ r) (h : xs[r]? = some u) : jn (xs.take (r + 1)) = jn (xs.take r) ++ 32 :: Lib.itoa u := by
  have hr := (List.getElem?_eq_some_iff.1 h).1
  unfold jn
  rw [List.take_add_one, h, List.map_append]
  exact join_snoc _ (by
    intro e
    have := congrArg List.length e
    rw [List.length_map, List.length_take, List.length_nil] at this
    omega)
theorem cat_sp (a b : List UInt8) : ((⟨a.toArray⟩ : ByteArray) ++ ((⟨#[32]⟩ : ByteArray) ++ ⟨b.toArray⟩)) = ⟨(a ++ 32 :: b).toArray⟩ := by
  apply ByteArray.ext
  simp
set_option maxRecDepth 100000 in
set_option maxHeartbeats 8000000 in
theorem r4Fmt_any (m0 m1 m2 m3 m4 m5 m6 m7 m8 m9 m10 : Int) (w : World) (h : Ld w) :
    Calls Tryd.prog 14 #[.agg #[.int .i64 m0, .int .i64 m1, .int .i64 m2, .int .i64 m3, .int .i64 m4, .int .i64 m5, .int .i64 m6, .int .i64 m7, .int .i64 m8, .int .i64 m9, .int .i64 m10]] w fun e w' => e = .returned (.tuple #[.string ⟨(fmtM ⟨m0, m1, m2, m3, m4, m5, m6, m7, m8, m9, m10⟩).toArray⟩, .int .i64 (vmS ⟨m0, m1, m2, m3, m4, m5, m6, m7, m8, m9, m10⟩)]) ∧ Kept w w' := by
  obtain ⟨M, hM⟩ : ∃ M : Mo, M = ⟨m0, m1, m2, m3, m4, m5, m6, m7, m8, m9, m10⟩ := ⟨_, rfl⟩
  have hval : ∀ w, _ := fun w => r4val_any m0 m1 m2 m3 m4 m5 m6 m7 m8 m9 m10 w
  rw [← hM] at hval ⊢
  cases hv : okM M
  · have e1 : fmtM M = [] := by unfold fmtM; rw [hv]; rfl
    have e2 : vmS M = 1 := by unfold vmS; rw [hv]; rfl
    rw [e2] at hval
    rw [e1, e2]
    have HV := Lib.hid hval
    clear hval e1 e2 hv hM h
    go_enter Tryd.func14, Tryd.ntmps14
    go_wp2_with (go_at_call 36; refine (HV.out _).mono ?_; rintro e w1 ⟨rfl, x1, rfl⟩)
    refine bodyPost_ret (by simp only [results, Tryd.results14]; go_simp; rfl) rfl ?_
    exact ⟨rfl, by (repeat (first | exact Kept.refl _ | assumption | refine Kept.alloc ?_ _ | refine Kept.ext ?_ _ | refine Kept.drew ?_ | refine Kept.drewN ?_ _))⟩
  · have e1 : fmtM M = jn (mL M) := by unfold fmtM; rw [hv]; rfl
    have e2 : vmS M = 0 := by unfold vmS; rw [hv]; rfl
    have hbd := mL_bd hv
    have hjl := jn_len hbd
    have hl11 : (mL M).length = 11 := rfl
    have hn : ∀ w, _ := fun w => r4num_any m0 m1 m2 m3 m4 m5 m6 m7 m8 m9 m10 w (by
      intro u hu
      have := hbd u (by rw [hM]; simp only [mL, List.mem_cons, List.not_mem_nil, or_false] at hu ⊢; rcases hu with rfl | rfl | rfl | rfl | rfl | rfl <;> simp)
      unfold I64
      omega)
    rw [← hM] at hn
    rw [e2] at hval
    rw [e1, e2]
    have hn2 : ∀ w, Calls Tryd.prog 37 #[.agg #[.int .i64 m0, .int .i64 m1, .int .i64 m2, .int .i64 m3, .int .i64 m4, .int .i64 m5, .int .i64 m6, .int .i64 m7, .int .i64 m8, .int .i64 m9, .int .i64 m10]] w fun e w' => ∃ b cp, e = .returned (.slice (some ⟨b, 0, none⟩) 11 cp) ∧ Kept w w' ∧ b < w'.heap.size ∧ ∀ j, j < 11 → w'.cell? ⟨b, j, none⟩ = some (.int .i64 ((mL M).getD j 0)) := fun w => (hn w).mono fun e w' ⟨v, h1, h2, h3⟩ => by
      obtain ⟨A, cp, rfl⟩ := own_slice2 h3
      obtain ⟨b, rfl, -, k1, -, -, k2⟩ := own_at h3 (by omega)
      refine ⟨b, cp, h1, h2, k1, fun j hj => ?_⟩
      rw [k2 j hj, rowC_mF, List.getElem?_map, List.getD_eq_getElem?_getD, List.getElem?_eq_getElem (by omega)]
      rfl
    obtain ⟨xs, hxs⟩ : ∃ xs, mL M = xs := ⟨_, rfl⟩
    rw [hxs] at hbd hjl hl11 hn2 ⊢
    obtain ⟨u0, hu0⟩ : ∃ u, xs.getD 0 0 = u := ⟨_, rfl⟩
    have h00 : xs[0]? = some u0 := by
      rw [← hu0, List.getD_eq_getElem?_getD, List.getElem?_eq_getElem (by omega)]
      rfl
    have hb0 := hbd u0 (List.mem_of_getElem? h00)
    have hj1 : jn (xs.take 1) = Lib.itoa u0 := by
      unfold jn
      rw [List.take_add_one, h00]
      simp [Lib.join_one]
    have hl0 := Lib.itoa_length_le u0 (by omega) (by omega)
    have hit : ∀ w', Kept w w' → _ := fun w' hk => sItoa u0 w' (by omega) (h.on hk)
    have HIT := Lib.hid hit
    have HV := Lib.hid hval
    have HN := Lib.hid hn2
    have HB := Lib.hid hbd
    have HL := Lib.hid h
    have HU0 := Lib.hid hu0
    have HJ1 := Lib.hid hj1
    clear hval hn hn2 hv hM hbd hxs h e1 e2 hu0 h00 hj1 hit
    go_enter Tryd.func14, Tryd.ntmps14
    go_wp2_with (first | (go_at_call 36; refine (HV.out _).mono ?_; rintro e w1 ⟨rfl, x1, rfl⟩) | (go_at_call 37; refine (HN.out _).mono ?_; rintro e w1 ⟨b, cp, rfl, ⟨x2, rfl⟩, hb, hcl⟩; have LB : Lower b (adv (adv (w.heap.size + 1) x1.obs.size) x2.obs.size) := ⟨by simpa using hb⟩; have c0 := hcl 0 (by omega); rw [HU0.out] at c0; have HCL := Lib.hid hcl; clear hcl) | (go_at_call 34; refine (HIT.out _ (by (repeat (first | exact Kept.refl _ | assumption | refine Kept.alloc ?_ _ | refine Kept.ext ?_ _ | refine Kept.drew ?_ | refine Kept.drewN ?_ _)))).mono ?_; rintro e w1 ⟨rfl, x3, rfl⟩))
    refine wp_gen (fun W0 hW0 => ?_)
    have k0 : Kept w W0 := by rw [hW0]; (repeat (first | exact Kept.refl _ | assumption | refine Kept.alloc ?_ _ | refine Kept.ext ?_ _ | refine Kept.drew ?_ | refine Kept.drewN ?_ _))
    have cl : ∀ j, j < 11 → W0.cell? ⟨b, j, none⟩ = some (.int .i64 (xs.getD j 0)) := fun j hj => by
      rw [hW0]
      exact cell_old (HCL.out j hj) hb (by (repeat (first | exact Kept.refl _ | assumption | refine Kept.alloc ?_ _ | refine Kept.ext ?_ _ | refine Kept.drew ?_ | refine Kept.drewN ?_ _)))
    have hb0 : b < W0.heap.size := by rw [hW0]; exact Nat.lt_of_lt_of_le hb (kept_le (by (repeat (first | exact Kept.refl _ | assumption | refine Kept.alloc ?_ _ | refine Kept.ext ?_ _ | refine Kept.drew ?_ | refine Kept.drewN ?_ _))))
    have HK0 := Lib.hid k0
    have HC := Lib.hid cl
    clear hW0 k0 cl c0 HCL HIT LB hb
    go_loopw [5, 6] (fun o i wr => ∃ r : Nat, 1 ≤ r ∧ r ≤ 11 ∧ i = .int .i64 r ∧ o = .string ⟨(jn (xs.take r)).toArray⟩ ∧ Kept W0 wr) (fun _ i _ => 11 - (intOf i).toNat)
    case atStart => exact ⟨1, by omega, by omega, rfl, by rw [HJ1.out], Kept.refl _⟩
    case round =>
      obtain ⟨r, hr1, hr, rfl, rfl, hkw⟩ := hrel
      obtain ⟨Wi, rfl⟩ : ∃ x, x = wr := ⟨_, rfl⟩
      have HKW := Lib.hid hkw
      by_cases hlt : r < 11
      · have g0 : decide ((r : Int) < 11) = true := decide_eq_true (by omega)
        have g1 : ¬ (11 : Int) ≤ r := by omega
        obtain ⟨u, hu⟩ : ∃ u, xs.getD r 0 = u := ⟨_, rfl⟩
        have c1 : Wi.cell? ⟨b, r, none⟩ = some (.int .i64 u) := by rw [← hu]; exact cell_old (HC.out r hlt) hb0 hkw
        have LB : Lower b Wi.heap.size := ⟨Nat.lt_of_lt_of_le hb0 (kept_le hkw)⟩
        have hget : xs[r]? = some u := by
          rw [← hu, List.getD_eq_getElem?_getD, List.getElem?_eq_getElem (by omega)]
          rfl
        have hub := HB.out u (List.mem_of_getElem? hget)
        have hst := jn_step hr1 hget
        have hlr : (jn (xs.take r)).length ≤ 22 * r := by
          have := jn_len (xs := xs.take r) (fun v hv => HB.out v (List.mem_of_mem_take hv))
          rw [List.length_take] at this
          omega
        have hlu := Lib.itoa_length_le u (by omega) (by omega)
        have g2 : ¬ 9223372036854775807 < 1 + (Lib.itoa u).length := by omega
        have g3 : ¬ 9223372036854775807 < (jn (xs.take r)).length + (1 + (Lib.itoa u).length) := by omega
        have hit : ∀ w', Kept w w' → _ := fun w' hk => sItoa u w' (by omega) (HL.out.on hk)
        have HIT := Lib.hid hit
        have HST := Lib.hid hst
        obtain ⟨o, ho⟩ : ∃ o, jn (xs.take r) = o := ⟨_, rfl⟩
        rw [ho] at g3 HST ⊢
        clear hkw hu hget hub hit hst hlr ho
        go_wp2_with (go_at_call 34; refine (HIT.out _ ((HK0.out.trans HKW.out).trans (by (repeat (first | exact Kept.refl _ | assumption | refine Kept.alloc ?_ _ | refine Kept.ext ?_ _ | refine Kept.drew ?_ | refine Kept.drewN ?_ _))))).mono ?_; rintro e w1 ⟨rfl, x3, rfl⟩)
        go_roundw
        case rel => exact ⟨r + 1, by omega, by omega, by go_num, by rw [cat_sp, HST.out], HKW.out.trans (by (repeat (first | exact Kept.refl _ | assumption | refine Kept.alloc ?_ _ | refine Kept.ext ?_ _ | refine Kept.drew ?_ | refine Kept.drewN ?_ _)))⟩
        case measure => simp [intOf]; omega
      · obtain rfl : r = 11 := by omega
        have e3 : jn (xs.take 11) = jn xs := by rw [List.take_of_length_le (by omega)]
        rw [e3]
        clear e3
        go_wp2_with fail
        refine bodyPost_ret (by simp only [results, Tryd.results14]; go_simp; rfl) rfl ?_
        exact ⟨rfl, HK0.out.trans HKW.out⟩
end Go.Proofs.YtbefphfgcbbcpaaDoor
