/- Contract: reading a notebook, of the reference. Conditions: the text is short. -/
import Derived.Test.YtejholcddinnfaaGreatDoorJa
namespace Go.Proofs.YtejholcddinnfaaGreatDoor
set_option linter.unusedVariables false
set_option linter.unusedSimpArgs false
open Go.ChangeShapes Go.WideShapes Go.ChangeAt Go.RowKit Go.Deep
theorem brk_take {c : UInt8} {l : List UInt8} {k : Nat} (hk : k < l.length) (h : c ∉ l.take k) (he : l[k] = c) : brk c l = some (l.take k, l.drop (k + 1)) := by
  have e : l = l.take k ++ c :: l.drop (k + 1) := by
    conv => lhs; rw [← List.take_append_drop k l]
    rw [List.drop_eq_getElem_cons hk, he]
  conv => lhs; rw [e]
  exact brk_app _ h
theorem not_take {c : UInt8} {l : List UInt8} {k : Nat} (hk : k < l.length) (h : c ∉ l.take k) (he : l[k] ≠ c) : c ∉ l.take (k + 1) := by
  rw [List.take_succ_eq_append_getElem hk, List.mem_append]
  rintro (q | q)
  · exact h q
  · simp only [List.mem_singleton] at q
    exact he q.symm
set_option maxRecDepth 100000 in
set_option maxHeartbeats 8000000 in
theorem r9read_any (s : List UInt8) (w : World) (hl : s.length ≤ 1000000) (h : Ld w) :
    Calls Tryz.prog 9 #[strV s] w fun e w' => ∃ v, e = .returned (.tuple #[v, strV (readB 100 0 s).2]) ∧ Kept w w' ∧ w'.ownsRow w.heap.size 9 1 v (readB 100 0 s).1.length ((readB 100 0 s).1.map strV) := by
  obtain ⟨ti, hti, hte⟩ := Option.map_eq_some_iff.1 info_St
  simp only [Prod.mk.injEq] at hte
  have HT := Lib.hid hti
  have HTE := Lib.hid hte
  have H := Lib.hid h
  clear hti hte h
  obtain ⟨rs, rr, hrr⟩ : ∃ a b, readB 100 0 s = (a, b) := ⟨_, _, rfl⟩
  rw [hrr]
  have HRR := Lib.hid hrr
  clear hrr
  show Calls _ _ _ _ fun e w' => ∃ v, e = .returned (.tuple #[v, strV rr]) ∧ Kept w w' ∧ w'.ownsRow w.heap.size 9 1 v rs.length (rs.map strV)
  unfold strV
  go_enter Tryz.func9, Tryz.ntmps9
  go_wp2_with fail
  go_loopw [0, 4, 5] (fun b v t wr => ∃ (os : List (List UInt8)) (r : List UInt8) (m : Int), os.length ≤ 100 ∧ b = .string ⟨r.toArray⟩ ∧ t = .int .i64 m ∧ (0 ≤ m ∧ m < 1000003) ∧ r.length ≤ 1000000 ∧ (rs, rr) = (os ++ (readB (100 - os.length) m r).1, (readB (100 - os.length) m r).2) ∧ Kept w wr ∧ wr.ownsRow w.heap.size 9 1 v os.length (os.map strV)) (fun _ v _ _ => 100 - lenV v)
  case atStart => exact ⟨[], s, 0, by simp, rfl, rfl, by omega, hl, by rw [← HRR.out]; rfl, Kept.refl _, World.ownsRow_nil _ _ _ _⟩
  case round =>
    obtain ⟨os, r, m, ho, rfl, rfl, hm, hr, he, hkw, hO⟩ := hrel
    obtain ⟨Wi, rfl⟩ : ∃ x, x = wr := ⟨_, rfl⟩
    have HKW := Lib.hid hkw
    obtain ⟨OA, oc, rfl⟩ := own_slice2 hO
    have HO := Lib.hid hO
    have HE := Lib.hid he
    clear hkw hO he
    have hsz := ba_size r
    by_cases hlt : os.length < 100
    · have g0 : ((os.length : Int)) < 100 := by omega
      go_wp2_with fail
      go_loopw [7] (fun i wr => ∃ k : Nat, k ≤ r.length ∧ i = .int .i64 k ∧ Wi = wr ∧ (10 : UInt8) ∉ r.take k) (fun i _ => r.length - (intOf i).toNat)
      case atStart => exact ⟨0, by omega, rfl, rfl, by simp⟩
      case round =>
        obtain ⟨k, hk, rfl, rfl, hn⟩ := hrel
        have HN := Lib.hid hn
        clear hn
        by_cases hkl : k < r.length ∧ ∀ h : k < r.length, r[k] ≠ 10
        · obtain ⟨hk1, hk2⟩ := hkl
          obtain ⟨c, hc⟩ : ∃ c, r[k] = c := ⟨_, rfl⟩
          have hget : ((⟨r.toArray⟩ : ByteArray)[k]'(by show k < r.toArray.size; simpa using hk1)) = c := hc
          have hc1 := hk2 hk1
          have hn2 := not_take hk1 HN.out hc1
          rw [hc] at hc1
          have g1 : ((c.toNat : Int) == 10) = false := beq_eq_false_iff_ne.2 (fun q => hc1 (UInt8.toNat_inj.1 (show c.toNat = 10 by omega)))
          have HN2 := Lib.hid hn2
          clear hc hc1 hk2 hn2
          go_wp2_with fail
          go_roundw
          case rel => exact ⟨k + 1, hk1, by go_num, by trivial, HN2.out⟩
          case measure =>
            simp [intOf]
            omega
        · have hb10 : k < r.length → brk 10 r = some (r.take k, r.drop (k + 1)) := fun hk1 => brk_take hk1 HN.out (Classical.byContradiction fun q => hkl ⟨hk1, fun _ => q⟩)
          have hbn : ¬ k < r.length → brk 10 r = none := fun hk1 => brk_no (by have := HN.out; rwa [List.take_of_length_le (by omega)] at this)
          have hget : ∀ hk1 : k < r.length, ((⟨r.toArray⟩ : ByteArray)[k]'(by show k < r.toArray.size; simpa using hk1)) = 10 := fun hk1 => Classical.byContradiction fun q => hkl ⟨hk1, fun _ => q⟩
          have HB := Lib.hid hb10
          have HBN := Lib.hid hbn
          have HG := Lib.hid hget
          clear hb10 hbn hget hkl
          by_cases hk1 : k < r.length
          · have gk := HG.out hk1
            have hb10 := HB.out hk1
            have HB10 := Lib.hid hb10
            have gl : ((k : Int) == (r.length : Int)) = false := beq_eq_false_iff_ne.2 (by omega)
            clear hb10 HB HG HBN
            go_wp2_with fail
            clear gk
            go_loopw [6] (fun i wr => ∃ j : Nat, j ≤ k ∧ i = .int .i64 j ∧ Wi = wr ∧ (32 : UInt8) ∉ r.take j) (fun i _ => k - (intOf i).toNat)
            case atStart => exact ⟨0, by omega, rfl, rfl, by simp⟩
            case round =>
              obtain ⟨j, hj, rfl, rfl, hn⟩ := hrel
              have HN3 := Lib.hid hn
              clear hn
              have hkr : k ≤ r.length := hk
              by_cases hjl : j < k ∧ ∀ h : j < r.length, r[j] ≠ 32
              · obtain ⟨hj1, hj2⟩ := hjl
                have hjr : j < r.length := by omega
                obtain ⟨c, hc⟩ : ∃ c, r[j] = c := ⟨_, rfl⟩
                have hget : ((⟨r.toArray⟩ : ByteArray)[j]'(by show j < r.toArray.size; simpa using hjr)) = c := hc
                have hc1 := hj2 hjr
                have hn2 := not_take hjr HN3.out hc1
                rw [hc] at hc1
                have g1 : ((c.toNat : Int) == 32) = false := beq_eq_false_iff_ne.2 (fun q => hc1 (UInt8.toNat_inj.1 (show c.toNat = 32 by omega)))
                have HN4 := Lib.hid hn2
                clear hc hc1 hj2 hn2
                go_wp2_with fail
                go_roundw
                case rel => exact ⟨j + 1, hj1, by go_num, by trivial, HN4.out⟩
                case measure =>
                  simp [intOf]
                  omega
              · by_cases hj1 : j < k
                case neg =>
                  have ej : j = k := by omega
                  have hst : stepB m r = none := by
                    unfold stepB
                    rw [HB10.out]
                    show (match brk 32 (r.take k) with
                      | none => none
                      | some (x, o) => if rightB o = true ∧ x = Lib.itoa (sumB m o) then some (o, r.drop (k + 1)) else none) = none
                    rw [brk_no (by have := HN3.out; rwa [ej] at this)]
                  have HST := Lib.hid hst
                  have gj : ((j : Int) == (k : Int)) = true := by rw [ej]; exact beq_self_eq_true _
                  clear hst ej hjl
                  have he := HE.out
                  rw [show 100 - os.length = (99 - os.length) + 1 by omega, readB_no HST.out, List.append_nil, Prod.mk.injEq] at he
                  obtain ⟨rfl, rfl⟩ := he
                  clear HE HST
                  go_wp2_with (fail)
                  refine bodyPost_ret (by simp only [results, Tryz.results9]; go_simp; rfl) rfl ?_
                  exact ⟨_, rfl, HKW.out.trans (by (repeat (first | exact Kept.refl _ | assumption | refine Kept.alloc ?_ _ | refine Kept.ext ?_ _ | refine Kept.drew ?_ | refine Kept.drewN ?_ _))), owns_kept HO.out (by (repeat (first | exact Kept.refl _ | assumption | refine Kept.alloc ?_ _ | refine Kept.ext ?_ _ | refine Kept.drew ?_ | refine Kept.drewN ?_ _)))⟩
                case pos =>
                  have hjr : j < r.length := by omega
                  have hc32 : r[j] = 32 := Classical.byContradiction fun q => hjl ⟨hj1, fun _ => q⟩
                  have hget : ((⟨r.toArray⟩ : ByteArray)[j]'(by show j < r.toArray.size; simpa using hjr)) = 32 := hc32
                  have hb32 := brk_take (c := 32) (l := r.take k) (k := j) (by rw [List.length_take]; omega) (by rw [List.take_take, Nat.min_eq_left (by omega)]; exact HN3.out) (by rw [List.getElem_take]; exact hc32)
                  rw [List.take_take, Nat.min_eq_left (by omega)] at hb32
                  obtain ⟨d2, hd2⟩ : ∃ x, (r.take k).drop (j + 1) = x := ⟨_, rfl⟩
                  obtain ⟨d1, hd1⟩ : ∃ x, r.take j = x := ⟨_, rfl⟩
                  have hx1 : (⟨r.toArray⟩ : ByteArray).extract (j + 1) k = ⟨d2.toArray⟩ := by rw [← hd2]; exact ext_eq r (by omega) (by omega)
                  have hx2 : (⟨r.toArray⟩ : ByteArray).extract 0 j = ⟨d1.toArray⟩ := by rw [← hd1, ext_eq r (by omega) (by omega), List.drop_zero]
                  have hx3 : (⟨r.toArray⟩ : ByteArray).extract (k + 1) r.length = ⟨(r.drop (k + 1)).toArray⟩ := ba_drop r (by omega)
                  have ld : d2.length ≤ 1000000 := by rw [← hd2, List.length_drop, List.length_take]; omega
                  rw [hd1, hd2] at hb32
                  have hst : stepB m r = if rightB d2 = true ∧ d1 = Lib.itoa (sumB m d2) then some (d2, r.drop (k + 1)) else none := by
                    unfold stepB
                    rw [HB10.out]
                    show (match brk 32 (r.take k) with
                      | none => none
                      | some (x, o) => if rightB o = true ∧ x = Lib.itoa (sumB m o) then some (o, r.drop (k + 1)) else none) = _
                    rw [hb32]
                  have hsm := sumB_bd m d2
                  have hsl := sum_len m d2
                  have q1 : ∀ w', _ := fun w' => r9right_any d2 w'
                  have q2 : ∀ w', _ := fun w' => r9sum_any m d2 w' (by omega)
                  have q4 : ∀ w', Kept Wi w' → _ := fun w' hk => sItoa (sumB m d2) w' (by omega) (H.out.on (HKW.out.trans hk))
                  obtain ⟨t, ht⟩ : ∃ x, sumB m d2 = x := ⟨_, rfl⟩
                  rw [ht] at q2 hsm hst q4 hsl
                  obtain ⟨z, hz⟩ : ∃ x, Lib.itoa t = x := ⟨_, rfl⟩
                  rw [hz] at hst q4 hsl
                  have q3 : ∀ w', Calls Tryz.prog 12 #[.int .i64 m, .string ⟨d2.toArray⟩] w' (fun e w'' => e = .returned (.int .i64 t) ∧ Kept w' w'') := fun w' => (q2 w').mono fun e w'' ⟨a, b⟩ => ⟨a, b ▸ Kept.refl _⟩
                  have HTT := Lib.hid ht
                  have gj : ((j : Int) == (k : Int)) = false := beq_eq_false_iff_ne.2 (by omega)
                  have hd1z : d1.length ≤ 1000000 := by rw [← hd1, List.length_take]; omega
                  have Q1 := Lib.hid q1
                  have Q2 := Lib.hid q2
                  have Q3 := Lib.hid q3
                  have Q4 := Lib.hid q4
                  clear q1 q2 q3 q4 ht hz hd1 hd2 hb32 hc32 hjl
                  have hz1 := ba_size d1
                  have hz2 := ba_size d2
                  cases hr2 : rightB d2
                  case false =>
                    have hst2 : stepB m r = none := by rw [hst, if_neg (by rw [hr2]; simp)]
                    have HST := Lib.hid hst2
                    clear hst hst2
                    have he := HE.out
                    rw [show 100 - os.length = (99 - os.length) + 1 by omega, readB_no HST.out, List.append_nil, Prod.mk.injEq] at he
                    obtain ⟨rfl, rfl⟩ := he
                    clear HE HST
                    go_wp2_with (first | (go_at_call 16; (with_reducible refine (Q1.out _).mono ?_); rintro e w1 ⟨rfl, rfl⟩))
                    refine bodyPost_ret (by simp only [results, Tryz.results9]; go_simp; rfl) rfl ?_
                    exact ⟨_, rfl, HKW.out.trans (by (repeat (first | exact Kept.refl _ | assumption | refine Kept.alloc ?_ _ | refine Kept.ext ?_ _ | refine Kept.drew ?_ | refine Kept.drewN ?_ _))), owns_kept HO.out (by (repeat (first | exact Kept.refl _ | assumption | refine Kept.alloc ?_ _ | refine Kept.ext ?_ _ | refine Kept.drew ?_ | refine Kept.drewN ?_ _)))⟩
                  case true =>
                  by_cases hzd : z = d1
                  case neg =>
                    have hst2 : stepB m r = none := by rw [hst, if_neg (fun q => hzd q.2.symm)]
                    have HST := Lib.hid hst2
                    have gz : (z == d1) = false := beq_eq_false_iff_ne.2 hzd
                    clear hst hst2
                    have he := HE.out
                    rw [show 100 - os.length = (99 - os.length) + 1 by omega, readB_no HST.out, List.append_nil, Prod.mk.injEq] at he
                    obtain ⟨rfl, rfl⟩ := he
                    clear HE HST
                    go_wp2_with (first | (go_at_call 16; (with_reducible refine (Q1.out _).mono ?_); rintro e w1 ⟨rfl, rfl⟩) | ((first | (with_reducible refine wp_region_kept2 (by kernel_rfl) (by kernel_rfl) ?_) | refine wp_region_kept (by kernel_rfl) (by kernel_rfl) ?_); (repeat (go_big_quiet_step (first | (go_at_call 12; exact Calls.kept_of (Q3.out _)) | (go_at_call 34; exact Calls.kept_of (Q4.out _ (by (repeat (first | exact Kept.refl _ | assumption | refine Kept.alloc ?_ _ | refine Kept.ext ?_ _ | refine Kept.drew ?_ | refine Kept.drewN ?_ _)))))))); refine wpQuiet_nil ?_; intro x))
                    refine bodyPost_ret (by simp only [results, Tryz.results9]; go_simp; rfl) rfl ?_
                    exact ⟨_, rfl, HKW.out.trans (by (repeat (first | exact Kept.refl _ | assumption | refine Kept.alloc ?_ _ | refine Kept.ext ?_ _ | refine Kept.drew ?_ | refine Kept.drewN ?_ _))), owns_kept HO.out (by (repeat (first | exact Kept.refl _ | assumption | refine Kept.alloc ?_ _ | refine Kept.ext ?_ _ | refine Kept.drew ?_ | refine Kept.drewN ?_ _)))⟩
                  case pos =>
                    subst hzd
                    have hst2 : stepB m r = some (d2, r.drop (k + 1)) := by rw [hst, if_pos ⟨hr2, rfl⟩]
                    have he := HE.out
                    rw [show 100 - os.length = (99 - os.length) + 1 by omega, readB_yes hst2, HTT.out] at he
                    have HE2 := Lib.hid he
                    clear hst hst2 he HE
                    go_wp2_with (first | (go_at_call 16; (with_reducible refine (Q1.out _).mono ?_); rintro e w1 ⟨rfl, rfl⟩) | (go_at_call 12; (with_reducible refine (Q2.out _).mono ?_); rintro e w1 ⟨rfl, rfl⟩) | ((first | (with_reducible refine wp_region_kept2 (by kernel_rfl) (by kernel_rfl) ?_) | refine wp_region_kept (by kernel_rfl) (by kernel_rfl) ?_); (repeat (go_big_quiet_step (first | (go_at_call 12; exact Calls.kept_of (Q3.out _)) | (go_at_call 34; exact Calls.kept_of (Q4.out _ (by (repeat (first | exact Kept.refl _ | assumption | refine Kept.alloc ?_ _ | refine Kept.ext ?_ _ | refine Kept.drew ?_ | refine Kept.drewN ?_ _)))))))); refine wpQuiet_nil ?_; intro x) | (at_builtin; refine wpList_append_lies _ rfl (.tmp 69) (.tmp 71) 23 rfl w.heap.size 9 ti _ 1 16 Tryz.underlying23 HT.out HTE.out.1 HTE.out.2.1 HTE.out.2.2 rfl (by omega) _ _ _ rfl (owns_kept HO.out (by (repeat (first | exact Kept.refl _ | assumption | refine Kept.alloc ?_ _ | refine Kept.ext ?_ _ | refine Kept.drew ?_ | refine Kept.drewN ?_ _)))) _ 1 1 [.string ⟨d2.toArray⟩] rfl rfl (lit_at _ _ (by go_simp)) (lit_one _ rfl) (by omega) (by unfold maxLen; omega) (by omega) (by rw [World.size_alloc]; exact Nat.le_trans (kept_le (HKW.out.trans (by (repeat (first | exact Kept.refl _ | assumption | refine Kept.alloc ?_ _ | refine Kept.ext ?_ _ | refine Kept.drew ?_ | refine Kept.drewN ?_ _))))) (Nat.le_succ _)) _ rfl ?_; intro g1 cp1 w1 k1 k2 k3 k4; have E1 := Lib.hid k2; have K1 := Lib.hid k1; clear k1 k2 k3 k4))
                    go_roundw
                    case rel =>
                      refine ⟨os ++ [d2], r.drop (k + 1), t, by simp; omega, rfl, rfl, hsm, by rw [List.length_drop]; omega, ?_, kept_grown (W := w) (HKW.out.trans (by (repeat (first | exact Kept.refl _ | assumption | refine Kept.alloc ?_ _ | refine Kept.ext ?_ _ | refine Kept.drew ?_ | refine Kept.drewN ?_ _)))) (owns_kept HO.out (by (repeat (first | exact Kept.refl _ | assumption | refine Kept.alloc ?_ _ | refine Kept.ext ?_ _ | refine Kept.drew ?_ | refine Kept.drewN ?_ _)))) (Nat.le_refl _) E1.out, ?_⟩
                      · rw [HE2.out, List.length_append, List.length_singleton, show 100 - (os.length + 1) = 99 - os.length by omega, List.append_assoc]
                        rfl
                      · rw [List.length_append, List.length_singleton, List.map_append]
                        exact K1.out
                    case measure => simp [lenV]; omega
          · have hbn := HBN.out hk1
            have hst : stepB m r = none := by unfold stepB; rw [hbn]
            have HST := Lib.hid hst
            have ek : k = r.length := by omega
            have gk : (r.length : Int) ≤ (k : Int) := by omega
            have gl : ((k : Int) == (r.length : Int)) = true := by rw [ek]; exact beq_self_eq_true _
            have KT := Lib.hid ek
            clear hbn hst hk1 ek HB HG HBN
            go_wp2_with fail
            skip
            go_loopw [6] (fun i wr => ∃ j : Nat, j ≤ k ∧ i = .int .i64 j ∧ Wi = wr ∧ (32 : UInt8) ∉ r.take j) (fun i _ => k - (intOf i).toNat)
            case atStart => exact ⟨0, by omega, rfl, rfl, by simp⟩
            case round =>
              obtain ⟨j, hj, rfl, rfl, hn⟩ := hrel
              have HN3 := Lib.hid hn
              clear hn
              have hkr : k ≤ r.length := hk
              by_cases hjl : j < k ∧ ∀ h : j < r.length, r[j] ≠ 32
              · obtain ⟨hj1, hj2⟩ := hjl
                have hjr : j < r.length := by omega
                obtain ⟨c, hc⟩ : ∃ c, r[j] = c := ⟨_, rfl⟩
                have hget : ((⟨r.toArray⟩ : ByteArray)[j]'(by show j < r.toArray.size; simpa using hjr)) = c := hc
                have hc1 := hj2 hjr
                have hn2 := not_take hjr HN3.out hc1
                rw [hc] at hc1
                have g1 : ((c.toNat : Int) == 32) = false := beq_eq_false_iff_ne.2 (fun q => hc1 (UInt8.toNat_inj.1 (show c.toNat = 32 by omega)))
                have HN4 := Lib.hid hn2
                clear hc hc1 hj2 hn2
                go_wp2_with fail
                go_roundw
                case rel => exact ⟨j + 1, hj1, by go_num, by trivial, HN4.out⟩
                case measure =>
                  simp [intOf]
                  omega
              · by_cases hj1 : j < k
                · have hjr : j < r.length := by omega
                  have hget : ((⟨r.toArray⟩ : ByteArray)[j]'(by show j < r.toArray.size; simpa using hjr)) = 32 := Classical.byContradiction fun q => hjl ⟨hj1, fun _ => q⟩
                  clear hjl
                  have he := HE.out
                  rw [show 100 - os.length = (99 - os.length) + 1 by omega, readB_no HST.out, List.append_nil, Prod.mk.injEq] at he
                  obtain ⟨rfl, rfl⟩ := he
                  clear HE HST
                  go_wp2_with (fail)
                  refine bodyPost_ret (by simp only [results, Tryz.results9]; go_simp; rfl) rfl ?_
                  exact ⟨_, rfl, HKW.out.trans (by (repeat (first | exact Kept.refl _ | assumption | refine Kept.alloc ?_ _ | refine Kept.ext ?_ _ | refine Kept.drew ?_ | refine Kept.drewN ?_ _))), owns_kept HO.out (by (repeat (first | exact Kept.refl _ | assumption | refine Kept.alloc ?_ _ | refine Kept.ext ?_ _ | refine Kept.drew ?_ | refine Kept.drewN ?_ _)))⟩
                · clear hjl
                  have he := HE.out
                  rw [show 100 - os.length = (99 - os.length) + 1 by omega, readB_no HST.out, List.append_nil, Prod.mk.injEq] at he
                  obtain ⟨rfl, rfl⟩ := he
                  clear HE HST
                  go_wp2_with (fail)
                  refine bodyPost_ret (by simp only [results, Tryz.results9]; go_simp; rfl) rfl ?_
                  exact ⟨_, rfl, HKW.out.trans (by (repeat (first | exact Kept.refl _ | assumption | refine Kept.alloc ?_ _ | refine Kept.ext ?_ _ | refine Kept.drew ?_ | refine Kept.drewN ?_ _))), owns_kept HO.out (by (repeat (first | exact Kept.refl _ | assumption | refine Kept.alloc ?_ _ | refine Kept.ext ?_ _ | refine Kept.drew ?_ | refine Kept.drewN ?_ _)))⟩
    · have ho2 : os.length = 100 := by omega
      have g0 : ¬ ((os.length : Int)) < 100 := by omega
      have he := HE.out
      rw [ho2, Nat.sub_self] at he
      have he : (rs, rr) = (os ++ [], r) := he
      rw [List.append_nil, Prod.mk.injEq] at he
      obtain ⟨rfl, rfl⟩ := he
      clear HE ho2
      go_wp2_with fail
      refine bodyPost_ret (by simp only [results, Tryz.results9]; go_simp; rfl) rfl ?_
      exact ⟨_, rfl, HKW.out, HO.out⟩
end Go.Proofs.YtejholcddinnfaaGreatDoor
