/- Contract: reading a notebook, of the program. Conditions: the text is short. -/
import Derived.Test.YtnbjealpcjfllaaGreatDoorDd
import Derived.Test.YtnbjealpcjfllaaGreatDoorCop
namespace Go.Proofs.YtnbjealpcjfllaaGreatDoor
set_option linter.unusedVariables false
set_option linter.unusedSimpArgs false
open Go.ChangeShapes Go.WideShapes Go.ChangeAt Go.RowKit Go.Deep
theorem ba_drop (l : List UInt8) {f : Nat} (hf : f ≤ l.length) : (⟨l.toArray⟩ : ByteArray).extract f l.length = ⟨(l.drop f).toArray⟩ := by
  rw [ext_eq l hf (Nat.le_refl _), List.take_length]
theorem lit_at {X : World} {b : Nat} (v : Value) (T : TypeId) (hb : b = X.heap.size) : ∀ (j : Nat) (u : Value), [v][j]? = some u → (X.alloc (.cells #[v] T)).cell? ((Addr.mk b 0 none).add j) = some u := by
  subst hb
  exact lit_cell X v T
theorem cut_len (l c : List UInt8) : (Lib.cut l c).1.length ≤ l.length ∧ (Lib.cut l c).2.1.length ≤ l.length := by
  unfold Lib.cut
  split
  · simp only [List.length_take, List.length_drop]
    omega
  · exact ⟨Nat.le_refl _, Nat.zero_le _⟩
set_option maxRecDepth 100000 in
set_option maxHeartbeats 8000000 in
theorem dread_any (s : List UInt8) (w : World) (hl : s.length ≤ 1000000) (h : Ld w) :
    Calls Tryz.prog 24 #[strV s] w fun e w' => ∃ v, e = .returned (.tuple #[v, strV (readB 100 0 s).2]) ∧ Kept w w' ∧ w'.ownsRow w.heap.size 9 1 v (readB 100 0 s).1.length ((readB 100 0 s).1.map strV) := by
  obtain ⟨ti, hti, hte⟩ := Option.map_eq_some_iff.1 info_St
  simp only [Prod.mk.injEq] at hte
  have HT := Lib.hid hti
  have HTE := Lib.hid hte
  have H := Lib.hid h
  clear hti hte h
  obtain ⟨rs, rr, hrr⟩ : ∃ a b, readB 100 0 s = (a, b) := ⟨_, _, rfl⟩
  rw [hrr]
  have HRR := Lib.hid hrr
  clear hrr
  show Calls _ _ _ _ fun e w' => ∃ v, e = .returned (.tuple #[v, strV rr]) ∧ Kept w w' ∧ w'.ownsRow w.heap.size 9 1 v rs.length (rs.map strV)
  unfold strV
  go_enter Tryz.func24, Tryz.ntmps24
  go_wp2_with fail
  go_loopw [0, 4, 5] (fun b v t wr => ∃ (os : List (List UInt8)) (r : List UInt8) (m : Int), os.length ≤ 100 ∧ b = .string ⟨r.toArray⟩ ∧ t = .int .i64 m ∧ (0 ≤ m ∧ m < 1000003) ∧ r.length ≤ 1000000 ∧ (rs, rr) = (os ++ (readB (100 - os.length) m r).1, (readB (100 - os.length) m r).2) ∧ Kept w wr ∧ wr.ownsRow w.heap.size 9 1 v os.length (os.map strV)) (fun _ v _ _ => 100 - lenV v)
  case atStart => exact ⟨[], s, 0, by simp, rfl, rfl, by omega, hl, by rw [← HRR.out]; rfl, Kept.refl _, World.ownsRow_nil _ _ _ _⟩
  case round =>
    obtain ⟨os, r, m, ho, rfl, rfl, hm, hr, he, hkw, hO⟩ := hrel
    obtain ⟨Wi, rfl⟩ : ∃ x, x = wr := ⟨_, rfl⟩
    have HKW := Lib.hid hkw
    obtain ⟨OA, oc, rfl⟩ := own_slice2 hO
    have HO := Lib.hid hO
    have HE := Lib.hid he
    clear hkw hO he
    by_cases hlt : os.length < 100
    · have g0 : ((os.length : Int)) < 100 := by omega
      obtain ⟨c1, c2, c3, hc⟩ : ∃ a b c, Lib.cut r [10] = (a, b, c) := ⟨_, _, _, rfl⟩
      obtain ⟨d1, d2, d3, hd⟩ : ∃ a b c, Lib.cut c1 [32] = (a, b, c) := ⟨_, _, _, rfl⟩
      have lc := cut_len r [10]
      have ld := cut_len c1 [32]
      rw [hc] at lc
      rw [hd] at ld
      simp only at lc ld
      have q1 : ∀ w', Kept Wi w' → _ := fun w' hk => sCut ⟨r.toArray⟩ ⟨#[10]⟩ w' (by rw [ba_size]; omega) (H.out.on (HKW.out.trans hk))
      have q2 : ∀ w', Kept Wi w' → _ := fun w' hk => sCut ⟨c1.toArray⟩ ⟨#[32]⟩ w' (by rw [ba_size]; omega) (H.out.on (HKW.out.trans hk))
      have q3 : ∀ w', _ := fun w' => disl_any ⟨d2.toArray⟩ w'
      have q4 : ∀ w', Kept Wi w' → _ := fun w' hk => dline_any m d2 w' (by omega) (H.out.on (HKW.out.trans hk))
      have q5 : ∀ w', _ := fun w' => sHas ⟨r.toArray⟩ ⟨(lineB m d2).toArray⟩ w'
      have q6 : ∀ w', _ := fun w' => dsum_any m ⟨d2.toArray⟩ w' (by rw [ba_size]; omega)
      have ec1 : Lib.cut (⟨r.toArray⟩ : ByteArray).data.toList (⟨#[10]⟩ : ByteArray).data.toList = (c1, c2, c3) := hc
      have ec2 : Lib.cut (⟨c1.toArray⟩ : ByteArray).data.toList (⟨#[32]⟩ : ByteArray).data.toList = (d1, d2, d3) := hd
      rw [ec1] at q1
      rw [ec2] at q2
      change ∀ w', Calls _ _ _ _ (fun e w'' => e = .returned (.bool (rightB d2)) ∧ Kept w' w'') at q3
      change ∀ w', Calls _ _ _ _ (fun e w'' => e = .returned (.bool (Lib.hasPrefix r (lineB m d2))) ∧ w' = w'') at q5
      change ∀ w', Calls _ _ _ _ (fun e w'' => e = .returned (.int .i64 (sumB m d2)) ∧ w' = w'') at q6
      have hC : stepC m r = (c3 && d3 && rightB d2 && Lib.hasPrefix r (lineB m d2)) := by unfold stepC; rw [hc]; simp only [hd]
      have hyes : stepC m r = true → stepB m r = some (d2, r.drop (lineB m d2).length) := fun hq => by
        have := stepC_yes hq
        rw [hc] at this
        simp only [hd] at this
        exact this
      have hsm := sumB_bd m d2
      have hlen : rightB d2 = true → (lineB m d2).length ≤ 109 := fun q => line_len q
      obtain ⟨L, hL⟩ : ∃ x, lineB m d2 = x := ⟨_, rfl⟩
      obtain ⟨t, ht⟩ : ∃ x, sumB m d2 = x := ⟨_, rfl⟩
      rw [hL] at hC hyes q4 q5 hlen
      unfold strV at q4
      rw [ht] at q6 hsm
      have HTT := Lib.hid ht
      have Q1 := Lib.hid q1
      have Q2 := Lib.hid q2
      have Q3 := Lib.hid q3
      have Q4 := Lib.hid q4
      have Q5 := Lib.hid q5
      have Q6 := Lib.hid q6
      have HY := Lib.hid hyes
      have HN := Lib.hid (fun hq => stepC_no (s := m) (r := r) hq)
      clear q1 q2 q3 q4 q5 q6 ec1 ec2 hyes hL ht hc hd
      cases c3
      case false =>
        have hs := HN.out (by rw [hC]; simp)
        have he := HE.out
        rw [show 100 - os.length = (99 - os.length) + 1 by omega, readB_no hs, List.append_nil, Prod.mk.injEq] at he
        obtain ⟨rfl, rfl⟩ := he
        clear hs hC HE HY HN
        go_wp2_with (first | (go_at_call 48; (with_reducible refine (Q1.out _ (by (repeat (first | exact Kept.refl _ | assumption | refine Kept.alloc ?_ _ | refine Kept.ext ?_ _ | refine Kept.drew ?_ | refine Kept.drewN ?_ _)))).mono ?_); rintro e w1 ⟨rfl, y1, rfl⟩) | (go_at_call 48; (with_reducible refine (Q2.out _ (by (repeat (first | exact Kept.refl _ | assumption | refine Kept.alloc ?_ _ | refine Kept.ext ?_ _ | refine Kept.drew ?_ | refine Kept.drewN ?_ _)))).mono ?_); rintro e w2 ⟨rfl, y2, rfl⟩) | (go_at_call 49; (with_reducible refine (Q3.out _).mono ?_); rintro e w3 ⟨rfl, y3, rfl⟩) | (go_at_call 51; (with_reducible refine (Q4.out _ (by (repeat (first | exact Kept.refl _ | assumption | refine Kept.alloc ?_ _ | refine Kept.ext ?_ _ | refine Kept.drew ?_ | refine Kept.drewN ?_ _)))).mono ?_); rintro e w4 ⟨rfl, y4, rfl⟩) | (go_at_call 50; (with_reducible refine (Q5.out _).mono ?_); rintro e w5 ⟨rfl, rfl⟩))
        refine bodyPost_ret (by simp only [results, Tryz.results24]; go_simp; rfl) rfl ?_
        exact ⟨_, rfl, HKW.out.trans (by (repeat (first | exact Kept.refl _ | assumption | refine Kept.alloc ?_ _ | refine Kept.ext ?_ _ | refine Kept.drew ?_ | refine Kept.drewN ?_ _))), owns_kept HO.out (by (repeat (first | exact Kept.refl _ | assumption | refine Kept.alloc ?_ _ | refine Kept.ext ?_ _ | refine Kept.drew ?_ | refine Kept.drewN ?_ _)))⟩
      case true =>
      cases d3
      case false =>
        have hs := HN.out (by rw [hC]; simp)
        have he := HE.out
        rw [show 100 - os.length = (99 - os.length) + 1 by omega, readB_no hs, List.append_nil, Prod.mk.injEq] at he
        obtain ⟨rfl, rfl⟩ := he
        clear hs hC HE HY HN
        go_wp2_with (first | (go_at_call 48; (with_reducible refine (Q1.out _ (by (repeat (first | exact Kept.refl _ | assumption | refine Kept.alloc ?_ _ | refine Kept.ext ?_ _ | refine Kept.drew ?_ | refine Kept.drewN ?_ _)))).mono ?_); rintro e w1 ⟨rfl, y1, rfl⟩) | (go_at_call 48; (with_reducible refine (Q2.out _ (by (repeat (first | exact Kept.refl _ | assumption | refine Kept.alloc ?_ _ | refine Kept.ext ?_ _ | refine Kept.drew ?_ | refine Kept.drewN ?_ _)))).mono ?_); rintro e w2 ⟨rfl, y2, rfl⟩) | (go_at_call 49; (with_reducible refine (Q3.out _).mono ?_); rintro e w3 ⟨rfl, y3, rfl⟩) | (go_at_call 51; (with_reducible refine (Q4.out _ (by (repeat (first | exact Kept.refl _ | assumption | refine Kept.alloc ?_ _ | refine Kept.ext ?_ _ | refine Kept.drew ?_ | refine Kept.drewN ?_ _)))).mono ?_); rintro e w4 ⟨rfl, y4, rfl⟩) | (go_at_call 50; (with_reducible refine (Q5.out _).mono ?_); rintro e w5 ⟨rfl, rfl⟩))
        refine bodyPost_ret (by simp only [results, Tryz.results24]; go_simp; rfl) rfl ?_
        exact ⟨_, rfl, HKW.out.trans (by (repeat (first | exact Kept.refl _ | assumption | refine Kept.alloc ?_ _ | refine Kept.ext ?_ _ | refine Kept.drew ?_ | refine Kept.drewN ?_ _))), owns_kept HO.out (by (repeat (first | exact Kept.refl _ | assumption | refine Kept.alloc ?_ _ | refine Kept.ext ?_ _ | refine Kept.drew ?_ | refine Kept.drewN ?_ _)))⟩
      case true =>
      cases hr2 : rightB d2
      case false =>
        rw [hr2] at hC
        have hs := HN.out (by rw [hC]; simp)
        have he := HE.out
        rw [show 100 - os.length = (99 - os.length) + 1 by omega, readB_no hs, List.append_nil, Prod.mk.injEq] at he
        obtain ⟨rfl, rfl⟩ := he
        clear hs hC HE HY HN
        go_wp2_with (first | (go_at_call 48; (with_reducible refine (Q1.out _ (by (repeat (first | exact Kept.refl _ | assumption | refine Kept.alloc ?_ _ | refine Kept.ext ?_ _ | refine Kept.drew ?_ | refine Kept.drewN ?_ _)))).mono ?_); rintro e w1 ⟨rfl, y1, rfl⟩) | (go_at_call 48; (with_reducible refine (Q2.out _ (by (repeat (first | exact Kept.refl _ | assumption | refine Kept.alloc ?_ _ | refine Kept.ext ?_ _ | refine Kept.drew ?_ | refine Kept.drewN ?_ _)))).mono ?_); rintro e w2 ⟨rfl, y2, rfl⟩) | (go_at_call 49; (with_reducible refine (Q3.out _).mono ?_); rintro e w3 ⟨rfl, y3, rfl⟩) | (go_at_call 51; (with_reducible refine (Q4.out _ (by (repeat (first | exact Kept.refl _ | assumption | refine Kept.alloc ?_ _ | refine Kept.ext ?_ _ | refine Kept.drew ?_ | refine Kept.drewN ?_ _)))).mono ?_); rintro e w4 ⟨rfl, y4, rfl⟩) | (go_at_call 50; (with_reducible refine (Q5.out _).mono ?_); rintro e w5 ⟨rfl, rfl⟩))
        refine bodyPost_ret (by simp only [results, Tryz.results24]; go_simp; rfl) rfl ?_
        exact ⟨_, rfl, HKW.out.trans (by (repeat (first | exact Kept.refl _ | assumption | refine Kept.alloc ?_ _ | refine Kept.ext ?_ _ | refine Kept.drew ?_ | refine Kept.drewN ?_ _))), owns_kept HO.out (by (repeat (first | exact Kept.refl _ | assumption | refine Kept.alloc ?_ _ | refine Kept.ext ?_ _ | refine Kept.drew ?_ | refine Kept.drewN ?_ _)))⟩
      case true =>
      have hle2 := hlen hr2
      rw [hr2] at hC
      cases hp2 : Lib.hasPrefix r L
      case false =>
        rw [hp2] at hC
        have hs := HN.out (by rw [hC]; simp)
        have he := HE.out
        rw [show 100 - os.length = (99 - os.length) + 1 by omega, readB_no hs, List.append_nil, Prod.mk.injEq] at he
        obtain ⟨rfl, rfl⟩ := he
        clear hs hC HE HY HN
        go_wp2_with (first | (go_at_call 48; (with_reducible refine (Q1.out _ (by (repeat (first | exact Kept.refl _ | assumption | refine Kept.alloc ?_ _ | refine Kept.ext ?_ _ | refine Kept.drew ?_ | refine Kept.drewN ?_ _)))).mono ?_); rintro e w1 ⟨rfl, y1, rfl⟩) | (go_at_call 48; (with_reducible refine (Q2.out _ (by (repeat (first | exact Kept.refl _ | assumption | refine Kept.alloc ?_ _ | refine Kept.ext ?_ _ | refine Kept.drew ?_ | refine Kept.drewN ?_ _)))).mono ?_); rintro e w2 ⟨rfl, y2, rfl⟩) | (go_at_call 49; (with_reducible refine (Q3.out _).mono ?_); rintro e w3 ⟨rfl, y3, rfl⟩) | (go_at_call 51; (with_reducible refine (Q4.out _ (by (repeat (first | exact Kept.refl _ | assumption | refine Kept.alloc ?_ _ | refine Kept.ext ?_ _ | refine Kept.drew ?_ | refine Kept.drewN ?_ _)))).mono ?_); rintro e w4 ⟨rfl, y4, rfl⟩) | (go_at_call 50; (with_reducible refine (Q5.out _).mono ?_); rintro e w5 ⟨rfl, rfl⟩))
        refine bodyPost_ret (by simp only [results, Tryz.results24]; go_simp; rfl) rfl ?_
        exact ⟨_, rfl, HKW.out.trans (by (repeat (first | exact Kept.refl _ | assumption | refine Kept.alloc ?_ _ | refine Kept.ext ?_ _ | refine Kept.drew ?_ | refine Kept.drewN ?_ _))), owns_kept HO.out (by (repeat (first | exact Kept.refl _ | assumption | refine Kept.alloc ?_ _ | refine Kept.ext ?_ _ | refine Kept.drew ?_ | refine Kept.drewN ?_ _)))⟩
      case true =>
      rw [hp2] at hC
      have hs := HY.out (by rw [hC]; rfl)
      have he := HE.out
      rw [show 100 - os.length = (99 - os.length) + 1 by omega, readB_yes hs, HTT.out] at he
      have hll : L.length ≤ r.length := by
        obtain ⟨z, rfl⟩ := List.isPrefixOf_iff_prefix.1 hp2
        simp
      have hx := ba_drop r hll
      have gl : (L.length : Int) ≤ r.length := by omega
      have HE2 := Lib.hid he
      clear he hs hC HE HY HN hlen
      go_wp2_with (first | (go_at_call 48; (with_reducible refine (Q1.out _ (by (repeat (first | exact Kept.refl _ | assumption | refine Kept.alloc ?_ _ | refine Kept.ext ?_ _ | refine Kept.drew ?_ | refine Kept.drewN ?_ _)))).mono ?_); rintro e w1 ⟨rfl, y1, rfl⟩) | (go_at_call 48; (with_reducible refine (Q2.out _ (by (repeat (first | exact Kept.refl _ | assumption | refine Kept.alloc ?_ _ | refine Kept.ext ?_ _ | refine Kept.drew ?_ | refine Kept.drewN ?_ _)))).mono ?_); rintro e w2 ⟨rfl, y2, rfl⟩) | (go_at_call 49; (with_reducible refine (Q3.out _).mono ?_); rintro e w3 ⟨rfl, y3, rfl⟩) | (go_at_call 51; (with_reducible refine (Q4.out _ (by (repeat (first | exact Kept.refl _ | assumption | refine Kept.alloc ?_ _ | refine Kept.ext ?_ _ | refine Kept.drew ?_ | refine Kept.drewN ?_ _)))).mono ?_); rintro e w4 ⟨rfl, y4, rfl⟩) | (go_at_call 50; (with_reducible refine (Q5.out _).mono ?_); rintro e w5 ⟨rfl, rfl⟩) | (go_at_call 22; (with_reducible refine (Q6.out _).mono ?_); rintro e w6 ⟨rfl, rfl⟩) | (at_builtin; refine wpList_append_lies _ rfl (.tmp 55) (.tmp 57) 22 rfl w.heap.size 9 ti _ 1 16 Tryz.underlying22 HT.out HTE.out.1 HTE.out.2.1 HTE.out.2.2 rfl (by omega) _ _ _ rfl (owns_kept HO.out (by (repeat (first | exact Kept.refl _ | assumption | refine Kept.alloc ?_ _ | refine Kept.ext ?_ _ | refine Kept.drew ?_ | refine Kept.drewN ?_ _)))) _ 1 1 [.string ⟨d2.toArray⟩] rfl rfl (lit_at _ _ (by go_simp)) (lit_one _ rfl) (by omega) (by unfold maxLen; omega) (by omega) (by rw [World.size_alloc]; exact Nat.le_trans (kept_le (HKW.out.trans (by (repeat (first | exact Kept.refl _ | assumption | refine Kept.alloc ?_ _ | refine Kept.ext ?_ _ | refine Kept.drew ?_ | refine Kept.drewN ?_ _))))) (Nat.le_succ _)) _ rfl ?_; intro g1 cp1 w1 k1 k2 k3 k4; have E1 := Lib.hid k2; have K1 := Lib.hid k1; clear k1 k2 k3 k4))
      go_roundw
      case rel =>
        refine ⟨os ++ [d2], r.drop L.length, t, by simp; omega, rfl, rfl, hsm, by rw [List.length_drop]; omega, ?_, kept_grown (W := w) (HKW.out.trans (by (repeat (first | exact Kept.refl _ | assumption | refine Kept.alloc ?_ _ | refine Kept.ext ?_ _ | refine Kept.drew ?_ | refine Kept.drewN ?_ _)))) (owns_kept HO.out (by (repeat (first | exact Kept.refl _ | assumption | refine Kept.alloc ?_ _ | refine Kept.ext ?_ _ | refine Kept.drew ?_ | refine Kept.drewN ?_ _)))) (Nat.le_refl _) E1.out, ?_⟩
        · rw [HE2.out, List.length_append, List.length_singleton, show 100 - (os.length + 1) = 99 - os.length by omega, List.append_assoc]
          rfl
        · rw [List.length_append, List.length_singleton, List.map_append]
          exact K1.out
      case measure => simp [lenV]; omega
    · have ho2 : os.length = 100 := by omega
      have g0 : ¬ ((os.length : Int)) < 100 := by omega
      have he := HE.out
      rw [ho2, Nat.sub_self] at he
      have he : (rs, rr) = (os ++ [], r) := he
      rw [List.append_nil, Prod.mk.injEq] at he
      obtain ⟨rfl, rfl⟩ := he
      clear HE ho2
      go_wp2_with fail
      refine bodyPost_ret (by simp only [results, Tryz.results24]; go_simp; rfl) rfl ?_
      exact ⟨_, rfl, HKW.out, HO.out⟩
end Go.Proofs.YtnbjealpcjfllaaGreatDoor
