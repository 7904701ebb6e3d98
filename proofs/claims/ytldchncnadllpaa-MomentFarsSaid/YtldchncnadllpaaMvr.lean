/- Contract: the terms of a far field added up, of the reference. No conditions. -/
import Derived.Test.YtldchncnadllpaaMva
import Derived.Test.YtldchncnadllpaaMtt
namespace Go.Proofs.Ytldchncnadllpaa
set_option linter.unusedVariables false
set_option linter.unusedSimpArgs false
open Go.ChangeShapes Go.WideShapes Go.ChangeAt Go.RowKit Go.Deep
/-- The terms one behind another. -/
def seqF (T : Nat → R) (i j : Nat) : Int := if j = 0 then (T i).lo else (T i).hi
theorem seq_row {T : Nat → R} {k : Nat} {p q : Int} (h1 : (T k).lo = p) (h2 : (T k).hi = q) : rowC 2 (seqF T) k ++ rowC 2 (fun _ j => if j = 0 then p else q) 1 = rowC 2 (seqF T) (k + 1) := by
  subst h1 h2
  rfl
theorem seq_sum {m : Mo} {u0 u1 u2 : Int} {K : Nat} (hK : K ≤ 2) (hg : ∀ i, i ≤ K → good (termS m u0 u1 u2 i)) (he : ∀ i, i < K + 1 → (termS m u0 u1 u2 (i : Nat)).e = 0) :
    sumsS (K + 1) (fun i => seqF (fun i => termS m u0 u1 u2 (i : Nat)) i 0) (fun i => seqF (fun i => termS m u0 u1 u2 (i : Nat)) i 1) = valV m u0 u1 u2 K := by
  rcases (show K = 0 ∨ K = 1 ∨ K = 2 by omega) with rfl | rfl | rfl
  · have e0 := he 0 (by omega)
    have v0 := good_v (hg 0 (by omega)) e0
    rw [sums_ok (by omega) (by simpa [allV_succ, allV_zero, seqF] using v0)]
    simp only [Int.natCast_zero] at e0
    unfold valV v1
    simp [sumF, seqF, e0]
  · have e0 := he 0 (by omega)
    have e1 := he 1 (by omega)
    have v0 := good_v (hg 0 (by omega)) e0
    have v1' := good_v (hg 1 (by omega)) e1
    rw [sums_ok (by omega) (by simpa [allV_succ, allV_zero, seqF] using And.intro v0 v1')]
    simp only [Int.natCast_zero, Int.natCast_one] at e0 e1
    unfold valV v2
    simp [sumF, seqF, e0, e1]
  · have e0 := he 0 (by omega)
    have e1 := he 1 (by omega)
    have e2 := he 2 (by omega)
    have v0 := good_v (hg 0 (by omega)) e0
    have v1' := good_v (hg 1 (by omega)) e1
    have v2' := good_v (hg 2 (by omega)) e2
    rw [sums_ok (by omega) (by simpa [allV_succ, allV_zero, seqF, and_assoc] using And.intro v0 (And.intro v1' v2'))]
    have e0 : (termS m u0 u1 u2 0).e = 0 := e0
    have e1 : (termS m u0 u1 u2 1).e = 0 := e1
    have e2 : (termS m u0 u1 u2 2).e = 0 := e2
    unfold valV v3
    simp [sumF, seqF, e0, e1, e2]
theorem seq_bad {m : Mo} {u0 u1 u2 : Int} {K i : Nat} (hK : K ≤ 2) (hi : i ≤ K) (he : (termS m u0 u1 u2 (i : Nat)).e ≠ 0) : valV m u0 u1 u2 K = ⟨0, 0, 4⟩ := by
  rcases (show (K = 0 ∧ i = 0) ∨ (K = 1 ∧ (i = 0 ∨ i = 1)) ∨ (K = 2 ∧ (i = 0 ∨ i = 1 ∨ i = 2)) by omega) with ⟨rfl, rfl⟩ | ⟨rfl, rfl | rfl⟩ | ⟨rfl, rfl | rfl | rfl⟩
  · have he : ¬ (termS m u0 u1 u2 0).e = 0 := he
    unfold valV v1; simp [he]
  · have he : ¬ (termS m u0 u1 u2 0).e = 0 := he
    unfold valV v2; simp [he]
  · have he : ¬ (termS m u0 u1 u2 1).e = 0 := he
    unfold valV v2; simp [he]
  · have he : ¬ (termS m u0 u1 u2 0).e = 0 := he
    unfold valV v3; simp [he]
  · have he : ¬ (termS m u0 u1 u2 1).e = 0 := he
    unfold valV v3; simp [he]
  · have he : ¬ (termS m u0 u1 u2 2).e = 0 := he
    unfold valV v3; simp [he]
set_option maxRecDepth 100000 in
set_option maxHeartbeats 8000000 in
theorem r4Valk_any (m0 m1 m2 m3 m4 m5 m6 m7 m8 m9 m10 u0 u1 u2 : Int) (K : Nat) (w : World) (hK : K ≤ 2) (h1 : okM ⟨m0, m1, m2, m3, m4, m5, m6, m7, m8, m9, m10⟩ = true) (h2 : inB u0 u1 u2 384 = true) (h4 : ¬ (u0 = 0 ∧ u1 = 0 ∧ u2 = 0)) :
    Calls Try.prog 8 #[.agg #[.int .i64 m0, .int .i64 m1, .int .i64 m2, .int .i64 m3, .int .i64 m4, .int .i64 m5, .int .i64 m6, .int .i64 m7, .int .i64 m8, .int .i64 m9, .int .i64 m10], .agg #[.int .i64 u0, .int .i64 u1, .int .i64 u2], .int .i64 K] w fun e w' => e = .returned (.tuple #[.agg #[.int .i64 (valV ⟨m0, m1, m2, m3, m4, m5, m6, m7, m8, m9, m10⟩ u0 u1 u2 K).lo, .int .i64 (valV ⟨m0, m1, m2, m3, m4, m5, m6, m7, m8, m9, m10⟩ u0 u1 u2 K).hi], .int .i64 (valV ⟨m0, m1, m2, m3, m4, m5, m6, m7, m8, m9, m10⟩ u0 u1 u2 K).e]) ∧ Kept w w' := by
  obtain ⟨ti, hti, hte⟩ := Option.map_eq_some_iff.1 info_Sp
  simp only [Prod.mk.injEq] at hte
  have HT := Lib.hid hti
  have HTE := Lib.hid hte
  obtain ⟨T, hT⟩ : ∃ T : Nat → R, (fun i : Nat => termS ⟨m0, m1, m2, m3, m4, m5, m6, m7, m8, m9, m10⟩ u0 u1 u2 (i : Int)) = T := ⟨_, rfl⟩
  have hg : ∀ i, i ≤ K → good (T i) := fun i _ => by rw [← hT]; exact good_term h1 h2 h4
  have htm : ∀ i : Nat, i ≤ K → ∀ w, Calls Try.prog 6 #[.agg #[.int .i64 m0, .int .i64 m1, .int .i64 m2, .int .i64 m3, .int .i64 m4, .int .i64 m5, .int .i64 m6, .int .i64 m7, .int .i64 m8, .int .i64 m9, .int .i64 m10], .agg #[.int .i64 u0, .int .i64 u1, .int .i64 u2], .int .i64 i] w fun e w' => e = .returned (.tuple #[.agg #[.int .i64 (T i).lo, .int .i64 (T i).hi], .int .i64 (T i).e]) ∧ Kept w w' := fun i hi w => by
    have := r4Term_any m0 m1 m2 m3 m4 m5 m6 m7 m8 m9 m10 u0 u1 u2 i w
    rw [show TermS ⟨m0, m1, m2, m3, m4, m5, m6, m7, m8, m9, m10⟩ u0 u1 u2 i = T i by
      rw [← hT]
      refine if_pos ?_
      unfold rdyS vecS
      rw [h1, h2, show frB (i : Int) 0 2 = true from decide_eq_true (by omega)]
      simp [h4]] at this
    exact this
  have hgo : (∀ i, i < K + 1 → (T i).e = 0) → sumsS (K + 1) (fun i => seqF T i 0) (fun i => seqF T i 1) = valV ⟨m0, m1, m2, m3, m4, m5, m6, m7, m8, m9, m10⟩ u0 u1 u2 K := fun h => by
    rw [← hT] at h hg ⊢
    exact seq_sum hK (fun i hi => hg i hi) h
  have hno : ∀ i, i ≤ K → (T i).e ≠ 0 → valV ⟨m0, m1, m2, m3, m4, m5, m6, m7, m8, m9, m10⟩ u0 u1 u2 K = ⟨0, 0, 4⟩ := fun i hi h => by
    rw [← hT] at h
    exact seq_bad hK hi h
  obtain ⟨V, hV⟩ : ∃ V, valV ⟨m0, m1, m2, m3, m4, m5, m6, m7, m8, m9, m10⟩ u0 u1 u2 K = V := ⟨_, rfl⟩
  rw [hV] at hgo hno ⊢
  have e2 : vmS ⟨m0, m1, m2, m3, m4, m5, m6, m7, m8, m9, m10⟩ = 0 := by unfold vmS; rw [h1]; rfl
  have HM := Lib.hid e2
  have HB := Lib.hid h2
  have HG := Lib.hid hg
  have HTM := Lib.hid htm
  have HGO := Lib.hid hgo
  have HNO := Lib.hid hno
  have k1 : decide ((K : Int) < 0) = false := decide_eq_false (by omega)
  have k2 : decide ((2 : Int) < K) = false := decide_eq_false (by omega)
  clear h1 h2 h4 hti hte hT hg htm hgo hno hV e2
  go_enter Try.func8, Try.ntmps8
  go_wp2_with (first | (go_at_call 14; refine (r4val_any _ _ _ _ _ _ _ _ _ _ _ _).mono ?_; rintro e w1 ⟨rfl, x1, rfl⟩; rw [HM.out]) | (go_at_call 15; refine (small_any _ _ _ _ _ (by omega)).mono ?_; rintro e w1 ⟨rfl, x2, rfl⟩; rw [HB.out]))
  go_loopw [8, 9] (fun o i wr => ∃ j : Nat, j ≤ K + 1 ∧ i = .int .i64 j ∧ (∃ y, wr = ext (ext (ext (((w.alloc (.cells #[.int .i64 m0, .int .i64 m1, .int .i64 m2, .int .i64 m3, .int .i64 m4, .int .i64 m5, .int .i64 m6, .int .i64 m7, .int .i64 m8, .int .i64 m9, .int .i64 m10] 26)).alloc (.cells #[.int .i64 u0, .int .i64 u1, .int .i64 u2] 23)).alloc (.cells #[.int .i64 0, .int .i64 0] 30)) x1) x2) y) ∧ wr.ownsRow (ext (ext (((w.alloc (.cells #[.int .i64 m0, .int .i64 m1, .int .i64 m2, .int .i64 m3, .int .i64 m4, .int .i64 m5, .int .i64 m6, .int .i64 m7, .int .i64 m8, .int .i64 m9, .int .i64 m10] 26)).alloc (.cells #[.int .i64 u0, .int .i64 u1, .int .i64 u2] 23)).alloc (.cells #[.int .i64 0, .int .i64 0] 30)) x1) x2).heap.size 30 2 o j (rowC 2 (seqF T) j) ∧ ∀ i, i < j → (T i).e = 0) (fun _ i _ => K + 1 - (intOf i).toNat)
  case atStart => exact ⟨0, by omega, rfl, show Kept _ _ by (repeat (first | exact Kept.refl _ | assumption | refine Kept.alloc ?_ _ | refine Kept.ext ?_ _ | refine Kept.drew ?_ | refine Kept.drewN ?_ _)), World.ownsRow_nil _ _ _ _, fun i h => absurd h (by omega)⟩
  case round =>
    obtain ⟨j, hj, rfl, ⟨y, rfl⟩, hO, hall⟩ := hrel
    obtain ⟨OA, oc, rfl⟩ := own_sliceM hO
    have HO := Lib.hid hO
    have HALL := Lib.hid hall
    clear hO hall
    by_cases hlt : j ≤ K
    · have d0 : decide ((j : Int) ≤ K) = true := decide_eq_true (by omega)
      have hgj := HG.out j hlt
      have hge := good_e hgj
      obtain ⟨hgp, hgq⟩ := good_I hgj
      have htj := HTM.out j hlt
      have hno := HNO.out j hlt
      obtain ⟨p, hp⟩ : ∃ p, (T j).lo = p := ⟨_, rfl⟩
      obtain ⟨q, hq⟩ : ∃ p, (T j).hi = p := ⟨_, rfl⟩
      obtain ⟨er, her⟩ : ∃ p, (T j).e = p := ⟨_, rfl⟩
      rw [hp] at hgp
      rw [hq] at hgq
      rw [hp, hq, her] at htj
      rw [her] at hno hge
      have HROW := Lib.hid (seq_row hp hq)
      have HTJ := Lib.hid htj
      have HER := Lib.hid her
      clear hp hq her htj hgj
      rcases hge with rfl | rfl
      · clear hno
        go_wp2_with (first | (go_at_call 6; refine (HTJ.out _).mono ?_; rintro e w9 ⟨rfl, x3, rfl⟩) | (at_builtin; refine wpList_appM rfl (.tmp 45) (.tmp 47) 46 30 2 16 rfl (ext (ext (((w.alloc (.cells #[.int .i64 m0, .int .i64 m1, .int .i64 m2, .int .i64 m3, .int .i64 m4, .int .i64 m5, .int .i64 m6, .int .i64 m7, .int .i64 m8, .int .i64 m9, .int .i64 m10] 26)).alloc (.cells #[.int .i64 u0, .int .i64 u1, .int .i64 u2] 23)).alloc (.cells #[.int .i64 0, .int .i64 0] 30)) x1) x2).heap.size ti _ Try.underlying46 HT.out HTE.out.1 HTE.out.2.1 HTE.out.2.2 rfl (by decide) (by decide) (fr_le (w := (ext (ext (((w.alloc (.cells #[.int .i64 m0, .int .i64 m1, .int .i64 m2, .int .i64 m3, .int .i64 m4, .int .i64 m5, .int .i64 m6, .int .i64 m7, .int .i64 m8, .int .i64 m9, .int .i64 m10] 26)).alloc (.cells #[.int .i64 u0, .int .i64 u1, .int .i64 u2] 23)).alloc (.cells #[.int .i64 0, .int .i64 0] 30)) x1) x2)) (by (repeat (first | exact Kept.refl _ | assumption | refine Kept.alloc ?_ _ | refine Kept.ext ?_ _ | refine Kept.drew ?_ | refine Kept.drewN ?_ _)))) _ j _ rfl (owns_kept HO.out (by (repeat (first | exact Kept.refl _ | assumption | refine Kept.alloc ?_ _ | refine Kept.ext ?_ _ | refine Kept.drew ?_ | refine Kept.drewN ?_ _)))) _ 1 1 _ rfl (rows_lit2 _ _ p q (by go_simp) hgp hgq) (j + 1) rfl _ HROW.out (by omega) ?_; intro A1 cp1 w1 k1 k2; have E1 := Lib.hid (kept_grown (W := (ext (ext (((w.alloc (.cells #[.int .i64 m0, .int .i64 m1, .int .i64 m2, .int .i64 m3, .int .i64 m4, .int .i64 m5, .int .i64 m6, .int .i64 m7, .int .i64 m8, .int .i64 m9, .int .i64 m10] 26)).alloc (.cells #[.int .i64 u0, .int .i64 u1, .int .i64 u2] 23)).alloc (.cells #[.int .i64 0, .int .i64 0] 30)) x1) x2)) (by (repeat (first | exact Kept.refl _ | assumption | refine Kept.alloc ?_ _ | refine Kept.ext ?_ _ | refine Kept.drew ?_ | refine Kept.drewN ?_ _))) (owns_kept HO.out (by (repeat (first | exact Kept.refl _ | assumption | refine Kept.alloc ?_ _ | refine Kept.ext ?_ _ | refine Kept.drew ?_ | refine Kept.drewN ?_ _)))) (Nat.le_refl _) k2); have K1 := Lib.hid k1; clear k1 k2))
        go_roundw
        case rel => exact ⟨j + 1, by omega, by go_num, E1.out, K1.out, fun i hi => by
          by_cases e : i = j
          · rw [e]; exact HER.out
          · exact HALL.out i (by omega)⟩
        case measure => simp [intOf]; omega
      · have HN := Lib.hid (hno (by decide))
        clear hno
        go_wp2_with (go_at_call 6; refine (HTJ.out _).mono ?_; rintro e w9 ⟨rfl, x3, rfl⟩)
        refine bodyPost_ret (by simp only [results, Try.results8]; go_simp; rfl) rfl ?_
        exact ⟨by rw [HN.out], by (repeat (first | exact Kept.refl _ | assumption | refine Kept.alloc ?_ _ | refine Kept.ext ?_ _ | refine Kept.drew ?_ | refine Kept.drewN ?_ _))⟩
    · obtain rfl : j = K + 1 := by omega
      have d0 : decide (((K + 1 : Nat) : Int) ≤ K) = false := decide_eq_false (by omega)
      have hr : RowsAt (ext (ext (ext (((w.alloc (.cells #[.int .i64 m0, .int .i64 m1, .int .i64 m2, .int .i64 m3, .int .i64 m4, .int .i64 m5, .int .i64 m6, .int .i64 m7, .int .i64 m8, .int .i64 m9, .int .i64 m10] 26)).alloc (.cells #[.int .i64 u0, .int .i64 u1, .int .i64 u2] 23)).alloc (.cells #[.int .i64 0, .int .i64 0] 30)) x1) x2) y) OA (K + 1) 2 (seqF T) := rows_of_owns HO.out fun i hi c _ => by
        have := good_I (HG.out i (by omega))
        unfold seqF
        split
        · exact this.1
        · exact this.2
      have hsum : ∀ w', Kept (ext (ext (ext (((w.alloc (.cells #[.int .i64 m0, .int .i64 m1, .int .i64 m2, .int .i64 m3, .int .i64 m4, .int .i64 m5, .int .i64 m6, .int .i64 m7, .int .i64 m8, .int .i64 m9, .int .i64 m10] 26)).alloc (.cells #[.int .i64 u0, .int .i64 u1, .int .i64 u2] 23)).alloc (.cells #[.int .i64 0, .int .i64 0] 30)) x1) x2) y) w' → Calls Try.prog 24 #[.slice OA (K + 1) oc] w' fun e w'' => e = .returned (.tuple #[.agg #[.int .i64 V.lo, .int .i64 V.hi], .int .i64 V.e]) ∧ Kept w' w'' := fun w' hk => by
        have := rsum_any OA (K + 1) oc (fun k => seqF T k 0) (fun k => seqF T k 1) w' (by omega) (spans_of (hr.of hk))
        rwa [HGO.out HALL.out] at this
      have HS := Lib.hid hsum
      clear hsum hr
      go_wp2_with (go_at_call 24; refine (HS.out _ (by (repeat (first | exact Kept.refl _ | assumption | refine Kept.alloc ?_ _ | refine Kept.ext ?_ _ | refine Kept.drew ?_ | refine Kept.drewN ?_ _)))).mono ?_; rintro e w8 ⟨rfl, x4, rfl⟩)
      refine bodyPost_ret (by simp only [results, Try.results8]; go_simp; rfl) rfl ?_
      exact ⟨rfl, by (repeat (first | exact Kept.refl _ | assumption | refine Kept.alloc ?_ _ | refine Kept.ext ?_ _ | refine Kept.drew ?_ | refine Kept.drewN ?_ _))⟩
set_option maxRecDepth 100000 in
set_option maxHeartbeats 8000000 in
theorem r4Value_any (m0 m1 m2 m3 m4 m5 m6 m7 m8 m9 m10 u0 u1 u2 k : Int) (w : World) :
    Calls Try.prog 8 #[.agg #[.int .i64 m0, .int .i64 m1, .int .i64 m2, .int .i64 m3, .int .i64 m4, .int .i64 m5, .int .i64 m6, .int .i64 m7, .int .i64 m8, .int .i64 m9, .int .i64 m10], .agg #[.int .i64 u0, .int .i64 u1, .int .i64 u2], .int .i64 k] w fun e w' => e = .returned (.tuple #[.agg #[.int .i64 (ValS ⟨m0, m1, m2, m3, m4, m5, m6, m7, m8, m9, m10⟩ u0 u1 u2 k).lo, .int .i64 (ValS ⟨m0, m1, m2, m3, m4, m5, m6, m7, m8, m9, m10⟩ u0 u1 u2 k).hi], .int .i64 (ValS ⟨m0, m1, m2, m3, m4, m5, m6, m7, m8, m9, m10⟩ u0 u1 u2 k).e]) ∧ Kept w w' := by
  cases h : okM ⟨m0, m1, m2, m3, m4, m5, m6, m7, m8, m9, m10⟩
  · have e1 : ValS ⟨m0, m1, m2, m3, m4, m5, m6, m7, m8, m9, m10⟩ u0 u1 u2 k = ⟨0, 0, 1⟩ := by unfold ValS rdyS; rw [h]; rfl
    have e2 : vmS ⟨m0, m1, m2, m3, m4, m5, m6, m7, m8, m9, m10⟩ = 1 := by unfold vmS; rw [h]; rfl
    rw [e1]
    have HM := Lib.hid e2
    clear h e1 e2
    go_enter Try.func8, Try.ntmps8
    go_wp2_with (first | (go_at_call 14; refine (r4val_any _ _ _ _ _ _ _ _ _ _ _ _).mono ?_; rintro e w1 ⟨rfl, x1, rfl⟩; rw [HM.out]))
    refine bodyPost_ret (by simp only [results, Try.results8]; go_simp; rfl) rfl ?_
    exact ⟨rfl, by (repeat (first | exact Kept.refl _ | assumption | refine Kept.alloc ?_ _ | refine Kept.ext ?_ _ | refine Kept.drew ?_ | refine Kept.drewN ?_ _))⟩
  have e2 : vmS ⟨m0, m1, m2, m3, m4, m5, m6, m7, m8, m9, m10⟩ = 0 := by unfold vmS; rw [h]; rfl
  have HM := Lib.hid e2
  clear e2
  cases hb : inB u0 u1 u2 384
  · have e1 : ValS ⟨m0, m1, m2, m3, m4, m5, m6, m7, m8, m9, m10⟩ u0 u1 u2 k = ⟨0, 0, 1⟩ := by unfold ValS rdyS vecS; rw [h, hb]; rfl
    rw [e1]
    have HB := Lib.hid hb
    clear h hb e1
    go_enter Try.func8, Try.ntmps8
    go_wp2_with (first | (go_at_call 14; refine (r4val_any _ _ _ _ _ _ _ _ _ _ _ _).mono ?_; rintro e w1 ⟨rfl, x1, rfl⟩; rw [HM.out]) | (go_at_call 15; refine (small_any _ _ _ _ _ (by omega)).mono ?_; rintro e w1 ⟨rfl, x2, rfl⟩; rw [HB.out]))
    refine bodyPost_ret (by simp only [results, Try.results8]; go_simp; rfl) rfl ?_
    exact ⟨rfl, by (repeat (first | exact Kept.refl _ | assumption | refine Kept.alloc ?_ _ | refine Kept.ext ?_ _ | refine Kept.drew ?_ | refine Kept.drewN ?_ _))⟩
  have HB := Lib.hid hb
  by_cases hk0 : k < 0
  · have e1 : ValS ⟨m0, m1, m2, m3, m4, m5, m6, m7, m8, m9, m10⟩ u0 u1 u2 k = ⟨0, 0, 1⟩ := by unfold ValS rdyS vecS; rw [h, hb, show frB k 0 2 = false from decide_eq_false (by omega)]; rfl
    rw [e1]
    have g1 : decide (k < 0) = true := decide_eq_true hk0
    clear h hb e1
    go_enter Try.func8, Try.ntmps8
    go_wp2_with (first | (go_at_call 14; refine (r4val_any _ _ _ _ _ _ _ _ _ _ _ _).mono ?_; rintro e w1 ⟨rfl, x1, rfl⟩; rw [HM.out]) | (go_at_call 15; refine (small_any _ _ _ _ _ (by omega)).mono ?_; rintro e w1 ⟨rfl, x2, rfl⟩; rw [HB.out]))
    refine bodyPost_ret (by simp only [results, Try.results8]; go_simp; rfl) rfl ?_
    exact ⟨rfl, by (repeat (first | exact Kept.refl _ | assumption | refine Kept.alloc ?_ _ | refine Kept.ext ?_ _ | refine Kept.drew ?_ | refine Kept.drewN ?_ _))⟩
  have g1 : decide (k < 0) = false := decide_eq_false hk0
  by_cases hk2 : 2 < k
  · have e1 : ValS ⟨m0, m1, m2, m3, m4, m5, m6, m7, m8, m9, m10⟩ u0 u1 u2 k = ⟨0, 0, 1⟩ := by unfold ValS rdyS vecS; rw [h, hb, show frB k 0 2 = false from decide_eq_false (by omega)]; rfl
    rw [e1]
    have g2 : decide (2 < k) = true := decide_eq_true hk2
    clear h hb e1
    go_enter Try.func8, Try.ntmps8
    go_wp2_with (first | (go_at_call 14; refine (r4val_any _ _ _ _ _ _ _ _ _ _ _ _).mono ?_; rintro e w1 ⟨rfl, x1, rfl⟩; rw [HM.out]) | (go_at_call 15; refine (small_any _ _ _ _ _ (by omega)).mono ?_; rintro e w1 ⟨rfl, x2, rfl⟩; rw [HB.out]))
    refine bodyPost_ret (by simp only [results, Try.results8]; go_simp; rfl) rfl ?_
    exact ⟨rfl, by (repeat (first | exact Kept.refl _ | assumption | refine Kept.alloc ?_ _ | refine Kept.ext ?_ _ | refine Kept.drew ?_ | refine Kept.drewN ?_ _))⟩
  have g2 : decide (2 < k) = false := decide_eq_false hk2
  have hk : frB k 0 2 = true := decide_eq_true (by omega)
  by_cases h0 : u0 = 0 ∧ u1 = 0 ∧ u2 = 0
  · have e1 : ValS ⟨m0, m1, m2, m3, m4, m5, m6, m7, m8, m9, m10⟩ u0 u1 u2 k = ⟨0, 0, 11⟩ := by unfold ValS rdyS vecS; rw [h, hb, hk]; simp [h0]
    rw [e1]
    have htz : ∀ w, Calls Try.prog 6 #[.agg #[.int .i64 m0, .int .i64 m1, .int .i64 m2, .int .i64 m3, .int .i64 m4, .int .i64 m5, .int .i64 m6, .int .i64 m7, .int .i64 m8, .int .i64 m9, .int .i64 m10], .agg #[.int .i64 u0, .int .i64 u1, .int .i64 u2], .int .i64 0] w fun e w' => e = .returned (.tuple #[.agg #[.int .i64 0, .int .i64 0], .int .i64 11]) ∧ Kept w w' := fun w => by
      have := r4Term_any m0 m1 m2 m3 m4 m5 m6 m7 m8 m9 m10 u0 u1 u2 0 w
      rwa [show TermS ⟨m0, m1, m2, m3, m4, m5, m6, m7, m8, m9, m10⟩ u0 u1 u2 0 = ⟨0, 0, 11⟩ by
        unfold TermS rdyS vecS
        rw [h, hb, show frB (0 : Int) 0 2 = true from rfl]
        simp [h0]] at this
    have HTZ := Lib.hid htz
    have g3 : decide ((0 : Int) ≤ k) = true := decide_eq_true (by omega)
    clear h hb e1 h0 htz
    go_enter Try.func8, Try.ntmps8
    go_wp2_with (first | (go_at_call 14; refine (r4val_any _ _ _ _ _ _ _ _ _ _ _ _).mono ?_; rintro e w1 ⟨rfl, x1, rfl⟩; rw [HM.out]) | (go_at_call 15; refine (small_any _ _ _ _ _ (by omega)).mono ?_; rintro e w1 ⟨rfl, x2, rfl⟩; rw [HB.out]))
    go_loopw [9] (fun i wr => i = .int .i64 0 ∧ (∃ y, wr = ext (ext (ext (((w.alloc (.cells #[.int .i64 m0, .int .i64 m1, .int .i64 m2, .int .i64 m3, .int .i64 m4, .int .i64 m5, .int .i64 m6, .int .i64 m7, .int .i64 m8, .int .i64 m9, .int .i64 m10] 26)).alloc (.cells #[.int .i64 u0, .int .i64 u1, .int .i64 u2] 23)).alloc (.cells #[.int .i64 0, .int .i64 0] 30)) x1) x2) y)) (fun _ _ => 0)
    case atStart => exact ⟨rfl, show Kept _ _ by (repeat (first | exact Kept.refl _ | assumption | refine Kept.alloc ?_ _ | refine Kept.ext ?_ _ | refine Kept.drew ?_ | refine Kept.drewN ?_ _))⟩
    case round =>
      obtain ⟨rfl, y, rfl⟩ := hrel
      go_wp2_with (go_at_call 6; refine (HTZ.out _).mono ?_; rintro e w9 ⟨rfl, x3, rfl⟩)
      refine bodyPost_ret (by simp only [results, Try.results8]; go_simp; rfl) rfl ?_
      exact ⟨rfl, by (repeat (first | exact Kept.refl _ | assumption | refine Kept.alloc ?_ _ | refine Kept.ext ?_ _ | refine Kept.drew ?_ | refine Kept.drewN ?_ _))⟩
  · obtain ⟨K, rfl⟩ := Int.eq_ofNat_of_zero_le (show 0 ≤ k by omega)
    rw [show ValS ⟨m0, m1, m2, m3, m4, m5, m6, m7, m8, m9, m10⟩ u0 u1 u2 K = valV ⟨m0, m1, m2, m3, m4, m5, m6, m7, m8, m9, m10⟩ u0 u1 u2 K from if_pos (by unfold rdyS vecS; rw [h, hb, hk]; simp [h0])]
    exact r4Valk_any m0 m1 m2 m3 m4 m5 m6 m7 m8 m9 m10 u0 u1 u2 K w (by omega) h hb h0
end Go.Proofs.Ytldchncnadllpaa
