/- The walk of MomentTexts: true at every moment and text. Conditions: the library's variables hold what start-up lays. -/
import Derived.Test.YtbefphfgcbbcpaaDoorMpa
import Derived.Test.YtbefphfgcbbcpaaDoorRpa
import Derived.Test.YtbefphfgcbbcpaaDoorSane
import Derived.Test.YtbefphfgcbbcpaaDoorArq
namespace Go.Proofs.YtbefphfgcbbcpaaDoor
set_option linter.unusedVariables false
set_option linter.unusedSimpArgs false
open Go.ChangeShapes Go.WideShapes Go.ChangeAt Go.RowKit Go.Deep
set_option maxRecDepth 100000 in
set_option maxHeartbeats 8000000 in
theorem law_mtexts (m0 m1 m2 m3 m4 m5 m6 m7 m8 m9 m10 : Int) (s : ByteArray) (w : World) (h : Ld w) :
    Calls Tryd.prog 4 #[.agg #[.int .i64 m0, .int .i64 m1, .int .i64 m2, .int .i64 m3, .int .i64 m4, .int .i64 m5, .int .i64 m6, .int .i64 m7, .int .i64 m8, .int .i64 m9, .int .i64 m10], .string s] w fun e w' => e = .returned (.bool true) ∧ Kept w w' := by
  obtain ⟨l, hl⟩ : ∃ l : List UInt8, s = ⟨l.toArray⟩ := ⟨s.data.toList, by simp⟩
  subst hl
  by_cases hs : l.length ≤ 2000
  · have g0 : decide ((2000 : Int) < l.length) = false := decide_eq_false (by omega)
    obtain ⟨p, r, hp⟩ := parseM_det l
    obtain ⟨p0, p1, p2, p3, p4, p5, p6, p7, p8, p9, p10⟩ := p
    have PM : ∀ w', Kept w w' → Calls Tryd.prog 15 #[.string ⟨l.toArray⟩] w' fun e w'' => e = .returned (.tuple #[.agg #[.int .i64 p0, .int .i64 p1, .int .i64 p2, .int .i64 p3, .int .i64 p4, .int .i64 p5, .int .i64 p6, .int .i64 p7, .int .i64 p8, .int .i64 p9, .int .i64 p10], .int .i64 r]) ∧ Kept w' w'' := fun w' hk => (mPar_any l w' hs (h.on hk)).mono fun e w'' ⟨h1, h2⟩ => ⟨hp e h1, h2⟩
    have PR : ∀ w', Kept w w' → Calls Tryd.prog 16 #[.string ⟨l.toArray⟩] w' fun e w'' => e = .returned (.tuple #[.agg #[.int .i64 p0, .int .i64 p1, .int .i64 p2, .int .i64 p3, .int .i64 p4, .int .i64 p5, .int .i64 p6, .int .i64 p7, .int .i64 p8, .int .i64 p9, .int .i64 p10], .int .i64 r]) ∧ Kept w' w'' := fun w' hk => (r4Par_any l w' hs (h.on hk)).mono fun e w'' ⟨h1, h2⟩ => ⟨hp e h1, h2⟩
    have FM : ∀ w', Kept w w' → _ := fun w' hk => mFmt_any m0 m1 m2 m3 m4 m5 m6 m7 m8 m9 m10 w' (h.on hk)
    have FR : ∀ w', Kept w w' → _ := fun w' hk => r4Fmt_any m0 m1 m2 m3 m4 m5 m6 m7 m8 m9 m10 w' (h.on hk)
    obtain ⟨M, hM⟩ : ∃ M : Mo, M = ⟨m0, m1, m2, m3, m4, m5, m6, m7, m8, m9, m10⟩ := ⟨_, rfl⟩
    rw [← hM] at FM FR
    cases hv : okM M
    · have hf : fmtM M = [] := by unfold fmtM; rw [hv]; rfl
      have he : vmS M = 1 := by unfold vmS; rw [hv]; rfl
      rw [hf, he] at FM FR
      have HPM := Lib.hid PM
      have HPR := Lib.hid PR
      have HFM := Lib.hid FM
      have HFR := Lib.hid FR
      clear PM PR FM FR hp hv hf he h hM
      go_enter Tryd.func4, Tryd.ntmps4
      go_wp2_with (first | (go_at_call 13; refine (HFM.out _ (by (repeat (first | exact Kept.refl _ | assumption | refine Kept.alloc ?_ _ | refine Kept.ext ?_ _ | refine Kept.drew ?_ | refine Kept.drewN ?_ _)))).mono ?_; rintro e w1 ⟨rfl, x1, rfl⟩) | (go_at_call 14; refine (HFR.out _ (by (repeat (first | exact Kept.refl _ | assumption | refine Kept.alloc ?_ _ | refine Kept.ext ?_ _ | refine Kept.drew ?_ | refine Kept.drewN ?_ _)))).mono ?_; rintro e w1 ⟨rfl, x2, rfl⟩) | (go_at_call 15; refine (HPM.out _ (by (repeat (first | exact Kept.refl _ | assumption | refine Kept.alloc ?_ _ | refine Kept.ext ?_ _ | refine Kept.drew ?_ | refine Kept.drewN ?_ _)))).mono ?_; rintro e w1 ⟨rfl, x3, rfl⟩) | (go_at_call 16; refine (HPR.out _ (by (repeat (first | exact Kept.refl _ | assumption | refine Kept.alloc ?_ _ | refine Kept.ext ?_ _ | refine Kept.drew ?_ | refine Kept.drewN ?_ _)))).mono ?_; rintro e w1 ⟨rfl, x4, rfl⟩) | (go_at_call 12; refine (sane_any _).mono ?_; rintro e w1 ⟨rfl, x6, rfl⟩))
      all_goals
        refine bodyPost_ret (by simp only [results, Tryd.results4]; go_simp; rfl) rfl ?_
        exact ⟨rfl, by (repeat (first | exact Kept.refl _ | assumption | refine Kept.alloc ?_ _ | refine Kept.ext ?_ _ | refine Kept.drew ?_ | refine Kept.drewN ?_ _))⟩
    · have hf : fmtM M = jn (mL M) := by unfold fmtM; rw [hv]; rfl
      have he : vmS M = 0 := by unfold vmS; rw [hv]; rfl
      have hlen := fmtM_len M
      rw [hf] at hlen
      rw [hf, he] at FM FR
      have PB : ∀ w', Kept w w' → Calls Tryd.prog 15 #[.string ⟨(jn (mL M)).toArray⟩] w' fun e w'' => e = .returned (.tuple #[.agg #[.int .i64 m0, .int .i64 m1, .int .i64 m2, .int .i64 m3, .int .i64 m4, .int .i64 m5, .int .i64 m6, .int .i64 m7, .int .i64 m8, .int .i64 m9, .int .i64 m10], .int .i64 0]) ∧ Kept w' w'' := fun w' hk => (mPar_any _ w' (by omega) (h.on hk)).mono fun e w'' ⟨h1, h2⟩ => ⟨h1.same (.inl ⟨M, hv, rfl, by rw [hM]⟩), h2⟩
      obtain ⟨a, ha⟩ : ∃ a, jn (mL M) = a := ⟨_, rfl⟩
      rw [ha] at FM FR PB
      have HPM := Lib.hid PM
      have HPR := Lib.hid PR
      have HFM := Lib.hid FM
      have HFR := Lib.hid FR
      have HPB := Lib.hid PB
      clear PM PR FM FR PB hp hv hf he ha hlen h hM
      go_enter Tryd.func4, Tryd.ntmps4
      go_wp2_with (first | (go_at_call 13; refine (HFM.out _ (by (repeat (first | exact Kept.refl _ | assumption | refine Kept.alloc ?_ _ | refine Kept.ext ?_ _ | refine Kept.drew ?_ | refine Kept.drewN ?_ _)))).mono ?_; rintro e w1 ⟨rfl, x1, rfl⟩) | (go_at_call 14; refine (HFR.out _ (by (repeat (first | exact Kept.refl _ | assumption | refine Kept.alloc ?_ _ | refine Kept.ext ?_ _ | refine Kept.drew ?_ | refine Kept.drewN ?_ _)))).mono ?_; rintro e w1 ⟨rfl, x2, rfl⟩) | (go_at_call 15; (with_reducible refine (HPM.out _ (by (repeat (first | exact Kept.refl _ | assumption | refine Kept.alloc ?_ _ | refine Kept.ext ?_ _ | refine Kept.drew ?_ | refine Kept.drewN ?_ _)))).mono ?_); rintro e w1 ⟨rfl, x3, rfl⟩) | (go_at_call 16; refine (HPR.out _ (by (repeat (first | exact Kept.refl _ | assumption | refine Kept.alloc ?_ _ | refine Kept.ext ?_ _ | refine Kept.drew ?_ | refine Kept.drewN ?_ _)))).mono ?_; rintro e w1 ⟨rfl, x4, rfl⟩) | (go_at_call 15; (with_reducible refine (HPB.out _ (by (repeat (first | exact Kept.refl _ | assumption | refine Kept.alloc ?_ _ | refine Kept.ext ?_ _ | refine Kept.drew ?_ | refine Kept.drewN ?_ _)))).mono ?_); rintro e w1 ⟨rfl, x5, rfl⟩) | (go_at_call 12; refine (sane_any _).mono ?_; rintro e w1 ⟨rfl, x6, rfl⟩))
      all_goals
        refine bodyPost_ret (by simp only [results, Tryd.results4]; go_simp; rfl) rfl ?_
        exact ⟨rfl, by (repeat (first | exact Kept.refl _ | assumption | refine Kept.alloc ?_ _ | refine Kept.ext ?_ _ | refine Kept.drew ?_ | refine Kept.drewN ?_ _))⟩
  · have g0 : decide ((2000 : Int) < l.length) = true := decide_eq_true (by omega)
    go_enter Tryd.func4, Tryd.ntmps4
    go_wp2_with (go_at_call 12; refine (sane_any _).mono ?_; rintro e w1 ⟨rfl, x6, rfl⟩)
    refine bodyPost_ret (by simp only [results, Tryd.results4]; go_simp; rfl) rfl ?_
    exact ⟨rfl, by (repeat (first | exact Kept.refl _ | assumption | refine Kept.alloc ?_ _ | refine Kept.ext ?_ _ | refine Kept.drew ?_ | refine Kept.drewN ?_ _))⟩
end Go.Proofs.YtbefphfgcbbcpaaDoor
