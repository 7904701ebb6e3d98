/- The walk of SpanTexts: true at every span and text. Conditions: the library's variables hold what start-up lays. -/
import Derived.Test.YtfaeakhnlodpfaaDoorPr2
namespace Go.Proofs.YtfaeakhnlodpfaaDoor
set_option linter.unusedVariables false
set_option linter.unusedSimpArgs false
open Go.ChangeShapes Go.WideShapes Go.ChangeAt Go.RowKit Go.Deep
theorem parse_det (l : List UInt8) : ∃ p q r : Int, ∀ e, ParseR l e → e = .returned (.tuple #[.agg #[.int .i64 p, .int .i64 q], .int .i64 r]) := by
  by_cases h : ∃ a b, validB a b = true ∧ l = fmtL a b
  · obtain ⟨a, b, h1, h2⟩ := h
    exact ⟨a, b, 0, fun e he => he.same (.inl ⟨a, b, h1, h2, rfl⟩)⟩
  · exact ⟨0, 0, 3, fun e he => he.same (.inr ⟨fun a b h1 h2 => h ⟨a, b, h1, h2⟩, rfl⟩)⟩
theorem fmtL_len {a b : Int} (h : validB a b = true) : (fmtL a b).length ≤ 1000 := by
  have hb := valid_bd h
  have l1 := Lib.itoa_length_le a (by omega) (by omega)
  have l2 := Lib.itoa_length_le b (by omega) (by omega)
  unfold fmtL
  rw [List.length_append, List.length_cons]
  omega
set_option maxRecDepth 100000 in
set_option maxHeartbeats 8000000 in
theorem law_texts (lo hi : Int) (s : ByteArray) (w : World) (h : Ld w) :
    Calls Tryd.prog 3 #[.agg #[.int .i64 lo, .int .i64 hi], .string s] w fun e w' => e = .returned (.bool true) ∧ Kept w w' := by
  obtain ⟨l, hl⟩ : ∃ l : List UInt8, s = ⟨l.toArray⟩ := ⟨s.data.toList, by simp⟩
  subst hl
  by_cases hs : l.length ≤ 1000
  · have g0 : decide ((1000 : Int) < l.length) = false := decide_eq_false (by omega)
    obtain ⟨p, q, r, hp⟩ := parse_det l
    have PM : ∀ w', Kept w w' → Calls Tryd.prog 7 #[.string ⟨l.toArray⟩] w' fun e w'' => e = .returned (.tuple #[.agg #[.int .i64 p, .int .i64 q], .int .i64 r]) ∧ Kept w' w'' := fun w' hk => (mParse_any l w' hs (h.on hk)).mono fun e w'' ⟨h1, h2⟩ => ⟨hp e h1, h2⟩
    have PR : ∀ w', Calls Tryd.prog 8 #[.string ⟨l.toArray⟩] w' fun e w'' => e = .returned (.tuple #[.agg #[.int .i64 p, .int .i64 q], .int .i64 r]) ∧ Kept w' w'' := fun w' => (r1Parse_any l w' hs).mono fun e w'' ⟨h1, h2⟩ => ⟨hp e h1, h2⟩
    have FM : ∀ w', Kept w w' → _ := fun w' hk => mFormat_any lo hi w' (h.on hk)
    have FR : ∀ w', _ := fun w' => r1Format_any lo hi w'
    cases hv : validB lo hi
    · have hf : fmtS lo hi = [] := by unfold fmtS; rw [hv]; rfl
      rw [hf, hv, if_neg (by simp)] at FM FR
      have PB : ∀ w', Kept w w' → Calls Tryd.prog 7 #[.string ⟨#[]⟩] w' fun e w'' => (∃ p2 q2 r2, e = .returned (.tuple #[.agg #[.int .i64 p2, .int .i64 q2], .int .i64 r2])) ∧ Kept w' w'' := fun w' hk => (mParse_any [] w' (by simp) (h.on hk)).mono fun e w'' ⟨h1, h2⟩ => ⟨by obtain ⟨p2, q2, r2, h3⟩ := parse_det []; exact ⟨p2, q2, r2, h3 e h1⟩, h2⟩
      have HPM := Lib.hid PM
      have HPR := Lib.hid PR
      have HFM := Lib.hid FM
      have HFR := Lib.hid FR
      have HPB := Lib.hid PB
      clear PM PR FM FR PB hp hv hf h
      go_enter Tryd.func3, Tryd.ntmps3
      go_wp2_with (first | (go_at_call 5; refine (HFM.out _ (by (repeat (first | exact Kept.refl _ | assumption | refine Kept.alloc ?_ _ | refine Kept.ext ?_ _ | refine Kept.drew ?_ | refine Kept.drewN ?_ _)))).mono ?_; rintro e w1 ⟨rfl, x1, rfl⟩) | (go_at_call 6; refine (HFR.out _).mono ?_; rintro e w1 ⟨rfl, x2, rfl⟩) | (go_at_call 7; (with_reducible refine (HPM.out _ (by (repeat (first | exact Kept.refl _ | assumption | refine Kept.alloc ?_ _ | refine Kept.ext ?_ _ | refine Kept.drew ?_ | refine Kept.drewN ?_ _)))).mono ?_); rintro e w1 ⟨rfl, x3, rfl⟩) | (go_at_call 8; refine (HPR.out _).mono ?_; rintro e w1 ⟨rfl, x4, rfl⟩) | (go_at_call 7; (with_reducible refine (HPB.out _ (by (repeat (first | exact Kept.refl _ | assumption | refine Kept.alloc ?_ _ | refine Kept.ext ?_ _ | refine Kept.drew ?_ | refine Kept.drewN ?_ _)))).mono ?_); rintro e w1 ⟨⟨p2, q2, r2, rfl⟩, x5, rfl⟩) | (go_at_call 4; refine (known_any _).mono ?_; rintro e w1 ⟨rfl, x6, rfl⟩))
      all_goals
        refine bodyPost_ret (by simp only [results, Tryd.results3]; go_simp; rfl) rfl ?_
        exact ⟨rfl, by (repeat (first | exact Kept.refl _ | assumption | refine Kept.alloc ?_ _ | refine Kept.ext ?_ _ | refine Kept.drew ?_ | refine Kept.drewN ?_ _))⟩
    · have hf : fmtS lo hi = fmtL lo hi := by unfold fmtS; rw [hv]; rfl
      rw [hf, hv, if_pos rfl] at FM FR
      have hlen := fmtL_len hv
      have PB : ∀ w', Kept w w' → Calls Tryd.prog 7 #[.string ⟨(fmtL lo hi).toArray⟩] w' fun e w'' => e = .returned (.tuple #[.agg #[.int .i64 lo, .int .i64 hi], .int .i64 0]) ∧ Kept w' w'' := fun w' hk => (mParse_any _ w' hlen (h.on hk)).mono fun e w'' ⟨h1, h2⟩ => ⟨h1.same (.inl ⟨lo, hi, hv, rfl, rfl⟩), h2⟩
      obtain ⟨a, ha⟩ : ∃ a, fmtL lo hi = a := ⟨_, rfl⟩
      rw [ha] at FM FR PB
      have HPM := Lib.hid PM
      have HPR := Lib.hid PR
      have HFM := Lib.hid FM
      have HFR := Lib.hid FR
      have HPB := Lib.hid PB
      clear PM PR FM FR PB hp hv hf ha hlen h
      go_enter Tryd.func3, Tryd.ntmps3
      go_wp2_with (first | (go_at_call 5; refine (HFM.out _ (by (repeat (first | exact Kept.refl _ | assumption | refine Kept.alloc ?_ _ | refine Kept.ext ?_ _ | refine Kept.drew ?_ | refine Kept.drewN ?_ _)))).mono ?_; rintro e w1 ⟨rfl, x1, rfl⟩) | (go_at_call 6; refine (HFR.out _).mono ?_; rintro e w1 ⟨rfl, x2, rfl⟩) | (go_at_call 7; (with_reducible refine (HPM.out _ (by (repeat (first | exact Kept.refl _ | assumption | refine Kept.alloc ?_ _ | refine Kept.ext ?_ _ | refine Kept.drew ?_ | refine Kept.drewN ?_ _)))).mono ?_); rintro e w1 ⟨rfl, x3, rfl⟩) | (go_at_call 8; refine (HPR.out _).mono ?_; rintro e w1 ⟨rfl, x4, rfl⟩) | (go_at_call 7; (with_reducible refine (HPB.out _ (by (repeat (first | exact Kept.refl _ | assumption | refine Kept.alloc ?_ _ | refine Kept.ext ?_ _ | refine Kept.drew ?_ | refine Kept.drewN ?_ _)))).mono ?_); rintro e w1 ⟨rfl, x5, rfl⟩) | (go_at_call 4; refine (known_any _).mono ?_; rintro e w1 ⟨rfl, x6, rfl⟩))
      all_goals
        refine bodyPost_ret (by simp only [results, Tryd.results3]; go_simp; rfl) rfl ?_
        exact ⟨rfl, by (repeat (first | exact Kept.refl _ | assumption | refine Kept.alloc ?_ _ | refine Kept.ext ?_ _ | refine Kept.drew ?_ | refine Kept.drewN ?_ _))⟩
  · have g0 : decide ((1000 : Int) < l.length) = true := decide_eq_true (by omega)
    go_enter Tryd.func3, Tryd.ntmps3
    go_wp2_with (go_at_call 4; refine (known_any _).mono ?_; rintro e w1 ⟨rfl, x6, rfl⟩)
    refine bodyPost_ret (by simp only [results, Tryd.results3]; go_simp; rfl) rfl ?_
    exact ⟨rfl, by (repeat (first | exact Kept.refl _ | assumption | refine Kept.alloc ?_ _ | refine Kept.ext ?_ _ | refine Kept.drew ?_ | refine Kept.drewN ?_ _))⟩
end Go.Proofs.YtfaeakhnlodpfaaDoor
