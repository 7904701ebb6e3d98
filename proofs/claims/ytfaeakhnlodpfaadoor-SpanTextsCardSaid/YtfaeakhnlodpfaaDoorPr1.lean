/- Contract: spans of texts, of the program. Conditions: the library's variables hold what start-up lays; the text is short. -/
import Derived.Test.YtfaeakhnlodpfaaDoorFm
namespace Go.Proofs.YtfaeakhnlodpfaaDoor
set_option linter.unusedVariables false
set_option linter.unusedSimpArgs false
open Go.ChangeShapes Go.WideShapes Go.ChangeAt Go.RowKit
/-- The text of a span is cut into the texts of its bounds. -/
theorem parse_key {l : List UInt8} {a b : Int} (hv : validB a b = true) (h : l = fmtL a b) : Lib.atoiAll (Lib.cut l [32]).1 = .ok a ∧ Lib.atoiAll (Lib.cut l [32]).2.1 = .ok b := by
  have v := valid_bd hv
  rw [h]
  unfold fmtL
  rw [cut_sp (itoa_nospace a)]
  exact ⟨atoi_itoa (by omega), atoi_itoa (by omega)⟩
/-- What reading a text gives. -/
def ParseR (l : List UInt8) (e : Ending) : Prop := (∃ lo hi, validB lo hi = true ∧ l = fmtL lo hi ∧ e = .returned (.tuple #[.agg #[.int .i64 lo, .int .i64 hi], .int .i64 0])) ∨ ((∀ lo hi, validB lo hi = true → l ≠ fmtL lo hi) ∧ e = .returned (.tuple #[.agg #[.int .i64 0, .int .i64 0], .int .i64 3]))
theorem parse_bad {l : List UInt8} (h : ∀ a b, validB a b = true → l ≠ fmtL a b) : ParseR l (.returned (.tuple #[.agg #[.int .i64 0, .int .i64 0], .int .i64 3])) := .inr ⟨h, rfl⟩
theorem sAtoi_ok {l : List UInt8} {v : Int} {w : World} (hs : l.length ≤ 1000) (h : Ld w) (hr : Lib.atoiAll l = .ok v) :
    Calls Tryd.prog 17 #[.string ⟨l.toArray⟩] w fun e w' => e = .returned (.tuple #[.int .i64 v, .nilIface]) ∧ Kept w w' := by
  refine (sAtoi ⟨l.toArray⟩ w (by show l.toArray.size ≤ _; simp; omega) h).mono ?_
  rintro e w' ⟨u, ev, rfl, h1, h2, h3⟩
  rcases h3 with ⟨rfl, h4⟩ | ⟨-, h4⟩
  · have h4 : Lib.atoiAll l = .ok u := by simpa using h4
    rw [hr] at h4
    injection h4 with h4
    rw [h4]
    exact ⟨rfl, h1⟩
  · exact absurd hr (by simpa using h4 v)
theorem sAtoi_no {l : List UInt8} {w : World} (hs : l.length ≤ 1000) (h : Ld w) (hr : ∀ v, Lib.atoiAll l ≠ .ok v) :
    Calls Tryd.prog 17 #[.string ⟨l.toArray⟩] w fun e w' => ∃ v t p, e = .returned (.tuple #[.int .i64 v, .iface t p]) ∧ Kept w w' := by
  refine (sAtoi ⟨l.toArray⟩ w (by show l.toArray.size ≤ _; simp; omega) h).mono ?_
  rintro e w' ⟨u, ev, rfl, h1, h2, h3⟩
  rcases h3 with ⟨rfl, h4⟩ | ⟨⟨t, p, rfl⟩, -⟩
  · exact absurd (by simpa using h4) (hr u)
  · exact ⟨u, t, p, rfl, h1⟩
theorem cut_len (l : List UInt8) : (Lib.cut l [32]).1.length ≤ l.length ∧ (Lib.cut l [32]).2.1.length ≤ l.length := by
  unfold Lib.cut
  split
  · refine ⟨?_, ?_⟩
    · simp; omega
    · simp
  · simp
set_option maxRecDepth 100000 in
set_option maxHeartbeats 8000000 in
theorem mParse_any (l : List UInt8) (w : World) (hlen : l.length ≤ 1000) (h : Ld w) :
    Calls Tryd.prog 7 #[.string ⟨l.toArray⟩] w fun e w' => ParseR l e ∧ Kept w w' := by
  have hcl := cut_len l
  have hcut : ∀ w', Kept w w' → Calls Tryd.prog 16 #[.string ⟨l.toArray⟩, .string ⟨#[32]⟩] w' fun e w'' => e = .returned (.tuple #[.string ⟨(Lib.cut l [32]).1.toArray⟩, .string ⟨(Lib.cut l [32]).2.1.toArray⟩, .bool (Lib.cut l [32]).2.2]) ∧ Kept w' w'' := fun w' hk => by
    have := sCut ⟨l.toArray⟩ w' (by show l.toArray.size < _; simp; omega) (h.on hk)
    simpa using this
  obtain ⟨x, hx⟩ : ∃ x, (Lib.cut l [32]).1 = x := ⟨_, rfl⟩
  obtain ⟨y, hy⟩ : ∃ x, (Lib.cut l [32]).2.1 = x := ⟨_, rfl⟩
  obtain ⟨z, hz⟩ : ∃ x, (Lib.cut l [32]).2.2 = x := ⟨_, rfl⟩
  have key : ∀ a b, validB a b = true → l = fmtL a b → Lib.atoiAll x = .ok a ∧ Lib.atoiAll y = .ok b := fun a b hv he => by
    rw [← hx, ← hy]; exact parse_key hv he
  rw [hx, hy] at hcl
  rw [hx, hy, hz] at hcut
  have HCUT := Lib.hid hcut
  have HKEY := Lib.hid key
  have HL := Lib.hid h
  have hfm : ∀ lo hi w', Kept w w' → _ := fun lo hi w' hk => mFormat_any lo hi w' (h.on hk)
  have HFM := Lib.hid hfm
  clear hcut key hx hy hz hfm h
  by_cases ax : ∃ v, Lib.atoiAll x = .ok v
  · obtain ⟨lo, ax⟩ := ax
    have cx : ∀ w', Kept w w' → _ := fun w' hk => sAtoi_ok (by omega) (HL.out.on hk) ax
    have CX := Lib.hid cx
    by_cases ay : ∃ v, Lib.atoiAll y = .ok v
    · obtain ⟨hi, ay⟩ := ay
      have cy : ∀ w', Kept w w' → _ := fun w' hk => sAtoi_ok (by omega) (HL.out.on hk) ay
      have CY := Lib.hid cy
      cases hv : validB lo hi
      · have hbad := parse_bad (l := l) (fun a b hv2 he => by
          have h1 := HKEY.out a b hv2 he
          rw [ax] at h1
          rw [ay] at h1
          injection h1.1 with h3
          injection h1.2 with h4
          rw [h3, h4, hv2] at hv
          cases hv)
        have HBAD := Lib.hid hbad
        have hf : ∀ w', Kept w w' → _ := fun w' hk => HFM.out lo hi w' hk
        rw [hv] at hf
        have HFM := Lib.hid hf
        clear cx cy ay ax hbad hf
        go_enter Tryd.func7, Tryd.ntmps7
        go_wp2_with (first | (go_at_call 16; refine (HCUT.out _ (by (repeat (first | exact Kept.refl _ | assumption | refine Kept.alloc ?_ _ | refine Kept.ext ?_ _ | refine Kept.drew ?_ | refine Kept.drewN ?_ _)))).mono ?_; rintro e w1 ⟨rfl, x1, rfl⟩) | (go_at_call 17; (with_reducible refine (CX.out _ (by (repeat (first | exact Kept.refl _ | assumption | refine Kept.alloc ?_ _ | refine Kept.ext ?_ _ | refine Kept.drew ?_ | refine Kept.drewN ?_ _)))).mono ?_); rintro e w1 ⟨rfl, x2, rfl⟩) | (go_at_call 17; (with_reducible refine (CY.out _ (by (repeat (first | exact Kept.refl _ | assumption | refine Kept.alloc ?_ _ | refine Kept.ext ?_ _ | refine Kept.drew ?_ | refine Kept.drewN ?_ _)))).mono ?_); rintro e w1 ⟨rfl, x3, rfl⟩) | (go_at_call 5; refine (HFM.out _ (by (repeat (first | exact Kept.refl _ | assumption | refine Kept.alloc ?_ _ | refine Kept.ext ?_ _ | refine Kept.drew ?_ | refine Kept.drewN ?_ _)))).mono ?_; rintro e w1 ⟨rfl, x4, rfl⟩; rw [if_neg (by simp)]))
        all_goals
          refine bodyPost_ret (by simp only [results, Tryd.results7]; go_simp; rfl) rfl ?_
          exact ⟨HBAD.out, by (repeat (first | exact Kept.refl _ | assumption | refine Kept.alloc ?_ _ | refine Kept.ext ?_ _ | refine Kept.drew ?_ | refine Kept.drewN ?_ _))⟩
      · have hfm : fmtS lo hi = fmtL lo hi := by unfold fmtS; rw [hv]; rfl
        have hf : ∀ w', Kept w w' → Calls Tryd.prog 5 #[.agg #[.int .i64 lo, .int .i64 hi]] w' fun e w'' => e = .returned (.tuple #[.string ⟨(fmtL lo hi).toArray⟩, .int .i64 0]) ∧ Kept w' w'' := fun w' hk => by
          have := HFM.out lo hi w' hk
          rwa [hfm, hv, if_pos rfl] at this
        have HFM := Lib.hid hf
        clear cx cy hf
        go_enter Tryd.func7, Tryd.ntmps7
        go_wp2_with (first | (go_at_call 16; refine (HCUT.out _ (by (repeat (first | exact Kept.refl _ | assumption | refine Kept.alloc ?_ _ | refine Kept.ext ?_ _ | refine Kept.drew ?_ | refine Kept.drewN ?_ _)))).mono ?_; rintro e w1 ⟨rfl, x1, rfl⟩) | (go_at_call 17; (with_reducible refine (CX.out _ (by (repeat (first | exact Kept.refl _ | assumption | refine Kept.alloc ?_ _ | refine Kept.ext ?_ _ | refine Kept.drew ?_ | refine Kept.drewN ?_ _)))).mono ?_); rintro e w1 ⟨rfl, x2, rfl⟩) | (go_at_call 17; (with_reducible refine (CY.out _ (by (repeat (first | exact Kept.refl _ | assumption | refine Kept.alloc ?_ _ | refine Kept.ext ?_ _ | refine Kept.drew ?_ | refine Kept.drewN ?_ _)))).mono ?_); rintro e w1 ⟨rfl, x3, rfl⟩) | (go_at_call 5; refine (HFM.out _ (by (repeat (first | exact Kept.refl _ | assumption | refine Kept.alloc ?_ _ | refine Kept.ext ?_ _ | refine Kept.drew ?_ | refine Kept.drewN ?_ _)))).mono ?_; rintro e w1 ⟨rfl, x4, rfl⟩))
        · rename_i hq
          refine bodyPost_ret (by simp only [results, Tryd.results7]; go_simp; rfl) rfl ?_
          refine ⟨.inr ⟨fun a b hv2 he => ?_, rfl⟩, by (repeat (first | exact Kept.refl _ | assumption | refine Kept.alloc ?_ _ | refine Kept.ext ?_ _ | refine Kept.drew ?_ | refine Kept.drewN ?_ _))⟩
          have h1 := HKEY.out a b hv2 he
          rw [ax] at h1
          rw [ay] at h1
          injection h1.1 with h3
          injection h1.2 with h4
          rw [h3, h4, he] at hq
          simp at hq
        · rename_i hq
          refine bodyPost_ret (by simp only [results, Tryd.results7]; go_simp; rfl) rfl ?_
          refine ⟨.inl ⟨lo, hi, hv, ?_, rfl⟩, by (repeat (first | exact Kept.refl _ | assumption | refine Kept.alloc ?_ _ | refine Kept.ext ?_ _ | refine Kept.drew ?_ | refine Kept.drewN ?_ _))⟩
          simp at hq
          exact hq.symm
    · have cy : ∀ w', Kept w w' → _ := fun w' hk => sAtoi_no (by omega) (HL.out.on hk) (fun v hv => ay ⟨v, hv⟩)
      have CY := Lib.hid cy
      have hbad := parse_bad (l := l) (fun a b hv he => ay ⟨_, (HKEY.out a b hv he).2⟩)
      have HBAD := Lib.hid hbad
      clear cx cy ay ax hbad
      go_enter Tryd.func7, Tryd.ntmps7
      go_wp2_with (first | (go_at_call 16; refine (HCUT.out _ (by (repeat (first | exact Kept.refl _ | assumption | refine Kept.alloc ?_ _ | refine Kept.ext ?_ _ | refine Kept.drew ?_ | refine Kept.drewN ?_ _)))).mono ?_; rintro e w1 ⟨rfl, x1, rfl⟩) | (go_at_call 17; (with_reducible refine (CX.out _ (by (repeat (first | exact Kept.refl _ | assumption | refine Kept.alloc ?_ _ | refine Kept.ext ?_ _ | refine Kept.drew ?_ | refine Kept.drewN ?_ _)))).mono ?_); rintro e w1 ⟨rfl, x2, rfl⟩) | (go_at_call 17; (with_reducible refine (CY.out _ (by (repeat (first | exact Kept.refl _ | assumption | refine Kept.alloc ?_ _ | refine Kept.ext ?_ _ | refine Kept.drew ?_ | refine Kept.drewN ?_ _)))).mono ?_); rintro e w1 ⟨v3, t3, p3, rfl, x3, rfl⟩) | (go_at_call 5; refine (HFM.out _ _ _ (by (repeat (first | exact Kept.refl _ | assumption | refine Kept.alloc ?_ _ | refine Kept.ext ?_ _ | refine Kept.drew ?_ | refine Kept.drewN ?_ _)))).mono ?_; rintro e w1 ⟨rfl, x4, rfl⟩))
      all_goals
        refine bodyPost_ret (by simp only [results, Tryd.results7]; go_simp; rfl) rfl ?_
        exact ⟨HBAD.out, by (repeat (first | exact Kept.refl _ | assumption | refine Kept.alloc ?_ _ | refine Kept.ext ?_ _ | refine Kept.drew ?_ | refine Kept.drewN ?_ _))⟩
  · have cx : ∀ w', Kept w w' → _ := fun w' hk => sAtoi_no (by omega) (HL.out.on hk) (fun v hv => ax ⟨v, hv⟩)
    have CX := Lib.hid cx
    have hbad := parse_bad (l := l) (fun a b hv he => ax ⟨_, (HKEY.out a b hv he).1⟩)
    have HBAD := Lib.hid hbad
    by_cases ay : ∃ v, Lib.atoiAll y = .ok v
    · obtain ⟨hi, ay⟩ := ay
      have cy : ∀ w', Kept w w' → _ := fun w' hk => sAtoi_ok (by omega) (HL.out.on hk) ay
      have CY := Lib.hid cy
      clear cx cy ay ax hbad
      go_enter Tryd.func7, Tryd.ntmps7
      go_wp2_with (first | (go_at_call 16; refine (HCUT.out _ (by (repeat (first | exact Kept.refl _ | assumption | refine Kept.alloc ?_ _ | refine Kept.ext ?_ _ | refine Kept.drew ?_ | refine Kept.drewN ?_ _)))).mono ?_; rintro e w1 ⟨rfl, x1, rfl⟩) | (go_at_call 17; (with_reducible refine (CX.out _ (by (repeat (first | exact Kept.refl _ | assumption | refine Kept.alloc ?_ _ | refine Kept.ext ?_ _ | refine Kept.drew ?_ | refine Kept.drewN ?_ _)))).mono ?_); rintro e w1 ⟨vx2, tx2, px2, rfl, x2, rfl⟩) | (go_at_call 17; (with_reducible refine (CY.out _ (by (repeat (first | exact Kept.refl _ | assumption | refine Kept.alloc ?_ _ | refine Kept.ext ?_ _ | refine Kept.drew ?_ | refine Kept.drewN ?_ _)))).mono ?_); rintro e w1 ⟨rfl, x3, rfl⟩) | (go_at_call 5; refine (HFM.out _ _ _ (by (repeat (first | exact Kept.refl _ | assumption | refine Kept.alloc ?_ _ | refine Kept.ext ?_ _ | refine Kept.drew ?_ | refine Kept.drewN ?_ _)))).mono ?_; rintro e w1 ⟨rfl, x4, rfl⟩))
      all_goals
        refine bodyPost_ret (by simp only [results, Tryd.results7]; go_simp; rfl) rfl ?_
        exact ⟨HBAD.out, by (repeat (first | exact Kept.refl _ | assumption | refine Kept.alloc ?_ _ | refine Kept.ext ?_ _ | refine Kept.drew ?_ | refine Kept.drewN ?_ _))⟩
    · have cy : ∀ w', Kept w w' → _ := fun w' hk => sAtoi_no (by omega) (HL.out.on hk) (fun v hv => ay ⟨v, hv⟩)
      have CY := Lib.hid cy
      clear cx cy ay ax hbad
      go_enter Tryd.func7, Tryd.ntmps7
      go_wp2_with (first | (go_at_call 16; refine (HCUT.out _ (by (repeat (first | exact Kept.refl _ | assumption | refine Kept.alloc ?_ _ | refine Kept.ext ?_ _ | refine Kept.drew ?_ | refine Kept.drewN ?_ _)))).mono ?_; rintro e w1 ⟨rfl, x1, rfl⟩) | (go_at_call 17; (with_reducible refine (CX.out _ (by (repeat (first | exact Kept.refl _ | assumption | refine Kept.alloc ?_ _ | refine Kept.ext ?_ _ | refine Kept.drew ?_ | refine Kept.drewN ?_ _)))).mono ?_); rintro e w1 ⟨vx2, tx2, px2, rfl, x2, rfl⟩) | (go_at_call 17; (with_reducible refine (CY.out _ (by (repeat (first | exact Kept.refl _ | assumption | refine Kept.alloc ?_ _ | refine Kept.ext ?_ _ | refine Kept.drew ?_ | refine Kept.drewN ?_ _)))).mono ?_); rintro e w1 ⟨vx3, tx3, px3, rfl, x3, rfl⟩) | (go_at_call 5; refine (HFM.out _ _ _ (by (repeat (first | exact Kept.refl _ | assumption | refine Kept.alloc ?_ _ | refine Kept.ext ?_ _ | refine Kept.drew ?_ | refine Kept.drewN ?_ _)))).mono ?_; rintro e w1 ⟨rfl, x4, rfl⟩))
      all_goals
        refine bodyPost_ret (by simp only [results, Tryd.results7]; go_simp; rfl) rfl ?_
        exact ⟨HBAD.out, by (repeat (first | exact Kept.refl _ | assumption | refine Kept.alloc ?_ _ | refine Kept.ext ?_ _ | refine Kept.drew ?_ | refine Kept.drewN ?_ _))⟩
end Go.Proofs.YtfaeakhnlodpfaaDoor
