/- The walk of ShapeTexts: true at every mesh and text. Conditions: the library's variables hold what start-up lays. -/
import Derived.Test.YtbefphfgcbbcpaaDoorPrs
import Derived.Test.YtbefphfgcbbcpaaDoorPrr
import Derived.Test.YtbefphfgcbbcpaaDoorGsm
import Derived.Test.YtbefphfgcbbcpaaDoorGkn
namespace Go.Proofs.YtbefphfgcbbcpaaDoor
set_option linter.unusedVariables false
set_option linter.unusedSimpArgs false
open Go.ChangeShapes Go.WideShapes Go.ChangeAt Go.RowKit Go.Deep
set_option maxRecDepth 100000 in
set_option maxHeartbeats 16000000 in
theorem law_gtexts (A : Option Addr) (n cap : Nat) (P : Nat → Nat → Int) (B : Option Addr) (m cap2 : Nat) (F : Nat → Nat → Int) (s : ByteArray) (w : World) (hR : (n ≤ cap ∧ cap ≤ maxLen ∧ RowsAt w A n 3 P) ∧ (m ≤ cap2 ∧ cap2 ≤ maxLen ∧ RowsAt w B m 3 F)) (h : Ld w) :
    Calls Tryd.prog 3 #[.agg #[.slice A n cap, .slice B m cap2], .string s] w fun e w' => e = .returned (.bool true) ∧ Kept w w' := by
  obtain ⟨l, hl⟩ : ∃ l : List UInt8, s = ⟨l.toArray⟩ := ⟨s.data.toList, by simp⟩
  subst hl
  obtain ⟨⟨a1, a2, hP⟩, b1, b2, hF⟩ := hR
  unfold maxLen at a2 b2
  have hn : n ≤ 9223372036854775807 ∧ m ≤ 9223372036854775807 := by omega
  have HP := Lib.hid hP
  have HF := Lib.hid hF
  have HL := Lib.hid h
  clear hP hF h
  by_cases hl : 200 < n ∨ 300 < m
  · have hl2 : (decide (200 < n) || decide (300 < m)) = true := by simpa using hl
    have HLG := Lib.hid hl2
    clear hl hl2
    go_enter Tryd.func3, Tryd.ntmps3
    go_wp2_with fail
    refine (long_any _ _ _ _ _ _ _).mono ?_
    rintro r w1 ⟨rfl, x0, rfl⟩
    rw [HLG.out]
    go_wp2_with (first | (go_at_call 6; refine (s2known_any _).mono ?_; rintro e w1 ⟨rfl, x, rfl⟩))
    refine bodyPost_ret (by simp only [results, Tryd.results3]; go_simp; rfl) rfl ?_
    exact ⟨rfl, by (repeat (first | exact Kept.refl _ | assumption | refine Kept.alloc ?_ _ | refine Kept.ext ?_ _ | refine Kept.drew ?_ | refine Kept.drewN ?_ _))⟩
  have hl2 : (decide (200 < n) || decide (300 < m)) = false := by simpa using hl
  have HLG := Lib.hid hl2
  clear hl2 hl
  by_cases hs : l.length ≤ 9000
  · have g0 : decide ((9000 : Int) < l.length) = false := decide_eq_false (by omega)
    obtain ⟨c, n1, P1, m1, F1, hnm, hdet⟩ := parseG_det l
    have PM : ∀ w', Kept w w' → Calls Tryd.prog 9 #[.string ⟨l.toArray⟩] w' fun e w'' => ∃ A cap B cap2, e = .returned (.tuple #[.agg #[.slice A n1 cap, .slice B m1 cap2], .int .i64 c]) ∧ Kept w' w'' ∧ RowsAt w'' A n1 3 P1 ∧ RowsAt w'' B m1 3 F1 := fun w' hk => (sPar_any l w' hs (HL.out.on hk)).mono fun e w'' ⟨h1, h2⟩ => by
      obtain ⟨A, cap, B, cap2, k1, k2, k3⟩ := hdet e w'' h1
      exact ⟨A, cap, B, cap2, k1, h2, k2, k3⟩
    have PR : ∀ w', Calls Tryd.prog 10 #[.string ⟨l.toArray⟩] w' fun e w'' => ∃ A cap B cap2, e = .returned (.tuple #[.agg #[.slice A n1 cap, .slice B m1 cap2], .int .i64 c]) ∧ Kept w' w'' ∧ RowsAt w'' A n1 3 P1 ∧ RowsAt w'' B m1 3 F1 := fun w' => (r2Par_any l w' hs).mono fun e w'' ⟨h1, h2⟩ => by
      obtain ⟨A, cap, B, cap2, k1, k2, k3⟩ := hdet e w'' h1
      exact ⟨A, cap, B, cap2, k1, h2, k2, k3⟩
    have FM : ∀ w', Kept w w' → _ := fun w' hk => sFmt_any A B n cap m cap2 P F w' hn (HP.out.of hk) (HF.out.of hk) (HL.out.on hk)
    have FR : ∀ w', Kept w w' → _ := fun w' hk => r2Fmt_any A B n cap m cap2 P F w' hn (HP.out.of hk) (HF.out.of hk)
    have hn1 : n1 ≤ 9223372036854775807 ∧ m1 ≤ 9223372036854775807 := by omega
    by_cases hv : validE n P m F = 0
    · have hlen := gfmt_len hv
      have PB : ∀ w', Kept w w' → Calls Tryd.prog 9 #[.string ⟨(gfmt n P m F).toArray⟩] w' fun e w'' => ∃ A cap B cap2, e = .returned (.tuple #[.agg #[.slice A n cap, .slice B m cap2], .int .i64 0]) ∧ Kept w' w'' ∧ RowsAt w'' A n 3 P ∧ RowsAt w'' B m 3 F := fun w' hk => (sPar_any (gfmt n P m F) w' (by omega) (HL.out.on hk)).mono fun e w'' ⟨h1, h2⟩ => by
        rcases h1 with ⟨n', P', m', F', k1, k2, A, cap, B, cap2, k3, k4, k5⟩ | ⟨k1, -⟩
        · obtain ⟨rfl, rfl, e1, e2⟩ := gfmt_inj k2 hv k1
          exact ⟨A, cap, B, cap2, k3, h2, k4.congr fun i hi j hj => (e1 i hi j hj).symm, k5.congr fun i hi j hj => (e2 i hi j hj).symm⟩
        · exact absurd rfl (k1 n P m F hv)
      rw [hv, if_pos rfl] at FM FR
      obtain ⟨t, ht⟩ : ∃ t, gfmt n P m F = t := ⟨_, rfl⟩
      rw [ht] at FM FR PB hlen
      have g1 : decide ((8000 : Int) < t.length) = false := decide_eq_false (by omega)
      have HPM := Lib.hid PM
      have HPR := Lib.hid PR
      have HFM := Lib.hid FM
      have HFR := Lib.hid FR
      have HPB := Lib.hid PB
      clear PM PR FM FR PB hdet hv ht hlen
      go_enter Tryd.func3, Tryd.ntmps3
      go_wp2_with fail
      refine (long_any _ _ _ _ _ _ _).mono ?_
      rintro r w1 ⟨rfl, x0, rfl⟩
      rw [HLG.out]
      go_wp2_with (first | (go_at_call 7; refine (HFM.out _ (by (repeat (first | exact Kept.refl _ | assumption | refine Kept.alloc ?_ _ | refine Kept.ext ?_ _ | refine Kept.drew ?_ | refine Kept.drewN ?_ _)))).mono ?_; rintro e w1 ⟨rfl, x1, rfl⟩) | (go_at_call 8; refine (HFR.out _ (by (repeat (first | exact Kept.refl _ | assumption | refine Kept.alloc ?_ _ | refine Kept.ext ?_ _ | refine Kept.drew ?_ | refine Kept.drewN ?_ _)))).mono ?_; rintro e w1 ⟨rfl, x2, rfl⟩) | (go_at_call 9; (with_reducible refine (HPM.out _ (by (repeat (first | exact Kept.refl _ | assumption | refine Kept.alloc ?_ _ | refine Kept.ext ?_ _ | refine Kept.drew ?_ | refine Kept.drewN ?_ _)))).mono ?_); rintro e w1 ⟨A1, c1, B1, d1, rfl, ⟨x3, rfl⟩, r1, r2⟩; have R1 := Lib.hid r1; have R2 := Lib.hid r2; clear r1 r2) | (go_at_call 10; refine (HPR.out _).mono ?_; rintro e w1 ⟨A2, c2, B2, d2, rfl, ⟨x4, rfl⟩, r1, r2⟩; have R3 := Lib.hid r1; have R4 := Lib.hid r2; clear r1 r2))
      refine (same_any _ _ _ _ _ _ _ _ _ _ P1 F1 _ hn1 (R1.out.of (by (repeat (first | exact Kept.refl _ | assumption | refine Kept.alloc ?_ _ | refine Kept.ext ?_ _ | refine Kept.drew ?_ | refine Kept.drewN ?_ _)))) (R2.out.of (by (repeat (first | exact Kept.refl _ | assumption | refine Kept.alloc ?_ _ | refine Kept.ext ?_ _ | refine Kept.drew ?_ | refine Kept.drewN ?_ _)))) (R3.out.of (by (repeat (first | exact Kept.refl _ | assumption | refine Kept.alloc ?_ _ | refine Kept.ext ?_ _ | refine Kept.drew ?_ | refine Kept.drewN ?_ _)))) (R4.out.of (by (repeat (first | exact Kept.refl _ | assumption | refine Kept.alloc ?_ _ | refine Kept.ext ?_ _ | refine Kept.drew ?_ | refine Kept.drewN ?_ _))))).mono ?_
      rintro r w1 ⟨rfl, x5, rfl⟩
      go_wp2_with (first | (go_at_call 9; (with_reducible refine (HPB.out _ (by (repeat (first | exact Kept.refl _ | assumption | refine Kept.alloc ?_ _ | refine Kept.ext ?_ _ | refine Kept.drew ?_ | refine Kept.drewN ?_ _)))).mono ?_); rintro e w1 ⟨A5, c5, B5, d5, rfl, ⟨x6, rfl⟩, r1, r2⟩; have R5 := Lib.hid r1; have R6 := Lib.hid r2; clear r1 r2))
      refine (same_any _ _ _ _ _ _ _ _ _ _ P F _ hn (R5.out.of (by (repeat (first | exact Kept.refl _ | assumption | refine Kept.alloc ?_ _ | refine Kept.ext ?_ _ | refine Kept.drew ?_ | refine Kept.drewN ?_ _)))) (R6.out.of (by (repeat (first | exact Kept.refl _ | assumption | refine Kept.alloc ?_ _ | refine Kept.ext ?_ _ | refine Kept.drew ?_ | refine Kept.drewN ?_ _)))) (HP.out.of (by (repeat (first | exact Kept.refl _ | assumption | refine Kept.alloc ?_ _ | refine Kept.ext ?_ _ | refine Kept.drew ?_ | refine Kept.drewN ?_ _)))) (HF.out.of (by (repeat (first | exact Kept.refl _ | assumption | refine Kept.alloc ?_ _ | refine Kept.ext ?_ _ | refine Kept.drew ?_ | refine Kept.drewN ?_ _))))).mono ?_
      rintro r w1 ⟨rfl, x7, rfl⟩
      go_wp2_with (first | (go_at_call 6; refine (s2known_any _).mono ?_; rintro e w1 ⟨rfl, x, rfl⟩))
      refine bodyPost_ret (by simp only [results, Tryd.results3]; go_simp; rfl) rfl ?_
      exact ⟨rfl, by (repeat (first | exact Kept.refl _ | assumption | refine Kept.alloc ?_ _ | refine Kept.ext ?_ _ | refine Kept.drew ?_ | refine Kept.drewN ?_ _))⟩
    · obtain ⟨ev, he⟩ : ∃ e, validE n P m F = e := ⟨_, rfl⟩
      rw [if_neg hv] at FM FR
      rw [he] at hv FM FR
      have g1 : (ev == 0) = false := beq_eq_false_iff_ne.2 hv
      obtain ⟨c9, n9, P9, m9, F9, -, hdet9⟩ := parseG_det []
      have PB : ∀ w', Kept w w' → Calls Tryd.prog 9 #[.string ⟨#[]⟩] w' fun e w'' => (∃ A n cap B m cap2 c, e = .returned (.tuple #[.agg #[.slice A n cap, .slice B m cap2], .int .i64 c])) ∧ Kept w' w'' := fun w' hk => (sPar_any [] w' (by simp) (HL.out.on hk)).mono fun e w'' ⟨h1, h2⟩ => by
        obtain ⟨A, cap, B, cap2, k1, -⟩ := hdet9 e w'' h1
        exact ⟨⟨A, _, cap, B, _, cap2, _, k1⟩, h2⟩
      have HPM := Lib.hid PM
      have HPR := Lib.hid PR
      have HFM := Lib.hid FM
      have HFR := Lib.hid FR
      have HPB := Lib.hid PB
      clear PM PR FM FR PB hdet hdet9 he
      go_enter Tryd.func3, Tryd.ntmps3
      go_wp2_with fail
      refine (long_any _ _ _ _ _ _ _).mono ?_
      rintro r w1 ⟨rfl, x0, rfl⟩
      rw [HLG.out]
      go_wp2_with (first | (go_at_call 7; refine (HFM.out _ (by (repeat (first | exact Kept.refl _ | assumption | refine Kept.alloc ?_ _ | refine Kept.ext ?_ _ | refine Kept.drew ?_ | refine Kept.drewN ?_ _)))).mono ?_; rintro e w1 ⟨rfl, x1, rfl⟩) | (go_at_call 8; refine (HFR.out _ (by (repeat (first | exact Kept.refl _ | assumption | refine Kept.alloc ?_ _ | refine Kept.ext ?_ _ | refine Kept.drew ?_ | refine Kept.drewN ?_ _)))).mono ?_; rintro e w1 ⟨rfl, x2, rfl⟩) | (go_at_call 9; (with_reducible refine (HPM.out _ (by (repeat (first | exact Kept.refl _ | assumption | refine Kept.alloc ?_ _ | refine Kept.ext ?_ _ | refine Kept.drew ?_ | refine Kept.drewN ?_ _)))).mono ?_); rintro e w1 ⟨A1, c1, B1, d1, rfl, ⟨x3, rfl⟩, r1, r2⟩; have R1 := Lib.hid r1; have R2 := Lib.hid r2; clear r1 r2) | (go_at_call 10; refine (HPR.out _).mono ?_; rintro e w1 ⟨A2, c2, B2, d2, rfl, ⟨x4, rfl⟩, r1, r2⟩; have R3 := Lib.hid r1; have R4 := Lib.hid r2; clear r1 r2))
      refine (same_any _ _ _ _ _ _ _ _ _ _ P1 F1 _ hn1 (R1.out.of (by (repeat (first | exact Kept.refl _ | assumption | refine Kept.alloc ?_ _ | refine Kept.ext ?_ _ | refine Kept.drew ?_ | refine Kept.drewN ?_ _)))) (R2.out.of (by (repeat (first | exact Kept.refl _ | assumption | refine Kept.alloc ?_ _ | refine Kept.ext ?_ _ | refine Kept.drew ?_ | refine Kept.drewN ?_ _)))) (R3.out.of (by (repeat (first | exact Kept.refl _ | assumption | refine Kept.alloc ?_ _ | refine Kept.ext ?_ _ | refine Kept.drew ?_ | refine Kept.drewN ?_ _)))) (R4.out.of (by (repeat (first | exact Kept.refl _ | assumption | refine Kept.alloc ?_ _ | refine Kept.ext ?_ _ | refine Kept.drew ?_ | refine Kept.drewN ?_ _))))).mono ?_
      rintro r w1 ⟨rfl, x5, rfl⟩
      go_wp2_with (first | (go_at_call 9; (with_reducible refine (HPB.out _ (by (repeat (first | exact Kept.refl _ | assumption | refine Kept.alloc ?_ _ | refine Kept.ext ?_ _ | refine Kept.drew ?_ | refine Kept.drewN ?_ _)))).mono ?_); rintro e w1 ⟨⟨A5, n5, c5, B5, m5, d5, e5, rfl⟩, x6, rfl⟩) | (first | (go_at_call 6; refine (s2known_any _).mono ?_; rintro e w1 ⟨rfl, x, rfl⟩)))
      refine bodyPost_ret (by simp only [results, Tryd.results3]; go_simp; rfl) rfl ?_
      exact ⟨rfl, by (repeat (first | exact Kept.refl _ | assumption | refine Kept.alloc ?_ _ | refine Kept.ext ?_ _ | refine Kept.drew ?_ | refine Kept.drewN ?_ _))⟩
  · have g0 : decide ((9000 : Int) < l.length) = true := decide_eq_true (by omega)
    go_enter Tryd.func3, Tryd.ntmps3
    go_wp2_with fail
    refine (long_any _ _ _ _ _ _ _).mono ?_
    rintro r w1 ⟨rfl, x0, rfl⟩
    rw [HLG.out]
    go_wp2_with (first | (go_at_call 6; refine (s2known_any _).mono ?_; rintro e w1 ⟨rfl, x, rfl⟩))
    refine bodyPost_ret (by simp only [results, Tryd.results3]; go_simp; rfl) rfl ?_
    exact ⟨rfl, by (repeat (first | exact Kept.refl _ | assumption | refine Kept.alloc ?_ _ | refine Kept.ext ?_ _ | refine Kept.drew ?_ | refine Kept.drewN ?_ _))⟩
end Go.Proofs.YtbefphfgcbbcpaaDoor
