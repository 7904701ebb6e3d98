/- Contracts: how often a side is in the faces, and 6 times the volume, of the reference. Conditions: no more than 96 faces. Comparisons of points and panels. No conditions. -/
import Derived.Test.YtnbjealpcjfllaaGreatDoorGcv
import Derived.Test.YtnbjealpcjfllaaGreatDoorGsf
import Derived.Laws.StructEq
namespace Go.Proofs.YtnbjealpcjfllaaGreatDoor
set_option linter.unusedVariables false
set_option linter.unusedSimpArgs false
open Go.RowKit
/-- The sides of a face that are p q, of the first j. -/
def cpart (F : Nat → Nat → Int) (i : Nat) (p q : Int) : Nat → Int
  | 0 => 0
  | 1 => ind (F i 0) (F i 1) p q
  | 2 => ind (F i 0) (F i 1) p q + ind (F i 1) (F i 2) p q
  | _ => ind (F i 0) (F i 1) p q + ind (F i 1) (F i 2) p q + ind (F i 2) (F i 0) p q
theorem cpart_bd (F : Nat → Nat → Int) (i : Nat) (p q : Int) (j : Nat) : 0 ≤ cpart F i p q j ∧ cpart F i p q j ≤ 3 := by
  have a := ind_bd (F i 0) (F i 1) p q
  have b := ind_bd (F i 1) (F i 2) p q
  have c := ind_bd (F i 2) (F i 0) p q
  unfold cpart
  split <;> omega
theorem cnt_next (F : Nat → Nat → Int) (i : Nat) (p q : Int) : cnt F (i + 1) p q = cnt F i p q + cpart F i p q 3 := by
  show cnt F i p q + _ + _ + _ = _ + (_ + _ + _)
  omega
theorem ind_0 {a b p q : Int} (h : ¬ a = p) : ind a b p q = 0 := if_neg fun e => h e.1
theorem ind_1 {a b p q : Int} (h : ¬ b = q) : ind a b p q = 0 := if_neg fun e => h e.2
theorem ind_2 {a b p q : Int} (h1 : a = p) (h2 : b = q) : ind a b p q = 1 := if_pos ⟨h1, h2⟩
set_option maxRecDepth 100000 in
set_option maxHeartbeats 16000000 in
theorem r2edges_any (A B : Option Addr) (n cap m cap2 : Nat) (F : Nat → Nat → Int) (p q : Int) (w : World) (hm : m ≤ 96) (hF : RowsAt w B m 3 F) :
    Calls Tryz.prog 133 #[.agg #[.slice A n cap, .slice B m cap2], .int .i64 p, .int .i64 q] w fun r w' => r = .returned (.int .i64 (cnt F m p q)) ∧ Kept w w' := by
  have HF := Lib.hid hF
  clear hF
  go_enter Tryz.func133, Tryz.ntmps133
  go_wp2_with fail
  go_loopw [7, 8] (fun v i wr => ∃ k : Nat, k ≤ m ∧ i = .int .i64 k ∧ v = .int .i64 (cnt F k p q) ∧ (∃ y, wr = ext (w.alloc (.cells #[.slice A n cap, .slice B m cap2] 42)) y)) (fun _ i _ => m - (intOf i).toNat)
  case atStart => exact ⟨0, by omega, rfl, rfl, show Kept _ _ by (repeat (first | exact Kept.refl _ | assumption | refine Kept.alloc ?_ _ | refine Kept.ext ?_ _ | refine Kept.drew ?_ | refine Kept.drewN ?_ _))⟩
  case round =>
    obtain ⟨k, hk, rfl, rfl, y, rfl⟩ := hrel
    have bc := cnt_bd F p q k
    by_cases hlt : k < m
    · obtain ⟨fb, off, rfl, hb, f0, f1, f2⟩ := rows3 HF.out hlt
      have LB : Lower fb w.heap.size := ⟨hb⟩
      obtain ⟨z, hz⟩ : ∃ z, z = cnt F k p q := ⟨_, rfl⟩
      rw [← hz] at bc ⊢
      have HZ := Lib.hid hz
      clear hz
      go_wp2_with fail
      go_loopw [7, 9] (fun v i wr => ∃ j : Nat, j ≤ 3 ∧ i = .int .i64 j ∧ v = .int .i64 (z + cpart F k p q j) ∧ (∃ y2, wr = ext (ext (w.alloc (.cells #[.slice A n cap, .slice (some ⟨fb, off, none⟩) m cap2] 42)) y) y2)) (fun _ i _ => 3 - (intOf i).toNat)
      case atStart => exact ⟨0, by omega, rfl, by simp [cpart], show Kept _ _ by (repeat (first | exact Kept.refl _ | assumption | refine Kept.alloc ?_ _ | refine Kept.ext ?_ _ | refine Kept.drew ?_ | refine Kept.drewN ?_ _))⟩
      case round =>
        obtain ⟨j, hj, rfl, rfl, y2, rfl⟩ := hrel
        have bp := cpart_bd F k p q j
        have hj3 : j = 0 ∨ j = 1 ∨ j = 2 ∨ j = 3 := by omega
        obtain ⟨s, hs⟩ : ∃ s, s = cpart F k p q j := ⟨_, rfl⟩
        rw [← hs] at bp ⊢
        have HS := Lib.hid hs
        clear hs
        rcases hj3 with rfl | rfl | rfl | rfl
        · by_cases e1 : F k 0 = p
          · by_cases e2 : F k 1 = q
            · have HN := Lib.hid (show cpart F k p q 1 = s + 1 by rw [HS.out]; simp only [cpart]; rw [ind_2 e1 e2]; try omega)
              go_wp2_with fail
              go_roundw
              case rel => exact ⟨1, by omega, rfl, by rw [HN.out]; go_num, ⟨y2, rfl⟩⟩
              case measure => simp [intOf]
            · have HN := Lib.hid (show cpart F k p q 1 = s by rw [HS.out]; simp only [cpart]; rw [ind_1 e2]; try omega)
              have e2' : (F k 1 == q) = false := by simpa using e2
              have e2'' : decide (F k 1 = q) = false := by simpa using e2
              go_wp2_with fail
              go_roundw
              case rel => exact ⟨1, by omega, rfl, by rw [HN.out], ⟨y2, rfl⟩⟩
              case measure => simp [intOf]
          · have HN := Lib.hid (show cpart F k p q 1 = s by rw [HS.out]; simp only [cpart]; rw [ind_0 e1]; try omega)
            have e1' : (F k 0 == p) = false := by simpa using e1
            have e1'' : decide (F k 0 = p) = false := by simpa using e1
            go_wp2_with fail
            go_roundw
            case rel => exact ⟨1, by omega, rfl, by rw [HN.out], ⟨y2, rfl⟩⟩
            case measure => simp [intOf]
        · by_cases e1 : F k 1 = p
          · by_cases e2 : F k 2 = q
            · have HN := Lib.hid (show cpart F k p q 2 = s + 1 by rw [HS.out]; simp only [cpart]; rw [ind_2 e1 e2]; try omega)
              go_wp2_with fail
              go_roundw
              case rel => exact ⟨2, by omega, rfl, by rw [HN.out]; go_num, ⟨y2, rfl⟩⟩
              case measure => simp [intOf]
            · have HN := Lib.hid (show cpart F k p q 2 = s by rw [HS.out]; simp only [cpart]; rw [ind_1 e2]; try omega)
              have e2' : (F k 2 == q) = false := by simpa using e2
              have e2'' : decide (F k 2 = q) = false := by simpa using e2
              go_wp2_with fail
              go_roundw
              case rel => exact ⟨2, by omega, rfl, by rw [HN.out], ⟨y2, rfl⟩⟩
              case measure => simp [intOf]
          · have HN := Lib.hid (show cpart F k p q 2 = s by rw [HS.out]; simp only [cpart]; rw [ind_0 e1]; try omega)
            have e1' : (F k 1 == p) = false := by simpa using e1
            have e1'' : decide (F k 1 = p) = false := by simpa using e1
            go_wp2_with fail
            go_roundw
            case rel => exact ⟨2, by omega, rfl, by rw [HN.out], ⟨y2, rfl⟩⟩
            case measure => simp [intOf]
        · by_cases e1 : F k 2 = p
          · by_cases e2 : F k 0 = q
            · have HN := Lib.hid (show cpart F k p q 3 = s + 1 by rw [HS.out]; simp only [cpart]; rw [ind_2 e1 e2]; try omega)
              go_wp2_with fail
              go_roundw
              case rel => exact ⟨3, by omega, rfl, by rw [HN.out]; go_num, ⟨y2, rfl⟩⟩
              case measure => simp [intOf]
            · have HN := Lib.hid (show cpart F k p q 3 = s by rw [HS.out]; simp only [cpart]; rw [ind_1 e2]; try omega)
              have e2' : (F k 0 == q) = false := by simpa using e2
              have e2'' : decide (F k 0 = q) = false := by simpa using e2
              go_wp2_with fail
              go_roundw
              case rel => exact ⟨3, by omega, rfl, by rw [HN.out], ⟨y2, rfl⟩⟩
              case measure => simp [intOf]
          · have HN := Lib.hid (show cpart F k p q 3 = s by rw [HS.out]; simp only [cpart]; rw [ind_0 e1]; try omega)
            have e1' : (F k 2 == p) = false := by simpa using e1
            have e1'' : decide (F k 2 = p) = false := by simpa using e1
            go_wp2_with fail
            go_roundw
            case rel => exact ⟨3, by omega, rfl, by rw [HN.out], ⟨y2, rfl⟩⟩
            case measure => simp [intOf]
        · have HN := Lib.hid (show cnt F (k + 1) p q = z + s by rw [HS.out, HZ.out]; exact cnt_next F k p q)
          go_wp2_with fail
          go_roundw
          case rel => exact ⟨k + 1, by omega, by go_num, by rw [HN.out], show Kept _ _ by (repeat (first | exact Kept.refl _ | assumption | refine Kept.alloc ?_ _ | refine Kept.ext ?_ _ | refine Kept.drew ?_ | refine Kept.drewN ?_ _))⟩
          case measure => simp [intOf]; omega
    · obtain rfl : k = m := by omega
      go_wp2_with fail
      go_ret
      exact ⟨rfl, by (repeat (first | exact Kept.refl _ | assumption | refine Kept.alloc ?_ _ | refine Kept.ext ?_ _ | refine Kept.drew ?_ | refine Kept.drewN ?_ _))⟩
set_option maxRecDepth 100000 in
set_option maxHeartbeats 16000000 in
theorem r2volume_any (A B : Option Addr) (n cap m cap2 : Nat) (P F : Nat → Nat → Int) (w : World) (hm : m ≤ 96) (hn : n ≤ 9223372036854775807) (hb : ptsBad P n = false) (hc : ∀ i, i < m → cornB n F i = true) (hP : RowsAt w A n 3 P) (hF : RowsAt w B m 3 F) :
    Calls Tryz.prog 134 #[.agg #[.slice A n cap, .slice B m cap2]] w fun r w' => r = .returned (.int .i64 (vol P F m)) ∧ Kept w w' := by
  have HP := Lib.hid hP
  have HF := Lib.hid hF
  have HC := Lib.hid hc
  clear hP hF hc
  go_enter Tryz.func134, Tryz.ntmps134
  go_wp2_with fail
  go_loopw [3, 4] (fun v i wr => ∃ k : Nat, k ≤ m ∧ i = .int .i64 k ∧ v = .int .i64 (vol P F k) ∧ (∃ y, wr = ext (w.alloc (.cells #[.slice A n cap, .slice B m cap2] 42)) y)) (fun _ i _ => m - (intOf i).toNat)
  case atStart => exact ⟨0, by omega, rfl, rfl, show Kept _ _ by (repeat (first | exact Kept.refl _ | assumption | refine Kept.alloc ?_ _ | refine Kept.ext ?_ _ | refine Kept.drew ?_ | refine Kept.drewN ?_ _))⟩
  case round =>
    obtain ⟨k, hk, rfl, rfl, y, rfl⟩ := hrel
    by_cases hlt : k < m
    · have hcB := HC.out k hlt
      obtain ⟨c0, c1, c2⟩ := cornB_true hcB
      have b0 := co_bd hb c0
      have b1 := co_bd hb c1
      have b2 := co_bd hb c2
      have b3 := prF_bd hb hcB
      have b4 := vol_bd hb HC.out k hk
      clear c0 c1 c2
      obtain ⟨v, hv⟩ : ∃ v, v = vol P F k := ⟨_, rfl⟩
      have HN := Lib.hid (show vol P F (k + 1) = v + prF P F k by rw [hv]; rfl)
      rw [← hv] at b4 ⊢
      clear hv
      unfold prF pr9 at b3 HN
      have k0 := cross_key (show -512 ≤ co P F k 0 0 ∧ co P F k 0 0 ≤ 512 by omega) (show -512 ≤ co P F k 1 1 ∧ co P F k 1 1 ≤ 512 by omega) (show -512 ≤ co P F k 2 2 ∧ co P F k 2 2 ≤ 512 by omega) (show -512 ≤ co P F k 1 2 ∧ co P F k 1 2 ≤ 512 by omega) (show -512 ≤ co P F k 2 1 ∧ co P F k 2 1 ≤ 512 by omega)
      have k1 := cross_key (show -512 ≤ co P F k 0 1 ∧ co P F k 0 1 ≤ 512 by omega) (show -512 ≤ co P F k 1 2 ∧ co P F k 1 2 ≤ 512 by omega) (show -512 ≤ co P F k 2 0 ∧ co P F k 2 0 ≤ 512 by omega) (show -512 ≤ co P F k 1 0 ∧ co P F k 1 0 ≤ 512 by omega) (show -512 ≤ co P F k 2 2 ∧ co P F k 2 2 ≤ 512 by omega)
      have k2 := cross_key (show -512 ≤ co P F k 0 2 ∧ co P F k 0 2 ≤ 512 by omega) (show -512 ≤ co P F k 1 0 ∧ co P F k 1 0 ≤ 512 by omega) (show -512 ≤ co P F k 2 1 ∧ co P F k 2 1 ≤ 512 by omega) (show -512 ≤ co P F k 1 1 ∧ co P F k 1 1 ≤ 512 by omega) (show -512 ≤ co P F k 2 0 ∧ co P F k 2 0 ≤ 512 by omega)
      go_wp2_with (go_at_call 132; refine (r2corners_any _ _ _ _ _ _ P F k _ hcB (by omega) (HP.out.of (by (repeat (first | exact Kept.refl _ | assumption | refine Kept.alloc ?_ _ | refine Kept.ext ?_ _ | refine Kept.drew ?_ | refine Kept.drewN ?_ _)))) (HF.out.of (by (repeat (first | exact Kept.refl _ | assumption | refine Kept.alloc ?_ _ | refine Kept.ext ?_ _ | refine Kept.drew ?_ | refine Kept.drewN ?_ _))))).mono ?_; rintro e w1 ⟨rfl, x, rfl⟩; unfold faceV)
      ((first | (with_reducible refine wp_region_tail2 10 (by kernel_rfl) (by kernel_rfl) ?_) | refine wp_region_tail 10 (by kernel_rfl) (by kernel_rfl) ?_); simp only [List.take_succ_cons, List.take_zero, List.drop_succ_cons, List.drop_zero]; (repeat (go_big_quiet_step (first | (go_at_call 187; exact Calls.kept_of (r2cross_any _ _ _ _ _ _ _ (by omega))) | (go_at_call 189; exact Calls.kept_of (r2dot_any _ _ _ _ _ _ _ (by omega)))))); refine wpQuiet_nil ?_; intro x)
      go_wp2_with fail
      go_roundw
      case rel => exact ⟨k + 1, by omega, by go_num, by rw [HN.out], show Kept _ _ by (repeat (first | exact Kept.refl _ | assumption | refine Kept.alloc ?_ _ | refine Kept.ext ?_ _ | refine Kept.drew ?_ | refine Kept.drewN ?_ _))⟩
      case measure => simp [intOf]; omega
    · obtain rfl : k = m := by omega
      go_wp2_with fail
      go_ret
      exact ⟨rfl, by (repeat (first | exact Kept.refl _ | assumption | refine Kept.alloc ?_ _ | refine Kept.ext ?_ _ | refine Kept.drew ?_ | refine Kept.drewN ?_ _))⟩
end Go.Proofs.YtnbjealpcjfllaaGreatDoor
namespace Go.Proofs.YtnbjealpcjfllaaGreatDoor
set_option linter.unusedVariables false
set_option linter.unusedSimpArgs false
open Go.RowKit
theorem stoodP : Tryz.prog.stoodInHeld 136 = false := by kernel_rfl
theorem stoodPn : Tryz.prog.stoodInHeld 207 = false := by kernel_rfl
@[go_sem] theorem eq_pt (d : Nat) (a0 a1 a2 b0 b1 b2 : Int) (w : World) : (Op.equalIn (d + 1 + 1) 136 (.agg #[.int .i64 a0, .int .i64 a1, .int .i64 a2]) (.agg #[.int .i64 b0, .int .i64 b1, .int .i64 b2])).run Tryz.prog w = .ok (a0 == b0 && (a1 == b1 && a2 == b2)) w := by
  cases h0 : a0 == b0 <;> cases h1 : a1 == b1 <;> cases h2 : a2 == b2 <;> go_simp
@[go_sem] theorem eq_pn (d : Nat) (a0 a1 a2 a3 a4 a5 a6 a7 a8 b0 b1 b2 b3 b4 b5 b6 b7 b8 : Int) (w : World) : (Op.equalIn (d + 1 + 1 + 1) 207 (.agg #[.int .i64 a0, .int .i64 a1, .int .i64 a2, .int .i64 a3, .int .i64 a4, .int .i64 a5, .int .i64 a6, .int .i64 a7, .int .i64 a8]) (.agg #[.int .i64 b0, .int .i64 b1, .int .i64 b2, .int .i64 b3, .int .i64 b4, .int .i64 b5, .int .i64 b6, .int .i64 b7, .int .i64 b8])).run Tryz.prog w = .ok ((a0 == b0 && (a1 == b1 && a2 == b2)) && ((a3 == b3 && (a4 == b4 && a5 == b5)) && (a6 == b6 && (a7 == b7 && a8 == b8)))) w := by
  cases h0 : a0 == b0 && (a1 == b1 && a2 == b2) <;> cases h1 : a3 == b3 && (a4 == b4 && a5 == b5) <;> cases h2 : a6 == b6 && (a7 == b7 && a8 == b8) <;> (go_simp; try (intros; simp_all))
end Go.Proofs.YtnbjealpcjfllaaGreatDoor
