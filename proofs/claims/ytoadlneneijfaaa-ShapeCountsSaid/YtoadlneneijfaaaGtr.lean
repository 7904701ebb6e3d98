/- Contracts: edges, parts and handles, of the reference. Conditions: the lists' lengths are ints. -/
import Derived.Test.YtoadlneneijfaaaGtp
import Derived.Test.YtoadlneneijfaaaGrv
namespace Go.Proofs.Ytoadlneneijfaaa
set_option linter.unusedVariables false
set_option linter.unusedSimpArgs false
open Go.RowKit  Go.Maps
theorem rowC1_next (f : Nat → Nat → Int) (k : Nat) : rowC 1 f (k + 1) = rowC 1 f k ++ [.int .i64 (f k 0)] := by
  show rowC 1 f k ++ _ = _
  simp
theorem rowC_eq {f g : Nat → Nat → Int} {c : Nat} : ∀ {k : Nat}, (∀ i, i < k → ∀ j, j < c → f i j = g i j) → rowC c f k = rowC c g k
  | 0, _ => rfl
  | k + 1, h => by
    show rowC c f k ++ _ = rowC c g k ++ _
    rw [rowC_eq (k := k) fun i hi => h i (by omega)]
    congr 1
    refine List.map_congr_left fun j hj => ?_
    rw [h k (by omega) j (List.mem_range.1 hj)]
set_option maxRecDepth 100000 in
set_option maxHeartbeats 4000000 in
theorem r2parts_any (A B : Option Addr) (n cap m cap2 : Nat) (F : Nat → Nat → Int) (al : Nat → Nat) (p : Nat) (w : World) (hm : m ≤ 96) (hF : RowsAt w B m 3 F) (ho : Oth F al m) (hp : GrN (fun _ => True) (adjF al m) m p) :
    Calls Try.prog 103 #[.agg #[.slice A n cap, .slice B m cap2]] w fun r w' => r = .returned (.int .i64 (p : Int)) ∧ Kept w w' := by
  have HF := Lib.hid hF
  have HO := Lib.hid ho
  have HP := Lib.hid hp
  clear hF ho hp
  obtain ⟨j0, hi, hz0, hz1, hz2⟩ := info_parts infoInt
  have HJ := Lib.hid (And.intro hi (And.intro hz0 (And.intro hz1 hz2)))
  clear hi hz0 hz1 hz2
  go_enter Try.func103, Try.ntmps103
  go_wp2_with fail
  go_loopw [3, 4] (fun v i wr => ∃ (k : Nat), k ≤ m ∧ i = .int .i64 k ∧ Kept (w.alloc (.cells #[.slice A n cap, .slice B m cap2] 25)) wr ∧ wr.ownsRow (w.heap.size + 1) 3 1 v k (rowC 1 (fun j _ => (j : Int)) k)) (fun _ i _ => m - (intOf i).toNat)
  case atStart => exact ⟨0, by omega, rfl, by (repeat (first | exact Kept.refl _ | assumption | refine Kept.alloc ?_ _ | refine Kept.ext ?_ _ | refine Kept.drew ?_ | refine Kept.drewN ?_ _)), World.ownsRow_nil _ _ _ _⟩
  case round =>
    obtain ⟨k, hk, rfl, hkw, hO⟩ := hrel
    obtain ⟨A2, cp2, rfl, hcp⟩ := own_sl hO
    have kb : wr.cell? ⟨w.heap.size, 1, none⟩ = some (.slice B m cap2) := kept_cell (w := (w.alloc (.cells #[.slice A n cap, .slice B m cap2] 25))) (by go_simp) hkw
    have kb0 : wr.cell? ⟨w.heap.size, 0, none⟩ = some (.slice A n cap) := kept_cell (w := (w.alloc (.cells #[.slice A n cap, .slice B m cap2] 25))) (by go_simp) hkw
    have LBX : Lower w.heap.size wr.heap.size := ⟨cell_lt kb⟩
    have HKW := Lib.hid hkw
    have HOw := Lib.hid hO
    by_cases hlt : k < m
    · have g1 : decide ((k : Int) < m) = true := decide_eq_true (by omega)
      clear hkw hO
      go_wp2_with (at_builtin; refine wpList_append_lies _ rfl _ _ _ rfl (w.heap.size + 1) 3 j0 _ 1 8 Try.underlying97 HJ.out.1 HJ.out.2.1 HJ.out.2.2.1 HJ.out.2.2.2 rfl (by omega) _ k (rowC 1 (fun j _ => (j : Int)) k) rfl (owns_kept HOw.out (by (repeat (first | exact Kept.refl _ | assumption | refine Kept.alloc ?_ _ | refine Kept.ext ?_ _ | refine Kept.drew ?_ | refine Kept.drewN ?_ _)))) _ 1 1 [.int .i64 (k : Int)] rfl rfl (World.news_of_block (alloc_now _ _ _)) (by simp [Value.oneCell']) (by omega) (by unfold maxLen; omega) (by omega) (by have := kept_size2 HKW.out; simp at this ⊢; omega) _ rfl ?_; intro g cp w2 hown2 hg2 hat hlt2)
      have hk2 := kept_grown (W := (w.alloc (.cells #[.slice A n cap, .slice B m cap2] 25))) (HKW.out.trans (by (repeat (first | exact Kept.refl _ | assumption | refine Kept.alloc ?_ _ | refine Kept.ext ?_ _ | refine Kept.drew ?_ | refine Kept.drewN ?_ _)))) (owns_kept HOw.out (by (repeat (first | exact Kept.refl _ | assumption | refine Kept.alloc ?_ _ | refine Kept.ext ?_ _ | refine Kept.drew ?_ | refine Kept.drewN ?_ _)))) (by simp) hg2
      go_roundw
      case rel => exact ⟨k + 1, by omega, by go_num, hk2, by rw [rowC1_next]; exact hown2⟩
      case measure => simp [intOf]; omega
    · obtain rfl : k = m := by omega
      have g1 : decide ((k : Int) < k) = false := decide_eq_false (by omega)
      have hC := rows_of_owns (f := fun j _ => (j : Int)) hO (fun i hi j _ => by unfold I64; omega)
      have hk0 : Kept w wr := (by (repeat (first | exact Kept.refl _ | assumption | refine Kept.alloc ?_ _ | refine Kept.ext ?_ _ | refine Kept.drew ?_ | refine Kept.drewN ?_ _)) : Kept w (w.alloc (.cells #[.slice A n cap, .slice B k cap2] 25))).trans hkw
      have HC := Lib.hid hC
      have HK0 := Lib.hid hk0
      clear hkw hO hC hk0
      go_wp2_with fail
      refine (r2groups_any _ _ _ _ _ _ _ _ _ F (fun k => k) (-1) _ hm hm (HF.out.of (HK0.out.trans (by (repeat (first | exact Kept.refl _ | assumption | refine Kept.alloc ?_ _ | refine Kept.ext ?_ _ | refine Kept.drew ?_ | refine Kept.drewN ?_ _))))) (HC.out.of (by (repeat (first | exact Kept.refl _ | assumption | refine Kept.alloc ?_ _ | refine Kept.ext ?_ _ | refine Kept.drew ?_ | refine Kept.drewN ?_ _)))) (fun j hj => hj)).mono ?_
      rintro e w1 ⟨c, rfl, ⟨x, rfl⟩, hc⟩
      have := (parts_list HO.out hc).uniq HP.out
      subst this
      clear hc
      go_wp2_with fail
      refine bodyPost_ret (by simp only [results, Try.results103]; go_simp; rfl) rfl ?_
      exact ⟨rfl, HK0.out.trans (by (repeat (first | exact Kept.refl _ | assumption | refine Kept.alloc ?_ _ | refine Kept.ext ?_ _ | refine Kept.drew ?_ | refine Kept.drewN ?_ _)))⟩
set_option maxRecDepth 100000 in
theorem r2Edges_any (A B : Option Addr) (n cap m cap2 : Nat) (P F : Nat → Nat → Int) (w : World) (hn : n ≤ 9223372036854775807 ∧ m ≤ 9223372036854775807) (hP : RowsAt w A n 3 P) (hF : RowsAt w B m 3 F) :
    Calls Try.prog 47 #[.agg #[.slice A n cap, .slice B m cap2]] w fun r w' => r = .returned (.tuple #[.int .i64 (edgeV n P m F), .int .i64 (validE n P m F)]) ∧ Kept w w' := by
  have HP := Lib.hid hP
  have HF := Lib.hid hF
  clear hP hF
  unfold edgeV
  obtain ⟨e, he⟩ : ∃ e, validE n P m F = e := ⟨_, rfl⟩
  have HE := Lib.hid he
  rw [he]
  by_cases h0 : e = 0
  · subst h0
    have hsz := valid_sz he
    clear he
    go_enter Try.func47, Try.ntmps47
    go_wp2_with (first | (go_at_call 31; refine (r2validate_any _ _ _ _ _ _ P F _ hn (HP.out.of (by (repeat (first | exact Kept.refl _ | assumption | refine Kept.alloc ?_ _ | refine Kept.ext ?_ _ | refine Kept.drew ?_ | refine Kept.drewN ?_ _)))) (HF.out.of (by (repeat (first | exact Kept.refl _ | assumption | refine Kept.alloc ?_ _ | refine Kept.ext ?_ _ | refine Kept.drew ?_ | refine Kept.drewN ?_ _))))).mono ?_; rintro e w1 ⟨rfl, x, rfl⟩; rw [HE.out]))
    refine bodyPost_ret (by simp only [results, Try.results47]; go_simp; rfl) rfl ?_
    exact ⟨ret_int2 (by simp) rfl, by (repeat (first | exact Kept.refl _ | assumption | refine Kept.alloc ?_ _ | refine Kept.ext ?_ _ | refine Kept.drew ?_ | refine Kept.drewN ?_ _))⟩
  · have h0b : (e == 0) = false := by simpa using h0
    rw [if_neg h0]
    clear he
    go_enter Try.func47, Try.ntmps47
    go_wp2_with (first | (go_at_call 31; refine (r2validate_any _ _ _ _ _ _ P F _ hn (HP.out.of (by (repeat (first | exact Kept.refl _ | assumption | refine Kept.alloc ?_ _ | refine Kept.ext ?_ _ | refine Kept.drew ?_ | refine Kept.drewN ?_ _)))) (HF.out.of (by (repeat (first | exact Kept.refl _ | assumption | refine Kept.alloc ?_ _ | refine Kept.ext ?_ _ | refine Kept.drew ?_ | refine Kept.drewN ?_ _))))).mono ?_; rintro e w1 ⟨rfl, x, rfl⟩; rw [HE.out]))
    refine bodyPost_ret (by simp only [results, Try.results47]; go_simp; rfl) rfl ?_
    exact ⟨rfl, by (repeat (first | exact Kept.refl _ | assumption | refine Kept.alloc ?_ _ | refine Kept.ext ?_ _ | refine Kept.drew ?_ | refine Kept.drewN ?_ _))⟩
set_option maxRecDepth 100000 in
theorem r2Parts_any (A B : Option Addr) (n cap m cap2 : Nat) (P F : Nat → Nat → Int) (p d : Nat) (w : World) (hn : n ≤ 9223372036854775807 ∧ m ≤ 9223372036854775807) (hP : RowsAt w A n 3 P) (hF : RowsAt w B m 3 F) (hT : Top n P m F p d) :
    Calls Try.prog 49 #[.agg #[.slice A n cap, .slice B m cap2]] w fun r w' => r = .returned (.tuple #[.int .i64 (numV n P m F p), .int .i64 (validE n P m F)]) ∧ Kept w w' := by
  have HP := Lib.hid hP
  have HF := Lib.hid hF
  unfold Top at hT
  clear hP hF
  unfold numV
  obtain ⟨e, he⟩ : ∃ e, validE n P m F = e := ⟨_, rfl⟩
  have HE := Lib.hid he
  rw [he]
  rw [he] at hT
  by_cases h0 : e = 0
  · subst h0
    have hsz := valid_sz he
    obtain ⟨al, c, ho, hg, -⟩ := hT rfl
    have HO := Lib.hid ho
    have HG := Lib.hid hg
    clear he hT ho hg
    go_enter Try.func49, Try.ntmps49
    go_wp2_with (first | (go_at_call 31; refine (r2validate_any _ _ _ _ _ _ P F _ hn (HP.out.of (by (repeat (first | exact Kept.refl _ | assumption | refine Kept.alloc ?_ _ | refine Kept.ext ?_ _ | refine Kept.drew ?_ | refine Kept.drewN ?_ _)))) (HF.out.of (by (repeat (first | exact Kept.refl _ | assumption | refine Kept.alloc ?_ _ | refine Kept.ext ?_ _ | refine Kept.drew ?_ | refine Kept.drewN ?_ _))))).mono ?_; rintro e w1 ⟨rfl, x, rfl⟩; rw [HE.out]) | (go_at_call 103; refine (r2parts_any _ _ _ _ _ _ F al p _ (by omega) (HF.out.of (by (repeat (first | exact Kept.refl _ | assumption | refine Kept.alloc ?_ _ | refine Kept.ext ?_ _ | refine Kept.drew ?_ | refine Kept.drewN ?_ _)))) HO.out HG.out).mono ?_; rintro e w1 ⟨rfl, x2, rfl⟩))
    refine bodyPost_ret (by simp only [results, Try.results49]; go_simp; rfl) rfl ?_
    exact ⟨rfl, by (repeat (first | exact Kept.refl _ | assumption | refine Kept.alloc ?_ _ | refine Kept.ext ?_ _ | refine Kept.drew ?_ | refine Kept.drewN ?_ _))⟩
  · have h0b : (e == 0) = false := by simpa using h0
    rw [if_neg h0]
    clear he hT
    go_enter Try.func49, Try.ntmps49
    go_wp2_with (first | (go_at_call 31; refine (r2validate_any _ _ _ _ _ _ P F _ hn (HP.out.of (by (repeat (first | exact Kept.refl _ | assumption | refine Kept.alloc ?_ _ | refine Kept.ext ?_ _ | refine Kept.drew ?_ | refine Kept.drewN ?_ _)))) (HF.out.of (by (repeat (first | exact Kept.refl _ | assumption | refine Kept.alloc ?_ _ | refine Kept.ext ?_ _ | refine Kept.drew ?_ | refine Kept.drewN ?_ _))))).mono ?_; rintro e w1 ⟨rfl, x, rfl⟩; rw [HE.out]))
    refine bodyPost_ret (by simp only [results, Try.results49]; go_simp; rfl) rfl ?_
    exact ⟨rfl, by (repeat (first | exact Kept.refl _ | assumption | refine Kept.alloc ?_ _ | refine Kept.ext ?_ _ | refine Kept.drew ?_ | refine Kept.drewN ?_ _))⟩
set_option maxRecDepth 100000 in
set_option maxHeartbeats 8000000 in
theorem r2Handles_any (A B : Option Addr) (n cap m cap2 : Nat) (P F : Nat → Nat → Int) (p d : Nat) (w : World) (hn : n ≤ 9223372036854775807 ∧ m ≤ 9223372036854775807) (hP : RowsAt w A n 3 P) (hF : RowsAt w B m 3 F) (hT : Top n P m F p d) :
    Calls Try.prog 51 #[.agg #[.slice A n cap, .slice B m cap2]] w fun r w' => r = .returned (.tuple #[.int .i64 (numV n P m F d), .int .i64 (validE n P m F)]) ∧ Kept w w' := by
  have HP := Lib.hid hP
  have HF := Lib.hid hF
  unfold Top at hT
  clear hP hF
  obtain ⟨j0, hi, hz0, hz1, hz2⟩ := info_parts infoInt
  have HJ := Lib.hid (And.intro hi (And.intro hz0 (And.intro hz1 hz2)))
  clear hi hz0 hz1 hz2
  unfold numV
  obtain ⟨e, he⟩ : ∃ e, validE n P m F = e := ⟨_, rfl⟩
  have HE := Lib.hid he
  rw [he]
  rw [he] at hT
  by_cases h0 : e = 0
  · subst h0
    have hsz := valid_sz he
    obtain ⟨al, c, ho, hg, hf, heq, hpm, hcm⟩ := hT rfl
    have HO := Lib.hid ho
    have HG := Lib.hid hg
    have HFN := Lib.hid hf
    clear he hT ho hg hf
    go_enter Try.func51, Try.ntmps51
    go_wp2_with (first | (go_at_call 31; refine (r2validate_any _ _ _ _ _ _ P F _ hn (HP.out.of (by (repeat (first | exact Kept.refl _ | assumption | refine Kept.alloc ?_ _ | refine Kept.ext ?_ _ | refine Kept.drew ?_ | refine Kept.drewN ?_ _)))) (HF.out.of (by (repeat (first | exact Kept.refl _ | assumption | refine Kept.alloc ?_ _ | refine Kept.ext ?_ _ | refine Kept.drew ?_ | refine Kept.drewN ?_ _))))).mono ?_; rintro e w1 ⟨rfl, x, rfl⟩; rw [HE.out]))
    go_loopw [5, 6] (fun t i wr => ∃ (k : Nat) (fan : Nat → Nat), k ≤ n ∧ i = .int .i64 k ∧ t = .int .i64 ((sumN fan k : Int) - k) ∧ (∀ v, v < k → GrN (selV F v) (adjV F al m v) m (fan v)) ∧ (∃ y, wr = ext (w.alloc (.cells #[.slice A n cap, .slice B m cap2] 25)) y)) (fun _ i _ => n - (intOf i).toNat)
    case atStart => exact ⟨0, fun _ => 0, by omega, rfl, rfl, fun v h => absurd h (by omega), show Kept _ _ by (repeat (first | exact Kept.refl _ | assumption | refine Kept.alloc ?_ _ | refine Kept.ext ?_ _ | refine Kept.drew ?_ | refine Kept.drewN ?_ _))⟩
    case round =>
      obtain ⟨k, fan, hk, rfl, rfl, hfan, y, rfl⟩ := hrel
      have hb := sumN_le (n := k) (m := m) fun v hv => (hfan v hv).le
      have hb2 : k * m ≤ 64 * 96 := Nat.mul_le_mul (by omega) (by omega)
      obtain ⟨s, hs⟩ : ∃ s, sumN fan k = s := ⟨_, rfl⟩
      have HS := Lib.hid hs
      have HFA := Lib.hid hfan
      rw [hs] at hb ⊢
      clear hs hfan
      by_cases hlt : k < n
      · have g1 : decide ((k : Int) < n) = true := decide_eq_true (by omega)
        go_wp2_with fail
        go_loopw [7, 8] (fun v i wq => ∃ (q : Nat), q ≤ m ∧ i = .int .i64 q ∧ Kept (ext (w.alloc (.cells #[.slice A n cap, .slice B m cap2] 25)) y) wq ∧ wq.ownsRow (adv (w.heap.size + 1) y.obs.size) 3 1 v (cnB (selB F k) q) (rowC 1 (fun j _ => (fsel (selB F k) q j : Int)) (cnB (selB F k) q))) (fun _ i _ => m - (intOf i).toNat)
        case atStart => exact ⟨0, by omega, rfl, by (repeat (first | exact Kept.refl _ | assumption | refine Kept.alloc ?_ _ | refine Kept.ext ?_ _ | refine Kept.drew ?_ | refine Kept.drewN ?_ _)), World.ownsRow_nil _ _ _ _⟩
        case round =>
          obtain ⟨q, hq, rfl, hkw, hO⟩ := hrel
          have hcq := cnB_le (selB F k) q
          obtain ⟨A2, cp2, rfl, hcp⟩ := own_sl hO
          have hkx : Kept (w.alloc (.cells #[.slice A n cap, .slice B m cap2] 25)) wr := (by (repeat (first | exact Kept.refl _ | assumption | refine Kept.alloc ?_ _ | refine Kept.ext ?_ _ | refine Kept.drew ?_ | refine Kept.drewN ?_ _)) : Kept (w.alloc (.cells #[.slice A n cap, .slice B m cap2] 25)) (ext (w.alloc (.cells #[.slice A n cap, .slice B m cap2] 25)) y)).trans hkw
          have kb : wr.cell? ⟨w.heap.size, 1, none⟩ = some (.slice B m cap2) := kept_cell (w := (w.alloc (.cells #[.slice A n cap, .slice B m cap2] 25))) (by go_simp) hkx
          have kb0 : wr.cell? ⟨w.heap.size, 0, none⟩ = some (.slice A n cap) := kept_cell (w := (w.alloc (.cells #[.slice A n cap, .slice B m cap2] 25))) (by go_simp) hkx
          have hk0 : Kept w wr := (by (repeat (first | exact Kept.refl _ | assumption | refine Kept.alloc ?_ _ | refine Kept.ext ?_ _ | refine Kept.drew ?_ | refine Kept.drewN ?_ _)) : Kept w (w.alloc (.cells #[.slice A n cap, .slice B m cap2] 25))).trans hkx
          have LBX : Lower w.heap.size wr.heap.size := ⟨cell_lt kb⟩
          have HKW := Lib.hid hkw
          have HOw := Lib.hid hO
          by_cases hlt2 : q < m
          · have g2 : decide ((q : Int) < m) = true := decide_eq_true (by omega)
            obtain ⟨fb, off, rfl, hfb, f0, f1, f2⟩ := rows3 (HF.out.of hk0) hlt2
            have LB : Lower fb wr.heap.size := ⟨hfb⟩
            clear hkw hO hkx hk0 hfb
            by_cases e0 : F q 0 = (k : Int)
            case pos =>
              have HSB := Lib.hid (show selB F k q = true by unfold selB; simp [e0])
              have e0b : (F q 0 == (k : Int)) = true := by simpa using e0
              have e0c : decide (F q 0 = (k : Int)) = true := by simpa using e0
              clear e0
              go_wp2_with (at_builtin; refine wpList_append_lies _ rfl _ _ _ rfl (adv (w.heap.size + 1) y.obs.size) 3 j0 _ 1 8 Try.underlying97 HJ.out.1 HJ.out.2.1 HJ.out.2.2.1 HJ.out.2.2.2 rfl (by omega) _ (cnB (selB F k) q) (rowC 1 (fun j _ => (fsel (selB F k) q j : Int)) (cnB (selB F k) q)) rfl (owns_kept HOw.out (by (repeat (first | exact Kept.refl _ | assumption | refine Kept.alloc ?_ _ | refine Kept.ext ?_ _ | refine Kept.drew ?_ | refine Kept.drewN ?_ _)))) _ 1 1 [.int .i64 (q : Int)] rfl rfl (World.news_of_block (alloc_now _ _ _)) (by simp [Value.oneCell']) (by omega) (by unfold maxLen; omega) (by omega) (by have := kept_size2 HKW.out; simp at this ⊢; omega) _ rfl ?_; intro g cp w2 hown2 hg2 hat hlt2)
              have hk2 := kept_grown (W := (ext (w.alloc (.cells #[.slice A n cap, .slice (some ⟨fb, off, none⟩) m cap2] 25)) y)) (HKW.out.trans (by (repeat (first | exact Kept.refl _ | assumption | refine Kept.alloc ?_ _ | refine Kept.ext ?_ _ | refine Kept.drew ?_ | refine Kept.drewN ?_ _)))) (owns_kept HOw.out (by (repeat (first | exact Kept.refl _ | assumption | refine Kept.alloc ?_ _ | refine Kept.ext ?_ _ | refine Kept.drew ?_ | refine Kept.drewN ?_ _)))) (by simp) hg2
              go_roundw
              case rel => exact ⟨q + 1, by omega, by go_num, hk2, by
                rw [show cnB (selB F k) (q + 1) = cnB (selB F k) q + 1 by show _ + _ = _; rw [if_pos HSB.out], rowC1_next, fsel_new HSB.out, rowC_eq (g := fun j _ => (fsel (selB F k) q j : Int)) fun j hj _ _ => by rw [fsel_stay hj]]
                exact hown2⟩
              case measure => simp [intOf]; omega
            have e0b : (F q 0 == (k : Int)) = false := by simpa using e0
            have e0c : decide (F q 0 = (k : Int)) = false := by simpa using e0
            by_cases e1 : F q 1 = (k : Int)
            case pos =>
              have HSB := Lib.hid (show selB F k q = true by unfold selB; simp [e1])
              have e1b : (F q 1 == (k : Int)) = true := by simpa using e1
              have e1c : decide (F q 1 = (k : Int)) = true := by simpa using e1
              clear e1
              go_wp2_with (at_builtin; refine wpList_append_lies _ rfl _ _ _ rfl (adv (w.heap.size + 1) y.obs.size) 3 j0 _ 1 8 Try.underlying97 HJ.out.1 HJ.out.2.1 HJ.out.2.2.1 HJ.out.2.2.2 rfl (by omega) _ (cnB (selB F k) q) (rowC 1 (fun j _ => (fsel (selB F k) q j : Int)) (cnB (selB F k) q)) rfl (owns_kept HOw.out (by (repeat (first | exact Kept.refl _ | assumption | refine Kept.alloc ?_ _ | refine Kept.ext ?_ _ | refine Kept.drew ?_ | refine Kept.drewN ?_ _)))) _ 1 1 [.int .i64 (q : Int)] rfl rfl (World.news_of_block (alloc_now _ _ _)) (by simp [Value.oneCell']) (by omega) (by unfold maxLen; omega) (by omega) (by have := kept_size2 HKW.out; simp at this ⊢; omega) _ rfl ?_; intro g cp w2 hown2 hg2 hat hlt2)
              have hk2 := kept_grown (W := (ext (w.alloc (.cells #[.slice A n cap, .slice (some ⟨fb, off, none⟩) m cap2] 25)) y)) (HKW.out.trans (by (repeat (first | exact Kept.refl _ | assumption | refine Kept.alloc ?_ _ | refine Kept.ext ?_ _ | refine Kept.drew ?_ | refine Kept.drewN ?_ _)))) (owns_kept HOw.out (by (repeat (first | exact Kept.refl _ | assumption | refine Kept.alloc ?_ _ | refine Kept.ext ?_ _ | refine Kept.drew ?_ | refine Kept.drewN ?_ _)))) (by simp) hg2
              go_roundw
              case rel => exact ⟨q + 1, by omega, by go_num, hk2, by
                rw [show cnB (selB F k) (q + 1) = cnB (selB F k) q + 1 by show _ + _ = _; rw [if_pos HSB.out], rowC1_next, fsel_new HSB.out, rowC_eq (g := fun j _ => (fsel (selB F k) q j : Int)) fun j hj _ _ => by rw [fsel_stay hj]]
                exact hown2⟩
              case measure => simp [intOf]; omega
            have e1b : (F q 1 == (k : Int)) = false := by simpa using e1
            have e1c : decide (F q 1 = (k : Int)) = false := by simpa using e1
            by_cases e2 : F q 2 = (k : Int)
            case pos =>
              have HSB := Lib.hid (show selB F k q = true by unfold selB; simp [e2])
              have e2b : (F q 2 == (k : Int)) = true := by simpa using e2
              have e2c : decide (F q 2 = (k : Int)) = true := by simpa using e2
              clear e2
              go_wp2_with (at_builtin; refine wpList_append_lies _ rfl _ _ _ rfl (adv (w.heap.size + 1) y.obs.size) 3 j0 _ 1 8 Try.underlying97 HJ.out.1 HJ.out.2.1 HJ.out.2.2.1 HJ.out.2.2.2 rfl (by omega) _ (cnB (selB F k) q) (rowC 1 (fun j _ => (fsel (selB F k) q j : Int)) (cnB (selB F k) q)) rfl (owns_kept HOw.out (by (repeat (first | exact Kept.refl _ | assumption | refine Kept.alloc ?_ _ | refine Kept.ext ?_ _ | refine Kept.drew ?_ | refine Kept.drewN ?_ _)))) _ 1 1 [.int .i64 (q : Int)] rfl rfl (World.news_of_block (alloc_now _ _ _)) (by simp [Value.oneCell']) (by omega) (by unfold maxLen; omega) (by omega) (by have := kept_size2 HKW.out; simp at this ⊢; omega) _ rfl ?_; intro g cp w2 hown2 hg2 hat hlt2)
              have hk2 := kept_grown (W := (ext (w.alloc (.cells #[.slice A n cap, .slice (some ⟨fb, off, none⟩) m cap2] 25)) y)) (HKW.out.trans (by (repeat (first | exact Kept.refl _ | assumption | refine Kept.alloc ?_ _ | refine Kept.ext ?_ _ | refine Kept.drew ?_ | refine Kept.drewN ?_ _)))) (owns_kept HOw.out (by (repeat (first | exact Kept.refl _ | assumption | refine Kept.alloc ?_ _ | refine Kept.ext ?_ _ | refine Kept.drew ?_ | refine Kept.drewN ?_ _)))) (by simp) hg2
              go_roundw
              case rel => exact ⟨q + 1, by omega, by go_num, hk2, by
                rw [show cnB (selB F k) (q + 1) = cnB (selB F k) q + 1 by show _ + _ = _; rw [if_pos HSB.out], rowC1_next, fsel_new HSB.out, rowC_eq (g := fun j _ => (fsel (selB F k) q j : Int)) fun j hj _ _ => by rw [fsel_stay hj]]
                exact hown2⟩
              case measure => simp [intOf]; omega
            have e2b : (F q 2 == (k : Int)) = false := by simpa using e2
            have e2c : decide (F q 2 = (k : Int)) = false := by simpa using e2
            have HSB := Lib.hid (show selB F k q = false by unfold selB; simp [e0, e1, e2])
            clear e0 e1 e2
            go_wp2_with fail
            go_roundw
            case rel => exact ⟨q + 1, by omega, by go_num, HKW.out.trans (by (repeat (first | exact Kept.refl _ | assumption | refine Kept.alloc ?_ _ | refine Kept.ext ?_ _ | refine Kept.drew ?_ | refine Kept.drewN ?_ _))), by
              rw [show cnB (selB F k) (q + 1) = cnB (selB F k) q by show _ + _ = _; rw [if_neg (by rw [HSB.out]; simp)]; rfl, rowC_eq (g := fun j _ => (fsel (selB F k) q j : Int)) fun j hj _ _ => by rw [fsel_stay hj]]
              exact owns_kept HOw.out (by (repeat (first | exact Kept.refl _ | assumption | refine Kept.alloc ?_ _ | refine Kept.ext ?_ _ | refine Kept.drew ?_ | refine Kept.drewN ?_ _)))⟩
            case measure => simp [intOf]; omega
          · obtain rfl : q = m := by omega
            have g2 : decide ((q : Int) < q) = false := decide_eq_false (by omega)
            have hC := rows_of_owns (f := fun j _ => (fsel (selB F k) q j : Int)) hO (fun i hi j _ => by
              obtain ⟨r, r1, r2, r3⟩ := fsel_ex hi
              rw [← r3, fsel_at r2 r1]
              unfold I64; omega)
            have HC := Lib.hid hC
            have HK0 := Lib.hid hk0
            have HKX := Lib.hid hkx
            clear hkw hO hC hk0 hkx
            go_wp2_with fail
            refine (r2groups_any _ _ _ _ _ _ _ _ _ F (fsel (selB F k) q) (k : Int) _ (by omega) (by omega) (HF.out.of (HK0.out.trans (by (repeat (first | exact Kept.refl _ | assumption | refine Kept.alloc ?_ _ | refine Kept.ext ?_ _ | refine Kept.drew ?_ | refine Kept.drewN ?_ _))))) (HC.out.of (by (repeat (first | exact Kept.refl _ | assumption | refine Kept.alloc ?_ _ | refine Kept.ext ?_ _ | refine Kept.drew ?_ | refine Kept.drewN ?_ _)))) (fun j hj => by
              obtain ⟨r, r1, r2, r3⟩ := fsel_ex hj
              rw [← r3, fsel_at r2 r1]
              exact r1)).mono ?_
            rintro e w1 ⟨c0, rfl, ⟨x, rfl⟩, hc⟩
            have hc2 := fans_list HO.out (show (0 : Int) ≤ (k : Int) by omega) hc
            have hcl := hc2.le
            have HCC := Lib.hid hc2
            clear hc hc2
            go_wp2_with fail
            go_roundw
            case rel => exact ⟨k + 1, fun v => if v = k then c0 else fan v, by omega, by go_num, by rw [sumN_up, HS.out]; go_num, fun v hv => by
                by_cases q : v = k
                · subst q; simpa using HCC.out
                · simpa [q] using HFA.out v (by omega), by
                exact HKX.out.trans (by (repeat (first | exact Kept.refl _ | assumption | refine Kept.alloc ?_ _ | refine Kept.ext ?_ _ | refine Kept.drew ?_ | refine Kept.drewN ?_ _)) : Kept wr (ext wr x))⟩
            case measure => simp [intOf]; omega
      · obtain rfl : k = n := by omega
        have hsc : s = c := by rw [← HS.out]; exact HFN.out fan HFA.out
        have hh := hand_num (n := k) (m := m) (c := s) (p := p) (d := d) (by omega)
        have HH := Lib.hid hh
        clear hh
        go_wp2_with (go_at_call 103; refine (r2parts_any _ _ _ _ _ _ F al p _ (by omega) (HF.out.of (by (repeat (first | exact Kept.refl _ | assumption | refine Kept.alloc ?_ _ | refine Kept.ext ?_ _ | refine Kept.drew ?_ | refine Kept.drewN ?_ _)))) HO.out HG.out).mono ?_; rintro e w1 ⟨rfl, x2, rfl⟩)
        refine bodyPost_ret (by simp only [results, Try.results51]; go_simp; rfl) rfl ?_
        exact ⟨ret_int2 (by omega) rfl, by (repeat (first | exact Kept.refl _ | assumption | refine Kept.alloc ?_ _ | refine Kept.ext ?_ _ | refine Kept.drew ?_ | refine Kept.drewN ?_ _))⟩
  · have h0b : (e == 0) = false := by simpa using h0
    rw [if_neg h0]
    clear he hT
    go_enter Try.func51, Try.ntmps51
    go_wp2_with (first | (go_at_call 31; refine (r2validate_any _ _ _ _ _ _ P F _ hn (HP.out.of (by (repeat (first | exact Kept.refl _ | assumption | refine Kept.alloc ?_ _ | refine Kept.ext ?_ _ | refine Kept.drew ?_ | refine Kept.drewN ?_ _)))) (HF.out.of (by (repeat (first | exact Kept.refl _ | assumption | refine Kept.alloc ?_ _ | refine Kept.ext ?_ _ | refine Kept.drew ?_ | refine Kept.drewN ?_ _))))).mono ?_; rintro e w1 ⟨rfl, x, rfl⟩; rw [HE.out]))
    refine bodyPost_ret (by simp only [results, Try.results51]; go_simp; rfl) rfl ?_
    exact ⟨rfl, by (repeat (first | exact Kept.refl _ | assumption | refine Kept.alloc ?_ _ | refine Kept.ext ?_ _ | refine Kept.drew ?_ | refine Kept.drewN ?_ _))⟩
end Go.Proofs.Ytoadlneneijfaaa
