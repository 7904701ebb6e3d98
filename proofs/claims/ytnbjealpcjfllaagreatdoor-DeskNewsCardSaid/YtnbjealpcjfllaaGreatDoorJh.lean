/- Contracts: valid names, a new desk, of the program. No conditions. -/
import Derived.Test.YtnbjealpcjfllaaGreatDoorDd
namespace Go.Proofs.YtnbjealpcjfllaaGreatDoor
set_option linter.unusedVariables false
set_option linter.unusedSimpArgs false
open Go.ChangeShapes Go.WideShapes Go.ChangeAt Go.RowKit Go.Deep
set_option maxRecDepth 100000 in
theorem dvalid_any (l : List UInt8) (w : World) (hl : l.length ≤ 1000000) :
    Calls Tryz.prog 161 #[.string ⟨l.toArray⟩] w fun e w' => e = .returned (.bool (nameB l)) ∧ Kept w w' := by
  have q : ∀ w', _ := fun w' => disw_any ⟨l.toArray⟩ w'
  change ∀ w', Calls _ _ _ _ (fun e w'' => e = .returned (.bool (wordB l)) ∧ Kept w' w'') at q
  have hsz := ba_size
  cases hw : wordB l
  case false =>
    have ev : nameB l = false := by unfold nameB; rw [hw]; rfl
    rw [ev]
    rw [hw] at q
    have Q := Lib.hid q
    clear q hw ev
    go_enter Tryz.func161, Tryz.ntmps161
    go_wp2_with (go_at_call 109; (with_reducible refine (Q.out _).mono ?_); rintro e w1 ⟨rfl, y1, rfl⟩)
    go_ret
    exact ⟨rfl, by (repeat (first | exact Kept.refl _ | assumption | refine Kept.alloc ?_ _ | refine Kept.ext ?_ _ | refine Kept.drew ?_ | refine Kept.drewN ?_ _))⟩
  case true =>
    rw [hw] at q
    have Q := Lib.hid q
    clear q
    obtain ⟨b, r, rfl⟩ : ∃ b r, l = b :: r := by
      cases l with
      | nil => cases hw
      | cons b r => exact ⟨b, r, rfl⟩
    have ev : nameB (b :: r) = (decide ((b :: r).length ≤ 8) && decide (97 ≤ b.toNat ∧ b.toNat ≤ 122)) := by unfold nameB; rw [hw]; rfl
    rw [ev]
    have hb := b.toNat_lt
    have hget : ((⟨(b :: r).toArray⟩ : ByteArray)[0]'(by show 0 < (b :: r).toArray.size; simp)) = b := rfl
    have hll : (b :: r).length = r.length + 1 := rfl
    clear hw ev
    by_cases h8 : r.length + 1 ≤ 8
    · rw [decide_eq_true (show (b :: r).length ≤ 8 from h8), Bool.true_and]
      have g0 : (r.length : Int) + 1 ≤ 8 := by omega
      by_cases h1 : 97 ≤ b.toNat
      · have g1 : (97 : Int) ≤ b.toNat := by omega
        by_cases h2 : b.toNat ≤ 122
        · have g2 : (b.toNat : Int) ≤ 122 := by omega
          rw [decide_eq_true (show 97 ≤ b.toNat ∧ b.toNat ≤ 122 from ⟨h1, h2⟩)]
          go_enter Tryz.func161, Tryz.ntmps161
          go_wp2_with (go_at_call 109; (with_reducible refine (Q.out _).mono ?_); rintro e w1 ⟨rfl, y1, rfl⟩)
          go_ret
          first | exact ⟨rfl, by (repeat (first | exact Kept.refl _ | assumption | refine Kept.alloc ?_ _ | refine Kept.ext ?_ _ | refine Kept.drew ?_ | refine Kept.drewN ?_ _))⟩ | exact ⟨by show Ending.returned (.bool (decide ((b.toNat : Int) ≤ 122))) = _; rw [decide_eq_true g2], by (repeat (first | exact Kept.refl _ | assumption | refine Kept.alloc ?_ _ | refine Kept.ext ?_ _ | refine Kept.drew ?_ | refine Kept.drewN ?_ _))⟩
        · have g2 : (122 : Int) < b.toNat := by omega
          rw [decide_eq_false (show ¬ (97 ≤ b.toNat ∧ b.toNat ≤ 122) from fun q => h2 q.2)]
          go_enter Tryz.func161, Tryz.ntmps161
          go_wp2_with (go_at_call 109; (with_reducible refine (Q.out _).mono ?_); rintro e w1 ⟨rfl, y1, rfl⟩)
          go_ret
          first | exact ⟨rfl, by (repeat (first | exact Kept.refl _ | assumption | refine Kept.alloc ?_ _ | refine Kept.ext ?_ _ | refine Kept.drew ?_ | refine Kept.drewN ?_ _))⟩ | exact ⟨by show Ending.returned (.bool (decide ((b.toNat : Int) ≤ 122))) = _; rw [decide_eq_false (show ¬ (b.toNat : Int) ≤ 122 by omega)], by (repeat (first | exact Kept.refl _ | assumption | refine Kept.alloc ?_ _ | refine Kept.ext ?_ _ | refine Kept.drew ?_ | refine Kept.drewN ?_ _))⟩
      · have g1 : (b.toNat : Int) < 97 := by omega
        rw [decide_eq_false (show ¬ (97 ≤ b.toNat ∧ b.toNat ≤ 122) from fun q => h1 q.1)]
        go_enter Tryz.func161, Tryz.ntmps161
        go_wp2_with (go_at_call 109; (with_reducible refine (Q.out _).mono ?_); rintro e w1 ⟨rfl, y1, rfl⟩)
        go_ret
        exact ⟨rfl, by (repeat (first | exact Kept.refl _ | assumption | refine Kept.alloc ?_ _ | refine Kept.ext ?_ _ | refine Kept.drew ?_ | refine Kept.drewN ?_ _))⟩
    · rw [decide_eq_false (show ¬ (b :: r).length ≤ 8 from h8), Bool.false_and]
      have g0 : (8 : Int) < (r.length : Int) + 1 := by omega
      go_enter Tryz.func161, Tryz.ntmps161
      go_wp2_with (go_at_call 109; (with_reducible refine (Q.out _).mono ?_); rintro e w1 ⟨rfl, y1, rfl⟩)
      go_ret
      exact ⟨rfl, by (repeat (first | exact Kept.refl _ | assumption | refine Kept.alloc ?_ _ | refine Kept.ext ?_ _ | refine Kept.drew ?_ | refine Kept.drewN ?_ _))⟩
theorem dnew_ok (n : Int) (w : World) (hn : 0 ≤ n ∧ n ≤ 10000000) :
    Calls Tryz.prog 23 #[.int .i64 n] w fun e w' => e = .returned (.tuple #[.pointer (some ⟨w.heap.size, 0, none⟩), .int .i64 0]) ∧ w' = w.alloc (.cells #[.int .i32 0, .int .u32 0, .slice none 0 0, .int .i64 0, .int .i64 n, .int .i64 0, .int .i64 n, .slice none 0 0] 81) := by
  go_enter Tryz.func23, Tryz.ntmps23
  go_wp2_with fail
  refine bodyPost_ret (by simp only [results, Tryz.results23]; go_simp; rfl) rfl ?_
  exact ⟨rfl, rfl⟩
theorem dnew_no (n : Int) (w : World) (hn : ¬ (0 ≤ n ∧ n ≤ 10000000)) :
    Calls Tryz.prog 23 #[.int .i64 n] w fun e w' => e = .returned (.tuple #[.pointer none, .int .i64 1]) ∧ w' = w := by
  by_cases h0 : n < 0
  · clear hn
    go_enter Tryz.func23, Tryz.ntmps23
    go_wp2_with fail
    refine bodyPost_ret (by simp only [results, Tryz.results23]; go_simp; rfl) rfl ?_
    exact ⟨rfl, rfl⟩
  · have h1 : 0 ≤ n := by omega
    have h2 : 10000000 < n := by omega
    clear hn h0
    go_enter Tryz.func23, Tryz.ntmps23
    go_wp2_with fail
    refine bodyPost_ret (by simp only [results, Tryz.results23]; go_simp; rfl) rfl ?_
    exact ⟨rfl, rfl⟩
theorem r9new_ok (n : Int) (w : World) (hn : 0 ≤ n ∧ n ≤ 10000000) :
    Calls Tryz.prog 11 #[.int .i64 n] w fun e w' => e = .returned (.tuple #[.pointer (some ⟨w.heap.size, 0, none⟩), .int .i64 0]) ∧ w' = w.alloc (.cells #[.int .i64 n, .int .i64 0, .int .i64 n, .int .i64 0, .slice none 0 0, .slice none 0 0] 72) := by
  go_enter Tryz.func11, Tryz.ntmps11
  go_wp2_with fail
  refine bodyPost_ret (by simp only [results, Tryz.results11]; go_simp; rfl) rfl ?_
  exact ⟨rfl, rfl⟩
theorem r9new_no (n : Int) (w : World) (hn : ¬ (0 ≤ n ∧ n ≤ 10000000)) :
    Calls Tryz.prog 11 #[.int .i64 n] w fun e w' => e = .returned (.tuple #[.pointer none, .int .i64 1]) ∧ w' = w := by
  by_cases h0 : n < 0
  · clear hn
    go_enter Tryz.func11, Tryz.ntmps11
    go_wp2_with fail
    refine bodyPost_ret (by simp only [results, Tryz.results11]; go_simp; rfl) rfl ?_
    exact ⟨rfl, rfl⟩
  · have h1 : 0 ≤ n := by omega
    have h2 : 10000000 < n := by omega
    clear hn h0
    go_enter Tryz.func11, Tryz.ntmps11
    go_wp2_with fail
    refine bodyPost_ret (by simp only [results, Tryz.results11]; go_simp; rfl) rfl ?_
    exact ⟨rfl, rfl⟩
end Go.Proofs.YtnbjealpcjfllaaGreatDoor
