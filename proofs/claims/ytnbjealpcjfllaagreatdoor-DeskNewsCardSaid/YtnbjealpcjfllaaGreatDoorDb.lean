/- Contracts: words, names, sums of texts, lines, of the program. Conditions: those of each theorem. -/
import Derived.Test.YtnbjealpcjfllaaGreatDoorDa
import Derived.Test.YtnbjealpcjfllaaGreatDoorSv
namespace Go.Proofs.YtnbjealpcjfllaaGreatDoor
set_option linter.unusedVariables false
set_option linter.unusedSimpArgs false
open Go.RowKit
theorem dec_byte (s : ByteArray) (pos : Nat) (h : pos < s.size) : ∃ q k : Nat, Utf8.decode s pos = (q, k) ∧ q ≤ 2147483647 ∧ (((s[pos]'h).toNat = q ∧ k = 1) ∨ (128 ≤ q ∧ 128 ≤ (s[pos]'h).toNat)) := by
  by_cases ha : (s[pos]'h).toNat < 128
  · exact ⟨_, _, decode_ascii s pos h ha, by omega, .inl ⟨rfl, rfl⟩⟩
  · exact ⟨_, _, rfl, decode_le s pos, .inr ⟨(decode_high s pos h (by omega)).1, by omega⟩⟩
set_option maxRecDepth 100000 in
theorem disw_any (s : ByteArray) (w : World) :
    Calls Tryz.prog 109 #[.string s] w fun e w' => e = .returned (.bool (wordB s.data.toList)) ∧ Kept w w' := by
  obtain ⟨r, hr⟩ : ∃ r, wordB s.data.toList = r := ⟨_, rfl⟩
  rw [hr]
  have hr1 : (!s.data.toList.isEmpty && s.data.toList.all letB) = r := hr
  have HR := Lib.hid hr1
  clear hr hr1
  go_enter Tryz.func109, Tryz.ntmps109
  go_wp2_with fail
  go_loopw [4] (fun v wr => ∃ pos : Nat, wr = w.iter s pos ∧ pos ≤ s.size ∧ AllTo letB s pos) (fun _ w' => s.size - w'.iterPos w.heap.size)
  case atStart => exact ⟨0, rfl, by omega, fun i _ hi => absurd hi (by omega)⟩
  case round =>
    obtain ⟨pos, rfl, hle, hc⟩ := hrel
    by_cases hp : pos < s.size
    · have hnx : ∀ ty, (Instr.next (.pointer (some ⟨w.heap.size, 0, none⟩)) true ty).run Tryz.prog (w.iter s pos) = _ := fun ty => run_next_any w s pos ty hp
      have HC := Lib.hid hc
      clear hc
      obtain ⟨q, k, hq, hq2, hq3⟩ := dec_byte s pos hp
      rw [hq] at hnx
      have hbad : letB (s[pos]'hp) = false → r = false := fun hb => by rw [← HR.out, not_all hp hb, Bool.and_false]
      by_cases c1 : q < 48
      · have g1 : (q : Int) < 97 := by omega
        have g2 : (q : Int) < 48 := by omega
        have er := hbad (decide_eq_false (by omega))
        subst er
        clear hq hq2 hq3 c1 hbad
        go_wp2_with fail
        go_ret
        exact ⟨rfl, kept_iter _ _ _⟩
      by_cases c2 : q ≤ 57
      · have g1 : (q : Int) < 97 := by omega
        have g2 : (48 : Int) ≤ q := by omega
        have g3 : (q : Int) ≤ 57 := by omega
        have hl : k = 1 ∧ letB (s[pos]'hp) = true := by
          rcases hq3 with ⟨a, b⟩ | ⟨a, b⟩
          · exact ⟨b, decide_eq_true (by omega)⟩
          · omega
        obtain ⟨rfl, hl⟩ := hl
        have HL := Lib.hid hl
        clear hq hq2 hq3 c1 c2 hbad hl
        go_wp2_with fail
        go_roundw
        case rel => exact ⟨pos + 1, rfl, by omega, allTo_next HC.out hp HL.out⟩
        case measure =>
          simp
          omega
      by_cases c3 : q < 97
      · have g1 : (q : Int) < 97 := by omega
        have g2 : (48 : Int) ≤ q := by omega
        have g3 : (57 : Int) < q := by omega
        have er := hbad (decide_eq_false (by omega))
        subst er
        clear hq hq2 hq3 c1 c2 c3 hbad
        go_wp2_with fail
        go_ret
        exact ⟨rfl, kept_iter _ _ _⟩
      by_cases c4 : q ≤ 122
      · have g1 : (97 : Int) ≤ q := by omega
        have g2 : (q : Int) ≤ 122 := by omega
        have hl : k = 1 ∧ letB (s[pos]'hp) = true := by
          rcases hq3 with ⟨a, b⟩ | ⟨a, b⟩
          · exact ⟨b, decide_eq_true (by omega)⟩
          · omega
        obtain ⟨rfl, hl⟩ := hl
        have HL := Lib.hid hl
        clear hq hq2 hq3 c1 c2 c3 c4 hbad hl
        go_wp2_with fail
        go_roundw
        case rel => exact ⟨pos + 1, rfl, by omega, allTo_next HC.out hp HL.out⟩
        case measure =>
          simp
          omega
      have g1 : (97 : Int) ≤ q := by omega
      have g2 : (122 : Int) < q := by omega
      have g3 : (48 : Int) ≤ q := by omega
      have g4 : (57 : Int) < q := by omega
      have er := hbad (decide_eq_false (by omega))
      subst er
      clear hq hq2 hq3 c1 c2 c3 c4 hbad
      go_wp2_with fail
      go_ret
      exact ⟨rfl, kept_iter _ _ _⟩
    · have hnx : ∀ ty, (Instr.next (.pointer (some ⟨w.heap.size, 0, none⟩)) true ty).run Tryz.prog (w.iter s pos) = _ := fun ty => run_next_end w s pos ty hp
      have er : r = !s.toList.isEmpty := by rw [← HR.out, all_of hc hp, Bool.and_true, Lib.toList_data]
      subst er
      clear hc HR
      go_wp2_with fail
      go_ret
      exact ⟨rfl, kept_iter _ _ _⟩
theorem rem_fix (s : Int) : (s.tmod 1000003 < 0 → s.tmod 1000003 + 1000003 = s % 1000003) ∧ (¬ s.tmod 1000003 < 0 → s.tmod 1000003 = s % 1000003) ∧ -1000003 < s.tmod 1000003 ∧ s.tmod 1000003 < 1000003 := by
  rcases Int.le_total 0 s with h | h
  · rw [Int.tmod_eq_emod_of_nonneg h]
    omega
  · obtain ⟨t, rfl⟩ : ∃ t, s = -t := ⟨-s, by omega⟩
    rw [Int.neg_tmod, Int.tmod_eq_emod_of_nonneg (by omega)]
    omega
theorem fold_take {s : ByteArray} {k : Nat} (h : k < s.size) (t : Int) (f : Int → UInt8 → Int) : (s.data.toList.take (k + 1)).foldl f t = f ((s.data.toList.take k).foldl f t) (s[k]'h) := by
  rw [List.take_succ_eq_append_getElem (by simpa using h), List.foldl_append, at_list s k h]
  rfl
set_option maxRecDepth 100000 in
theorem dsum_any (b : Int) (s : ByteArray) (w : World) (hs : s.size ≤ 9223372036854775807) :
    Calls Tryz.prog 22 #[.int .i64 b, .string s] w fun e w' => e = .returned (.int .i64 (sumB b s.data.toList)) ∧ w = w' := by
  obtain ⟨h1, h2, h3, h4⟩ := rem_fix b
  obtain ⟨r, hr⟩ : ∃ r, sumB b s.data.toList = r := ⟨_, rfl⟩
  rw [hr]
  have hr1 : s.data.toList.foldl (fun t b => (t * 257 + (b.toNat : Int) + 1) % 1000003) (b % 1000003) = r := hr
  have HR := Lib.hid hr1
  clear hr hr1
  obtain ⟨m, hm⟩ : ∃ m, b.tmod 1000003 = m := ⟨_, rfl⟩
  rw [hm] at h1 h2 h3 h4
  obtain ⟨g, hg⟩ : ∃ g, b % 1000003 = g := ⟨_, rfl⟩
  have HG := Lib.hid hg
  have hg2 : 0 ≤ g ∧ g < 1000003 := by omega
  rw [hg] at h1 h2
  clear hg
  by_cases hneg : m < 0
  all_goals (
    go_enter Tryz.func22, Tryz.ntmps22
    go_wp2_with fail
    go_loopw [5, 15] (fun v i wr => ∃ k : Nat, k ≤ s.size ∧ i = .int .i64 k ∧ v = .int .i64 ((s.data.toList.take k).foldl (fun t b => (t * 257 + (b.toNat : Int) + 1) % 1000003) g) ∧ wr = w) (fun _ i _ => s.size - (intOf i).toNat)
    case atStart => exact ⟨0, by omega, rfl, by first | rfl | (rw [List.take_zero]; exact congrArg _ (by simp only [List.foldl_nil]; omega)), rfl⟩
    case round =>
      obtain ⟨k, hk, rfl, rfl, rfl⟩ := hrel
      obtain ⟨q, hq⟩ : ∃ q, (s.data.toList.take k).foldl (fun t b => (t * 257 + (b.toNat : Int) + 1) % 1000003) g = q := ⟨_, rfl⟩
      have fb : 0 ≤ q ∧ q < 1000003 := hq ▸ sumB_fold _ _ hg2
      by_cases hlt : k < s.size
      · have hk64 : (k : Int) + 1 ≤ 9223372036854775807 := by omega
        have e2 := fold_take hlt g (fun t b => (t * 257 + (b.toNat : Int) + 1) % 1000003)
        rw [hq] at e2
        have bb := (s[k]'hlt).toNat_lt
        have hrem : (q * 257 + ((s[k]'hlt).toNat : Int) + 1).tmod 1000003 = (q * 257 + ((s[k]'hlt).toNat : Int) + 1) % 1000003 := Int.tmod_eq_emod_of_nonneg (by omega)
        have E2 := Lib.hid e2
        clear e2
        rw [hq]
        clear hq
        go_wp2_with fail
        go_roundw
        case rel => exact ⟨k + 1, hlt, by go_num, by rw [E2.out], by trivial⟩
        case measure =>
          simp [intOf]
          omega
      · have e3 : q = r := by rw [← HR.out, HG.out, ← hq, List.take_of_length_le (by rw [list_size]; omega)]
        subst e3
        rw [hq]
        clear hq
        go_wp2_with fail
        go_ret
        exact ⟨rfl, rfl⟩)
end Go.Proofs.YtnbjealpcjfllaaGreatDoor
