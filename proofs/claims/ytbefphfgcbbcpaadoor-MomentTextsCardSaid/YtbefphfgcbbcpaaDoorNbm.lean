/- Contract: numbers of words, of the reference of moments. Conditions: the word is short. -/
import Derived.Test.YtbefphfgcbbcpaaDoorNb
namespace Go.Proofs.YtbefphfgcbbcpaaDoor
set_option linter.unusedVariables false
set_option linter.unusedSimpArgs false
open Go.ChangeShapes Go.WideShapes Go.ChangeAt Go.RowKit
theorem key_len11 {l : List UInt8} {sg : Int} {i0 : Nat} (h : Key l sg i0) (hs : sg = 1 ∨ sg = -1) (hl : ¬ (1 ≤ (l.length : Int) - i0 ∧ (l.length : Int) - i0 ≤ 11)) {u : Int} (hu : -17179869184 ≤ u ∧ u ≤ 17179869184) : l ≠ Lib.itoa u := fun e => by
  obtain ⟨k, hk0, -, hd⟩ := h u (by omega) e
  have hk : k ≤ 17179869184 := by
    rcases hs with rfl | rfl <;> omega
  have h1 := dig_len 10 k (by have : (10 : Nat) ^ (10 + 1) = 100000000000 := rfl; omega)
  have h2 : 0 < (Lib.decDigits k).length := List.length_pos_iff.2 (dig_ne k)
  rw [← hd, List.length_drop] at h1 h2
  omega
set_option maxRecDepth 100000 in
set_option maxHeartbeats 8000000 in
theorem r4numb_pos (l : List UInt8) (w : World) (hl : l.length ≤ 2000) (hh : l.head? ≠ some 45) :
    Calls Tryd.prog 38 #[.string ⟨l.toArray⟩] w fun e w' => ∃ v b, e = .returned (.tuple #[.int .i64 v, .bool b]) ∧ Kept w w' ∧ I64 v ∧ (∀ u, -17179869184 ≤ u ∧ u ≤ 17179869184 → l = Lib.itoa u → b = true ∧ v = u) := by
  have hkey := key_pos hh
  have hb0 : ∀ h : 0 < (⟨l.toArray⟩ : ByteArray).size, ((((⟨l.toArray⟩ : ByteArray)[0]'h).toNat : Int) == 45) = false := fun h => by
    have h0 : 0 < l.length := by
      have h : 0 < l.toArray.size := h
      simpa using h
    apply beq_eq_false_iff_ne.2
    intro e
    apply hh
    rw [List.head?_eq_getElem?, List.getElem?_eq_getElem h0]
    congr 1
    apply UInt8.toNat_inj.1
    have : ((l[0]).toNat : Int) = 45 := e
    show (l[0]).toNat = 45
    omega
  by_cases hw : 1 ≤ (l.length : Int) ∧ (l.length : Int) ≤ 11
  case neg =>
    have HK := Lib.hid hkey
    by_cases hz : (l.length : Int) = 0
    · have g1 : ((l.length : Int) == 0) = true := by rw [hz]; rfl
      clear hkey hh
      go_enter Tryd.func38, Tryd.ntmps38
      go_wp2_with fail
      all_goals
        refine bodyPost_ret (by simp only [results, Tryd.results38]; go_simp; rfl) rfl ?_
        exact ⟨0, false, rfl, by (repeat (first | exact Kept.refl _ | assumption | refine Kept.alloc ?_ _ | refine Kept.ext ?_ _ | refine Kept.drew ?_ | refine Kept.drewN ?_ _)), by unfold I64; omega, fun u hu h => absurd h (key_len11 HK.out (.inl rfl) (by simpa using hw) hu)⟩
    · have g1 : ((l.length : Int) == 0) = false := beq_eq_false_iff_ne.2 hz
      have g2 : decide ((11 : Int) < (l.length : Int)) = true := decide_eq_true (by  omega)
      clear hkey hh
      go_enter Tryd.func38, Tryd.ntmps38
      go_wp2_with fail
      all_goals
        refine bodyPost_ret (by simp only [results, Tryd.results38]; go_simp; rfl) rfl ?_
        exact ⟨0, false, rfl, by (repeat (first | exact Kept.refl _ | assumption | refine Kept.alloc ?_ _ | refine Kept.ext ?_ _ | refine Kept.drew ?_ | refine Kept.drewN ?_ _)), by unfold I64; omega, fun u hu h => absurd h (key_len11 HK.out (.inl rfl) (by simpa using hw) hu)⟩
  have g1 : ((l.length : Int) == 0) = false := beq_eq_false_iff_ne.2 (by omega)
  have g2 : decide ((11 : Int) < (l.length : Int)) = false := decide_eq_false (by omega)
  have h0 : 0 < l.length := by omega
  have HK := Lib.hid hkey
  clear hkey hh
  go_enter Tryd.func38, Tryd.ntmps38
  go_wp2_with fail
  go_loopw [6, 7] (fun n i wr => ∃ j m : Nat, 0 ≤ j ∧ j ≤ l.length ∧ i = .int .i64 j ∧ n = .int .i64 m ∧ Lib.decFrom 0 ((l.take j).drop 0) = some m ∧ m < 10 ^ (j - 0) ∧ ∃ y, wr = ext w y) (fun _ i _ => l.length - (intOf i).toNat)
  case atStart =>
    refine ⟨0, 0, Nat.le_refl _, by omega, rfl, rfl, ?_, by simp, show Kept _ _ by (repeat (first | exact Kept.refl _ | assumption | refine Kept.alloc ?_ _ | refine Kept.ext ?_ _ | refine Kept.drew ?_ | refine Kept.drewN ?_ _))⟩
    rw [List.drop_of_length_le (by rw [List.length_take]; omega)]
    rfl
  case round =>
    obtain ⟨j, m, hj0, hj, rfl, rfl, hd, hm, y, rfl⟩ := hrel
    have hp : 10 ^ (j - 0) ≤ 10 ^ 15 := Nat.pow_le_pow_right (by omega) (by omega)
    have hp2 : (10 : Nat) ^ 15 = 1000000000000000 := rfl
    have hm2 : m < 1000000000000000 := by omega
    have HD := Lib.hid hd
    have HM := Lib.hid hm
    clear hd hp hp2 hm
    by_cases hlt : j < l.length
    · have g0 : decide ((j : Int) < l.length) = true := decide_eq_true (by omega)
      obtain ⟨c, hc⟩ : ∃ c, l[j] = c := ⟨_, rfl⟩
      have hget : ((⟨l.toArray⟩ : ByteArray)[j]'(by show j < l.toArray.size; simpa using hlt)) = c := hc
      have hc256 := c.toNat_lt
      by_cases hb : 48 ≤ c.toNat ∧ c.toNat ≤ 57
      · have g3 : decide ((c.toNat : Int) < 48) = false := decide_eq_false (by omega)
        have g4 : decide ((57 : Int) < c.toNat) = false := decide_eq_false (by omega)
        have hs := take_step hj0 hlt HD.out (by rw [hc]; exact hb)
        rw [hc] at hs
        have HS := Lib.hid hs
        clear hs
        go_wp2_with fail
        go_roundw
        case rel =>
          refine ⟨j + 1, m * 10 + (c.toNat - 48), by omega, by omega, by go_num, ?_, HS.out, ?_, show Kept _ _ by (repeat (first | exact Kept.refl _ | assumption | refine Kept.alloc ?_ _ | refine Kept.ext ?_ _ | refine Kept.drew ?_ | refine Kept.drewN ?_ _))⟩
          · refine val_eq ?_
            omega
          · have := HM.out
            rw [show j + 1 - 0 = (j - 0) + 1 by omega, Nat.pow_succ]
            omega
        case measure => simp [intOf]; omega
      · have hbad : ∀ u : Int, -1099511627776 ≤ u ∧ u ≤ 1099511627776 → l ≠ Lib.itoa u := fun u hu => key_bad HK.out hj0 hlt (by rw [hc]; exact hb) hu
        have HB := Lib.hid hbad
        clear hbad
        by_cases h48 : c.toNat < 48
        · have g3 : decide ((c.toNat : Int) < 48) = true := decide_eq_true (by omega)
          go_wp2_with fail
          refine bodyPost_ret (by simp only [results, Tryd.results38]; go_simp; rfl) rfl ?_
          exact ⟨0, false, rfl, by (repeat (first | exact Kept.refl _ | assumption | refine Kept.alloc ?_ _ | refine Kept.ext ?_ _ | refine Kept.drew ?_ | refine Kept.drewN ?_ _)), by unfold I64; omega, fun u hu h => absurd h (HB.out u (by omega))⟩
        · have g3 : decide ((c.toNat : Int) < 48) = false := decide_eq_false (by omega)
          have g4 : decide ((57 : Int) < c.toNat) = true := decide_eq_true (by omega)
          go_wp2_with fail
          refine bodyPost_ret (by simp only [results, Tryd.results38]; go_simp; rfl) rfl ?_
          exact ⟨0, false, rfl, by (repeat (first | exact Kept.refl _ | assumption | refine Kept.alloc ?_ _ | refine Kept.ext ?_ _ | refine Kept.drew ?_ | refine Kept.drewN ?_ _)), by unfold I64; omega, fun u hu h => absurd h (HB.out u (by omega))⟩
    · obtain rfl : j = l.length := by omega
      have hd := HD.out
      rw [List.take_length] at hd
      have hfin : ∀ u : Int, -1099511627776 ≤ u ∧ u ≤ 1099511627776 → l = Lib.itoa u → m = u := fun u hu h => by
        obtain ⟨k, h1, -, h3⟩ := HK.out u hu h
        rw [h3, decFrom_dig] at hd
        injection hd with hd
        omega
      have HF := Lib.hid hfin
      clear hd hfin
      go_wp2_with fail
      refine bodyPost_ret (by simp only [results, Tryd.results38]; go_simp; rfl) rfl ?_
      exact ⟨m, true, rfl, by (repeat (first | exact Kept.refl _ | assumption | refine Kept.alloc ?_ _ | refine Kept.ext ?_ _ | refine Kept.drew ?_ | refine Kept.drewN ?_ _)), by unfold I64; omega, fun u hu h => ⟨rfl, HF.out u (by omega) h⟩⟩
set_option maxRecDepth 100000 in
set_option maxHeartbeats 8000000 in
theorem r4numb_neg (l : List UInt8) (w : World) (hl : l.length ≤ 2000) (hh : l.head? = some 45) :
    Calls Tryd.prog 38 #[.string ⟨l.toArray⟩] w fun e w' => ∃ v b, e = .returned (.tuple #[.int .i64 v, .bool b]) ∧ Kept w w' ∧ I64 v ∧ (∀ u, -17179869184 ≤ u ∧ u ≤ 17179869184 → l = Lib.itoa u → b = true ∧ v = u) := by
  have hkey := key_neg hh
  have h0 : 0 < l.length := by
    cases l with
    | nil => cases hh
    | cons a r => simp
  have hb0 : ∀ h : 0 < (⟨l.toArray⟩ : ByteArray).size, ((((⟨l.toArray⟩ : ByteArray)[0]'h).toNat : Int) == 45) = true := fun h => by
    rw [List.head?_eq_getElem?, List.getElem?_eq_getElem h0] at hh
    have : l[0] = 45 := by simpa using hh
    show (((l[0]).toNat : Int) == 45) = true
    rw [this]
    rfl
  by_cases hw : 1 ≤ (l.length : Int) - 1 ∧ (l.length : Int) - 1 ≤ 11
  case neg =>
    have HK := Lib.hid hkey
    by_cases hz : (l.length : Int) = 1
    · have g1 : ((l.length : Int) == 1) = true := by rw [hz]; rfl
      clear hkey hh
      go_enter Tryd.func38, Tryd.ntmps38
      go_wp2_with fail
      all_goals
        refine bodyPost_ret (by simp only [results, Tryd.results38]; go_simp; rfl) rfl ?_
        exact ⟨0, false, rfl, by (repeat (first | exact Kept.refl _ | assumption | refine Kept.alloc ?_ _ | refine Kept.ext ?_ _ | refine Kept.drew ?_ | refine Kept.drewN ?_ _)), by unfold I64; omega, fun u hu h => absurd h (key_len11 HK.out (.inr rfl) (by simpa using hw) hu)⟩
    · have g1 : ((l.length : Int) == 1) = false := beq_eq_false_iff_ne.2 hz
      have g2 : decide ((11 : Int) < (l.length : Int) - 1) = true := decide_eq_true (by  omega)
      clear hkey hh
      go_enter Tryd.func38, Tryd.ntmps38
      go_wp2_with fail
      all_goals
        refine bodyPost_ret (by simp only [results, Tryd.results38]; go_simp; rfl) rfl ?_
        exact ⟨0, false, rfl, by (repeat (first | exact Kept.refl _ | assumption | refine Kept.alloc ?_ _ | refine Kept.ext ?_ _ | refine Kept.drew ?_ | refine Kept.drewN ?_ _)), by unfold I64; omega, fun u hu h => absurd h (key_len11 HK.out (.inr rfl) (by simpa using hw) hu)⟩
  have g1 : ((l.length : Int) == 1) = false := beq_eq_false_iff_ne.2 (by omega)
  have g2 : decide ((11 : Int) < (l.length : Int) - 1) = false := decide_eq_false (by omega)
  have h0 : 0 < l.length := by omega
  have HK := Lib.hid hkey
  clear hkey hh
  go_enter Tryd.func38, Tryd.ntmps38
  go_wp2_with fail
  go_loopw [6, 7] (fun n i wr => ∃ j m : Nat, 1 ≤ j ∧ j ≤ l.length ∧ i = .int .i64 j ∧ n = .int .i64 m ∧ Lib.decFrom 0 ((l.take j).drop 1) = some m ∧ m < 10 ^ (j - 1) ∧ ∃ y, wr = ext w y) (fun _ i _ => l.length - (intOf i).toNat)
  case atStart =>
    refine ⟨1, 0, Nat.le_refl _, by omega, rfl, rfl, ?_, by simp, show Kept _ _ by (repeat (first | exact Kept.refl _ | assumption | refine Kept.alloc ?_ _ | refine Kept.ext ?_ _ | refine Kept.drew ?_ | refine Kept.drewN ?_ _))⟩
    rw [List.drop_of_length_le (by rw [List.length_take]; omega)]
    rfl
  case round =>
    obtain ⟨j, m, hj0, hj, rfl, rfl, hd, hm, y, rfl⟩ := hrel
    have hp : 10 ^ (j - 1) ≤ 10 ^ 15 := Nat.pow_le_pow_right (by omega) (by omega)
    have hp2 : (10 : Nat) ^ 15 = 1000000000000000 := rfl
    have hm2 : m < 1000000000000000 := by omega
    have HD := Lib.hid hd
    have HM := Lib.hid hm
    clear hd hp hp2 hm
    by_cases hlt : j < l.length
    · have g0 : decide ((j : Int) < l.length) = true := decide_eq_true (by omega)
      obtain ⟨c, hc⟩ : ∃ c, l[j] = c := ⟨_, rfl⟩
      have hget : ((⟨l.toArray⟩ : ByteArray)[j]'(by show j < l.toArray.size; simpa using hlt)) = c := hc
      have hc256 := c.toNat_lt
      by_cases hb : 48 ≤ c.toNat ∧ c.toNat ≤ 57
      · have g3 : decide ((c.toNat : Int) < 48) = false := decide_eq_false (by omega)
        have g4 : decide ((57 : Int) < c.toNat) = false := decide_eq_false (by omega)
        have hs := take_step hj0 hlt HD.out (by rw [hc]; exact hb)
        rw [hc] at hs
        have HS := Lib.hid hs
        clear hs
        go_wp2_with fail
        go_roundw
        case rel =>
          refine ⟨j + 1, m * 10 + (c.toNat - 48), by omega, by omega, by go_num, ?_, HS.out, ?_, show Kept _ _ by (repeat (first | exact Kept.refl _ | assumption | refine Kept.alloc ?_ _ | refine Kept.ext ?_ _ | refine Kept.drew ?_ | refine Kept.drewN ?_ _))⟩
          · refine val_eq ?_
            omega
          · have := HM.out
            rw [show j + 1 - 1 = (j - 1) + 1 by omega, Nat.pow_succ]
            omega
        case measure => simp [intOf]; omega
      · have hbad : ∀ u : Int, -1099511627776 ≤ u ∧ u ≤ 1099511627776 → l ≠ Lib.itoa u := fun u hu => key_bad HK.out hj0 hlt (by rw [hc]; exact hb) hu
        have HB := Lib.hid hbad
        clear hbad
        by_cases h48 : c.toNat < 48
        · have g3 : decide ((c.toNat : Int) < 48) = true := decide_eq_true (by omega)
          go_wp2_with fail
          refine bodyPost_ret (by simp only [results, Tryd.results38]; go_simp; rfl) rfl ?_
          exact ⟨0, false, rfl, by (repeat (first | exact Kept.refl _ | assumption | refine Kept.alloc ?_ _ | refine Kept.ext ?_ _ | refine Kept.drew ?_ | refine Kept.drewN ?_ _)), by unfold I64; omega, fun u hu h => absurd h (HB.out u (by omega))⟩
        · have g3 : decide ((c.toNat : Int) < 48) = false := decide_eq_false (by omega)
          have g4 : decide ((57 : Int) < c.toNat) = true := decide_eq_true (by omega)
          go_wp2_with fail
          refine bodyPost_ret (by simp only [results, Tryd.results38]; go_simp; rfl) rfl ?_
          exact ⟨0, false, rfl, by (repeat (first | exact Kept.refl _ | assumption | refine Kept.alloc ?_ _ | refine Kept.ext ?_ _ | refine Kept.drew ?_ | refine Kept.drewN ?_ _)), by unfold I64; omega, fun u hu h => absurd h (HB.out u (by omega))⟩
    · obtain rfl : j = l.length := by omega
      have hd := HD.out
      rw [List.take_length] at hd
      have hfin : ∀ u : Int, -1099511627776 ≤ u ∧ u ≤ 1099511627776 → l = Lib.itoa u → -(m : Int) = u := fun u hu h => by
        obtain ⟨k, h1, -, h3⟩ := HK.out u hu h
        rw [h3, decFrom_dig] at hd
        injection hd with hd
        omega
      have HF := Lib.hid hfin
      clear hd hfin
      go_wp2_with fail
      refine bodyPost_ret (by simp only [results, Tryd.results38]; go_simp; rfl) rfl ?_
      exact ⟨-(m : Int), true, rfl, by (repeat (first | exact Kept.refl _ | assumption | refine Kept.alloc ?_ _ | refine Kept.ext ?_ _ | refine Kept.drew ?_ | refine Kept.drewN ?_ _)), by unfold I64; omega, fun u hu h => ⟨rfl, HF.out u (by omega) h⟩⟩
theorem r4numb_any (l : List UInt8) (w : World) (hl : l.length ≤ 2000) :
    Calls Tryd.prog 38 #[.string ⟨l.toArray⟩] w fun e w' => ∃ v b, e = .returned (.tuple #[.int .i64 v, .bool b]) ∧ Kept w w' ∧ I64 v ∧ (∀ u, -17179869184 ≤ u ∧ u ≤ 17179869184 → l = Lib.itoa u → b = true ∧ v = u) := by
  by_cases hh : l.head? = some 45
  · exact r4numb_neg l w hl hh
  · exact r4numb_pos l w hl hh
end Go.Proofs.YtbefphfgcbbcpaaDoor
