/- Contract: numbers of texts, of the reference. Conditions: the text is short. -/
import Derived.Test.YtbefphfgcbbcpaaDoorTx
namespace Go.Proofs.YtbefphfgcbbcpaaDoor
set_option linter.unusedVariables false
set_option linter.unusedSimpArgs false
open Go.ChangeShapes Go.WideShapes Go.ChangeAt Go.RowKit
theorem dig_len : ∀ (k u : Nat), u < 10 ^ (k + 1) → (Lib.decDigits u).length ≤ k + 1
  | 0, u, h => by
    rw [dec_last (by simp at h; omega)]
    simp
  | k + 1, u, h => by
    by_cases h9 : 9 < u
    · rw [dec_step h9, List.length_append]
      have := dig_len k (u / 10) (by rw [Nat.pow_succ] at h; omega)
      simp
      omega
    · rw [dec_last h9]
      simp
/-- What a text of a number is behind its sign. -/
def Key (l : List UInt8) (sg : Int) (i0 : Nat) : Prop := ∀ u : Int, -1099511627776 ≤ u ∧ u ≤ 1099511627776 → l = Lib.itoa u → ∃ k : Nat, u = sg * k ∧ k ≤ 1099511627776 ∧ l.drop i0 = Lib.decDigits k
theorem key_pos {l : List UInt8} (hh : l.head? ≠ some 45) : Key l 1 0 := fun u hu h => by
  by_cases hn : u < 0
  · exfalso
    apply hh
    rw [h]
    unfold Lib.itoa
    rw [if_pos hn]
    rfl
  · refine ⟨u.toNat, by omega, by omega, ?_⟩
    rw [List.drop_zero, h]
    unfold Lib.itoa
    rw [if_neg hn]
theorem key_neg {l : List UInt8} (hh : l.head? = some 45) : Key l (-1) 1 := fun u hu h => by
  by_cases hn : u < 0
  · refine ⟨u.natAbs, by omega, by omega, ?_⟩
    rw [h]
    unfold Lib.itoa
    rw [if_pos hn]
    rfl
  · exfalso
    have e : l = Lib.decDigits u.toNat := by
      rw [h]
      unfold Lib.itoa
      rw [if_neg hn]
    obtain ⟨c, r, e2, -, c2⟩ := dig_head (u := u.toNat)
    rw [e, e2] at hh
    simp at hh
    rw [hh] at c2
    exact c2 rfl
theorem key_len {l : List UInt8} {sg : Int} {i0 : Nat} (h : Key l sg i0) (hl : ¬ (1 ≤ (l.length : Int) - i0 ∧ (l.length : Int) - i0 ≤ 15)) {u : Int} (hu : -1099511627776 ≤ u ∧ u ≤ 1099511627776) : l ≠ Lib.itoa u := fun e => by
  obtain ⟨k, -, hk, hd⟩ := h u hu e
  have h1 := dig_len 12 k (by have : (10 : Nat) ^ (12 + 1) = 10000000000000 := rfl; omega)
  have h2 : 0 < (Lib.decDigits k).length := List.length_pos_iff.2 (dig_ne k)
  rw [← hd, List.length_drop] at h1 h2
  omega
theorem key_bad {l : List UInt8} {sg : Int} {i0 j : Nat} (h : Key l sg i0) (hi : i0 ≤ j) (hj : j < l.length) (hb : ¬ (48 ≤ (l[j]).toNat ∧ (l[j]).toNat ≤ 57)) {u : Int} (hu : -1099511627776 ≤ u ∧ u ≤ 1099511627776) : l ≠ Lib.itoa u := fun e => by
  obtain ⟨k, -, hk, hd⟩ := h u hu e
  apply hb
  refine dig_all k _ ?_
  rw [← hd]
  have : l[j] = (l.drop i0)[j - i0]'(by rw [List.length_drop]; omega) := by
    rw [List.getElem_drop]
    congr 1
    omega
  rw [this]
  exact List.getElem_mem _
theorem take_step {l : List UInt8} {i0 j m : Nat} (hi : i0 ≤ j) (hj : j < l.length) (hm : Lib.decFrom 0 ((l.take j).drop i0) = some m) (hb : 48 ≤ (l[j]).toNat ∧ (l[j]).toNat ≤ 57) : Lib.decFrom 0 ((l.take (j + 1)).drop i0) = some (m * 10 + ((l[j]).toNat - 48)) := by
  have e : (l.take (j + 1)).drop i0 = (l.take j).drop i0 ++ [l[j]] := by
    rw [List.take_succ_eq_append_getElem hj, List.drop_append_of_le_length (by rw [List.length_take]; omega)]
  rw [e, decFrom_app, hm]
  show (match Lib.digitVal l[j] with | some d => some (m * 10 + d) | none => none) = _
  unfold Lib.digitVal
  rw [if_pos hb]
set_option maxRecDepth 100000 in
set_option maxHeartbeats 8000000 in
theorem r1num_pos (l : List UInt8) (w : World) (hl : l.length ≤ 10000) (hh : l.head? ≠ some 45) :
    Calls Tryd.prog 29 #[.string ⟨l.toArray⟩] w fun e w' => ∃ v b, e = .returned (.tuple #[.int .i64 v, .bool b]) ∧ Kept w w' ∧ I64 v ∧ (b = true → l = Lib.itoa v) ∧ (∀ u, -1099511627776 ≤ u ∧ u ≤ 1099511627776 → l = Lib.itoa u → b = true ∧ v = u) := by
  have hkey := key_pos hh
  have hb0 : ∀ h : 0 < (⟨l.toArray⟩ : ByteArray).size, ((((⟨l.toArray⟩ : ByteArray)[0]'h).toNat : Int) == 45) = false := fun h => by
    have h0 : 0 < l.length := by
      have h : 0 < l.toArray.size := h
      simpa using h
    apply beq_eq_false_iff_ne.2
    intro e
    apply hh
    rw [List.head?_eq_getElem?, List.getElem?_eq_getElem h0]
    congr 1
    apply UInt8.toNat_inj.1
    have : ((l[0]).toNat : Int) = 45 := e
    show (l[0]).toNat = 45
    omega
  by_cases hw : 1 ≤ (l.length : Int) ∧ (l.length : Int) ≤ 15
  case neg =>
    have g2 : withinB ((l.length : Int)) 1 15 = false := decide_eq_false hw
    have HK := Lib.hid hkey
    clear hkey hh
    skip
    go_enter Tryd.func29, Tryd.ntmps29
    go_wp2_with (first | (go_at_call 62; refine (within_any _ _ _ _).mono ?_; rintro e w1 ⟨rfl, rfl⟩))
    all_goals
      refine bodyPost_ret (by simp only [results, Tryd.results29]; go_simp; rfl) rfl ?_
      exact ⟨0, false, rfl, by (repeat (first | exact Kept.refl _ | assumption | refine Kept.alloc ?_ _ | refine Kept.ext ?_ _ | refine Kept.drew ?_ | refine Kept.drewN ?_ _)), by unfold I64; omega, fun h => (by cases h), fun u hu h => absurd h (key_len HK.out hw hu)⟩
  have g2 : withinB ((l.length : Int)) 1 15 = true := decide_eq_true hw
  have h0 : 0 < l.length := by omega
  have HK := Lib.hid hkey
  clear hkey hh
  skip
  go_enter Tryd.func29, Tryd.ntmps29
  go_wp2_with (first | (go_at_call 62; refine (within_any _ _ _ _).mono ?_; rintro e w1 ⟨rfl, rfl⟩))
  go_loopw [5, 6] (fun i n wr => ∃ j m : Nat, 0 ≤ j ∧ j ≤ l.length ∧ i = .int .i64 j ∧ n = .int .i64 m ∧ Lib.decFrom 0 ((l.take j).drop 0) = some m ∧ m < 10 ^ (j - 0) ∧ ∃ y, wr = ext w y) (fun i _ _ => l.length - (intOf i).toNat)
  case atStart =>
    refine ⟨0, 0, Nat.le_refl _, by omega, rfl, rfl, ?_, by simp, show Kept _ _ by (repeat (first | exact Kept.refl _ | assumption | refine Kept.alloc ?_ _ | refine Kept.ext ?_ _ | refine Kept.drew ?_ | refine Kept.drewN ?_ _))⟩
    rw [List.drop_of_length_le (by rw [List.length_take]; omega)]
    rfl
  case round =>
    obtain ⟨j, m, hj0, hj, rfl, rfl, hd, hm, y, rfl⟩ := hrel
    have hp : 10 ^ (j - 0) ≤ 10 ^ 15 := Nat.pow_le_pow_right (by omega) (by omega)
    have hp2 : (10 : Nat) ^ 15 = 1000000000000000 := rfl
    have hm2 : m < 1000000000000000 := by omega
    have HD := Lib.hid hd
    have HM := Lib.hid hm
    clear hd hp hp2 hm
    by_cases hlt : j < l.length
    · have g0 : decide ((j : Int) < l.length) = true := decide_eq_true (by omega)
      obtain ⟨c, hc⟩ : ∃ c, l[j] = c := ⟨_, rfl⟩
      have hget : ((⟨l.toArray⟩ : ByteArray)[j]'(by show j < l.toArray.size; simpa using hlt)) = c := hc
      have hc256 := c.toNat_lt
      by_cases hb : 48 ≤ c.toNat ∧ c.toNat ≤ 57
      · have g3 : decide ((c.toNat : Int) < 48) = false := decide_eq_false (by omega)
        have g4 : decide ((57 : Int) < c.toNat) = false := decide_eq_false (by omega)
        have hs := take_step hj0 hlt HD.out (by rw [hc]; exact hb)
        rw [hc] at hs
        have HS := Lib.hid hs
        clear hs
        go_wp2_with fail
        go_roundw
        case rel =>
          refine ⟨j + 1, m * 10 + (c.toNat - 48), by omega, by omega, by go_num, ?_, HS.out, ?_, show Kept _ _ by (repeat (first | exact Kept.refl _ | assumption | refine Kept.alloc ?_ _ | refine Kept.ext ?_ _ | refine Kept.drew ?_ | refine Kept.drewN ?_ _))⟩
          · refine val_eq ?_
            omega
          · have := HM.out
            rw [show j + 1 - 0 = (j - 0) + 1 by omega, Nat.pow_succ]
            omega
        case measure => simp [intOf]; omega
      · have hbad : ∀ u : Int, -1099511627776 ≤ u ∧ u ≤ 1099511627776 → l ≠ Lib.itoa u := fun u hu => key_bad HK.out hj0 hlt (by rw [hc]; exact hb) hu
        have HB := Lib.hid hbad
        clear hbad
        by_cases h48 : c.toNat < 48
        · have g3 : decide ((c.toNat : Int) < 48) = true := decide_eq_true (by omega)
          go_wp2_with fail
          refine bodyPost_ret (by simp only [results, Tryd.results29]; go_simp; rfl) rfl ?_
          exact ⟨0, false, rfl, by (repeat (first | exact Kept.refl _ | assumption | refine Kept.alloc ?_ _ | refine Kept.ext ?_ _ | refine Kept.drew ?_ | refine Kept.drewN ?_ _)), by unfold I64; omega, fun h => (by cases h), fun u hu h => absurd h (HB.out u hu)⟩
        · have g3 : decide ((c.toNat : Int) < 48) = false := decide_eq_false (by omega)
          have g4 : decide ((57 : Int) < c.toNat) = true := decide_eq_true (by omega)
          go_wp2_with fail
          refine bodyPost_ret (by simp only [results, Tryd.results29]; go_simp; rfl) rfl ?_
          exact ⟨0, false, rfl, by (repeat (first | exact Kept.refl _ | assumption | refine Kept.alloc ?_ _ | refine Kept.ext ?_ _ | refine Kept.drew ?_ | refine Kept.drewN ?_ _)), by unfold I64; omega, fun h => (by cases h), fun u hu h => absurd h (HB.out u hu)⟩
    · obtain rfl : j = l.length := by omega
      have hd := HD.out
      rw [List.take_length] at hd
      have hfin : ∀ u : Int, -1099511627776 ≤ u ∧ u ≤ 1099511627776 → l = Lib.itoa u → m = u := fun u hu h => by
        obtain ⟨k, h1, -, h3⟩ := HK.out u hu h
        rw [h3, decFrom_dig] at hd
        injection hd with hd
        omega
      have HF := Lib.hid hfin
      have hdg : ∀ w, _ := fun w => r1dig_any (m) w (by omega)
      have HDG := Lib.hid hdg
      clear hd hfin hdg
      go_wp2_with (go_at_call 24; refine (HDG.out _).mono ?_; rintro e w1 ⟨rfl, x1, rfl⟩)
      refine bodyPost_ret (by simp only [results, Tryd.results29]; go_simp; rfl) rfl ?_
      refine ⟨m, _, rfl, by (repeat (first | exact Kept.refl _ | assumption | refine Kept.alloc ?_ _ | refine Kept.ext ?_ _ | refine Kept.drew ?_ | refine Kept.drewN ?_ _)), by unfold I64; omega, fun h => ?_, fun u hu h => ?_⟩
      · simpa using (eq_of_beq (by simpa using h)).symm
      · have e := HF.out u hu h
        refine ⟨?_, e⟩
        rw [e, ← h]
        simp
set_option maxRecDepth 100000 in
set_option maxHeartbeats 8000000 in
theorem r1num_neg (l : List UInt8) (w : World) (hl : l.length ≤ 10000) (hh : l.head? = some 45) :
    Calls Tryd.prog 29 #[.string ⟨l.toArray⟩] w fun e w' => ∃ v b, e = .returned (.tuple #[.int .i64 v, .bool b]) ∧ Kept w w' ∧ I64 v ∧ (b = true → l = Lib.itoa v) ∧ (∀ u, -1099511627776 ≤ u ∧ u ≤ 1099511627776 → l = Lib.itoa u → b = true ∧ v = u) := by
  have hkey := key_neg hh
  have h0 : 0 < l.length := by
    cases l with
    | nil => cases hh
    | cons a r => simp
  have hb0 : ∀ h : 0 < (⟨l.toArray⟩ : ByteArray).size, ((((⟨l.toArray⟩ : ByteArray)[0]'h).toNat : Int) == 45) = true := fun h => by
    rw [List.head?_eq_getElem?, List.getElem?_eq_getElem h0] at hh
    have : l[0] = 45 := by simpa using hh
    show (((l[0]).toNat : Int) == 45) = true
    rw [this]
    rfl
  by_cases hw : 1 ≤ (l.length : Int) - 1 ∧ (l.length : Int) - 1 ≤ 15
  case neg =>
    have g2 : withinB ((l.length : Int) - 1) 1 15 = false := decide_eq_false hw
    have HK := Lib.hid hkey
    clear hkey hh
    skip
    go_enter Tryd.func29, Tryd.ntmps29
    go_wp2_with (first | (go_at_call 62; refine (within_any _ _ _ _).mono ?_; rintro e w1 ⟨rfl, rfl⟩))
    all_goals
      refine bodyPost_ret (by simp only [results, Tryd.results29]; go_simp; rfl) rfl ?_
      exact ⟨0, false, rfl, by (repeat (first | exact Kept.refl _ | assumption | refine Kept.alloc ?_ _ | refine Kept.ext ?_ _ | refine Kept.drew ?_ | refine Kept.drewN ?_ _)), by unfold I64; omega, fun h => (by cases h), fun u hu h => absurd h (key_len HK.out hw hu)⟩
  have g2 : withinB ((l.length : Int) - 1) 1 15 = true := decide_eq_true hw
  have h0 : 0 < l.length := by omega
  have HK := Lib.hid hkey
  clear hkey hh
  skip
  go_enter Tryd.func29, Tryd.ntmps29
  go_wp2_with (first | (go_at_call 62; refine (within_any _ _ _ _).mono ?_; rintro e w1 ⟨rfl, rfl⟩))
  go_loopw [5, 6] (fun i n wr => ∃ j m : Nat, 1 ≤ j ∧ j ≤ l.length ∧ i = .int .i64 j ∧ n = .int .i64 m ∧ Lib.decFrom 0 ((l.take j).drop 1) = some m ∧ m < 10 ^ (j - 1) ∧ ∃ y, wr = ext w y) (fun i _ _ => l.length - (intOf i).toNat)
  case atStart =>
    refine ⟨1, 0, Nat.le_refl _, by omega, rfl, rfl, ?_, by simp, show Kept _ _ by (repeat (first | exact Kept.refl _ | assumption | refine Kept.alloc ?_ _ | refine Kept.ext ?_ _ | refine Kept.drew ?_ | refine Kept.drewN ?_ _))⟩
    rw [List.drop_of_length_le (by rw [List.length_take]; omega)]
    rfl
  case round =>
    obtain ⟨j, m, hj0, hj, rfl, rfl, hd, hm, y, rfl⟩ := hrel
    have hp : 10 ^ (j - 1) ≤ 10 ^ 15 := Nat.pow_le_pow_right (by omega) (by omega)
    have hp2 : (10 : Nat) ^ 15 = 1000000000000000 := rfl
    have hm2 : m < 1000000000000000 := by omega
    have HD := Lib.hid hd
    have HM := Lib.hid hm
    clear hd hp hp2 hm
    by_cases hlt : j < l.length
    · have g0 : decide ((j : Int) < l.length) = true := decide_eq_true (by omega)
      obtain ⟨c, hc⟩ : ∃ c, l[j] = c := ⟨_, rfl⟩
      have hget : ((⟨l.toArray⟩ : ByteArray)[j]'(by show j < l.toArray.size; simpa using hlt)) = c := hc
      have hc256 := c.toNat_lt
      by_cases hb : 48 ≤ c.toNat ∧ c.toNat ≤ 57
      · have g3 : decide ((c.toNat : Int) < 48) = false := decide_eq_false (by omega)
        have g4 : decide ((57 : Int) < c.toNat) = false := decide_eq_false (by omega)
        have hs := take_step hj0 hlt HD.out (by rw [hc]; exact hb)
        rw [hc] at hs
        have HS := Lib.hid hs
        clear hs
        go_wp2_with fail
        go_roundw
        case rel =>
          refine ⟨j + 1, m * 10 + (c.toNat - 48), by omega, by omega, by go_num, ?_, HS.out, ?_, show Kept _ _ by (repeat (first | exact Kept.refl _ | assumption | refine Kept.alloc ?_ _ | refine Kept.ext ?_ _ | refine Kept.drew ?_ | refine Kept.drewN ?_ _))⟩
          · refine val_eq ?_
            omega
          · have := HM.out
            rw [show j + 1 - 1 = (j - 1) + 1 by omega, Nat.pow_succ]
            omega
        case measure => simp [intOf]; omega
      · have hbad : ∀ u : Int, -1099511627776 ≤ u ∧ u ≤ 1099511627776 → l ≠ Lib.itoa u := fun u hu => key_bad HK.out hj0 hlt (by rw [hc]; exact hb) hu
        have HB := Lib.hid hbad
        clear hbad
        by_cases h48 : c.toNat < 48
        · have g3 : decide ((c.toNat : Int) < 48) = true := decide_eq_true (by omega)
          go_wp2_with fail
          refine bodyPost_ret (by simp only [results, Tryd.results29]; go_simp; rfl) rfl ?_
          exact ⟨0, false, rfl, by (repeat (first | exact Kept.refl _ | assumption | refine Kept.alloc ?_ _ | refine Kept.ext ?_ _ | refine Kept.drew ?_ | refine Kept.drewN ?_ _)), by unfold I64; omega, fun h => (by cases h), fun u hu h => absurd h (HB.out u hu)⟩
        · have g3 : decide ((c.toNat : Int) < 48) = false := decide_eq_false (by omega)
          have g4 : decide ((57 : Int) < c.toNat) = true := decide_eq_true (by omega)
          go_wp2_with fail
          refine bodyPost_ret (by simp only [results, Tryd.results29]; go_simp; rfl) rfl ?_
          exact ⟨0, false, rfl, by (repeat (first | exact Kept.refl _ | assumption | refine Kept.alloc ?_ _ | refine Kept.ext ?_ _ | refine Kept.drew ?_ | refine Kept.drewN ?_ _)), by unfold I64; omega, fun h => (by cases h), fun u hu h => absurd h (HB.out u hu)⟩
    · obtain rfl : j = l.length := by omega
      have hd := HD.out
      rw [List.take_length] at hd
      have hfin : ∀ u : Int, -1099511627776 ≤ u ∧ u ≤ 1099511627776 → l = Lib.itoa u → -(m : Int) = u := fun u hu h => by
        obtain ⟨k, h1, -, h3⟩ := HK.out u hu h
        rw [h3, decFrom_dig] at hd
        injection hd with hd
        omega
      have HF := Lib.hid hfin
      have hdg : ∀ w, _ := fun w => r1dig_any (-(m : Int)) w (by omega)
      have HDG := Lib.hid hdg
      clear hd hfin hdg
      go_wp2_with (go_at_call 24; refine (HDG.out _).mono ?_; rintro e w1 ⟨rfl, x1, rfl⟩)
      refine bodyPost_ret (by simp only [results, Tryd.results29]; go_simp; rfl) rfl ?_
      refine ⟨-(m : Int), _, rfl, by (repeat (first | exact Kept.refl _ | assumption | refine Kept.alloc ?_ _ | refine Kept.ext ?_ _ | refine Kept.drew ?_ | refine Kept.drewN ?_ _)), by unfold I64; omega, fun h => ?_, fun u hu h => ?_⟩
      · simpa using (eq_of_beq (by simpa using h)).symm
      · have e := HF.out u hu h
        refine ⟨?_, e⟩
        rw [e, ← h]
        simp
theorem r1num_any (l : List UInt8) (w : World) (hl : l.length ≤ 10000) :
    Calls Tryd.prog 29 #[.string ⟨l.toArray⟩] w fun e w' => ∃ v b, e = .returned (.tuple #[.int .i64 v, .bool b]) ∧ Kept w w' ∧ I64 v ∧ (b = true → l = Lib.itoa v) ∧ (∀ u, -1099511627776 ≤ u ∧ u ≤ 1099511627776 → l = Lib.itoa u → b = true ∧ v = u) := by
  by_cases hh : l.head? = some 45
  · exact r1num_neg l w hl hh
  · exact r1num_pos l w hl hh
end Go.Proofs.YtbefphfgcbbcpaaDoor
