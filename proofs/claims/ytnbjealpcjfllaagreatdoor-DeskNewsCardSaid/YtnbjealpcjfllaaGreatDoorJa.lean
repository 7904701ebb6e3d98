/- Contracts: sums, right texts, equal lists of texts, of the reference. Conditions: the texts are short. -/
import Derived.Test.YtnbjealpcjfllaaGreatDoorDe
namespace Go.Proofs.YtnbjealpcjfllaaGreatDoor
set_option linter.unusedVariables false
set_option linter.unusedSimpArgs false
open Go.ChangeShapes Go.WideShapes Go.ChangeAt Go.RowKit Go.Deep
theorem rem_two (s : Int) : (s.tmod 1000003 + 1000003).tmod 1000003 = s % 1000003 ∧ -1000003 < s.tmod 1000003 ∧ s.tmod 1000003 < 1000003 := by
  obtain ⟨h1, h2, h3, h4⟩ := rem_fix s
  refine ⟨?_, h3, h4⟩
  rw [Int.tmod_eq_emod_of_nonneg (by omega)]
  omega
set_option maxRecDepth 100000 in
theorem r9sum_any (b : Int) (l : List UInt8) (w : World) (hs : l.length ≤ 281474976710656) :
    Calls Tryz.prog 79 #[.int .i64 b, .string ⟨l.toArray⟩] w fun e w' => e = .returned (.int .i64 (sumB b l)) ∧ w = w' := by
  obtain ⟨h1, h3, h4⟩ := rem_two b
  obtain ⟨r, hr⟩ : ∃ r, sumB b l = r := ⟨_, rfl⟩
  rw [hr]
  have hr1 : l.foldl (fun t b => (t * 257 + (b.toNat : Int) + 1) % 1000003) (b % 1000003) = r := hr
  have HR := Lib.hid hr1
  clear hr hr1
  obtain ⟨m, hm⟩ : ∃ m, b.tmod 1000003 = m := ⟨_, rfl⟩
  rw [hm] at h1 h3 h4
  obtain ⟨g, hg⟩ : ∃ g, b % 1000003 = g := ⟨_, rfl⟩
  have HG := Lib.hid hg
  have hg2 : 0 ≤ g ∧ g < 1000003 := by omega
  rw [hg] at h1
  clear hg
  have hsz := ba_size l
  go_enter Tryz.func79, Tryz.ntmps79
  go_wp2_with fail
  go_loopw [5, 6] (fun v i wr => ∃ k : Nat, k ≤ l.length ∧ i = .int .i64 k ∧ v = .int .i64 ((l.take k).foldl (fun t b => (t * 257 + (b.toNat : Int) + 1) % 1000003) g) ∧ wr = w) (fun _ i _ => l.length - (intOf i).toNat)
  case atStart => exact ⟨0, by omega, rfl, rfl, rfl⟩
  case round =>
    obtain ⟨k, hk, rfl, rfl, rfl⟩ := hrel
    obtain ⟨q, hq⟩ : ∃ q, (l.take k).foldl (fun t b => (t * 257 + (b.toNat : Int) + 1) % 1000003) g = q := ⟨_, rfl⟩
    have fb : 0 ≤ q ∧ q < 1000003 := hq ▸ sumB_fold _ _ hg2
    by_cases hlt : k < l.length
    · have hk64 : (k : Int) + 1 ≤ 9223372036854775807 := by omega
      have e2 := fold_take (s := ⟨l.toArray⟩) hlt g (fun t b => (t * 257 + (b.toNat : Int) + 1) % 1000003)
      obtain ⟨c, hc⟩ : ∃ c, l[k] = c := ⟨_, rfl⟩
      have hget : ((⟨l.toArray⟩ : ByteArray)[k]'(by show k < l.toArray.size; simpa using hlt)) = c := hc
      have e2 : (l.take (k + 1)).foldl (fun t b => (t * 257 + (b.toNat : Int) + 1) % 1000003) g = (q * 257 + (c.toNat : Int) + 1) % 1000003 := by rw [← hq, ← hget]; exact e2
      have bb := c.toNat_lt
      have hrem : (q * 257 + (c.toNat : Int) + 1).tmod 1000003 = (q * 257 + (c.toNat : Int) + 1) % 1000003 := Int.tmod_eq_emod_of_nonneg (by omega)
      have E2 := Lib.hid e2
      clear e2 hc
      rw [hq]
      clear hq
      go_wp2_with fail
      go_roundw
      case rel => exact ⟨k + 1, hlt, by go_num, by rw [E2.out], by trivial⟩
      case measure =>
        simp [intOf]
        omega
    · have e3 : q = r := by rw [← HR.out, HG.out, ← hq, List.take_of_length_le (by omega)]
      subst e3
      rw [hq]
      clear hq
      go_wp2_with fail
      go_ret
      exact ⟨rfl, rfl⟩
set_option maxRecDepth 100000 in
theorem r9right_any (l : List UInt8) (w : World) :
    Calls Tryz.prog 84 #[.string ⟨l.toArray⟩] w fun e w' => e = .returned (.bool (rightB l)) ∧ w = w' := by
  have hsz := ba_size l
  by_cases h0 : 1 ≤ l.length ∧ l.length ≤ 100
  case neg =>
    have ev : rightB l = false := by
      unfold rightB
      rw [decide_eq_false h0]
      rfl
    rw [ev]
    clear ev
    by_cases hb : l.length < 1
    · have g : (l.length : Int) < 1 := by omega
      go_enter Tryz.func84, Tryz.ntmps84
      go_wp2_with fail
      go_ret
      exact ⟨rfl, rfl⟩
    · have g : (1 : Int) ≤ l.length := by omega
      have g2 : (100 : Int) < l.length := by omega
      go_enter Tryz.func84, Tryz.ntmps84
      go_wp2_with fail
      go_ret
      exact ⟨rfl, rfl⟩
  case pos =>
    have g : (1 : Int) ≤ l.length := by omega
    have g2 : (l.length : Int) ≤ 100 := by omega
    have hz := h0.2
    have ev : rightB l = l.all signB := by
      unfold rightB
      rw [decide_eq_true h0, Bool.true_and]
      rfl
    rw [ev]
    clear ev h0
    obtain ⟨r, hr⟩ : ∃ r, l.all signB = r := ⟨_, rfl⟩
    rw [hr]
    have HR := Lib.hid hr
    clear hr
    go_enter Tryz.func84, Tryz.ntmps84
    go_wp2_with fail
    go_loopw [3] (fun i wr => ∃ k : Nat, k ≤ l.length ∧ i = .int .i64 k ∧ wr = w ∧ AllTo signB ⟨l.toArray⟩ k) (fun i _ => l.length - (intOf i).toNat)
    case atStart => exact ⟨0, by omega, rfl, rfl, fun i _ hi => absurd hi (by omega)⟩
    case round =>
      clear g g2
      obtain ⟨k, hk, rfl, rfl, hc⟩ := hrel
      have HC := Lib.hid hc
      clear hc
      by_cases hlt : k < l.length
      · have hlt' : k < (⟨l.toArray⟩ : ByteArray).size := hlt
        obtain ⟨c, hget⟩ : ∃ c, ((⟨l.toArray⟩ : ByteArray)[k]'hlt') = c := ⟨_, rfl⟩
        have bb := c.toNat_lt
        by_cases hg : 32 ≤ c.toNat ∧ c.toNat ≤ 126
        · have g1 : (32 : Int) ≤ c.toNat := by omega
          have g3 : (c.toNat : Int) ≤ 126 := by omega
          have hn := allTo_next HC.out hlt' (by rw [hget]; exact decide_eq_true hg)
          have HN := Lib.hid hn
          have hget2 : ((⟨l.toArray⟩ : ByteArray)[k]'(by show k < l.toArray.size; simpa using hlt)) = c := hget
          obtain ⟨y, hy⟩ : ∃ y : Int, (c.toNat : Int) = y := ⟨_, rfl⟩
          rw [hy] at g1 g3
          clear hn hg hget hlt' bb
          go_wp2_with fail
          go_roundw
          case rel => exact ⟨k + 1, hlt, by go_num, by trivial, HN.out⟩
          case measure =>
            simp [intOf]
            omega
        · have er : r = false := by rw [← HR.out]; exact not_all (s := ⟨l.toArray⟩) hlt' (by rw [hget]; exact decide_eq_false hg)
          subst er
          have hget2 : ((⟨l.toArray⟩ : ByteArray)[k]'(by show k < l.toArray.size; simpa using hlt)) = c := hget
          clear hget hlt'
          by_cases g0 : 32 ≤ c.toNat
          · have g1 : (32 : Int) ≤ c.toNat := by omega
            have g3 : (126 : Int) < (c.toNat : Int) := by omega
            clear hg
            go_wp2_with fail
            go_ret
            exact ⟨rfl, rfl⟩
          · have g1 : (c.toNat : Int) < 32 := by omega
            clear hg
            go_wp2_with fail
            go_ret
            exact ⟨rfl, rfl⟩
      · have er : r = true := by rw [← HR.out]; exact all_of (s := ⟨l.toArray⟩) HC.out hlt
        subst er
        go_wp2_with fail
        go_ret
        exact ⟨rfl, rfl⟩
/-- A list of texts in memory. -/
def TxAt (w : World) (A : Option Addr) (l : List (List UInt8)) : Prop :=
  0 < l.length → ∃ b off, A = some ⟨b, off, none⟩ ∧ b < w.heap.size ∧ ∀ k (h : k < l.length), w.cell? ⟨b, off + k, none⟩ = some (strV l[k])
theorem TxAt.of {w w' : World} {A : Option Addr} {l : List (List UInt8)} (h : TxAt w A l) (hk : Kept w w') : TxAt w' A l := fun h0 => by
  obtain ⟨b, off, e, hb, hc⟩ := h h0
  refine ⟨b, off, e, Nat.lt_of_lt_of_le hb (kept_size hk), fun k hkl => cell_old (hc k hkl) hb hk⟩
theorem TxAt.at {w : World} {A : Option Addr} {l : List (List UInt8)} (h : TxAt w A l) {k : Nat} (hk : k < l.length) : ∃ b off, A = some ⟨b, off, none⟩ ∧ b < w.heap.size ∧ w.cell? ⟨b, off + k, none⟩ = some (strV l[k]) := by
  obtain ⟨b, off, e, hb, hc⟩ := h (by omega)
  exact ⟨b, off, e, hb, hc k hk⟩
end Go.Proofs.YtnbjealpcjfllaaGreatDoor
