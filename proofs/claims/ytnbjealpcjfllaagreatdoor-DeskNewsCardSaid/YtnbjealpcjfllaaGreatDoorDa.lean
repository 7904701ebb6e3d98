/- Contracts: sums of texts, which texts may be orders and words, of the program. Conditions: those of each theorem. -/
import Derived.Test.YtnbjealpcjfllaaGreatDoorBk
import Derived.Test.YtnbjealpcjfllaaGreatDoorDp
import Derived.Test.YtnbjealpcjfllaaGreatDoorOpr
import Derived.Laws.RangeAny
namespace Go.Proofs.YtnbjealpcjfllaaGreatDoor
set_option linter.unusedVariables false
set_option linter.unusedSimpArgs false
open Go.RowKit
theorem kept_iter (w : World) (s : ByteArray) (p : Nat) : Kept w (w.iter s p) := (Kept.refl w).alloc _
theorem at_list (s : ByteArray) (i : Nat) (h : i < s.size) : s.data.toList[i]'(by simpa using h) = s[i]'h := by
  rw [Array.getElem_toList]
  rfl
theorem list_size (s : ByteArray) : s.data.toList.length = s.size := by simp
/-- The bytes ahead of a place are right. -/
def AllTo (f : UInt8 → Bool) (s : ByteArray) (p : Nat) : Prop := ∀ i (h : i < s.size), i < p → f (s[i]'h) = true
theorem allTo_next {f : UInt8 → Bool} {s : ByteArray} {p : Nat} (h : AllTo f s p) (hp : p < s.size) (hf : f (s[p]'hp) = true) : AllTo f s (p + 1) := fun i hi hl => by
  by_cases e : i = p
  · subst e; exact hf
  · exact h i hi (by omega)
theorem all_of {f : UInt8 → Bool} {s : ByteArray} {p : Nat} (h : AllTo f s p) (hp : ¬ p < s.size) : s.data.toList.all f = true := by
  refine List.all_eq_true.2 fun x hx => ?_
  obtain ⟨i, hi, rfl⟩ := List.mem_iff_getElem.1 hx
  have hi' : i < s.size := by simpa using hi
  rw [at_list s i hi']
  exact h i hi' (by omega)
theorem not_all {f : UInt8 → Bool} {s : ByteArray} {p : Nat} (hp : p < s.size) (hf : f (s[p]'hp) = false) : s.data.toList.all f = false := by
  refine List.all_eq_false.2 ⟨s[p]'hp, ?_, by rw [hf]; simp⟩
  rw [← at_list s p hp]
  exact List.getElem_mem _
/-- Signs of an order. -/
def signB (b : UInt8) : Bool := decide (32 ≤ b.toNat ∧ b.toNat ≤ 126)
def letB (b : UInt8) : Bool := decide ((97 ≤ b.toNat ∧ b.toNat ≤ 122) ∨ (48 ≤ b.toNat ∧ b.toNat ≤ 57))
theorem signB_high {b : UInt8} (h : 128 ≤ b.toNat) : signB b = false := decide_eq_false (by omega)
theorem letB_high {b : UInt8} (h : 128 ≤ b.toNat) : letB b = false := decide_eq_false (by omega)
set_option maxRecDepth 100000 in
theorem disl_any (s : ByteArray) (w : World) :
    Calls Tryz.prog 49 #[.string s] w fun e w' => e = .returned (.bool (rightB s.data.toList)) ∧ Kept w w' := by
  by_cases h0 : 1 ≤ s.size ∧ s.size ≤ 100
  case neg =>
    have ev : rightB s.data.toList = false := by
      unfold rightB
      rw [decide_eq_false (by rw [list_size]; exact h0)]
      rfl
    rw [ev]
    clear ev
    by_cases he : s.data.toList.isEmpty = true
    · have hb : s.toList.isEmpty = true := by rw [Lib.toList_data]; exact he
      go_enter Tryz.func49, Tryz.ntmps49
      go_wp2_with fail
      go_ret
      exact ⟨rfl, by (repeat (first | exact Kept.refl _ | assumption | refine Kept.alloc ?_ _ | refine Kept.ext ?_ _ | refine Kept.drew ?_ | refine Kept.drewN ?_ _))⟩
    · have hb : s.toList.isEmpty = false := by rw [Lib.toList_data]; simpa using he
      have hs : s.size ≠ 0 := fun q => he (by rw [← list_size, List.length_eq_zero_iff] at q; rw [q]; rfl)
      have hl : (100 : Int) < s.size := by omega
      go_enter Tryz.func49, Tryz.ntmps49
      go_wp2_with fail
      go_ret
      exact ⟨rfl, by (repeat (first | exact Kept.refl _ | assumption | refine Kept.alloc ?_ _ | refine Kept.ext ?_ _ | refine Kept.drew ?_ | refine Kept.drewN ?_ _))⟩
  case pos =>
    have hb : s.toList.isEmpty = false := by
      rw [Lib.toList_data]
      cases hd : s.data.toList with
      | nil => rw [← list_size, hd] at h0; exact absurd h0.1 (by decide)
      | cons x l => rfl
    have hl : ¬ (100 : Int) < s.size := by omega
    have ev : rightB s.data.toList = s.data.toList.all signB := by
      unfold rightB
      rw [decide_eq_true (by rw [list_size]; exact h0), Bool.true_and]
      rfl
    rw [ev]
    have hz := h0.2
    clear ev h0
    obtain ⟨r, hr⟩ : ∃ r, s.data.toList.all signB = r := ⟨_, rfl⟩
    rw [hr]
    have HR := Lib.hid hr
    clear hr
    go_enter Tryz.func49, Tryz.ntmps49
    go_wp2_with fail
    go_loopw [4] (fun v wr => ∃ pos : Nat, wr = w.iter s pos ∧ pos ≤ s.size ∧ AllTo signB s pos) (fun _ w' => s.size - w'.iterPos w.heap.size)
    case atStart => exact ⟨0, rfl, by omega, fun i _ hi => absurd hi (by omega)⟩
    case round =>
      obtain ⟨pos, rfl, hle, hc⟩ := hrel
      by_cases hp : pos < s.size
      · have hnx : ∀ ty, (Instr.next (.pointer (some ⟨w.heap.size, 0, none⟩)) true ty).run Tryz.prog (w.iter s pos) = _ := fun ty => run_next_any w s pos ty hp
        have HC := Lib.hid hc
        clear hc
        by_cases ha : (s[pos]'hp).toNat < 128
        · rw [decode_ascii s pos hp ha] at hnx
          by_cases hg : 32 ≤ (s[pos]'hp).toNat ∧ (s[pos]'hp).toNat ≤ 126
          · have g1 : (32 : Int) ≤ (s[pos]'hp).toNat := by omega
            have g2 : ((s[pos]'hp).toNat : Int) ≤ 126 := by omega
            have HG := Lib.hid hg
            clear hg ha
            go_wp2_with fail
            go_roundw
            case rel => exact ⟨pos + 1, rfl, by omega, allTo_next HC.out hp (decide_eq_true HG.out)⟩
            case measure =>
              simp
              omega
          · have er : r = false := by rw [← HR.out]; exact not_all hp (decide_eq_false hg)
            subst er
            by_cases g0 : 32 ≤ (s[pos]'hp).toNat
            · have g1 : (32 : Int) ≤ (s[pos]'hp).toNat := by omega
              have g2 : (126 : Int) < ((s[pos]'hp).toNat : Int) := by omega
              clear hg ha
              go_wp2_with fail
              go_ret
              exact ⟨rfl, kept_iter _ _ _⟩
            · have g1 : ((s[pos]'hp).toNat : Int) < 32 := by omega
              clear hg ha
              go_wp2_with fail
              go_ret
              exact ⟨rfl, kept_iter _ _ _⟩
        · have er : r = false := by rw [← HR.out]; exact not_all hp (signB_high (by omega))
          subst er
          obtain ⟨q, hq⟩ : ∃ q, Utf8.decode s pos = q := ⟨_, rfl⟩
          have hh := decode_high s pos hp (by omega)
          have hh2 := decode_le s pos
          rw [hq] at hnx hh hh2
          have g1 : (32 : Int) ≤ q.1 := by omega
          have g2 : (126 : Int) < (q.1 : Int) := by omega
          clear ha hq
          go_wp2_with fail
          go_ret
          exact ⟨rfl, kept_iter _ _ _⟩
      · have hnx : ∀ ty, (Instr.next (.pointer (some ⟨w.heap.size, 0, none⟩)) true ty).run Tryz.prog (w.iter s pos) = _ := fun ty => run_next_end w s pos ty hp
        have er : r = true := by rw [← HR.out]; exact all_of hc hp
        subst er
        clear hc
        go_wp2_with fail
        go_ret
        exact ⟨rfl, kept_iter _ _ _⟩
end Go.Proofs.YtnbjealpcjfllaaGreatDoor
