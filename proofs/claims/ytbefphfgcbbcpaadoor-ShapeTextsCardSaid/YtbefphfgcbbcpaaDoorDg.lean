/- Contract: decimal digits, of the reference. Conditions: the number is above the least int. -/
import Derived.Test.YtbefphfgcbbcpaaDoorQuob
import Derived.Test.YtbefphfgcbbcpaaDoorRow
import Derived.Lib.ItoaNum
import Derived.Lib.ItoaLen
import Derived.Lib.ItoaMem
import Derived.Laws.IdiomStrings
namespace Go.Proofs.YtbefphfgcbbcpaaDoor
set_option linter.unusedVariables false
set_option linter.unusedSimpArgs false
open Go.ChangeShapes Go.WideShapes Go.ChangeAt Go.RowKit
theorem conv1 (X : World) (g : Nat) (z : Int) (hg : X.heap.size = g) (hz : 0 ≤ z ∧ z < 256) :
    (convert 49 9 (.slice (some ⟨g, 0, none⟩) 1 1)).run Tryd.prog (X.alloc (.cells #[.int .u8 z] 5)) = .ok (.string ⟨#[UInt8.ofNat z.toNat]⟩) (X.alloc (.cells #[.int .u8 z] 5)) := by
  subst hg
  have e : ((UInt8.ofNat z.toNat).toNat : Int) = z := by
    rw [UInt8.toNat_ofNat', Nat.mod_eq_of_lt (by omega)]
    omega
  refine run_convert_bytes_back _ _ _ 5 _ 1 [UInt8.ofNat z.toNat] Tryd.underlying49 Tryd.underlying5 Tryd.underlying9 (fun j hj => ?_)
  obtain rfl : j = 0 := by simp at hj; omega
  simp only [List.getElem_cons_zero]
  rw [e]
  have h := heap_alloc_new X (.cells #[.int .u8 z] 5)
  unfold World.cell? Addr.add
  show (match (X.alloc (.cells #[.int .u8 z] 5)).heap[X.heap.size]? with | some (Obj.cells c elem frozen) => c[0 + 0]? | x => none) = some (Value.int IntKind.u8 z)
  rw [h]
  rfl
theorem dec_step {k : Nat} (h : 9 < k) : Lib.decDigits k = Lib.decDigits (k / 10) ++ [48 + UInt8.ofNat (k % 10)] := by
  rw [Lib.decDigits, dif_neg (by omega), UInt8.ofNat_add]
  rfl
theorem dec_last {k : Nat} (h : ¬ 9 < k) : Lib.decDigits k = [48 + UInt8.ofNat k] := by
  rw [Lib.decDigits, dif_pos (by omega), UInt8.ofNat_add]
  rfl
theorem bytes_cons (b : UInt8) (l : List UInt8) : ((⟨#[b]⟩ : ByteArray) ++ ⟨l.toArray⟩) = ⟨(b :: l).toArray⟩ := by
  apply ByteArray.ext
  simp
set_option maxRecDepth 100000 in
set_option maxHeartbeats 4000000 in
theorem dig_pos (n : Nat) (w : World) (hn : n ≤ 9223372036854775807) :
    Calls Tryd.prog 24 #[.int .i64 n] w fun e w' => e = .returned (.string ⟨(Lib.decDigits n).toArray⟩) ∧ Kept w w' := by
  have g0 : decide ((n : Int) < 0) = false := decide_eq_false (by omega)
  go_enter Tryd.func24, Tryd.ntmps24
  go_wp2_with fail
  go_loopw [0, 3] (fun a s wr => ∃ (k : Nat) (l : List UInt8), k ≤ n ∧ a = .int .i64 k ∧ s = .string ⟨l.toArray⟩ ∧ Lib.decDigits n = Lib.decDigits k ++ l ∧ ∃ y, wr = ext w y) (fun a _ _ => (intOf a).toNat)
  case atStart => exact ⟨n, [], by omega, rfl, rfl, by simp, show Kept _ _ by (repeat (first | exact Kept.refl _ | assumption | refine Kept.alloc ?_ _ | refine Kept.ext ?_ _ | refine Kept.drew ?_ | refine Kept.drewN ?_ _))⟩
  case round =>
    obtain ⟨k, l, hk, rfl, rfl, hd, y, rfl⟩ := hrel
    have hl : l.length ≤ 21 := by
      have h1 := Lib.itoa_length_le (n : Int) (by omega) (by omega)
      rw [Lib.itoa_nonneg, hd, List.length_append] at h1
      omega
    have hl2 : ¬ 9223372036854775807 < 1 + l.length := by omega
    have HD := Lib.hid hd
    clear hd
    by_cases h9 : 9 < k
    · have g1 : decide ((9 : Int) < k) = true := decide_eq_true (by omega)
      have hcv := conv1 (ext w y) (adv w.heap.size y.obs.size) (48 + (k : Int) % 10) (by rw [ext_size]) (by omega)
      go_wp2_with fail
      go_roundw
      case rel => exact ⟨k / 10, (48 + UInt8.ofNat (k % 10)) :: l, by omega, by simp, by rw [bytes_cons], by rw [HD.out, dec_step h9, List.append_assoc]; rfl, show Kept _ _ by (repeat (first | exact Kept.refl _ | assumption | refine Kept.alloc ?_ _ | refine Kept.ext ?_ _ | refine Kept.drew ?_ | refine Kept.drewN ?_ _))⟩
      case measure => simp [intOf]; omega
    · have g1 : decide ((9 : Int) < k) = false := decide_eq_false (by omega)
      have hcv := conv1 (ext w y) (adv w.heap.size y.obs.size) (48 + (k : Int)) (by rw [ext_size]) (by omega)
      go_wp2_with fail
      go_ret
      refine ⟨?_, by (repeat (first | exact Kept.refl _ | assumption | refine Kept.alloc ?_ _ | refine Kept.ext ?_ _ | refine Kept.drew ?_ | refine Kept.drewN ?_ _))⟩
      rw [bytes_cons, HD.out, dec_last h9]
      rfl
set_option maxRecDepth 100000 in
set_option maxHeartbeats 4000000 in
/-- The reference's digits are the library's. -/
theorem r1dig_any (n : Int) (w : World) (hn : -9223372036854775807 ≤ n ∧ n ≤ 9223372036854775807) :
    Calls Tryd.prog 24 #[.int .i64 n] w fun e w' => e = .returned (.string ⟨(Lib.itoa n).toArray⟩) ∧ Kept w w' := by
  by_cases h : n < 0
  · obtain ⟨k, rfl⟩ : ∃ k : Nat, n = -(k : Int) := ⟨n.natAbs, by omega⟩
    have g0 : decide (-(k : Int) < 0) = true := decide_eq_true h
    have hc : ∀ w, _ := fun w => dig_pos k w (by omega)
    have HC := Lib.hid hc
    have h1 := Lib.itoa_length_le (k : Int) (by omega) (by omega)
    rw [Lib.itoa_nonneg] at h1
    have hl2 : ¬ 9223372036854775807 < 1 + (Lib.decDigits k).length := by omega
    have he : (⟨#[45]⟩ ++ ⟨(Lib.decDigits k).toArray⟩ : ByteArray) = ⟨(Lib.itoa (-(k : Int))).toArray⟩ := by
      rw [bytes_cons, Lib.itoa_neg k (by omega)]
    have HE := Lib.hid he
    clear hc he
    go_enter Tryd.func24, Tryd.ntmps24
    go_wp2_with (go_at_call 24; refine (HC.out _).mono ?_; rintro e w1 ⟨rfl, x1, rfl⟩)
    go_ret
    exact ⟨by rw [HE.out]; rfl, by (repeat (first | exact Kept.refl _ | assumption | refine Kept.alloc ?_ _ | refine Kept.ext ?_ _ | refine Kept.drew ?_ | refine Kept.drewN ?_ _))⟩
  · obtain ⟨k, rfl⟩ := Int.eq_ofNat_of_zero_le (show 0 ≤ n by omega)
    rw [Lib.itoa_nonneg]
    exact dig_pos k w (by omega)
end Go.Proofs.YtbefphfgcbbcpaaDoor
