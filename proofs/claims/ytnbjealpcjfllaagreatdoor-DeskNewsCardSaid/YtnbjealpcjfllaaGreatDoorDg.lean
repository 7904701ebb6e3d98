/- Contract: decimal digits, of the reference. Conditions: the number is above the least int. -/
import Derived.Test.YtnbjealpcjfllaaGreatDoorQuob
import Derived.Test.YtnbjealpcjfllaaGreatDoorOpr
import Derived.Lib.ItoaNum
import Derived.Lib.ItoaLen
import Derived.Lib.ItoaMem
import Derived.Laws.IdiomStrings
namespace Go.Proofs.YtnbjealpcjfllaaGreatDoor
set_option linter.unusedVariables false
set_option linter.unusedSimpArgs false
open Go.ChangeShapes Go.WideShapes Go.ChangeAt Go.RowKit
theorem conv1 (X : World) (g : Nat) (z : Int) (hg : X.heap.size = g) (hz : 0 ≤ z ∧ z < 256) :
    (convert 127 9 (.slice (some ⟨g, 0, none⟩) 1 1)).run Tryz.prog (X.alloc (.cells #[.int .u8 z] 5)) = .ok (.string ⟨#[UInt8.ofNat z.toNat]⟩) (X.alloc (.cells #[.int .u8 z] 5)) := by
  subst hg
  have e : ((UInt8.ofNat z.toNat).toNat : Int) = z := by
    rw [UInt8.toNat_ofNat', Nat.mod_eq_of_lt (by omega)]
    omega
  refine run_convert_bytes_back _ _ _ 5 _ 1 [UInt8.ofNat z.toNat] Tryz.underlying127 Tryz.underlying5 Tryz.underlying9 (fun j hj => ?_)
  obtain rfl : j = 0 := by simp at hj; omega
  simp only [List.getElem_cons_zero]
  rw [e]
  have h := heap_alloc_new X (.cells #[.int .u8 z] 5)
  unfold World.cell? Addr.add
  show (match (X.alloc (.cells #[.int .u8 z] 5)).heap[X.heap.size]? with | some (Obj.cells c elem frozen) => c[0 + 0]? | x => none) = some (Value.int IntKind.u8 z)
  rw [h]
  rfl
theorem dec_step {k : Nat} (h : 9 < k) : Lib.decDigits k = Lib.decDigits (k / 10) ++ [48 + UInt8.ofNat (k % 10)] := by
  rw [Lib.decDigits, dif_neg (by omega), UInt8.ofNat_add]
  rfl
theorem dec_last {k : Nat} (h : ¬ 9 < k) : Lib.decDigits k = [48 + UInt8.ofNat k] := by
  rw [Lib.decDigits, dif_pos (by omega), UInt8.ofNat_add]
  rfl
theorem bytes_cons (b : UInt8) (l : List UInt8) : ((⟨#[b]⟩ : ByteArray) ++ ⟨l.toArray⟩) = ⟨(b :: l).toArray⟩ := by
  apply ByteArray.ext
  simp
end Go.Proofs.YtnbjealpcjfllaaGreatDoor
