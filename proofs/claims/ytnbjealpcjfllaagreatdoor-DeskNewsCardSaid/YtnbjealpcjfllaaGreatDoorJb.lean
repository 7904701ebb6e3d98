/- Contract: reading a notebook, of the reference. Conditions: the text is short. -/
import Derived.Test.YtnbjealpcjfllaaGreatDoorJa
namespace Go.Proofs.YtnbjealpcjfllaaGreatDoor
set_option linter.unusedVariables false
set_option linter.unusedSimpArgs false
open Go.ChangeShapes Go.WideShapes Go.ChangeAt Go.RowKit Go.Deep
theorem brk_take {c : UInt8} {l : List UInt8} {k : Nat} (hk : k < l.length) (h : c ∉ l.take k) (he : l[k] = c) : brk c l = some (l.take k, l.drop (k + 1)) := by
  have e : l = l.take k ++ c :: l.drop (k + 1) := by
    conv => lhs; rw [← List.take_append_drop k l]
    rw [List.drop_eq_getElem_cons hk, he]
  conv => lhs; rw [e]
  exact brk_app _ h
theorem not_take {c : UInt8} {l : List UInt8} {k : Nat} (hk : k < l.length) (h : c ∉ l.take k) (he : l[k] ≠ c) : c ∉ l.take (k + 1) := by
  rw [List.take_succ_eq_append_getElem hk, List.mem_append]
  rintro (q | q)
  · exact h q
  · simp only [List.mem_singleton] at q
    exact he q.symm
end Go.Proofs.YtnbjealpcjfllaaGreatDoor
