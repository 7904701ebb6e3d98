/- Contracts: sums, differences, products and quotients of spans. No conditions. -/
import Derived.Test.YtbhcjdgfcinpcaaOp
import Derived.Laws.EntriesVeiled
namespace Go.Proofs.Ytbhcjdgfcinpcaa
set_option linter.unusedVariables false
set_option linter.unusedSimpArgs false
open Go.RowKit
def addS (al ah bl bh : Int) : R := if validB al ah && validB bl bh then resultS (al + bl) (ah + bh) else ⟨0, 0, 1⟩
def subS (al ah bl bh : Int) : R := if validB al ah && validB bl bh then resultS (al - bh) (ah - bl) else ⟨0, 0, 1⟩
def mulS (al ah bl bh : Int) : R := if validB al ah && validB bl bh then resultS (min4 fDown al ah bl bh) (max4 fUp al ah bl bh) else ⟨0, 0, 1⟩
def divS (al ah bl bh : Int) : R := if validB al ah && validB bl bh then (if bl ≤ 0 ∧ 0 ≤ bh then ⟨0, 0, 11⟩ else resultS (min4 qDown al ah bl bh) (max4 qUp al ah bl bh)) else ⟨0, 0, 1⟩
theorem fixes {al ah bl bh : Int} (h : (validB al ah && validB bl bh) = true) : Fix al ∧ Fix ah ∧ Fix bl ∧ Fix bh ∧ al ≤ ah ∧ bl ≤ bh := by
  simp only [Bool.and_eq_true] at h
  have v1 := valid_bd h.1
  have v2 := valid_bd h.2
  unfold Fix
  omega
end Go.Proofs.Ytbhcjdgfcinpcaa
