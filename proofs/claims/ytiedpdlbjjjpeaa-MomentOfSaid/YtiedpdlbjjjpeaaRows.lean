/-
  No cell of these rows narrows 'for every input' (looked for: loops, veiled, ifaces, maps, wideKeys, modest, calm, conditions, laid).
  DERIVED. THE GIVEN ROWS OF THIS SEAT. 10 by the template 'for every input the law returns true; each argument reads behind the call as it read before'; 0 by the template 'total and deterministic' (their statements: YtiedpdlbjjjpeaaTotals.lean).
  GIVEN WITH THE SEED: the statements are not yours to turn. If you find one false, say at which input.
  Laid BY PROGRAM, IN A SANDBOX (cutbox-rows.mjs): the forced cells as the released guide's own fill.sh prints them over the translation edcf9b431ebfc925… (all of the seat's roots in one cut). By AI agents, Wed Nov 11 2026. No macro, syntax, notation, axiom, sorry.
-/
import Derived.Test.YtiedpdlbjjjpeaaChecked
import GoSem.Claim
import GoSem.ClaimJoined
import GoSem.ClaimMapViews
import Derived.JoinedTies
import Derived.KernelRfl
namespace Go.Proofs.Ytiedpdlbjjjpeaa
/- THE CELL 'sum', in the pinned program and in every row, IS THE sha256 OF THE DUMP (.gsa) THAT YtiedpdlbjjjpeaaProg.lean LOADS. Nothing in Lean hashes anything: it is a label: what it is worth is what the hold of that sum in a sandbox is worth. -/
noncomputable def Try.pinned : Pinned := { name := "ytiedpdlbjjjpeaa", sum := "edcf9b431ebfc9259c83d8fcb050f7dfee1b71d8f9356c370e3edcfa6969a0ce", checked := Try.checked }
namespace Rows
def none {H : Type} : Left H := { results := [], args := [] }

/-- 'facetlaw04.MomentShifts': WHATEVER THE INPUT: true; the input reads as it did. -/
def momentShiftsSpec : ChangeSpec := { name := "momentShifts", fn := fun _ => fun
  | [d1, d2] => { results := [.lit (.bool true)], args := [d1, d2] }
  | _ => none }
def momentShiftsRow : OpenClaim := { program := "ytiedpdlbjjjpeaa", sum := "edcf9b431ebfc9259c83d8fcb050f7dfee1b71d8f9356c370e3edcfa6969a0ce", func := "facet/facetlaw04.MomentShifts", spec := "momentShifts", apart := false }
def MomentShiftsSaid : Prop := momentShiftsRow.holds Try.pinned (OpenSpec.ofChange momentShiftsSpec)

/-- ITS FALSE NEIGHBOUR: 'it returns false'. Refute it at one input. -/
def momentShiftsWrong : ChangeSpec := { name := "momentShifts", fn := fun _ => fun
  | [d1, d2] => { results := [.lit (.bool false)], args := [d1, d2] }
  | _ => none }
def MomentShiftsWrongFalsely : Prop := momentShiftsRow.holds Try.pinned (OpenSpec.ofChange momentShiftsWrong)

/-- 'facetlaw04.MomentCenters': WHATEVER THE INPUT: true; the input reads as it did. -/
def momentCentersSpec : ChangeSpec := { name := "momentCenters", fn := fun _ => fun
  | [d1, d2, d3] => { results := [.lit (.bool true)], args := [d1, d2, d3] }
  | _ => none }
def momentCentersRow : OpenClaim := { program := "ytiedpdlbjjjpeaa", sum := "edcf9b431ebfc9259c83d8fcb050f7dfee1b71d8f9356c370e3edcfa6969a0ce", func := "facet/facetlaw04.MomentCenters", spec := "momentCenters", apart := false }
def MomentCentersSaid : Prop := momentCentersRow.holds Try.pinned (OpenSpec.ofChange momentCentersSpec)

/-- ITS FALSE NEIGHBOUR: 'it returns false'. Refute it at one input. -/
def momentCentersWrong : ChangeSpec := { name := "momentCenters", fn := fun _ => fun
  | [d1, d2, d3] => { results := [.lit (.bool false)], args := [d1, d2, d3] }
  | _ => none }
def MomentCentersWrongFalsely : Prop := momentCentersRow.holds Try.pinned (OpenSpec.ofChange momentCentersWrong)

/-- 'facetlaw04.MomentScales': WHATEVER THE INPUT: true; the input reads as it did. -/
def momentScalesSpec : ChangeSpec := { name := "momentScales", fn := fun _ => fun
  | [d1, d2, d3] => { results := [.lit (.bool true)], args := [d1, d2, d3] }
  | _ => none }
def momentScalesRow : OpenClaim := { program := "ytiedpdlbjjjpeaa", sum := "edcf9b431ebfc9259c83d8fcb050f7dfee1b71d8f9356c370e3edcfa6969a0ce", func := "facet/facetlaw04.MomentScales", spec := "momentScales", apart := false }
def MomentScalesSaid : Prop := momentScalesRow.holds Try.pinned (OpenSpec.ofChange momentScalesSpec)

/-- ITS FALSE NEIGHBOUR: 'it returns false'. Refute it at one input. -/
def momentScalesWrong : ChangeSpec := { name := "momentScales", fn := fun _ => fun
  | [d1, d2, d3] => { results := [.lit (.bool false)], args := [d1, d2, d3] }
  | _ => none }
def MomentScalesWrongFalsely : Prop := momentScalesRow.holds Try.pinned (OpenSpec.ofChange momentScalesWrong)

/-- 'facetlaw04.MomentOf': WHATEVER THE INPUT: true; the input reads as it did. -/
def momentOfSpec : ChangeSpec := { name := "momentOf", fn := fun _ => fun
  | [d1, d2] => { results := [.lit (.bool true)], args := [d1, d2] }
  | _ => none }
def momentOfRow : OpenClaim := { program := "ytiedpdlbjjjpeaa", sum := "edcf9b431ebfc9259c83d8fcb050f7dfee1b71d8f9356c370e3edcfa6969a0ce", func := "facet/facetlaw04.MomentOf", spec := "momentOf", apart := false }
def MomentOfSaid : Prop := momentOfRow.holds Try.pinned (OpenSpec.ofChange momentOfSpec)

/-- ITS FALSE NEIGHBOUR: 'it returns false'. Refute it at one input. -/
def momentOfWrong : ChangeSpec := { name := "momentOf", fn := fun _ => fun
  | [d1, d2] => { results := [.lit (.bool false)], args := [d1, d2] }
  | _ => none }
def MomentOfWrongFalsely : Prop := momentOfRow.holds Try.pinned (OpenSpec.ofChange momentOfWrong)

/-- 'facetlaw04.MomentUnites': WHATEVER THE INPUT: true; the input reads as it did. -/
def momentUnitesSpec : ChangeSpec := { name := "momentUnites", fn := fun _ => fun
  | [d1, d2, d3] => { results := [.lit (.bool true)], args := [d1, d2, d3] }
  | _ => none }
def momentUnitesRow : OpenClaim := { program := "ytiedpdlbjjjpeaa", sum := "edcf9b431ebfc9259c83d8fcb050f7dfee1b71d8f9356c370e3edcfa6969a0ce", func := "facet/facetlaw04.MomentUnites", spec := "momentUnites", apart := false }
def MomentUnitesSaid : Prop := momentUnitesRow.holds Try.pinned (OpenSpec.ofChange momentUnitesSpec)

/-- ITS FALSE NEIGHBOUR: 'it returns false'. Refute it at one input. -/
def momentUnitesWrong : ChangeSpec := { name := "momentUnites", fn := fun _ => fun
  | [d1, d2, d3] => { results := [.lit (.bool false)], args := [d1, d2, d3] }
  | _ => none }
def MomentUnitesWrongFalsely : Prop := momentUnitesRow.holds Try.pinned (OpenSpec.ofChange momentUnitesWrong)

/-- 'facetlaw04.MomentAdds': WHATEVER THE INPUT: true; the input reads as it did. -/
def momentAddsSpec : ChangeSpec := { name := "momentAdds", fn := fun _ => fun
  | [d1, d2] => { results := [.lit (.bool true)], args := [d1, d2] }
  | _ => none }
def momentAddsRow : OpenClaim := { program := "ytiedpdlbjjjpeaa", sum := "edcf9b431ebfc9259c83d8fcb050f7dfee1b71d8f9356c370e3edcfa6969a0ce", func := "facet/facetlaw04.MomentAdds", spec := "momentAdds", apart := false }
def MomentAddsSaid : Prop := momentAddsRow.holds Try.pinned (OpenSpec.ofChange momentAddsSpec)

/-- ITS FALSE NEIGHBOUR: 'it returns false'. Refute it at one input. -/
def momentAddsWrong : ChangeSpec := { name := "momentAdds", fn := fun _ => fun
  | [d1, d2] => { results := [.lit (.bool false)], args := [d1, d2] }
  | _ => none }
def MomentAddsWrongFalsely : Prop := momentAddsRow.holds Try.pinned (OpenSpec.ofChange momentAddsWrong)

/-- 'facetlaw04.MomentValid': WHATEVER THE INPUT: true; the input reads as it did. -/
def momentValidSpec : ChangeSpec := { name := "momentValid", fn := fun _ => fun
  | [d1, d2] => { results := [.lit (.bool true)], args := [d1, d2] }
  | _ => none }
def momentValidRow : OpenClaim := { program := "ytiedpdlbjjjpeaa", sum := "edcf9b431ebfc9259c83d8fcb050f7dfee1b71d8f9356c370e3edcfa6969a0ce", func := "facet/facetlaw04.MomentValid", spec := "momentValid", apart := false }
def MomentValidSaid : Prop := momentValidRow.holds Try.pinned (OpenSpec.ofChange momentValidSpec)

/-- ITS FALSE NEIGHBOUR: 'it returns false'. Refute it at one input. -/
def momentValidWrong : ChangeSpec := { name := "momentValid", fn := fun _ => fun
  | [d1, d2] => { results := [.lit (.bool false)], args := [d1, d2] }
  | _ => none }
def MomentValidWrongFalsely : Prop := momentValidRow.holds Try.pinned (OpenSpec.ofChange momentValidWrong)

/-- 'facetlaw04.MomentRests': WHATEVER THE INPUT: true; the input reads as it did. -/
def momentRestsSpec : ChangeSpec := { name := "momentRests", fn := fun _ => fun
  | [d1, d2, d3] => { results := [.lit (.bool true)], args := [d1, d2, d3] }
  | _ => none }
def momentRestsRow : OpenClaim := { program := "ytiedpdlbjjjpeaa", sum := "edcf9b431ebfc9259c83d8fcb050f7dfee1b71d8f9356c370e3edcfa6969a0ce", func := "facet/facetlaw04.MomentRests", spec := "momentRests", apart := false }
def MomentRestsSaid : Prop := momentRestsRow.holds Try.pinned (OpenSpec.ofChange momentRestsSpec)

/-- ITS FALSE NEIGHBOUR: 'it returns false'. Refute it at one input. -/
def momentRestsWrong : ChangeSpec := { name := "momentRests", fn := fun _ => fun
  | [d1, d2, d3] => { results := [.lit (.bool false)], args := [d1, d2, d3] }
  | _ => none }
def MomentRestsWrongFalsely : Prop := momentRestsRow.holds Try.pinned (OpenSpec.ofChange momentRestsWrong)

/-- 'facetlaw04.MomentTerms': WHATEVER THE INPUT: true; the input reads as it did. -/
def momentTermsSpec : ChangeSpec := { name := "momentTerms", fn := fun _ => fun
  | [d1, d2] => { results := [.lit (.bool true)], args := [d1, d2] }
  | _ => none }
def momentTermsRow : OpenClaim := { program := "ytiedpdlbjjjpeaa", sum := "edcf9b431ebfc9259c83d8fcb050f7dfee1b71d8f9356c370e3edcfa6969a0ce", func := "facet/facetlaw04.MomentTerms", spec := "momentTerms", unfollowed := true, recurses := true, named := ["math/bits.divideError", "math/bits.overflowError"], apart := false }
def MomentTermsSaid : Prop := momentTermsRow.holds Try.pinned (OpenSpec.ofChange momentTermsSpec)

/-- ITS FALSE NEIGHBOUR: 'it returns false'. Refute it at one input. -/
def momentTermsWrong : ChangeSpec := { name := "momentTerms", fn := fun _ => fun
  | [d1, d2] => { results := [.lit (.bool false)], args := [d1, d2] }
  | _ => none }
def MomentTermsWrongFalsely : Prop := momentTermsRow.holds Try.pinned (OpenSpec.ofChange momentTermsWrong)

/-- 'facetlaw04.MomentFars': WHATEVER THE INPUT: true; the input reads as it did. -/
def momentFarsSpec : ChangeSpec := { name := "momentFars", fn := fun _ => fun
  | [d1, d2, d3] => { results := [.lit (.bool true)], args := [d1, d2, d3] }
  | _ => none }
def momentFarsRow : OpenClaim := { program := "ytiedpdlbjjjpeaa", sum := "edcf9b431ebfc9259c83d8fcb050f7dfee1b71d8f9356c370e3edcfa6969a0ce", func := "facet/facetlaw04.MomentFars", spec := "momentFars", unfollowed := true, recurses := true, named := ["math/bits.divideError", "math/bits.overflowError"], apart := false }
def MomentFarsSaid : Prop := momentFarsRow.holds Try.pinned (OpenSpec.ofChange momentFarsSpec)

/-- ITS FALSE NEIGHBOUR: 'it returns false'. Refute it at one input. -/
def momentFarsWrong : ChangeSpec := { name := "momentFars", fn := fun _ => fun
  | [d1, d2, d3] => { results := [.lit (.bool false)], args := [d1, d2, d3] }
  | _ => none }
def MomentFarsWrongFalsely : Prop := momentFarsRow.holds Try.pinned (OpenSpec.ofChange momentFarsWrong)

/- THE SECOND FORM. 'bulk': how many values and letters a reading holds, each counted each time it is reached (what is shared counts as often as it is met; a slice's spare places count too). A statement '..UptoSaid' is the law's where the arguments, and the package variables that the reading takes, are together of bulk at most 1048576: NARROWER than '..Said'. Prove '..Said' where nothing that the law and all that it calls make is longer than what came in: it says more and counts as full. Else prove '..UptoSaid'. A law counts once. -/
mutual
def uptoBulk {H : Type} : DataW H → Nat
  | .lit (.string bytes) => bytes.length + 1
  | .lit _ => 1
  | .nil => 1
  | .ptr d => uptoBulk d + 1
  | .slice elems spare => uptoBulkAll elems + uptoBulkAll spare + 1
  | .agg parts => uptoBulkAll parts + 1
  | .iface _ d => uptoBulk d + 1
  | .map entries => uptoBulkEntries entries + 1
  | .held _ => 1
def uptoBulkAll {H : Type} : List (DataW H) → Nat
  | [] => 0
  | d :: r => uptoBulk d + uptoBulkAll r
def uptoBulkEntries {H : Type} : List (Lit × DataW H) → Nat
  | [] => 0
  | x :: r => uptoBulkEntry x + uptoBulkEntries r
def uptoBulkEntry {H : Type} : Lit × DataW H → Nat
  | (.string bytes, d) => bytes.length + uptoBulk d + 1
  | (_, d) => uptoBulk d + 1
 end
def uptoSmall : (H : Type) → List (DataW H) → Bool := fun _ ds => decide (uptoBulkAll ds ≤ 1048576)
def OpenSpec.upto (s : _root_.Go.ChangeSpec) : _root_.Go.OpenSpec := { _root_.Go.OpenSpec.ofChange s with cond := some uptoSmall }

/-- 'facetlaw04.MomentShifts', WHERE WHAT IT READS IS OF BULK AT MOST 1048576: true; the input reads as it did. -/
def momentShiftsUptoRow : OpenClaim := { program := "ytiedpdlbjjjpeaa", sum := "edcf9b431ebfc9259c83d8fcb050f7dfee1b71d8f9356c370e3edcfa6969a0ce", func := "facet/facetlaw04.MomentShifts", spec := "momentShifts", apart := false, narrowed := true }
def MomentShiftsUptoSaid : Prop := momentShiftsUptoRow.holds Try.pinned (OpenSpec.upto momentShiftsSpec)

/-- 'facetlaw04.MomentCenters', WHERE WHAT IT READS IS OF BULK AT MOST 1048576: true; the input reads as it did. -/
def momentCentersUptoRow : OpenClaim := { program := "ytiedpdlbjjjpeaa", sum := "edcf9b431ebfc9259c83d8fcb050f7dfee1b71d8f9356c370e3edcfa6969a0ce", func := "facet/facetlaw04.MomentCenters", spec := "momentCenters", apart := false, narrowed := true }
def MomentCentersUptoSaid : Prop := momentCentersUptoRow.holds Try.pinned (OpenSpec.upto momentCentersSpec)

/-- 'facetlaw04.MomentScales', WHERE WHAT IT READS IS OF BULK AT MOST 1048576: true; the input reads as it did. -/
def momentScalesUptoRow : OpenClaim := { program := "ytiedpdlbjjjpeaa", sum := "edcf9b431ebfc9259c83d8fcb050f7dfee1b71d8f9356c370e3edcfa6969a0ce", func := "facet/facetlaw04.MomentScales", spec := "momentScales", apart := false, narrowed := true }
def MomentScalesUptoSaid : Prop := momentScalesUptoRow.holds Try.pinned (OpenSpec.upto momentScalesSpec)

/-- 'facetlaw04.MomentOf', WHERE WHAT IT READS IS OF BULK AT MOST 1048576: true; the input reads as it did. -/
def momentOfUptoRow : OpenClaim := { program := "ytiedpdlbjjjpeaa", sum := "edcf9b431ebfc9259c83d8fcb050f7dfee1b71d8f9356c370e3edcfa6969a0ce", func := "facet/facetlaw04.MomentOf", spec := "momentOf", apart := false, narrowed := true }
def MomentOfUptoSaid : Prop := momentOfUptoRow.holds Try.pinned (OpenSpec.upto momentOfSpec)

/-- 'facetlaw04.MomentUnites', WHERE WHAT IT READS IS OF BULK AT MOST 1048576: true; the input reads as it did. -/
def momentUnitesUptoRow : OpenClaim := { program := "ytiedpdlbjjjpeaa", sum := "edcf9b431ebfc9259c83d8fcb050f7dfee1b71d8f9356c370e3edcfa6969a0ce", func := "facet/facetlaw04.MomentUnites", spec := "momentUnites", apart := false, narrowed := true }
def MomentUnitesUptoSaid : Prop := momentUnitesUptoRow.holds Try.pinned (OpenSpec.upto momentUnitesSpec)

/-- 'facetlaw04.MomentAdds', WHERE WHAT IT READS IS OF BULK AT MOST 1048576: true; the input reads as it did. -/
def momentAddsUptoRow : OpenClaim := { program := "ytiedpdlbjjjpeaa", sum := "edcf9b431ebfc9259c83d8fcb050f7dfee1b71d8f9356c370e3edcfa6969a0ce", func := "facet/facetlaw04.MomentAdds", spec := "momentAdds", apart := false, narrowed := true }
def MomentAddsUptoSaid : Prop := momentAddsUptoRow.holds Try.pinned (OpenSpec.upto momentAddsSpec)

/-- 'facetlaw04.MomentValid', WHERE WHAT IT READS IS OF BULK AT MOST 1048576: true; the input reads as it did. -/
def momentValidUptoRow : OpenClaim := { program := "ytiedpdlbjjjpeaa", sum := "edcf9b431ebfc9259c83d8fcb050f7dfee1b71d8f9356c370e3edcfa6969a0ce", func := "facet/facetlaw04.MomentValid", spec := "momentValid", apart := false, narrowed := true }
def MomentValidUptoSaid : Prop := momentValidUptoRow.holds Try.pinned (OpenSpec.upto momentValidSpec)

/-- 'facetlaw04.MomentRests', WHERE WHAT IT READS IS OF BULK AT MOST 1048576: true; the input reads as it did. -/
def momentRestsUptoRow : OpenClaim := { program := "ytiedpdlbjjjpeaa", sum := "edcf9b431ebfc9259c83d8fcb050f7dfee1b71d8f9356c370e3edcfa6969a0ce", func := "facet/facetlaw04.MomentRests", spec := "momentRests", apart := false, narrowed := true }
def MomentRestsUptoSaid : Prop := momentRestsUptoRow.holds Try.pinned (OpenSpec.upto momentRestsSpec)

/-- 'facetlaw04.MomentTerms', WHERE WHAT IT READS IS OF BULK AT MOST 1048576: true; the input reads as it did. -/
def momentTermsUptoRow : OpenClaim := { program := "ytiedpdlbjjjpeaa", sum := "edcf9b431ebfc9259c83d8fcb050f7dfee1b71d8f9356c370e3edcfa6969a0ce", func := "facet/facetlaw04.MomentTerms", spec := "momentTerms", unfollowed := true, recurses := true, named := ["math/bits.divideError", "math/bits.overflowError"], apart := false, narrowed := true }
def MomentTermsUptoSaid : Prop := momentTermsUptoRow.holds Try.pinned (OpenSpec.upto momentTermsSpec)

/-- 'facetlaw04.MomentFars', WHERE WHAT IT READS IS OF BULK AT MOST 1048576: true; the input reads as it did. -/
def momentFarsUptoRow : OpenClaim := { program := "ytiedpdlbjjjpeaa", sum := "edcf9b431ebfc9259c83d8fcb050f7dfee1b71d8f9356c370e3edcfa6969a0ce", func := "facet/facetlaw04.MomentFars", spec := "momentFars", unfollowed := true, recurses := true, named := ["math/bits.divideError", "math/bits.overflowError"], apart := false, narrowed := true }
def MomentFarsUptoSaid : Prop := momentFarsUptoRow.holds Try.pinned (OpenSpec.upto momentFarsSpec)

end Rows
end Go.Proofs.Ytiedpdlbjjjpeaa
