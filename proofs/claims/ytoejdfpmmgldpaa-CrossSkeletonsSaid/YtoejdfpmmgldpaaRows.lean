/-
  No cell of these rows narrows 'for every input' (looked for: loops, veiled, ifaces, maps, wideKeys, modest, calm, conditions, laid).
  DERIVED. THE GIVEN ROWS OF THIS SEAT. 12 by the template 'for every input the law returns true; each argument reads behind the call as it read before'; 0 by the template 'total and deterministic' (their statements: YtoejdfpmmgldpaaTotals.lean).
  GIVEN WITH THE SEED: the statements are not yours to turn. If you find one false, say at which input.
  Laid BY PROGRAM, IN A SANDBOX (cutbox-rows.mjs): the forced cells as the released guide's own fill.sh prints them over the translation 6657a7789e2a0e02… (all of the seat's roots in one cut). By AI agents, Wed Nov 11 2026. No macro, syntax, notation, axiom, sorry.
-/
import Derived.Test.YtoejdfpmmgldpaaChecked
import GoSem.Claim
import GoSem.ClaimJoined
import GoSem.ClaimMapViews
import Derived.JoinedTies
import Derived.KernelRfl
namespace Go.Proofs.Ytoejdfpmmgldpaa
/- THE CELL 'sum', in the pinned program and in every row, IS THE sha256 OF THE DUMP (.gsa) THAT YtoejdfpmmgldpaaProg.lean LOADS. Nothing in Lean hashes anything: it is a label: what it is worth is what the hold of that sum in a sandbox is worth. -/
noncomputable def Try.pinned : Pinned := { name := "ytoejdfpmmgldpaa", sum := "6657a7789e2a0e02d0087abfc48c87ae9f3e42f36b4858d64f91c74e2f233887", checked := Try.checked }
namespace Rows
def none {H : Type} : Left H := { results := [], args := [] }

/-- 'facetlaw06.CrossResiduals': WHATEVER THE INPUT: true; the input reads as it did. -/
def crossResidualsSpec : ChangeSpec := { name := "crossResiduals", fn := fun _ => fun
  | [d1, d2, d3] => { results := [.lit (.bool true)], args := [d1, d2, d3] }
  | _ => none }
def crossResidualsRow : OpenClaim := { program := "ytoejdfpmmgldpaa", sum := "6657a7789e2a0e02d0087abfc48c87ae9f3e42f36b4858d64f91c74e2f233887", func := "facet/facetlaw06.CrossResiduals", spec := "crossResiduals", inPlace := ["math/bits.Add64", "math/bits.Sub64"], recurses := true, named := ["math/bits.divideError", "math/bits.overflowError"], apart := false }
def CrossResidualsSaid : Prop := crossResidualsRow.holds Try.pinned (OpenSpec.ofChange crossResidualsSpec)

/-- ITS FALSE NEIGHBOUR: 'it returns false'. Refute it at one input. -/
def crossResidualsWrong : ChangeSpec := { name := "crossResiduals", fn := fun _ => fun
  | [d1, d2, d3] => { results := [.lit (.bool false)], args := [d1, d2, d3] }
  | _ => none }
def CrossResidualsWrongFalsely : Prop := crossResidualsRow.holds Try.pinned (OpenSpec.ofChange crossResidualsWrong)

/-- 'facetlaw06.CrossMinors': WHATEVER THE INPUT: true; the input reads as it did. -/
def crossMinorsSpec : ChangeSpec := { name := "crossMinors", fn := fun _ => fun
  | [d1, d2] => { results := [.lit (.bool true)], args := [d1, d2] }
  | _ => none }
def crossMinorsRow : OpenClaim := { program := "ytoejdfpmmgldpaa", sum := "6657a7789e2a0e02d0087abfc48c87ae9f3e42f36b4858d64f91c74e2f233887", func := "facet/facetlaw06.CrossMinors", spec := "crossMinors", inPlace := ["math/bits.Add64", "math/bits.Sub64"], recurses := true, named := ["math/bits.divideError", "math/bits.overflowError"], apart := false }
def CrossMinorsSaid : Prop := crossMinorsRow.holds Try.pinned (OpenSpec.ofChange crossMinorsSpec)

/-- ITS FALSE NEIGHBOUR: 'it returns false'. Refute it at one input. -/
def crossMinorsWrong : ChangeSpec := { name := "crossMinors", fn := fun _ => fun
  | [d1, d2] => { results := [.lit (.bool false)], args := [d1, d2] }
  | _ => none }
def CrossMinorsWrongFalsely : Prop := crossMinorsRow.holds Try.pinned (OpenSpec.ofChange crossMinorsWrong)

/-- 'facetlaw06.CrossNumbers': WHATEVER THE INPUT: true; the input reads as it did. -/
def crossNumbersSpec : ChangeSpec := { name := "crossNumbers", fn := fun _ => fun
  | [d1, d2] => { results := [.lit (.bool true)], args := [d1, d2] }
  | _ => none }
def crossNumbersRow : OpenClaim := { program := "ytoejdfpmmgldpaa", sum := "6657a7789e2a0e02d0087abfc48c87ae9f3e42f36b4858d64f91c74e2f233887", func := "facet/facetlaw06.CrossNumbers", spec := "crossNumbers", inPlace := ["math/bits.Add64", "math/bits.Sub64"], named := ["math/bits.divideError", "math/bits.overflowError"], apart := false }
def CrossNumbersSaid : Prop := crossNumbersRow.holds Try.pinned (OpenSpec.ofChange crossNumbersSpec)

/-- ITS FALSE NEIGHBOUR: 'it returns false'. Refute it at one input. -/
def crossNumbersWrong : ChangeSpec := { name := "crossNumbers", fn := fun _ => fun
  | [d1, d2] => { results := [.lit (.bool false)], args := [d1, d2] }
  | _ => none }
def CrossNumbersWrongFalsely : Prop := crossNumbersRow.holds Try.pinned (OpenSpec.ofChange crossNumbersWrong)

/-- 'facetlaw06.CrossTransposes': WHATEVER THE INPUT: true; the input reads as it did. -/
def crossTransposesSpec : ChangeSpec := { name := "crossTransposes", fn := fun _ => fun
  | [d1, d2, d3] => { results := [.lit (.bool true)], args := [d1, d2, d3] }
  | _ => none }
def crossTransposesRow : OpenClaim := { program := "ytoejdfpmmgldpaa", sum := "6657a7789e2a0e02d0087abfc48c87ae9f3e42f36b4858d64f91c74e2f233887", func := "facet/facetlaw06.CrossTransposes", spec := "crossTransposes", inPlace := ["math/bits.Add64", "math/bits.Sub64"], named := ["math/bits.divideError", "math/bits.overflowError"], apart := false }
def CrossTransposesSaid : Prop := crossTransposesRow.holds Try.pinned (OpenSpec.ofChange crossTransposesSpec)

/-- ITS FALSE NEIGHBOUR: 'it returns false'. Refute it at one input. -/
def crossTransposesWrong : ChangeSpec := { name := "crossTransposes", fn := fun _ => fun
  | [d1, d2, d3] => { results := [.lit (.bool false)], args := [d1, d2, d3] }
  | _ => none }
def CrossTransposesWrongFalsely : Prop := crossTransposesRow.holds Try.pinned (OpenSpec.ofChange crossTransposesWrong)

/-- 'facetlaw06.CrossChecks': WHATEVER THE INPUT: true; the input reads as it did. -/
def crossChecksSpec : ChangeSpec := { name := "crossChecks", fn := fun _ => fun
  | [d1, d2, d3] => { results := [.lit (.bool true)], args := [d1, d2, d3] }
  | _ => none }
def crossChecksRow : OpenClaim := { program := "ytoejdfpmmgldpaa", sum := "6657a7789e2a0e02d0087abfc48c87ae9f3e42f36b4858d64f91c74e2f233887", func := "facet/facetlaw06.CrossChecks", spec := "crossChecks", inPlace := ["math/bits.Add64", "math/bits.Sub64"], recurses := true, named := ["math/bits.divideError", "math/bits.overflowError"], apart := false }
def CrossChecksSaid : Prop := crossChecksRow.holds Try.pinned (OpenSpec.ofChange crossChecksSpec)

/-- ITS FALSE NEIGHBOUR: 'it returns false'. Refute it at one input. -/
def crossChecksWrong : ChangeSpec := { name := "crossChecks", fn := fun _ => fun
  | [d1, d2, d3] => { results := [.lit (.bool false)], args := [d1, d2, d3] }
  | _ => none }
def CrossChecksWrongFalsely : Prop := crossChecksRow.holds Try.pinned (OpenSpec.ofChange crossChecksWrong)

/-- 'facetlaw06.CrossVolumes': WHATEVER THE INPUT: true; the input reads as it did. -/
def crossVolumesSpec : ChangeSpec := { name := "crossVolumes", fn := fun _ => fun
  | [d1, d2] => { results := [.lit (.bool true)], args := [d1, d2] }
  | _ => none }
def crossVolumesRow : OpenClaim := { program := "ytoejdfpmmgldpaa", sum := "6657a7789e2a0e02d0087abfc48c87ae9f3e42f36b4858d64f91c74e2f233887", func := "facet/facetlaw06.CrossVolumes", spec := "crossVolumes", inPlace := ["math/bits.Add64", "math/bits.Sub64"], unfollowed := true, recurses := true, named := ["math/bits.divideError", "math/bits.overflowError"], apart := false }
def CrossVolumesSaid : Prop := crossVolumesRow.holds Try.pinned (OpenSpec.ofChange crossVolumesSpec)

/-- ITS FALSE NEIGHBOUR: 'it returns false'. Refute it at one input. -/
def crossVolumesWrong : ChangeSpec := { name := "crossVolumes", fn := fun _ => fun
  | [d1, d2] => { results := [.lit (.bool false)], args := [d1, d2] }
  | _ => none }
def CrossVolumesWrongFalsely : Prop := crossVolumesRow.holds Try.pinned (OpenSpec.ofChange crossVolumesWrong)

/-- 'facetlaw06.CrossRanks': WHATEVER THE INPUT: true; the input reads as it did. -/
def crossRanksSpec : ChangeSpec := { name := "crossRanks", fn := fun _ => fun
  | [d] => { results := [.lit (.bool true)], args := [d] }
  | _ => none }
def crossRanksRow : OpenClaim := { program := "ytoejdfpmmgldpaa", sum := "6657a7789e2a0e02d0087abfc48c87ae9f3e42f36b4858d64f91c74e2f233887", func := "facet/facetlaw06.CrossRanks", spec := "crossRanks", inPlace := ["math/bits.Add64", "math/bits.Sub64"], unfollowed := true, recurses := true, named := ["math/bits.divideError", "math/bits.overflowError"], apart := false }
def CrossRanksSaid : Prop := crossRanksRow.holds Try.pinned (OpenSpec.ofChange crossRanksSpec)

/-- ITS FALSE NEIGHBOUR: 'it returns false'. Refute it at one input. -/
def crossRanksWrong : ChangeSpec := { name := "crossRanks", fn := fun _ => fun
  | [d] => { results := [.lit (.bool false)], args := [d] }
  | _ => none }
def CrossRanksWrongFalsely : Prop := crossRanksRow.holds Try.pinned (OpenSpec.ofChange crossRanksWrong)

/-- 'facetlaw06.CrossFewest': WHATEVER THE INPUT: true; the input reads as it did. -/
def crossFewestSpec : ChangeSpec := { name := "crossFewest", fn := fun _ => fun
  | [d1, d2] => { results := [.lit (.bool true)], args := [d1, d2] }
  | _ => none }
def crossFewestRow : OpenClaim := { program := "ytoejdfpmmgldpaa", sum := "6657a7789e2a0e02d0087abfc48c87ae9f3e42f36b4858d64f91c74e2f233887", func := "facet/facetlaw06.CrossFewest", spec := "crossFewest", inPlace := ["math/bits.Add64", "math/bits.Sub64"], unfollowed := true, recurses := true, named := ["math/bits.divideError", "math/bits.overflowError"], apart := false }
def CrossFewestSaid : Prop := crossFewestRow.holds Try.pinned (OpenSpec.ofChange crossFewestSpec)

/-- ITS FALSE NEIGHBOUR: 'it returns false'. Refute it at one input. -/
def crossFewestWrong : ChangeSpec := { name := "crossFewest", fn := fun _ => fun
  | [d1, d2] => { results := [.lit (.bool false)], args := [d1, d2] }
  | _ => none }
def CrossFewestWrongFalsely : Prop := crossFewestRow.holds Try.pinned (OpenSpec.ofChange crossFewestWrong)

/-- 'facetlaw06.CrossProducts': WHATEVER THE INPUT: true; the input reads as it did. -/
def crossProductsSpec : ChangeSpec := { name := "crossProducts", fn := fun _ => fun
  | [d1, d2] => { results := [.lit (.bool true)], args := [d1, d2] }
  | _ => none }
def crossProductsRow : OpenClaim := { program := "ytoejdfpmmgldpaa", sum := "6657a7789e2a0e02d0087abfc48c87ae9f3e42f36b4858d64f91c74e2f233887", func := "facet/facetlaw06.CrossProducts", spec := "crossProducts", inPlace := ["math/bits.Add64", "math/bits.Sub64"], recurses := true, named := ["math/bits.divideError", "math/bits.overflowError"], apart := false }
def CrossProductsSaid : Prop := crossProductsRow.holds Try.pinned (OpenSpec.ofChange crossProductsSpec)

/-- ITS FALSE NEIGHBOUR: 'it returns false'. Refute it at one input. -/
def crossProductsWrong : ChangeSpec := { name := "crossProducts", fn := fun _ => fun
  | [d1, d2] => { results := [.lit (.bool false)], args := [d1, d2] }
  | _ => none }
def CrossProductsWrongFalsely : Prop := crossProductsRow.holds Try.pinned (OpenSpec.ofChange crossProductsWrong)

/-- 'facetlaw06.CrossOff': WHATEVER THE INPUT: true; the input reads as it did. -/
def crossOffSpec : ChangeSpec := { name := "crossOff", fn := fun _ => fun
  | [d1, d2] => { results := [.lit (.bool true)], args := [d1, d2] }
  | _ => none }
def crossOffRow : OpenClaim := { program := "ytoejdfpmmgldpaa", sum := "6657a7789e2a0e02d0087abfc48c87ae9f3e42f36b4858d64f91c74e2f233887", func := "facet/facetlaw06.CrossOff", spec := "crossOff", inPlace := ["math/bits.Add64", "math/bits.Sub64"], named := ["math/bits.divideError", "math/bits.overflowError"], apart := false }
def CrossOffSaid : Prop := crossOffRow.holds Try.pinned (OpenSpec.ofChange crossOffSpec)

/-- ITS FALSE NEIGHBOUR: 'it returns false'. Refute it at one input. -/
def crossOffWrong : ChangeSpec := { name := "crossOff", fn := fun _ => fun
  | [d1, d2] => { results := [.lit (.bool false)], args := [d1, d2] }
  | _ => none }
def CrossOffWrongFalsely : Prop := crossOffRow.holds Try.pinned (OpenSpec.ofChange crossOffWrong)

/-- 'facetlaw06.CrossVolumeBounds': WHATEVER THE INPUT: true; the input reads as it did. -/
def crossVolumeBoundsSpec : ChangeSpec := { name := "crossVolumeBounds", fn := fun _ => fun
  | [d1, d2] => { results := [.lit (.bool true)], args := [d1, d2] }
  | _ => none }
def crossVolumeBoundsRow : OpenClaim := { program := "ytoejdfpmmgldpaa", sum := "6657a7789e2a0e02d0087abfc48c87ae9f3e42f36b4858d64f91c74e2f233887", func := "facet/facetlaw06.CrossVolumeBounds", spec := "crossVolumeBounds", inPlace := ["math/bits.Add64", "math/bits.Sub64"], unfollowed := true, recurses := true, named := ["math/bits.divideError", "math/bits.overflowError"], apart := false }
def CrossVolumeBoundsSaid : Prop := crossVolumeBoundsRow.holds Try.pinned (OpenSpec.ofChange crossVolumeBoundsSpec)

/-- ITS FALSE NEIGHBOUR: 'it returns false'. Refute it at one input. -/
def crossVolumeBoundsWrong : ChangeSpec := { name := "crossVolumeBounds", fn := fun _ => fun
  | [d1, d2] => { results := [.lit (.bool false)], args := [d1, d2] }
  | _ => none }
def CrossVolumeBoundsWrongFalsely : Prop := crossVolumeBoundsRow.holds Try.pinned (OpenSpec.ofChange crossVolumeBoundsWrong)

/-- 'facetlaw06.CrossSkeletons': WHATEVER THE INPUT: true; the input reads as it did. -/
def crossSkeletonsSpec : ChangeSpec := { name := "crossSkeletons", fn := fun _ => fun
  | [d1, d2] => { results := [.lit (.bool true)], args := [d1, d2] }
  | _ => none }
def crossSkeletonsRow : OpenClaim := { program := "ytoejdfpmmgldpaa", sum := "6657a7789e2a0e02d0087abfc48c87ae9f3e42f36b4858d64f91c74e2f233887", func := "facet/facetlaw06.CrossSkeletons", spec := "crossSkeletons", inPlace := ["math/bits.Add64", "math/bits.Sub64"], unfollowed := true, recurses := true, named := ["math/bits.divideError", "math/bits.overflowError"], apart := false }
def CrossSkeletonsSaid : Prop := crossSkeletonsRow.holds Try.pinned (OpenSpec.ofChange crossSkeletonsSpec)

/-- ITS FALSE NEIGHBOUR: 'it returns false'. Refute it at one input. -/
def crossSkeletonsWrong : ChangeSpec := { name := "crossSkeletons", fn := fun _ => fun
  | [d1, d2] => { results := [.lit (.bool false)], args := [d1, d2] }
  | _ => none }
def CrossSkeletonsWrongFalsely : Prop := crossSkeletonsRow.holds Try.pinned (OpenSpec.ofChange crossSkeletonsWrong)

/- THE SECOND FORM. 'bulk': how many values and letters a reading holds, each counted each time it is reached (what is shared counts as often as it is met; a slice's spare places count too). A statement '..UptoSaid' is the law's where the arguments, and the package variables that the reading takes, are together of bulk at most 1048576: NARROWER than '..Said'. Prove '..Said' where nothing that the law and all that it calls make is longer than what came in: it says more and counts as full. Else prove '..UptoSaid'. A law counts once. -/
mutual
def uptoBulk {H : Type} : DataW H → Nat
  | .lit (.string bytes) => bytes.length + 1
  | .lit _ => 1
  | .nil => 1
  | .ptr d => uptoBulk d + 1
  | .slice elems spare => uptoBulkAll elems + uptoBulkAll spare + 1
  | .agg parts => uptoBulkAll parts + 1
  | .iface _ d => uptoBulk d + 1
  | .map entries => uptoBulkEntries entries + 1
  | .held _ => 1
def uptoBulkAll {H : Type} : List (DataW H) → Nat
  | [] => 0
  | d :: r => uptoBulk d + uptoBulkAll r
def uptoBulkEntries {H : Type} : List (Lit × DataW H) → Nat
  | [] => 0
  | x :: r => uptoBulkEntry x + uptoBulkEntries r
def uptoBulkEntry {H : Type} : Lit × DataW H → Nat
  | (.string bytes, d) => bytes.length + uptoBulk d + 1
  | (_, d) => uptoBulk d + 1
 end
def uptoSmall : (H : Type) → List (DataW H) → Bool := fun _ ds => decide (uptoBulkAll ds ≤ 1048576)
def OpenSpec.upto (s : _root_.Go.ChangeSpec) : _root_.Go.OpenSpec := { _root_.Go.OpenSpec.ofChange s with cond := some uptoSmall }

/-- 'facetlaw06.CrossResiduals', WHERE WHAT IT READS IS OF BULK AT MOST 1048576: true; the input reads as it did. -/
def crossResidualsUptoRow : OpenClaim := { program := "ytoejdfpmmgldpaa", sum := "6657a7789e2a0e02d0087abfc48c87ae9f3e42f36b4858d64f91c74e2f233887", func := "facet/facetlaw06.CrossResiduals", spec := "crossResiduals", inPlace := ["math/bits.Add64", "math/bits.Sub64"], recurses := true, named := ["math/bits.divideError", "math/bits.overflowError"], apart := false, narrowed := true }
def CrossResidualsUptoSaid : Prop := crossResidualsUptoRow.holds Try.pinned (OpenSpec.upto crossResidualsSpec)

/-- 'facetlaw06.CrossMinors', WHERE WHAT IT READS IS OF BULK AT MOST 1048576: true; the input reads as it did. -/
def crossMinorsUptoRow : OpenClaim := { program := "ytoejdfpmmgldpaa", sum := "6657a7789e2a0e02d0087abfc48c87ae9f3e42f36b4858d64f91c74e2f233887", func := "facet/facetlaw06.CrossMinors", spec := "crossMinors", inPlace := ["math/bits.Add64", "math/bits.Sub64"], recurses := true, named := ["math/bits.divideError", "math/bits.overflowError"], apart := false, narrowed := true }
def CrossMinorsUptoSaid : Prop := crossMinorsUptoRow.holds Try.pinned (OpenSpec.upto crossMinorsSpec)

/-- 'facetlaw06.CrossNumbers', WHERE WHAT IT READS IS OF BULK AT MOST 1048576: true; the input reads as it did. -/
def crossNumbersUptoRow : OpenClaim := { program := "ytoejdfpmmgldpaa", sum := "6657a7789e2a0e02d0087abfc48c87ae9f3e42f36b4858d64f91c74e2f233887", func := "facet/facetlaw06.CrossNumbers", spec := "crossNumbers", inPlace := ["math/bits.Add64", "math/bits.Sub64"], named := ["math/bits.divideError", "math/bits.overflowError"], apart := false, narrowed := true }
def CrossNumbersUptoSaid : Prop := crossNumbersUptoRow.holds Try.pinned (OpenSpec.upto crossNumbersSpec)

/-- 'facetlaw06.CrossTransposes', WHERE WHAT IT READS IS OF BULK AT MOST 1048576: true; the input reads as it did. -/
def crossTransposesUptoRow : OpenClaim := { program := "ytoejdfpmmgldpaa", sum := "6657a7789e2a0e02d0087abfc48c87ae9f3e42f36b4858d64f91c74e2f233887", func := "facet/facetlaw06.CrossTransposes", spec := "crossTransposes", inPlace := ["math/bits.Add64", "math/bits.Sub64"], named := ["math/bits.divideError", "math/bits.overflowError"], apart := false, narrowed := true }
def CrossTransposesUptoSaid : Prop := crossTransposesUptoRow.holds Try.pinned (OpenSpec.upto crossTransposesSpec)

/-- 'facetlaw06.CrossChecks', WHERE WHAT IT READS IS OF BULK AT MOST 1048576: true; the input reads as it did. -/
def crossChecksUptoRow : OpenClaim := { program := "ytoejdfpmmgldpaa", sum := "6657a7789e2a0e02d0087abfc48c87ae9f3e42f36b4858d64f91c74e2f233887", func := "facet/facetlaw06.CrossChecks", spec := "crossChecks", inPlace := ["math/bits.Add64", "math/bits.Sub64"], recurses := true, named := ["math/bits.divideError", "math/bits.overflowError"], apart := false, narrowed := true }
def CrossChecksUptoSaid : Prop := crossChecksUptoRow.holds Try.pinned (OpenSpec.upto crossChecksSpec)

/-- 'facetlaw06.CrossVolumes', WHERE WHAT IT READS IS OF BULK AT MOST 1048576: true; the input reads as it did. -/
def crossVolumesUptoRow : OpenClaim := { program := "ytoejdfpmmgldpaa", sum := "6657a7789e2a0e02d0087abfc48c87ae9f3e42f36b4858d64f91c74e2f233887", func := "facet/facetlaw06.CrossVolumes", spec := "crossVolumes", inPlace := ["math/bits.Add64", "math/bits.Sub64"], unfollowed := true, recurses := true, named := ["math/bits.divideError", "math/bits.overflowError"], apart := false, narrowed := true }
def CrossVolumesUptoSaid : Prop := crossVolumesUptoRow.holds Try.pinned (OpenSpec.upto crossVolumesSpec)

/-- 'facetlaw06.CrossRanks', WHERE WHAT IT READS IS OF BULK AT MOST 1048576: true; the input reads as it did. -/
def crossRanksUptoRow : OpenClaim := { program := "ytoejdfpmmgldpaa", sum := "6657a7789e2a0e02d0087abfc48c87ae9f3e42f36b4858d64f91c74e2f233887", func := "facet/facetlaw06.CrossRanks", spec := "crossRanks", inPlace := ["math/bits.Add64", "math/bits.Sub64"], unfollowed := true, recurses := true, named := ["math/bits.divideError", "math/bits.overflowError"], apart := false, narrowed := true }
def CrossRanksUptoSaid : Prop := crossRanksUptoRow.holds Try.pinned (OpenSpec.upto crossRanksSpec)

/-- 'facetlaw06.CrossFewest', WHERE WHAT IT READS IS OF BULK AT MOST 1048576: true; the input reads as it did. -/
def crossFewestUptoRow : OpenClaim := { program := "ytoejdfpmmgldpaa", sum := "6657a7789e2a0e02d0087abfc48c87ae9f3e42f36b4858d64f91c74e2f233887", func := "facet/facetlaw06.CrossFewest", spec := "crossFewest", inPlace := ["math/bits.Add64", "math/bits.Sub64"], unfollowed := true, recurses := true, named := ["math/bits.divideError", "math/bits.overflowError"], apart := false, narrowed := true }
def CrossFewestUptoSaid : Prop := crossFewestUptoRow.holds Try.pinned (OpenSpec.upto crossFewestSpec)

/-- 'facetlaw06.CrossProducts', WHERE WHAT IT READS IS OF BULK AT MOST 1048576: true; the input reads as it did. -/
def crossProductsUptoRow : OpenClaim := { program := "ytoejdfpmmgldpaa", sum := "6657a7789e2a0e02d0087abfc48c87ae9f3e42f36b4858d64f91c74e2f233887", func := "facet/facetlaw06.CrossProducts", spec := "crossProducts", inPlace := ["math/bits.Add64", "math/bits.Sub64"], recurses := true, named := ["math/bits.divideError", "math/bits.overflowError"], apart := false, narrowed := true }
def CrossProductsUptoSaid : Prop := crossProductsUptoRow.holds Try.pinned (OpenSpec.upto crossProductsSpec)

/-- 'facetlaw06.CrossOff', WHERE WHAT IT READS IS OF BULK AT MOST 1048576: true; the input reads as it did. -/
def crossOffUptoRow : OpenClaim := { program := "ytoejdfpmmgldpaa", sum := "6657a7789e2a0e02d0087abfc48c87ae9f3e42f36b4858d64f91c74e2f233887", func := "facet/facetlaw06.CrossOff", spec := "crossOff", inPlace := ["math/bits.Add64", "math/bits.Sub64"], named := ["math/bits.divideError", "math/bits.overflowError"], apart := false, narrowed := true }
def CrossOffUptoSaid : Prop := crossOffUptoRow.holds Try.pinned (OpenSpec.upto crossOffSpec)

/-- 'facetlaw06.CrossVolumeBounds', WHERE WHAT IT READS IS OF BULK AT MOST 1048576: true; the input reads as it did. -/
def crossVolumeBoundsUptoRow : OpenClaim := { program := "ytoejdfpmmgldpaa", sum := "6657a7789e2a0e02d0087abfc48c87ae9f3e42f36b4858d64f91c74e2f233887", func := "facet/facetlaw06.CrossVolumeBounds", spec := "crossVolumeBounds", inPlace := ["math/bits.Add64", "math/bits.Sub64"], unfollowed := true, recurses := true, named := ["math/bits.divideError", "math/bits.overflowError"], apart := false, narrowed := true }
def CrossVolumeBoundsUptoSaid : Prop := crossVolumeBoundsUptoRow.holds Try.pinned (OpenSpec.upto crossVolumeBoundsSpec)

/-- 'facetlaw06.CrossSkeletons', WHERE WHAT IT READS IS OF BULK AT MOST 1048576: true; the input reads as it did. -/
def crossSkeletonsUptoRow : OpenClaim := { program := "ytoejdfpmmgldpaa", sum := "6657a7789e2a0e02d0087abfc48c87ae9f3e42f36b4858d64f91c74e2f233887", func := "facet/facetlaw06.CrossSkeletons", spec := "crossSkeletons", inPlace := ["math/bits.Add64", "math/bits.Sub64"], unfollowed := true, recurses := true, named := ["math/bits.divideError", "math/bits.overflowError"], apart := false, narrowed := true }
def CrossSkeletonsUptoSaid : Prop := crossSkeletonsUptoRow.holds Try.pinned (OpenSpec.upto crossSkeletonsSpec)

end Rows
end Go.Proofs.Ytoejdfpmmgldpaa
