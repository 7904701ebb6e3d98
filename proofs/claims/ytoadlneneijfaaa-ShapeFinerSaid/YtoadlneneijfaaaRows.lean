/-
  No cell of these rows narrows 'for every input' (looked for: loops, veiled, ifaces, maps, wideKeys, modest, calm, conditions, laid).
  DERIVED. THE GIVEN ROWS OF THIS SEAT. 11 by the template 'for every input the law returns true; each argument reads behind the call as it read before'; 0 by the template 'total and deterministic' (their statements: YtoadlneneijfaaaTotals.lean).
  GIVEN WITH THE SEED: the statements are not yours to turn. If you find one false, say at which input.
  Laid BY PROGRAM, IN A SANDBOX (cutbox-rows.mjs): the forced cells as the released guide's own fill.sh prints them over the translation 589b157aa8c4caba… (all of the seat's roots in one cut). By AI agents, Wed Nov 11 2026. No macro, syntax, notation, axiom, sorry.
-/
import Derived.Test.YtoadlneneijfaaaChecked
import GoSem.Claim
import GoSem.ClaimJoined
import GoSem.ClaimMapViews
import Derived.JoinedTies
import Derived.KernelRfl
namespace Go.Proofs.Ytoadlneneijfaaa
/- THE CELL 'sum', in the pinned program and in every row, IS THE sha256 OF THE DUMP (.gsa) THAT YtoadlneneijfaaaProg.lean LOADS. Nothing in Lean hashes anything: it is a label: what it is worth is what the hold of that sum in a sandbox is worth. -/
noncomputable def Try.pinned : Pinned := { name := "ytoadlneneijfaaa", sum := "589b157aa8c4cabac973521a255b70c6f3f563993265619383463349c57bf7b4", checked := Try.checked }
namespace Rows
def none {H : Type} : Left H := { results := [], args := [] }

/-- 'facetlaw02.ShapeMakes': WHATEVER THE INPUT: true; the input reads as it did. -/
def shapeMakesSpec : ChangeSpec := { name := "shapeMakes", fn := fun _ => fun
  | [d1, d2, d3] => { results := [.lit (.bool true)], args := [d1, d2, d3] }
  | _ => none }
def shapeMakesRow : OpenClaim := { program := "ytoadlneneijfaaa", sum := "589b157aa8c4cabac973521a255b70c6f3f563993265619383463349c57bf7b4", func := "facet/facetlaw02.ShapeMakes", spec := "shapeMakes", plainKeys := false, apart := false }
def ShapeMakesSaid : Prop := shapeMakesRow.holds Try.pinned (OpenSpec.ofChange shapeMakesSpec)

/-- ITS FALSE NEIGHBOUR: 'it returns false'. Refute it at one input. -/
def shapeMakesWrong : ChangeSpec := { name := "shapeMakes", fn := fun _ => fun
  | [d1, d2, d3] => { results := [.lit (.bool false)], args := [d1, d2, d3] }
  | _ => none }
def ShapeMakesWrongFalsely : Prop := shapeMakesRow.holds Try.pinned (OpenSpec.ofChange shapeMakesWrong)

/-- 'facetlaw02.ShapeNormals': WHATEVER THE INPUT: true; the input reads as it did. -/
def shapeNormalsSpec : ChangeSpec := { name := "shapeNormals", fn := fun _ => fun
  | [d] => { results := [.lit (.bool true)], args := [d] }
  | _ => none }
def shapeNormalsRow : OpenClaim := { program := "ytoadlneneijfaaa", sum := "589b157aa8c4cabac973521a255b70c6f3f563993265619383463349c57bf7b4", func := "facet/facetlaw02.ShapeNormals", spec := "shapeNormals", plainKeys := false, apart := false }
def ShapeNormalsSaid : Prop := shapeNormalsRow.holds Try.pinned (OpenSpec.ofChange shapeNormalsSpec)

/-- ITS FALSE NEIGHBOUR: 'it returns false'. Refute it at one input. -/
def shapeNormalsWrong : ChangeSpec := { name := "shapeNormals", fn := fun _ => fun
  | [d] => { results := [.lit (.bool false)], args := [d] }
  | _ => none }
def ShapeNormalsWrongFalsely : Prop := shapeNormalsRow.holds Try.pinned (OpenSpec.ofChange shapeNormalsWrong)

/-- 'facetlaw02.ShapeValidates': WHATEVER THE INPUT: true; the input reads as it did. -/
def shapeValidatesSpec : ChangeSpec := { name := "shapeValidates", fn := fun _ => fun
  | [d] => { results := [.lit (.bool true)], args := [d] }
  | _ => none }
def shapeValidatesRow : OpenClaim := { program := "ytoadlneneijfaaa", sum := "589b157aa8c4cabac973521a255b70c6f3f563993265619383463349c57bf7b4", func := "facet/facetlaw02.ShapeValidates", spec := "shapeValidates", plainKeys := false, apart := false }
def ShapeValidatesSaid : Prop := shapeValidatesRow.holds Try.pinned (OpenSpec.ofChange shapeValidatesSpec)

/-- ITS FALSE NEIGHBOUR: 'it returns false'. Refute it at one input. -/
def shapeValidatesWrong : ChangeSpec := { name := "shapeValidates", fn := fun _ => fun
  | [d] => { results := [.lit (.bool false)], args := [d] }
  | _ => none }
def ShapeValidatesWrongFalsely : Prop := shapeValidatesRow.holds Try.pinned (OpenSpec.ofChange shapeValidatesWrong)

/-- 'facetlaw02.ShapeTurns': WHATEVER THE INPUT: true; the input reads as it did. -/
def shapeTurnsSpec : ChangeSpec := { name := "shapeTurns", fn := fun _ => fun
  | [d] => { results := [.lit (.bool true)], args := [d] }
  | _ => none }
def shapeTurnsRow : OpenClaim := { program := "ytoadlneneijfaaa", sum := "589b157aa8c4cabac973521a255b70c6f3f563993265619383463349c57bf7b4", func := "facet/facetlaw02.ShapeTurns", spec := "shapeTurns", unfollowed := true, recurses := true, plainKeys := false, apart := false }
def ShapeTurnsSaid : Prop := shapeTurnsRow.holds Try.pinned (OpenSpec.ofChange shapeTurnsSpec)

/-- ITS FALSE NEIGHBOUR: 'it returns false'. Refute it at one input. -/
def shapeTurnsWrong : ChangeSpec := { name := "shapeTurns", fn := fun _ => fun
  | [d] => { results := [.lit (.bool false)], args := [d] }
  | _ => none }
def ShapeTurnsWrongFalsely : Prop := shapeTurnsRow.holds Try.pinned (OpenSpec.ofChange shapeTurnsWrong)

/-- 'facetlaw02.ShapeMoves': WHATEVER THE INPUT: true; the input reads as it did. -/
def shapeMovesSpec : ChangeSpec := { name := "shapeMoves", fn := fun _ => fun
  | [d1, d2, d3] => { results := [.lit (.bool true)], args := [d1, d2, d3] }
  | _ => none }
def shapeMovesRow : OpenClaim := { program := "ytoadlneneijfaaa", sum := "589b157aa8c4cabac973521a255b70c6f3f563993265619383463349c57bf7b4", func := "facet/facetlaw02.ShapeMoves", spec := "shapeMoves", unfollowed := true, recurses := true, plainKeys := false, apart := false }
def ShapeMovesSaid : Prop := shapeMovesRow.holds Try.pinned (OpenSpec.ofChange shapeMovesSpec)

/-- ITS FALSE NEIGHBOUR: 'it returns false'. Refute it at one input. -/
def shapeMovesWrong : ChangeSpec := { name := "shapeMoves", fn := fun _ => fun
  | [d1, d2, d3] => { results := [.lit (.bool false)], args := [d1, d2, d3] }
  | _ => none }
def ShapeMovesWrongFalsely : Prop := shapeMovesRow.holds Try.pinned (OpenSpec.ofChange shapeMovesWrong)

/-- 'facetlaw02.ShapeWinds': WHATEVER THE INPUT: true; the input reads as it did. -/
def shapeWindsSpec : ChangeSpec := { name := "shapeWinds", fn := fun _ => fun
  | [d1, d2] => { results := [.lit (.bool true)], args := [d1, d2] }
  | _ => none }
def shapeWindsRow : OpenClaim := { program := "ytoadlneneijfaaa", sum := "589b157aa8c4cabac973521a255b70c6f3f563993265619383463349c57bf7b4", func := "facet/facetlaw02.ShapeWinds", spec := "shapeWinds", plainKeys := false, apart := false }
def ShapeWindsSaid : Prop := shapeWindsRow.holds Try.pinned (OpenSpec.ofChange shapeWindsSpec)

/-- ITS FALSE NEIGHBOUR: 'it returns false'. Refute it at one input. -/
def shapeWindsWrong : ChangeSpec := { name := "shapeWinds", fn := fun _ => fun
  | [d1, d2] => { results := [.lit (.bool false)], args := [d1, d2] }
  | _ => none }
def ShapeWindsWrongFalsely : Prop := shapeWindsRow.holds Try.pinned (OpenSpec.ofChange shapeWindsWrong)

/-- 'facetlaw02.ShapeCounts': WHATEVER THE INPUT: true; the input reads as it did. -/
def shapeCountsSpec : ChangeSpec := { name := "shapeCounts", fn := fun _ => fun
  | [d] => { results := [.lit (.bool true)], args := [d] }
  | _ => none }
def shapeCountsRow : OpenClaim := { program := "ytoadlneneijfaaa", sum := "589b157aa8c4cabac973521a255b70c6f3f563993265619383463349c57bf7b4", func := "facet/facetlaw02.ShapeCounts", spec := "shapeCounts", unfollowed := true, recurses := true, plainKeys := false, apart := false }
def ShapeCountsSaid : Prop := shapeCountsRow.holds Try.pinned (OpenSpec.ofChange shapeCountsSpec)

/-- ITS FALSE NEIGHBOUR: 'it returns false'. Refute it at one input. -/
def shapeCountsWrong : ChangeSpec := { name := "shapeCounts", fn := fun _ => fun
  | [d] => { results := [.lit (.bool false)], args := [d] }
  | _ => none }
def ShapeCountsWrongFalsely : Prop := shapeCountsRow.holds Try.pinned (OpenSpec.ofChange shapeCountsWrong)

/-- 'facetlaw02.ShapeFiner': WHATEVER THE INPUT: true; the input reads as it did. -/
def shapeFinerSpec : ChangeSpec := { name := "shapeFiner", fn := fun _ => fun
  | [d] => { results := [.lit (.bool true)], args := [d] }
  | _ => none }
def shapeFinerRow : OpenClaim := { program := "ytoadlneneijfaaa", sum := "589b157aa8c4cabac973521a255b70c6f3f563993265619383463349c57bf7b4", func := "facet/facetlaw02.ShapeFiner", spec := "shapeFiner", unfollowed := true, recurses := true, plainKeys := false, apart := false }
def ShapeFinerSaid : Prop := shapeFinerRow.holds Try.pinned (OpenSpec.ofChange shapeFinerSpec)

/-- ITS FALSE NEIGHBOUR: 'it returns false'. Refute it at one input. -/
def shapeFinerWrong : ChangeSpec := { name := "shapeFiner", fn := fun _ => fun
  | [d] => { results := [.lit (.bool false)], args := [d] }
  | _ => none }
def ShapeFinerWrongFalsely : Prop := shapeFinerRow.holds Try.pinned (OpenSpec.ofChange shapeFinerWrong)

/-- 'facetlaw02.ShapeUnites': WHATEVER THE INPUT: true; the input reads as it did. -/
def shapeUnitesSpec : ChangeSpec := { name := "shapeUnites", fn := fun _ => fun
  | [d1, d2] => { results := [.lit (.bool true)], args := [d1, d2] }
  | _ => none }
def shapeUnitesRow : OpenClaim := { program := "ytoadlneneijfaaa", sum := "589b157aa8c4cabac973521a255b70c6f3f563993265619383463349c57bf7b4", func := "facet/facetlaw02.ShapeUnites", spec := "shapeUnites", unfollowed := true, recurses := true, plainKeys := false, apart := false }
def ShapeUnitesSaid : Prop := shapeUnitesRow.holds Try.pinned (OpenSpec.ofChange shapeUnitesSpec)

/-- ITS FALSE NEIGHBOUR: 'it returns false'. Refute it at one input. -/
def shapeUnitesWrong : ChangeSpec := { name := "shapeUnites", fn := fun _ => fun
  | [d1, d2] => { results := [.lit (.bool false)], args := [d1, d2] }
  | _ => none }
def ShapeUnitesWrongFalsely : Prop := shapeUnitesRow.holds Try.pinned (OpenSpec.ofChange shapeUnitesWrong)

/-- 'facetlaw02.ShapeWindsAlike': WHATEVER THE INPUT: true; the input reads as it did. -/
def shapeWindsAlikeSpec : ChangeSpec := { name := "shapeWindsAlike", fn := fun _ => fun
  | [d1, d2, d3] => { results := [.lit (.bool true)], args := [d1, d2, d3] }
  | _ => none }
def shapeWindsAlikeRow : OpenClaim := { program := "ytoadlneneijfaaa", sum := "589b157aa8c4cabac973521a255b70c6f3f563993265619383463349c57bf7b4", func := "facet/facetlaw02.ShapeWindsAlike", spec := "shapeWindsAlike", unfollowed := true, recurses := true, plainKeys := false, apart := false }
def ShapeWindsAlikeSaid : Prop := shapeWindsAlikeRow.holds Try.pinned (OpenSpec.ofChange shapeWindsAlikeSpec)

/-- ITS FALSE NEIGHBOUR: 'it returns false'. Refute it at one input. -/
def shapeWindsAlikeWrong : ChangeSpec := { name := "shapeWindsAlike", fn := fun _ => fun
  | [d1, d2, d3] => { results := [.lit (.bool false)], args := [d1, d2, d3] }
  | _ => none }
def ShapeWindsAlikeWrongFalsely : Prop := shapeWindsAlikeRow.holds Try.pinned (OpenSpec.ofChange shapeWindsAlikeWrong)

/-- 'facetlaw02.ShapeMeasures': WHATEVER THE INPUT: true; the input reads as it did. -/
def shapeMeasuresSpec : ChangeSpec := { name := "shapeMeasures", fn := fun _ => fun
  | [d] => { results := [.lit (.bool true)], args := [d] }
  | _ => none }
def shapeMeasuresRow : OpenClaim := { program := "ytoadlneneijfaaa", sum := "589b157aa8c4cabac973521a255b70c6f3f563993265619383463349c57bf7b4", func := "facet/facetlaw02.ShapeMeasures", spec := "shapeMeasures", plainKeys := false, apart := false }
def ShapeMeasuresSaid : Prop := shapeMeasuresRow.holds Try.pinned (OpenSpec.ofChange shapeMeasuresSpec)

/-- ITS FALSE NEIGHBOUR: 'it returns false'. Refute it at one input. -/
def shapeMeasuresWrong : ChangeSpec := { name := "shapeMeasures", fn := fun _ => fun
  | [d] => { results := [.lit (.bool false)], args := [d] }
  | _ => none }
def ShapeMeasuresWrongFalsely : Prop := shapeMeasuresRow.holds Try.pinned (OpenSpec.ofChange shapeMeasuresWrong)

/- THE SECOND FORM. 'bulk': how many values and letters a reading holds, each counted each time it is reached (what is shared counts as often as it is met; a slice's spare places count too). A statement '..UptoSaid' is the law's where the arguments, and the package variables that the reading takes, are together of bulk at most 1048576: NARROWER than '..Said'. Prove '..Said' where nothing that the law and all that it calls make is longer than what came in: it says more and counts as full. Else prove '..UptoSaid'. A law counts once. -/
mutual
def uptoBulk {H : Type} : DataW H → Nat
  | .lit (.string bytes) => bytes.length + 1
  | .lit _ => 1
  | .nil => 1
  | .ptr d => uptoBulk d + 1
  | .slice elems spare => uptoBulkAll elems + uptoBulkAll spare + 1
  | .agg parts => uptoBulkAll parts + 1
  | .iface _ d => uptoBulk d + 1
  | .map entries => uptoBulkEntries entries + 1
  | .held _ => 1
def uptoBulkAll {H : Type} : List (DataW H) → Nat
  | [] => 0
  | d :: r => uptoBulk d + uptoBulkAll r
def uptoBulkEntries {H : Type} : List (Lit × DataW H) → Nat
  | [] => 0
  | x :: r => uptoBulkEntry x + uptoBulkEntries r
def uptoBulkEntry {H : Type} : Lit × DataW H → Nat
  | (.string bytes, d) => bytes.length + uptoBulk d + 1
  | (_, d) => uptoBulk d + 1
 end
def uptoSmall : (H : Type) → List (DataW H) → Bool := fun _ ds => decide (uptoBulkAll ds ≤ 1048576)
def OpenSpec.upto (s : _root_.Go.ChangeSpec) : _root_.Go.OpenSpec := { _root_.Go.OpenSpec.ofChange s with cond := some uptoSmall }

/-- 'facetlaw02.ShapeMakes', WHERE WHAT IT READS IS OF BULK AT MOST 1048576: true; the input reads as it did. -/
def shapeMakesUptoRow : OpenClaim := { program := "ytoadlneneijfaaa", sum := "589b157aa8c4cabac973521a255b70c6f3f563993265619383463349c57bf7b4", func := "facet/facetlaw02.ShapeMakes", spec := "shapeMakes", plainKeys := false, apart := false, narrowed := true }
def ShapeMakesUptoSaid : Prop := shapeMakesUptoRow.holds Try.pinned (OpenSpec.upto shapeMakesSpec)

/-- 'facetlaw02.ShapeNormals', WHERE WHAT IT READS IS OF BULK AT MOST 1048576: true; the input reads as it did. -/
def shapeNormalsUptoRow : OpenClaim := { program := "ytoadlneneijfaaa", sum := "589b157aa8c4cabac973521a255b70c6f3f563993265619383463349c57bf7b4", func := "facet/facetlaw02.ShapeNormals", spec := "shapeNormals", plainKeys := false, apart := false, narrowed := true }
def ShapeNormalsUptoSaid : Prop := shapeNormalsUptoRow.holds Try.pinned (OpenSpec.upto shapeNormalsSpec)

/-- 'facetlaw02.ShapeValidates', WHERE WHAT IT READS IS OF BULK AT MOST 1048576: true; the input reads as it did. -/
def shapeValidatesUptoRow : OpenClaim := { program := "ytoadlneneijfaaa", sum := "589b157aa8c4cabac973521a255b70c6f3f563993265619383463349c57bf7b4", func := "facet/facetlaw02.ShapeValidates", spec := "shapeValidates", plainKeys := false, apart := false, narrowed := true }
def ShapeValidatesUptoSaid : Prop := shapeValidatesUptoRow.holds Try.pinned (OpenSpec.upto shapeValidatesSpec)

/-- 'facetlaw02.ShapeTurns', WHERE WHAT IT READS IS OF BULK AT MOST 1048576: true; the input reads as it did. -/
def shapeTurnsUptoRow : OpenClaim := { program := "ytoadlneneijfaaa", sum := "589b157aa8c4cabac973521a255b70c6f3f563993265619383463349c57bf7b4", func := "facet/facetlaw02.ShapeTurns", spec := "shapeTurns", unfollowed := true, recurses := true, plainKeys := false, apart := false, narrowed := true }
def ShapeTurnsUptoSaid : Prop := shapeTurnsUptoRow.holds Try.pinned (OpenSpec.upto shapeTurnsSpec)

/-- 'facetlaw02.ShapeMoves', WHERE WHAT IT READS IS OF BULK AT MOST 1048576: true; the input reads as it did. -/
def shapeMovesUptoRow : OpenClaim := { program := "ytoadlneneijfaaa", sum := "589b157aa8c4cabac973521a255b70c6f3f563993265619383463349c57bf7b4", func := "facet/facetlaw02.ShapeMoves", spec := "shapeMoves", unfollowed := true, recurses := true, plainKeys := false, apart := false, narrowed := true }
def ShapeMovesUptoSaid : Prop := shapeMovesUptoRow.holds Try.pinned (OpenSpec.upto shapeMovesSpec)

/-- 'facetlaw02.ShapeWinds', WHERE WHAT IT READS IS OF BULK AT MOST 1048576: true; the input reads as it did. -/
def shapeWindsUptoRow : OpenClaim := { program := "ytoadlneneijfaaa", sum := "589b157aa8c4cabac973521a255b70c6f3f563993265619383463349c57bf7b4", func := "facet/facetlaw02.ShapeWinds", spec := "shapeWinds", plainKeys := false, apart := false, narrowed := true }
def ShapeWindsUptoSaid : Prop := shapeWindsUptoRow.holds Try.pinned (OpenSpec.upto shapeWindsSpec)

/-- 'facetlaw02.ShapeCounts', WHERE WHAT IT READS IS OF BULK AT MOST 1048576: true; the input reads as it did. -/
def shapeCountsUptoRow : OpenClaim := { program := "ytoadlneneijfaaa", sum := "589b157aa8c4cabac973521a255b70c6f3f563993265619383463349c57bf7b4", func := "facet/facetlaw02.ShapeCounts", spec := "shapeCounts", unfollowed := true, recurses := true, plainKeys := false, apart := false, narrowed := true }
def ShapeCountsUptoSaid : Prop := shapeCountsUptoRow.holds Try.pinned (OpenSpec.upto shapeCountsSpec)

/-- 'facetlaw02.ShapeFiner', WHERE WHAT IT READS IS OF BULK AT MOST 1048576: true; the input reads as it did. -/
def shapeFinerUptoRow : OpenClaim := { program := "ytoadlneneijfaaa", sum := "589b157aa8c4cabac973521a255b70c6f3f563993265619383463349c57bf7b4", func := "facet/facetlaw02.ShapeFiner", spec := "shapeFiner", unfollowed := true, recurses := true, plainKeys := false, apart := false, narrowed := true }
def ShapeFinerUptoSaid : Prop := shapeFinerUptoRow.holds Try.pinned (OpenSpec.upto shapeFinerSpec)

/-- 'facetlaw02.ShapeUnites', WHERE WHAT IT READS IS OF BULK AT MOST 1048576: true; the input reads as it did. -/
def shapeUnitesUptoRow : OpenClaim := { program := "ytoadlneneijfaaa", sum := "589b157aa8c4cabac973521a255b70c6f3f563993265619383463349c57bf7b4", func := "facet/facetlaw02.ShapeUnites", spec := "shapeUnites", unfollowed := true, recurses := true, plainKeys := false, apart := false, narrowed := true }
def ShapeUnitesUptoSaid : Prop := shapeUnitesUptoRow.holds Try.pinned (OpenSpec.upto shapeUnitesSpec)

/-- 'facetlaw02.ShapeWindsAlike', WHERE WHAT IT READS IS OF BULK AT MOST 1048576: true; the input reads as it did. -/
def shapeWindsAlikeUptoRow : OpenClaim := { program := "ytoadlneneijfaaa", sum := "589b157aa8c4cabac973521a255b70c6f3f563993265619383463349c57bf7b4", func := "facet/facetlaw02.ShapeWindsAlike", spec := "shapeWindsAlike", unfollowed := true, recurses := true, plainKeys := false, apart := false, narrowed := true }
def ShapeWindsAlikeUptoSaid : Prop := shapeWindsAlikeUptoRow.holds Try.pinned (OpenSpec.upto shapeWindsAlikeSpec)

/-- 'facetlaw02.ShapeMeasures', WHERE WHAT IT READS IS OF BULK AT MOST 1048576: true; the input reads as it did. -/
def shapeMeasuresUptoRow : OpenClaim := { program := "ytoadlneneijfaaa", sum := "589b157aa8c4cabac973521a255b70c6f3f563993265619383463349c57bf7b4", func := "facet/facetlaw02.ShapeMeasures", spec := "shapeMeasures", plainKeys := false, apart := false, narrowed := true }
def ShapeMeasuresUptoSaid : Prop := shapeMeasuresUptoRow.holds Try.pinned (OpenSpec.upto shapeMeasuresSpec)

end Rows
end Go.Proofs.Ytoadlneneijfaaa
