/-
  No cell of these rows narrows 'for every input' (looked for: loops, veiled, ifaces, maps, wideKeys, modest, calm, conditions, laid).
  DERIVED. THE GIVEN ROWS OF THIS SEAT. 2 by the template 'for every input the law returns true; each argument reads behind the call as it read before'; 0 by the template 'total and deterministic' (their statements: YtbhcjdgfcinpcaaTotals.lean).
  GIVEN WITH THE SEED: the statements are not yours to turn. If you find one false, say at which input.
  Laid BY PROGRAM, IN A SANDBOX (cutbox-rows.mjs): the forced cells as the released guide's own fill.sh prints them over the translation e1c50bec8f04ba05… (all of the seat's roots in one cut). By AI agents, Wed Nov 11 2026. No macro, syntax, notation, axiom, sorry.
-/
import Derived.Test.YtbhcjdgfcinpcaaChecked
import GoSem.Claim
import GoSem.ClaimJoined
import GoSem.ClaimMapViews
import Derived.JoinedTies
import Derived.KernelRfl
namespace Go.Proofs.Ytbhcjdgfcinpcaa
/- THE CELL 'sum', in the pinned program and in every row, IS THE sha256 OF THE DUMP (.gsa) THAT YtbhcjdgfcinpcaaProg.lean LOADS. Nothing in Lean hashes anything: it is a label: what it is worth is what the hold of that sum in a sandbox is worth. -/
noncomputable def Try.pinned : Pinned := { name := "ytbhcjdgfcinpcaa", sum := "e1c50bec8f04ba05055cb2ee04fc93d8fcd2ceb2307b7e0560afcca91d534787", checked := Try.checked }
namespace Rows
def none {H : Type} : Left H := { results := [], args := [] }

/-- 'facettop.TopShapes': WHATEVER THE INPUT: true; the input reads as it did. -/
def topShapesSpec : ChangeSpec := { name := "topShapes", fn := fun _ => fun
  | [d1, d2, d3] => { results := [.lit (.bool true)], args := [d1, d2, d3] }
  | _ => none }
def topShapesRow : OpenClaim := { program := "ytbhcjdgfcinpcaa", sum := "e1c50bec8f04ba05055cb2ee04fc93d8fcd2ceb2307b7e0560afcca91d534787", func := "facet/facettop.TopShapes", spec := "topShapes", unfollowed := true, recurses := true, plainKeys := false, apart := false }
def TopShapesSaid : Prop := topShapesRow.holds Try.pinned (OpenSpec.ofChange topShapesSpec)

/-- ITS FALSE NEIGHBOUR: 'it returns false'. Refute it at one input. -/
def topShapesWrong : ChangeSpec := { name := "topShapes", fn := fun _ => fun
  | [d1, d2, d3] => { results := [.lit (.bool false)], args := [d1, d2, d3] }
  | _ => none }
def TopShapesWrongFalsely : Prop := topShapesRow.holds Try.pinned (OpenSpec.ofChange topShapesWrong)

/-- 'facetlaw02.ShapeWindsAlike': WHATEVER THE INPUT: true; the input reads as it did. -/
def shapeWindsAlikeSpec : ChangeSpec := { name := "shapeWindsAlike", fn := fun _ => fun
  | [d1, d2, d3] => { results := [.lit (.bool true)], args := [d1, d2, d3] }
  | _ => none }
def shapeWindsAlikeRow : OpenClaim := { program := "ytbhcjdgfcinpcaa", sum := "e1c50bec8f04ba05055cb2ee04fc93d8fcd2ceb2307b7e0560afcca91d534787", func := "facet/facetlaw02.ShapeWindsAlike", spec := "shapeWindsAlike", unfollowed := true, recurses := true, plainKeys := false, apart := false }
def ShapeWindsAlikeSaid : Prop := shapeWindsAlikeRow.holds Try.pinned (OpenSpec.ofChange shapeWindsAlikeSpec)

/-- ITS FALSE NEIGHBOUR: 'it returns false'. Refute it at one input. -/
def shapeWindsAlikeWrong : ChangeSpec := { name := "shapeWindsAlike", fn := fun _ => fun
  | [d1, d2, d3] => { results := [.lit (.bool false)], args := [d1, d2, d3] }
  | _ => none }
def ShapeWindsAlikeWrongFalsely : Prop := shapeWindsAlikeRow.holds Try.pinned (OpenSpec.ofChange shapeWindsAlikeWrong)

/- THE SECOND FORM. 'bulk': how many values and letters a reading holds, each counted each time it is reached (what is shared counts as often as it is met; a slice's spare places count too). A statement '..UptoSaid' is the law's where the arguments, and the package variables that the reading takes, are together of bulk at most 1048576: NARROWER than '..Said'. Prove '..Said' where nothing that the law and all that it calls make is longer than what came in: it says more and counts as full. Else prove '..UptoSaid'. A law counts once. -/
mutual
def uptoBulk {H : Type} : DataW H → Nat
  | .lit (.string bytes) => bytes.length + 1
  | .lit _ => 1
  | .nil => 1
  | .ptr d => uptoBulk d + 1
  | .slice elems spare => uptoBulkAll elems + uptoBulkAll spare + 1
  | .agg parts => uptoBulkAll parts + 1
  | .iface _ d => uptoBulk d + 1
  | .map entries => uptoBulkEntries entries + 1
  | .held _ => 1
def uptoBulkAll {H : Type} : List (DataW H) → Nat
  | [] => 0
  | d :: r => uptoBulk d + uptoBulkAll r
def uptoBulkEntries {H : Type} : List (Lit × DataW H) → Nat
  | [] => 0
  | x :: r => uptoBulkEntry x + uptoBulkEntries r
def uptoBulkEntry {H : Type} : Lit × DataW H → Nat
  | (.string bytes, d) => bytes.length + uptoBulk d + 1
  | (_, d) => uptoBulk d + 1
 end
def uptoSmall : (H : Type) → List (DataW H) → Bool := fun _ ds => decide (uptoBulkAll ds ≤ 1048576)
def OpenSpec.upto (s : _root_.Go.ChangeSpec) : _root_.Go.OpenSpec := { _root_.Go.OpenSpec.ofChange s with cond := some uptoSmall }

/-- 'facettop.TopShapes', WHERE WHAT IT READS IS OF BULK AT MOST 1048576: true; the input reads as it did. -/
def topShapesUptoRow : OpenClaim := { program := "ytbhcjdgfcinpcaa", sum := "e1c50bec8f04ba05055cb2ee04fc93d8fcd2ceb2307b7e0560afcca91d534787", func := "facet/facettop.TopShapes", spec := "topShapes", unfollowed := true, recurses := true, plainKeys := false, apart := false, narrowed := true }
def TopShapesUptoSaid : Prop := topShapesUptoRow.holds Try.pinned (OpenSpec.upto topShapesSpec)

/-- 'facetlaw02.ShapeWindsAlike', WHERE WHAT IT READS IS OF BULK AT MOST 1048576: true; the input reads as it did. -/
def shapeWindsAlikeUptoRow : OpenClaim := { program := "ytbhcjdgfcinpcaa", sum := "e1c50bec8f04ba05055cb2ee04fc93d8fcd2ceb2307b7e0560afcca91d534787", func := "facet/facetlaw02.ShapeWindsAlike", spec := "shapeWindsAlike", unfollowed := true, recurses := true, plainKeys := false, apart := false, narrowed := true }
def ShapeWindsAlikeUptoSaid : Prop := shapeWindsAlikeUptoRow.holds Try.pinned (OpenSpec.upto shapeWindsAlikeSpec)

end Rows
end Go.Proofs.Ytbhcjdgfcinpcaa
