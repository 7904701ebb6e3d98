/-
  No cell of these rows narrows 'for every input' (looked for: loops, veiled, ifaces, maps, wideKeys, modest, calm, conditions, laid).
  DERIVED. THE GIVEN ROWS OF THIS SEAT. 12 by the template 'for every input the law returns true; each argument reads behind the call as it read before'; 0 by the template 'total and deterministic' (their statements: YtlkopkdbkbammaaTotals.lean).
  GIVEN WITH THE SEED: the statements are not yours to turn. If you find one false, say at which input.
  Laid BY PROGRAM, IN A SANDBOX (cutbox-rows.mjs): the forced cells as the released guide's own fill.sh prints them over the translation f3263552f1530fb0… (all of the seat's roots in one cut). By AI agents, Wed Nov 11 2026. No macro, syntax, notation, axiom, sorry.
-/
import Derived.Test.YtlkopkdbkbammaaChecked
import GoSem.Claim
import GoSem.ClaimJoined
import GoSem.ClaimMapViews
import Derived.JoinedTies
import Derived.KernelRfl
namespace Go.Proofs.Ytlkopkdbkbammaa
/- THE CELL 'sum', in the pinned program and in every row, IS THE sha256 OF THE DUMP (.gsa) THAT YtlkopkdbkbammaaProg.lean LOADS. Nothing in Lean hashes anything: it is a label: what it is worth is what the hold of that sum in a sandbox is worth. -/
noncomputable def Try.pinned : Pinned := { name := "ytlkopkdbkbammaa", sum := "f3263552f1530fb02e4ce30bfe7a719533e6683b8cfb9d56f865bfb782f9f0f1", checked := Try.checked }
namespace Rows
def none {H : Type} : Left H := { results := [], args := [] }

/-- 'facetlaw01.SpanQuotients': WHATEVER THE INPUT: true; the input reads as it did. -/
def spanQuotientsSpec : ChangeSpec := { name := "spanQuotients", fn := fun _ => fun
  | [d1, d2, d3] => { results := [.lit (.bool true)], args := [d1, d2, d3] }
  | _ => none }
def spanQuotientsRow : OpenClaim := { program := "ytlkopkdbkbammaa", sum := "f3263552f1530fb02e4ce30bfe7a719533e6683b8cfb9d56f865bfb782f9f0f1", func := "facet/facetlaw01.SpanQuotients", spec := "spanQuotients", apart := false }
def SpanQuotientsSaid : Prop := spanQuotientsRow.holds Try.pinned (OpenSpec.ofChange spanQuotientsSpec)

/-- ITS FALSE NEIGHBOUR: 'it returns false'. Refute it at one input. -/
def spanQuotientsWrong : ChangeSpec := { name := "spanQuotients", fn := fun _ => fun
  | [d1, d2, d3] => { results := [.lit (.bool false)], args := [d1, d2, d3] }
  | _ => none }
def SpanQuotientsWrongFalsely : Prop := spanQuotientsRow.holds Try.pinned (OpenSpec.ofChange spanQuotientsWrong)

/-- 'facetlaw01.SpanInverses': WHATEVER THE INPUT: true; the input reads as it did. -/
def spanInversesSpec : ChangeSpec := { name := "spanInverses", fn := fun _ => fun
  | [d1, d2] => { results := [.lit (.bool true)], args := [d1, d2] }
  | _ => none }
def spanInversesRow : OpenClaim := { program := "ytlkopkdbkbammaa", sum := "f3263552f1530fb02e4ce30bfe7a719533e6683b8cfb9d56f865bfb782f9f0f1", func := "facet/facetlaw01.SpanInverses", spec := "spanInverses", apart := false }
def SpanInversesSaid : Prop := spanInversesRow.holds Try.pinned (OpenSpec.ofChange spanInversesSpec)

/-- ITS FALSE NEIGHBOUR: 'it returns false'. Refute it at one input. -/
def spanInversesWrong : ChangeSpec := { name := "spanInverses", fn := fun _ => fun
  | [d1, d2] => { results := [.lit (.bool false)], args := [d1, d2] }
  | _ => none }
def SpanInversesWrongFalsely : Prop := spanInversesRow.holds Try.pinned (OpenSpec.ofChange spanInversesWrong)

/-- 'facetlaw01.SpanMeets': WHATEVER THE INPUT: true; the input reads as it did. -/
def spanMeetsSpec : ChangeSpec := { name := "spanMeets", fn := fun _ => fun
  | [d1, d2] => { results := [.lit (.bool true)], args := [d1, d2] }
  | _ => none }
def spanMeetsRow : OpenClaim := { program := "ytlkopkdbkbammaa", sum := "f3263552f1530fb02e4ce30bfe7a719533e6683b8cfb9d56f865bfb782f9f0f1", func := "facet/facetlaw01.SpanMeets", spec := "spanMeets", apart := false }
def SpanMeetsSaid : Prop := spanMeetsRow.holds Try.pinned (OpenSpec.ofChange spanMeetsSpec)

/-- ITS FALSE NEIGHBOUR: 'it returns false'. Refute it at one input. -/
def spanMeetsWrong : ChangeSpec := { name := "spanMeets", fn := fun _ => fun
  | [d1, d2] => { results := [.lit (.bool false)], args := [d1, d2] }
  | _ => none }
def SpanMeetsWrongFalsely : Prop := spanMeetsRow.holds Try.pinned (OpenSpec.ofChange spanMeetsWrong)

/-- 'facetlaw01.SpanTotals': WHATEVER THE INPUT: true; the input reads as it did. -/
def spanTotalsSpec : ChangeSpec := { name := "spanTotals", fn := fun _ => fun
  | [d] => { results := [.lit (.bool true)], args := [d] }
  | _ => none }
def spanTotalsRow : OpenClaim := { program := "ytlkopkdbkbammaa", sum := "f3263552f1530fb02e4ce30bfe7a719533e6683b8cfb9d56f865bfb782f9f0f1", func := "facet/facetlaw01.SpanTotals", spec := "spanTotals", apart := false }
def SpanTotalsSaid : Prop := spanTotalsRow.holds Try.pinned (OpenSpec.ofChange spanTotalsSpec)

/-- ITS FALSE NEIGHBOUR: 'it returns false'. Refute it at one input. -/
def spanTotalsWrong : ChangeSpec := { name := "spanTotals", fn := fun _ => fun
  | [d] => { results := [.lit (.bool false)], args := [d] }
  | _ => none }
def SpanTotalsWrongFalsely : Prop := spanTotalsRow.holds Try.pinned (OpenSpec.ofChange spanTotalsWrong)

/-- 'facetlaw01.SpanSums': WHATEVER THE INPUT: true; the input reads as it did. -/
def spanSumsSpec : ChangeSpec := { name := "spanSums", fn := fun _ => fun
  | [d1, d2] => { results := [.lit (.bool true)], args := [d1, d2] }
  | _ => none }
def spanSumsRow : OpenClaim := { program := "ytlkopkdbkbammaa", sum := "f3263552f1530fb02e4ce30bfe7a719533e6683b8cfb9d56f865bfb782f9f0f1", func := "facet/facetlaw01.SpanSums", spec := "spanSums", unfollowed := true, recurses := true, apart := false }
def SpanSumsSaid : Prop := spanSumsRow.holds Try.pinned (OpenSpec.ofChange spanSumsSpec)

/-- ITS FALSE NEIGHBOUR: 'it returns false'. Refute it at one input. -/
def spanSumsWrong : ChangeSpec := { name := "spanSums", fn := fun _ => fun
  | [d1, d2] => { results := [.lit (.bool false)], args := [d1, d2] }
  | _ => none }
def SpanSumsWrongFalsely : Prop := spanSumsRow.holds Try.pinned (OpenSpec.ofChange spanSumsWrong)

/-- 'facetlaw01.SpanDivides': WHATEVER THE INPUT: true; the input reads as it did. -/
def spanDividesSpec : ChangeSpec := { name := "spanDivides", fn := fun _ => fun
  | [d1, d2] => { results := [.lit (.bool true)], args := [d1, d2] }
  | _ => none }
def spanDividesRow : OpenClaim := { program := "ytlkopkdbkbammaa", sum := "f3263552f1530fb02e4ce30bfe7a719533e6683b8cfb9d56f865bfb782f9f0f1", func := "facet/facetlaw01.SpanDivides", spec := "spanDivides", unfollowed := true, recurses := true, apart := false }
def SpanDividesSaid : Prop := spanDividesRow.holds Try.pinned (OpenSpec.ofChange spanDividesSpec)

/-- ITS FALSE NEIGHBOUR: 'it returns false'. Refute it at one input. -/
def spanDividesWrong : ChangeSpec := { name := "spanDivides", fn := fun _ => fun
  | [d1, d2] => { results := [.lit (.bool false)], args := [d1, d2] }
  | _ => none }
def SpanDividesWrongFalsely : Prop := spanDividesRow.holds Try.pinned (OpenSpec.ofChange spanDividesWrong)

/-- 'facetlaw01.SpanFields': WHATEVER THE INPUT: true; the input reads as it did. -/
def spanFieldsSpec : ChangeSpec := { name := "spanFields", fn := fun _ => fun
  | [d1, d2, d3] => { results := [.lit (.bool true)], args := [d1, d2, d3] }
  | _ => none }
def spanFieldsRow : OpenClaim := { program := "ytlkopkdbkbammaa", sum := "f3263552f1530fb02e4ce30bfe7a719533e6683b8cfb9d56f865bfb782f9f0f1", func := "facet/facetlaw01.SpanFields", spec := "spanFields", unfollowed := true, recurses := true, apart := false }
def SpanFieldsSaid : Prop := spanFieldsRow.holds Try.pinned (OpenSpec.ofChange spanFieldsSpec)

/-- ITS FALSE NEIGHBOUR: 'it returns false'. Refute it at one input. -/
def spanFieldsWrong : ChangeSpec := { name := "spanFields", fn := fun _ => fun
  | [d1, d2, d3] => { results := [.lit (.bool false)], args := [d1, d2, d3] }
  | _ => none }
def SpanFieldsWrongFalsely : Prop := spanFieldsRow.holds Try.pinned (OpenSpec.ofChange spanFieldsWrong)

/-- 'facetlaw01.SpanRoots': WHATEVER THE INPUT: true; the input reads as it did. -/
def spanRootsSpec : ChangeSpec := { name := "spanRoots", fn := fun _ => fun
  | [d] => { results := [.lit (.bool true)], args := [d] }
  | _ => none }
def spanRootsRow : OpenClaim := { program := "ytlkopkdbkbammaa", sum := "f3263552f1530fb02e4ce30bfe7a719533e6683b8cfb9d56f865bfb782f9f0f1", func := "facet/facetlaw01.SpanRoots", spec := "spanRoots", apart := false }
def SpanRootsSaid : Prop := spanRootsRow.holds Try.pinned (OpenSpec.ofChange spanRootsSpec)

/-- ITS FALSE NEIGHBOUR: 'it returns false'. Refute it at one input. -/
def spanRootsWrong : ChangeSpec := { name := "spanRoots", fn := fun _ => fun
  | [d] => { results := [.lit (.bool false)], args := [d] }
  | _ => none }
def SpanRootsWrongFalsely : Prop := spanRootsRow.holds Try.pinned (OpenSpec.ofChange spanRootsWrong)

/-- 'facetlaw01.SpanScales': WHATEVER THE INPUT: true; the input reads as it did. -/
def spanScalesSpec : ChangeSpec := { name := "spanScales", fn := fun _ => fun
  | [d1, d2] => { results := [.lit (.bool true)], args := [d1, d2] }
  | _ => none }
def spanScalesRow : OpenClaim := { program := "ytlkopkdbkbammaa", sum := "f3263552f1530fb02e4ce30bfe7a719533e6683b8cfb9d56f865bfb782f9f0f1", func := "facet/facetlaw01.SpanScales", spec := "spanScales", apart := false }
def SpanScalesSaid : Prop := spanScalesRow.holds Try.pinned (OpenSpec.ofChange spanScalesSpec)

/-- ITS FALSE NEIGHBOUR: 'it returns false'. Refute it at one input. -/
def spanScalesWrong : ChangeSpec := { name := "spanScales", fn := fun _ => fun
  | [d1, d2] => { results := [.lit (.bool false)], args := [d1, d2] }
  | _ => none }
def SpanScalesWrongFalsely : Prop := spanScalesRow.holds Try.pinned (OpenSpec.ofChange spanScalesWrong)

/-- 'facetlaw01.SpanProducts': WHATEVER THE INPUT: true; the input reads as it did. -/
def spanProductsSpec : ChangeSpec := { name := "spanProducts", fn := fun _ => fun
  | [d1, d2] => { results := [.lit (.bool true)], args := [d1, d2] }
  | _ => none }
def spanProductsRow : OpenClaim := { program := "ytlkopkdbkbammaa", sum := "f3263552f1530fb02e4ce30bfe7a719533e6683b8cfb9d56f865bfb782f9f0f1", func := "facet/facetlaw01.SpanProducts", spec := "spanProducts", unfollowed := true, recurses := true, apart := false }
def SpanProductsSaid : Prop := spanProductsRow.holds Try.pinned (OpenSpec.ofChange spanProductsSpec)

/-- ITS FALSE NEIGHBOUR: 'it returns false'. Refute it at one input. -/
def spanProductsWrong : ChangeSpec := { name := "spanProducts", fn := fun _ => fun
  | [d1, d2] => { results := [.lit (.bool false)], args := [d1, d2] }
  | _ => none }
def SpanProductsWrongFalsely : Prop := spanProductsRow.holds Try.pinned (OpenSpec.ofChange spanProductsWrong)

/-- 'facetlaw01.SpanWider': WHATEVER THE INPUT: true; the input reads as it did. -/
def spanWiderSpec : ChangeSpec := { name := "spanWider", fn := fun _ => fun
  | [d1, d2, d3] => { results := [.lit (.bool true)], args := [d1, d2, d3] }
  | _ => none }
def spanWiderRow : OpenClaim := { program := "ytlkopkdbkbammaa", sum := "f3263552f1530fb02e4ce30bfe7a719533e6683b8cfb9d56f865bfb782f9f0f1", func := "facet/facetlaw01.SpanWider", spec := "spanWider", unfollowed := true, recurses := true, apart := false }
def SpanWiderSaid : Prop := spanWiderRow.holds Try.pinned (OpenSpec.ofChange spanWiderSpec)

/-- ITS FALSE NEIGHBOUR: 'it returns false'. Refute it at one input. -/
def spanWiderWrong : ChangeSpec := { name := "spanWider", fn := fun _ => fun
  | [d1, d2, d3] => { results := [.lit (.bool false)], args := [d1, d2, d3] }
  | _ => none }
def SpanWiderWrongFalsely : Prop := spanWiderRow.holds Try.pinned (OpenSpec.ofChange spanWiderWrong)

/-- 'facetlaw01.SpanLengths': WHATEVER THE INPUT: true; the input reads as it did. -/
def spanLengthsSpec : ChangeSpec := { name := "spanLengths", fn := fun _ => fun
  | [d] => { results := [.lit (.bool true)], args := [d] }
  | _ => none }
def spanLengthsRow : OpenClaim := { program := "ytlkopkdbkbammaa", sum := "f3263552f1530fb02e4ce30bfe7a719533e6683b8cfb9d56f865bfb782f9f0f1", func := "facet/facetlaw01.SpanLengths", spec := "spanLengths", unfollowed := true, recurses := true, apart := false }
def SpanLengthsSaid : Prop := spanLengthsRow.holds Try.pinned (OpenSpec.ofChange spanLengthsSpec)

/-- ITS FALSE NEIGHBOUR: 'it returns false'. Refute it at one input. -/
def spanLengthsWrong : ChangeSpec := { name := "spanLengths", fn := fun _ => fun
  | [d] => { results := [.lit (.bool false)], args := [d] }
  | _ => none }
def SpanLengthsWrongFalsely : Prop := spanLengthsRow.holds Try.pinned (OpenSpec.ofChange spanLengthsWrong)

/- THE SECOND FORM. 'bulk': how many values and letters a reading holds, each counted each time it is reached (what is shared counts as often as it is met; a slice's spare places count too). A statement '..UptoSaid' is the law's where the arguments, and the package variables that the reading takes, are together of bulk at most 1048576: NARROWER than '..Said'. Prove '..Said' where nothing that the law and all that it calls make is longer than what came in: it says more and counts as full. Else prove '..UptoSaid'. A law counts once. -/
mutual
def uptoBulk {H : Type} : DataW H → Nat
  | .lit (.string bytes) => bytes.length + 1
  | .lit _ => 1
  | .nil => 1
  | .ptr d => uptoBulk d + 1
  | .slice elems spare => uptoBulkAll elems + uptoBulkAll spare + 1
  | .agg parts => uptoBulkAll parts + 1
  | .iface _ d => uptoBulk d + 1
  | .map entries => uptoBulkEntries entries + 1
  | .held _ => 1
def uptoBulkAll {H : Type} : List (DataW H) → Nat
  | [] => 0
  | d :: r => uptoBulk d + uptoBulkAll r
def uptoBulkEntries {H : Type} : List (Lit × DataW H) → Nat
  | [] => 0
  | x :: r => uptoBulkEntry x + uptoBulkEntries r
def uptoBulkEntry {H : Type} : Lit × DataW H → Nat
  | (.string bytes, d) => bytes.length + uptoBulk d + 1
  | (_, d) => uptoBulk d + 1
 end
def uptoSmall : (H : Type) → List (DataW H) → Bool := fun _ ds => decide (uptoBulkAll ds ≤ 1048576)
def OpenSpec.upto (s : _root_.Go.ChangeSpec) : _root_.Go.OpenSpec := { _root_.Go.OpenSpec.ofChange s with cond := some uptoSmall }

/-- 'facetlaw01.SpanQuotients', WHERE WHAT IT READS IS OF BULK AT MOST 1048576: true; the input reads as it did. -/
def spanQuotientsUptoRow : OpenClaim := { program := "ytlkopkdbkbammaa", sum := "f3263552f1530fb02e4ce30bfe7a719533e6683b8cfb9d56f865bfb782f9f0f1", func := "facet/facetlaw01.SpanQuotients", spec := "spanQuotients", apart := false, narrowed := true }
def SpanQuotientsUptoSaid : Prop := spanQuotientsUptoRow.holds Try.pinned (OpenSpec.upto spanQuotientsSpec)

/-- 'facetlaw01.SpanInverses', WHERE WHAT IT READS IS OF BULK AT MOST 1048576: true; the input reads as it did. -/
def spanInversesUptoRow : OpenClaim := { program := "ytlkopkdbkbammaa", sum := "f3263552f1530fb02e4ce30bfe7a719533e6683b8cfb9d56f865bfb782f9f0f1", func := "facet/facetlaw01.SpanInverses", spec := "spanInverses", apart := false, narrowed := true }
def SpanInversesUptoSaid : Prop := spanInversesUptoRow.holds Try.pinned (OpenSpec.upto spanInversesSpec)

/-- 'facetlaw01.SpanMeets', WHERE WHAT IT READS IS OF BULK AT MOST 1048576: true; the input reads as it did. -/
def spanMeetsUptoRow : OpenClaim := { program := "ytlkopkdbkbammaa", sum := "f3263552f1530fb02e4ce30bfe7a719533e6683b8cfb9d56f865bfb782f9f0f1", func := "facet/facetlaw01.SpanMeets", spec := "spanMeets", apart := false, narrowed := true }
def SpanMeetsUptoSaid : Prop := spanMeetsUptoRow.holds Try.pinned (OpenSpec.upto spanMeetsSpec)

/-- 'facetlaw01.SpanTotals', WHERE WHAT IT READS IS OF BULK AT MOST 1048576: true; the input reads as it did. -/
def spanTotalsUptoRow : OpenClaim := { program := "ytlkopkdbkbammaa", sum := "f3263552f1530fb02e4ce30bfe7a719533e6683b8cfb9d56f865bfb782f9f0f1", func := "facet/facetlaw01.SpanTotals", spec := "spanTotals", apart := false, narrowed := true }
def SpanTotalsUptoSaid : Prop := spanTotalsUptoRow.holds Try.pinned (OpenSpec.upto spanTotalsSpec)

/-- 'facetlaw01.SpanSums', WHERE WHAT IT READS IS OF BULK AT MOST 1048576: true; the input reads as it did. -/
def spanSumsUptoRow : OpenClaim := { program := "ytlkopkdbkbammaa", sum := "f3263552f1530fb02e4ce30bfe7a719533e6683b8cfb9d56f865bfb782f9f0f1", func := "facet/facetlaw01.SpanSums", spec := "spanSums", unfollowed := true, recurses := true, apart := false, narrowed := true }
def SpanSumsUptoSaid : Prop := spanSumsUptoRow.holds Try.pinned (OpenSpec.upto spanSumsSpec)

/-- 'facetlaw01.SpanDivides', WHERE WHAT IT READS IS OF BULK AT MOST 1048576: true; the input reads as it did. -/
def spanDividesUptoRow : OpenClaim := { program := "ytlkopkdbkbammaa", sum := "f3263552f1530fb02e4ce30bfe7a719533e6683b8cfb9d56f865bfb782f9f0f1", func := "facet/facetlaw01.SpanDivides", spec := "spanDivides", unfollowed := true, recurses := true, apart := false, narrowed := true }
def SpanDividesUptoSaid : Prop := spanDividesUptoRow.holds Try.pinned (OpenSpec.upto spanDividesSpec)

/-- 'facetlaw01.SpanFields', WHERE WHAT IT READS IS OF BULK AT MOST 1048576: true; the input reads as it did. -/
def spanFieldsUptoRow : OpenClaim := { program := "ytlkopkdbkbammaa", sum := "f3263552f1530fb02e4ce30bfe7a719533e6683b8cfb9d56f865bfb782f9f0f1", func := "facet/facetlaw01.SpanFields", spec := "spanFields", unfollowed := true, recurses := true, apart := false, narrowed := true }
def SpanFieldsUptoSaid : Prop := spanFieldsUptoRow.holds Try.pinned (OpenSpec.upto spanFieldsSpec)

/-- 'facetlaw01.SpanRoots', WHERE WHAT IT READS IS OF BULK AT MOST 1048576: true; the input reads as it did. -/
def spanRootsUptoRow : OpenClaim := { program := "ytlkopkdbkbammaa", sum := "f3263552f1530fb02e4ce30bfe7a719533e6683b8cfb9d56f865bfb782f9f0f1", func := "facet/facetlaw01.SpanRoots", spec := "spanRoots", apart := false, narrowed := true }
def SpanRootsUptoSaid : Prop := spanRootsUptoRow.holds Try.pinned (OpenSpec.upto spanRootsSpec)

/-- 'facetlaw01.SpanScales', WHERE WHAT IT READS IS OF BULK AT MOST 1048576: true; the input reads as it did. -/
def spanScalesUptoRow : OpenClaim := { program := "ytlkopkdbkbammaa", sum := "f3263552f1530fb02e4ce30bfe7a719533e6683b8cfb9d56f865bfb782f9f0f1", func := "facet/facetlaw01.SpanScales", spec := "spanScales", apart := false, narrowed := true }
def SpanScalesUptoSaid : Prop := spanScalesUptoRow.holds Try.pinned (OpenSpec.upto spanScalesSpec)

/-- 'facetlaw01.SpanProducts', WHERE WHAT IT READS IS OF BULK AT MOST 1048576: true; the input reads as it did. -/
def spanProductsUptoRow : OpenClaim := { program := "ytlkopkdbkbammaa", sum := "f3263552f1530fb02e4ce30bfe7a719533e6683b8cfb9d56f865bfb782f9f0f1", func := "facet/facetlaw01.SpanProducts", spec := "spanProducts", unfollowed := true, recurses := true, apart := false, narrowed := true }
def SpanProductsUptoSaid : Prop := spanProductsUptoRow.holds Try.pinned (OpenSpec.upto spanProductsSpec)

/-- 'facetlaw01.SpanWider', WHERE WHAT IT READS IS OF BULK AT MOST 1048576: true; the input reads as it did. -/
def spanWiderUptoRow : OpenClaim := { program := "ytlkopkdbkbammaa", sum := "f3263552f1530fb02e4ce30bfe7a719533e6683b8cfb9d56f865bfb782f9f0f1", func := "facet/facetlaw01.SpanWider", spec := "spanWider", unfollowed := true, recurses := true, apart := false, narrowed := true }
def SpanWiderUptoSaid : Prop := spanWiderUptoRow.holds Try.pinned (OpenSpec.upto spanWiderSpec)

/-- 'facetlaw01.SpanLengths', WHERE WHAT IT READS IS OF BULK AT MOST 1048576: true; the input reads as it did. -/
def spanLengthsUptoRow : OpenClaim := { program := "ytlkopkdbkbammaa", sum := "f3263552f1530fb02e4ce30bfe7a719533e6683b8cfb9d56f865bfb782f9f0f1", func := "facet/facetlaw01.SpanLengths", spec := "spanLengths", unfollowed := true, recurses := true, apart := false, narrowed := true }
def SpanLengthsUptoSaid : Prop := spanLengthsUptoRow.holds Try.pinned (OpenSpec.upto spanLengthsSpec)

end Rows
end Go.Proofs.Ytlkopkdbkbammaa
