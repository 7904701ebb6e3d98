/-
  DERIVED. GIVEN WITH THE SEED: THE CARDS: each row of YtfaeakhnlodpfaaDoorRows.lean that lists a variable, with what it lists TIED to the program's text (the seventh form; the later family's looks); each row that meets fmt, with fmt's text TOLD by the authors' own Lean function (tested against real Go, not proved from fmt's source: count such statements apart). THE CARD IS WHAT COUNTS. Prove the row's statement (the work); the ties are given (YtfaeakhnlodpfaaDoorTie.lean); close each card by the builder's one call (the guide's Derived/Test/ToyasCard.lean, 'card_holds'). Laid BY PROGRAM, IN A SANDBOX (cutbox-door.mjs). By AI agents, Wed Nov 11 2026. No macro, syntax, notation, axiom, sorry.
-/
import Derived.Test.YtfaeakhnlodpfaaDoorRows
import GoSem.ClaimSeven
namespace Go.Proofs.YtfaeakhnlodpfaaDoor
namespace Rows

/-- THE TIED CARD OF 'facetlaw01.SpanTexts'. -/
def spanTextsCard : Claim7 := { stood := { row := spanTextsRow, standIns := [], harness := (true, "2382483a3265b551600c7475ed76e6cd01631799348a3be243010e2cb1b7ccb6"), looks := true }, kinds := [], alts := [], laidByText := true, laidKinds := [.data, .data, .data, .sentinel, .sentinel], laidTests := true, laidLooks := .later }
def SpanTextsCardSaid : Prop := Claim7.holds Tryd.pinned (.plain (OpenSpec.ofChange spanTextsSpec)) spanTextsCard

/-- THE SECOND FORM's CARD OF 'facetlaw01.SpanTexts'. -/
def spanTextsUptoCard : Claim7 := { stood := { row := spanTextsUptoRow, standIns := [], harness := (true, "2382483a3265b551600c7475ed76e6cd01631799348a3be243010e2cb1b7ccb6"), looks := true }, kinds := [], alts := [], laidByText := true, laidKinds := [.data, .data, .data, .sentinel, .sentinel], laidTests := true, laidLooks := .later }
def SpanTextsUptoCardSaid : Prop := Claim7.holds Tryd.pinned (.plain (OpenSpec.upto spanTextsSpec)) spanTextsUptoCard
end Rows
end Go.Proofs.YtfaeakhnlodpfaaDoor
