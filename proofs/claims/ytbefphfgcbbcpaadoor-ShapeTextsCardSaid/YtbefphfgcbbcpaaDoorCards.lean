/-
  DERIVED. GIVEN WITH THE SEED: THE CARDS: each row of YtbefphfgcbbcpaaDoorRows.lean that lists a variable, with what it lists TIED to the program's text (the seventh form; the later family's looks); each row that meets fmt, with fmt's text TOLD by the authors' own Lean function (tested against real Go, not proved from fmt's source: count such statements apart). THE CARD IS WHAT COUNTS. Prove the row's statement (the work); the ties are given (YtbefphfgcbbcpaaDoorTie.lean); close each card by the builder's one call (the guide's Derived/Test/ToyasCard.lean, 'card_holds'). Laid BY PROGRAM, IN A SANDBOX (cutbox-door.mjs). By AI agents, Wed Nov 11 2026. No macro, syntax, notation, axiom, sorry.
-/
import Derived.Test.YtbefphfgcbbcpaaDoorRows
import GoSem.ClaimSeven
namespace Go.Proofs.YtbefphfgcbbcpaaDoor
namespace Rows

/-- THE TIED CARD OF 'facetlaw02.ShapeTexts'. -/
def shapeTextsCard : Claim7 := { stood := { row := shapeTextsRow, standIns := [], harness := (true, "133079785dfa5e6906f1d27dd2a92d5c5ed8733f5e099e4e018e349198c566f2"), looks := true }, kinds := [], alts := [], laidByText := true, laidKinds := [.data, .data, .data, .data, .sentinel, .sentinel, .pinned], laidTests := true, laidLooks := .later }
def ShapeTextsCardSaid : Prop := Claim7.holds Tryd.pinned (.plain (OpenSpec.ofChange shapeTextsSpec)) shapeTextsCard

/-- THE TIED CARD OF 'facetlaw04.MomentTexts'. -/
def momentTextsCard : Claim7 := { stood := { row := momentTextsRow, standIns := [], harness := (true, "133079785dfa5e6906f1d27dd2a92d5c5ed8733f5e099e4e018e349198c566f2"), looks := true }, kinds := [], alts := [], laidByText := true, laidKinds := [.data, .data, .data, .data, .sentinel, .sentinel, .pinned], laidTests := true, laidLooks := .later }
def MomentTextsCardSaid : Prop := Claim7.holds Tryd.pinned (.plain (OpenSpec.ofChange momentTextsSpec)) momentTextsCard

/-- THE SECOND FORM's CARD OF 'facetlaw02.ShapeTexts'. -/
def shapeTextsUptoCard : Claim7 := { stood := { row := shapeTextsUptoRow, standIns := [], harness := (true, "133079785dfa5e6906f1d27dd2a92d5c5ed8733f5e099e4e018e349198c566f2"), looks := true }, kinds := [], alts := [], laidByText := true, laidKinds := [.data, .data, .data, .data, .sentinel, .sentinel, .pinned], laidTests := true, laidLooks := .later }
def ShapeTextsUptoCardSaid : Prop := Claim7.holds Tryd.pinned (.plain (OpenSpec.upto shapeTextsSpec)) shapeTextsUptoCard

/-- THE SECOND FORM's CARD OF 'facetlaw04.MomentTexts'. -/
def momentTextsUptoCard : Claim7 := { stood := { row := momentTextsUptoRow, standIns := [], harness := (true, "133079785dfa5e6906f1d27dd2a92d5c5ed8733f5e099e4e018e349198c566f2"), looks := true }, kinds := [], alts := [], laidByText := true, laidKinds := [.data, .data, .data, .data, .sentinel, .sentinel, .pinned], laidTests := true, laidLooks := .later }
def MomentTextsUptoCardSaid : Prop := Claim7.holds Tryd.pinned (.plain (OpenSpec.upto momentTextsSpec)) momentTextsUptoCard
end Rows
end Go.Proofs.YtbefphfgcbbcpaaDoor
