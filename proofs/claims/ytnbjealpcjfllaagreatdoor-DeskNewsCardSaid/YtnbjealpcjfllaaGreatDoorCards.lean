/-
  DERIVED. GIVEN WITH THE SEED: THE CARDS: each row of YtnbjealpcjfllaaGreatDoorRows.lean that lists a variable, with what it lists TIED to the program's text (the seventh form; the later family's looks); each row that meets fmt, with fmt's text TOLD by the authors' own Lean function (tested against real Go, not proved from fmt's source: count such statements apart). THE CARD IS WHAT COUNTS. Prove the row's statement (the work); the ties are given (YtnbjealpcjfllaaGreatDoorTie.lean); close each card by the builder's one call (the guide's Derived/Test/ToyasCard.lean, 'card_holds'). Laid BY PROGRAM, IN A SANDBOX (cutbox-door.mjs). By AI agents, Wed Nov 11 2026. No macro, syntax, notation, axiom, sorry.
-/
import Derived.Test.YtnbjealpcjfllaaGreatDoorRows
import GoSem.ClaimSeven
namespace Go.Proofs.YtnbjealpcjfllaaGreatDoor
namespace Rows

/-- THE TIED CARD OF 'facetlaw09.DeskRuns'. -/
def deskRunsCard : Claim7 := { stood := { row := deskRunsRow, standIns := [], harness := (true, "d75d8b36c58a1abd0bee47fc65e00889b4de7de77dcecf90649190766dd93c54"), looks := true }, kinds := [], alts := [], laidByText := true, laidKinds := [.data, .data, .data, .data, .handle, .sentinel, .sentinel, .pinned], laidTests := true, laidLooks := .later }
def DeskRunsCardSaid : Prop := Claim7.holds Tryz.pinned (.plain (OpenSpec.ofChange deskRunsSpec)) deskRunsCard

/-- THE TIED CARD OF 'facetlaw09.DeskNews'. -/
def deskNewsCard : Claim7 := { stood := { row := deskNewsRow, standIns := [], harness := (true, "d75d8b36c58a1abd0bee47fc65e00889b4de7de77dcecf90649190766dd93c54"), looks := true }, kinds := [], alts := [], laidByText := true, laidKinds := [.data, .data, .data, .data, .handle, .sentinel, .sentinel, .pinned], laidTests := true, laidLooks := .later }
def DeskNewsCardSaid : Prop := Claim7.holds Tryz.pinned (.plain (OpenSpec.ofChange deskNewsSpec)) deskNewsCard

/-- THE TIED CARD OF 'facettop.TopReplay'. -/
def topReplayCard : Claim7 := { stood := { row := topReplayRow, standIns := [], harness := (true, "d75d8b36c58a1abd0bee47fc65e00889b4de7de77dcecf90649190766dd93c54"), looks := true }, kinds := [], alts := [], laidByText := true, laidKinds := [.data, .data, .data, .data, .handle, .sentinel, .sentinel, .pinned], laidTests := true, laidLooks := .later }
def TopReplayCardSaid : Prop := Claim7.holds Tryz.pinned (.plain (OpenSpec.ofChange topReplaySpec)) topReplayCard

/-- THE SECOND FORM's CARD OF 'facetlaw09.DeskRuns'. -/
def deskRunsUptoCard : Claim7 := { stood := { row := deskRunsUptoRow, standIns := [], harness := (true, "d75d8b36c58a1abd0bee47fc65e00889b4de7de77dcecf90649190766dd93c54"), looks := true }, kinds := [], alts := [], laidByText := true, laidKinds := [.data, .data, .data, .data, .handle, .sentinel, .sentinel, .pinned], laidTests := true, laidLooks := .later }
def DeskRunsUptoCardSaid : Prop := Claim7.holds Tryz.pinned (.plain (OpenSpec.upto deskRunsSpec)) deskRunsUptoCard

/-- THE SECOND FORM's CARD OF 'facetlaw09.DeskNews'. -/
def deskNewsUptoCard : Claim7 := { stood := { row := deskNewsUptoRow, standIns := [], harness := (true, "d75d8b36c58a1abd0bee47fc65e00889b4de7de77dcecf90649190766dd93c54"), looks := true }, kinds := [], alts := [], laidByText := true, laidKinds := [.data, .data, .data, .data, .handle, .sentinel, .sentinel, .pinned], laidTests := true, laidLooks := .later }
def DeskNewsUptoCardSaid : Prop := Claim7.holds Tryz.pinned (.plain (OpenSpec.upto deskNewsSpec)) deskNewsUptoCard

/-- THE SECOND FORM's CARD OF 'facettop.TopReplay'. -/
def topReplayUptoCard : Claim7 := { stood := { row := topReplayUptoRow, standIns := [], harness := (true, "d75d8b36c58a1abd0bee47fc65e00889b4de7de77dcecf90649190766dd93c54"), looks := true }, kinds := [], alts := [], laidByText := true, laidKinds := [.data, .data, .data, .data, .handle, .sentinel, .sentinel, .pinned], laidTests := true, laidLooks := .later }
def TopReplayUptoCardSaid : Prop := Claim7.holds Tryz.pinned (.plain (OpenSpec.upto topReplaySpec)) topReplayUptoCard
end Rows
end Go.Proofs.YtnbjealpcjfllaaGreatDoor
