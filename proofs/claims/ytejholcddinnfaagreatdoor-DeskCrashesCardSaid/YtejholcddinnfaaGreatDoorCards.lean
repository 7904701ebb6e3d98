/-
  DERIVED. GIVEN WITH THE SEED: THE CARDS: each row of YtejholcddinnfaaGreatDoorRows.lean that lists a variable, with what it lists TIED to the program's text (the seventh form; the later family's looks); each row that meets fmt, with fmt's text TOLD by the authors' own Lean function (tested against real Go, not proved from fmt's source: count such statements apart). THE CARD IS WHAT COUNTS. Prove the row's statement (the work); the ties are given (YtejholcddinnfaaGreatDoorTie.lean); close each card by the builder's one call (the guide's Derived/Test/ToyasCard.lean, 'card_holds'). Laid BY PROGRAM, IN A SANDBOX (cutbox-door.mjs). By AI agents, Wed Nov 11 2026. No macro, syntax, notation, axiom, sorry.
-/
import Derived.Test.YtejholcddinnfaaGreatDoorRows
import GoSem.ClaimSeven
namespace Go.Proofs.YtejholcddinnfaaGreatDoor
namespace Rows

/-- THE TIED CARD OF 'facetlaw09.DeskReads'. -/
def deskReadsCard : Claim7 := { stood := { row := deskReadsRow, standIns := [], harness := (true, "1ff6fe80ec914efd9fed37873af82cd56aa16feb64cb5f90eb9320f7972205ee"), looks := true }, kinds := [], alts := [], laidByText := true, laidKinds := [.data, .data, .data, .data, .handle, .sentinel, .sentinel, .pinned], laidTests := true, laidLooks := .later }
def DeskReadsCardSaid : Prop := Claim7.holds Tryz.pinned (.plain (OpenSpec.ofChange deskReadsSpec)) deskReadsCard

/-- THE TIED CARD OF 'facetlaw09.DeskMerges'. -/
def deskMergesCard : Claim7 := { stood := { row := deskMergesRow, standIns := [], harness := (true, "1ff6fe80ec914efd9fed37873af82cd56aa16feb64cb5f90eb9320f7972205ee"), looks := true }, kinds := [], alts := [], laidByText := true, laidKinds := [.data, .data, .data, .data, .handle, .sentinel, .sentinel, .pinned], laidTests := true, laidLooks := .later }
def DeskMergesCardSaid : Prop := Claim7.holds Tryz.pinned (.plain (OpenSpec.ofChange deskMergesSpec)) deskMergesCard

/-- THE TIED CARD OF 'facetlaw09.DeskCrashes'. -/
def deskCrashesCard : Claim7 := { stood := { row := deskCrashesRow, standIns := [], harness := (true, "1ff6fe80ec914efd9fed37873af82cd56aa16feb64cb5f90eb9320f7972205ee"), looks := true }, kinds := [], alts := [], laidByText := true, laidKinds := [.data, .data, .data, .data, .handle, .sentinel, .sentinel, .pinned], laidTests := true, laidLooks := .later }
def DeskCrashesCardSaid : Prop := Claim7.holds Tryz.pinned (.plain (OpenSpec.ofChange deskCrashesSpec)) deskCrashesCard

/-- THE TIED CARD OF 'facetlaw09.DeskNews'. -/
def deskNewsCard : Claim7 := { stood := { row := deskNewsRow, standIns := [], harness := (true, "1ff6fe80ec914efd9fed37873af82cd56aa16feb64cb5f90eb9320f7972205ee"), looks := true }, kinds := [], alts := [], laidByText := true, laidKinds := [.data, .data, .data, .data, .handle, .sentinel, .sentinel, .pinned], laidTests := true, laidLooks := .later }
def DeskNewsCardSaid : Prop := Claim7.holds Tryz.pinned (.plain (OpenSpec.ofChange deskNewsSpec)) deskNewsCard

/-- THE SECOND FORM's CARD OF 'facetlaw09.DeskReads'. -/
def deskReadsUptoCard : Claim7 := { stood := { row := deskReadsUptoRow, standIns := [], harness := (true, "1ff6fe80ec914efd9fed37873af82cd56aa16feb64cb5f90eb9320f7972205ee"), looks := true }, kinds := [], alts := [], laidByText := true, laidKinds := [.data, .data, .data, .data, .handle, .sentinel, .sentinel, .pinned], laidTests := true, laidLooks := .later }
def DeskReadsUptoCardSaid : Prop := Claim7.holds Tryz.pinned (.plain (OpenSpec.upto deskReadsSpec)) deskReadsUptoCard

/-- THE SECOND FORM's CARD OF 'facetlaw09.DeskMerges'. -/
def deskMergesUptoCard : Claim7 := { stood := { row := deskMergesUptoRow, standIns := [], harness := (true, "1ff6fe80ec914efd9fed37873af82cd56aa16feb64cb5f90eb9320f7972205ee"), looks := true }, kinds := [], alts := [], laidByText := true, laidKinds := [.data, .data, .data, .data, .handle, .sentinel, .sentinel, .pinned], laidTests := true, laidLooks := .later }
def DeskMergesUptoCardSaid : Prop := Claim7.holds Tryz.pinned (.plain (OpenSpec.upto deskMergesSpec)) deskMergesUptoCard

/-- THE SECOND FORM's CARD OF 'facetlaw09.DeskCrashes'. -/
def deskCrashesUptoCard : Claim7 := { stood := { row := deskCrashesUptoRow, standIns := [], harness := (true, "1ff6fe80ec914efd9fed37873af82cd56aa16feb64cb5f90eb9320f7972205ee"), looks := true }, kinds := [], alts := [], laidByText := true, laidKinds := [.data, .data, .data, .data, .handle, .sentinel, .sentinel, .pinned], laidTests := true, laidLooks := .later }
def DeskCrashesUptoCardSaid : Prop := Claim7.holds Tryz.pinned (.plain (OpenSpec.upto deskCrashesSpec)) deskCrashesUptoCard

/-- THE SECOND FORM's CARD OF 'facetlaw09.DeskNews'. -/
def deskNewsUptoCard : Claim7 := { stood := { row := deskNewsUptoRow, standIns := [], harness := (true, "1ff6fe80ec914efd9fed37873af82cd56aa16feb64cb5f90eb9320f7972205ee"), looks := true }, kinds := [], alts := [], laidByText := true, laidKinds := [.data, .data, .data, .data, .handle, .sentinel, .sentinel, .pinned], laidTests := true, laidLooks := .later }
def DeskNewsUptoCardSaid : Prop := Claim7.holds Tryz.pinned (.plain (OpenSpec.upto deskNewsSpec)) deskNewsUptoCard
end Rows
end Go.Proofs.YtejholcddinnfaaGreatDoor
