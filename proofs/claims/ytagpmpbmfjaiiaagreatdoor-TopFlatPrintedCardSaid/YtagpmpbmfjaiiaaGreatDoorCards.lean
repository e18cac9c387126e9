/-
  DERIVED. GIVEN WITH THE SEED: THE CARDS: each row of YtagpmpbmfjaiiaaGreatDoorRows.lean that lists a variable, with what it lists TIED to the program's text (the seventh form; the later family's looks); each row that meets fmt, with fmt's text TOLD by the authors' own Lean function (tested against real Go, not proved from fmt's source: count such statements apart). THE CARD IS WHAT COUNTS. Prove the row's statement (the work); the ties are given (YtagpmpbmfjaiiaaGreatDoorTie.lean); close each card by the builder's one call (the guide's Derived/Test/ToyasCard.lean, 'card_holds'). Laid BY PROGRAM, IN A SANDBOX (cutbox-door.mjs). By AI agents, Wed Nov 11 2026. No macro, syntax, notation, axiom, sorry.
-/
import Derived.Test.YtagpmpbmfjaiiaaGreatDoorRows
import GoSem.ClaimSeven
namespace Go.Proofs.YtagpmpbmfjaiiaaGreatDoor
namespace Rows

/-- THE TIED CARD OF 'cobblelaw07.FlatStrings'. -/
def flatStringsCard : Claim7 := { stood := { row := flatStringsRow, standIns := [], harness := (true, "6b4fca9372c1a7e5b5f92d24c364cc02df2f74a360fae48c38d62d21e6f91165"), looks := true }, kinds := [], alts := [], laidByText := true, laidKinds := [.data, .data, .data, .data, .sentinel, .sentinel, .pinned], laidTests := true, laidLooks := .later }
def FlatStringsCardSaid : Prop := Claim7.holds Tryz.pinned (.plain (OpenSpec.ofChange flatStringsSpec)) flatStringsCard

/-- THE TIED CARD OF 'cobbletop.TopFlatPrinted'. -/
def topFlatPrintedCard : Claim7 := { stood := { row := topFlatPrintedRow, standIns := [], harness := (true, "6b4fca9372c1a7e5b5f92d24c364cc02df2f74a360fae48c38d62d21e6f91165"), looks := true }, kinds := [], alts := [], laidByText := true, laidKinds := [.data, .data, .data, .data, .sentinel, .sentinel, .pinned], laidTests := true, laidLooks := .later }
def TopFlatPrintedCardSaid : Prop := Claim7.holds Tryz.pinned (.plain (OpenSpec.ofChange topFlatPrintedSpec)) topFlatPrintedCard

/-- THE TIED CARD OF 'cobbletop.TopFlatBest'. -/
def topFlatBestCard : Claim7 := { stood := { row := topFlatBestRow, standIns := [], harness := (true, "6b4fca9372c1a7e5b5f92d24c364cc02df2f74a360fae48c38d62d21e6f91165"), looks := true }, kinds := [], alts := [], laidByText := true, laidKinds := [.data, .data, .data, .data, .sentinel, .sentinel, .pinned], laidTests := true, laidLooks := .later }
def TopFlatBestCardSaid : Prop := Claim7.holds Tryz.pinned (.plain (OpenSpec.ofChange topFlatBestSpec)) topFlatBestCard

/-- THE SECOND FORM's CARD OF 'cobblelaw07.FlatStrings'. -/
def flatStringsUptoCard : Claim7 := { stood := { row := flatStringsUptoRow, standIns := [], harness := (true, "6b4fca9372c1a7e5b5f92d24c364cc02df2f74a360fae48c38d62d21e6f91165"), looks := true }, kinds := [], alts := [], laidByText := true, laidKinds := [.data, .data, .data, .data, .sentinel, .sentinel, .pinned], laidTests := true, laidLooks := .later }
def FlatStringsUptoCardSaid : Prop := Claim7.holds Tryz.pinned (.plain (OpenSpec.upto flatStringsSpec)) flatStringsUptoCard

/-- THE SECOND FORM's CARD OF 'cobbletop.TopFlatPrinted'. -/
def topFlatPrintedUptoCard : Claim7 := { stood := { row := topFlatPrintedUptoRow, standIns := [], harness := (true, "6b4fca9372c1a7e5b5f92d24c364cc02df2f74a360fae48c38d62d21e6f91165"), looks := true }, kinds := [], alts := [], laidByText := true, laidKinds := [.data, .data, .data, .data, .sentinel, .sentinel, .pinned], laidTests := true, laidLooks := .later }
def TopFlatPrintedUptoCardSaid : Prop := Claim7.holds Tryz.pinned (.plain (OpenSpec.upto topFlatPrintedSpec)) topFlatPrintedUptoCard

/-- THE SECOND FORM's CARD OF 'cobbletop.TopFlatBest'. -/
def topFlatBestUptoCard : Claim7 := { stood := { row := topFlatBestUptoRow, standIns := [], harness := (true, "6b4fca9372c1a7e5b5f92d24c364cc02df2f74a360fae48c38d62d21e6f91165"), looks := true }, kinds := [], alts := [], laidByText := true, laidKinds := [.data, .data, .data, .data, .sentinel, .sentinel, .pinned], laidTests := true, laidLooks := .later }
def TopFlatBestUptoCardSaid : Prop := Claim7.holds Tryz.pinned (.plain (OpenSpec.upto topFlatBestSpec)) topFlatBestUptoCard
end Rows
end Go.Proofs.YtagpmpbmfjaiiaaGreatDoor
