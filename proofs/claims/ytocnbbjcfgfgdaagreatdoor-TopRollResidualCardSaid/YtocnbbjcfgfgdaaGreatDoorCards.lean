/-
  DERIVED. GIVEN WITH THE SEED: THE CARDS: each row of YtocnbbjcfgfgdaaGreatDoorRows.lean that lists a variable, with what it lists TIED to the program's text (the seventh form; the later family's looks); each row that meets fmt, with fmt's text TOLD by the authors' own Lean function (tested against real Go, not proved from fmt's source: count such statements apart). THE CARD IS WHAT COUNTS. Prove the row's statement (the work); the ties are given (YtocnbbjcfgfgdaaGreatDoorTie.lean); close each card by the builder's one call (the guide's Derived/Test/ToyasCard.lean, 'card_holds'). Laid BY PROGRAM, IN A SANDBOX (cutbox-door.mjs). By AI agents, Wed Nov 11 2026. No macro, syntax, notation, axiom, sorry.
-/
import Derived.Test.YtocnbbjcfgfgdaaGreatDoorRows
import GoSem.ClaimSeven
namespace Go.Proofs.YtocnbbjcfgfgdaaGreatDoor
namespace Rows

/-- THE TIED CARD OF 'cobblelaw06.RollStrings'. -/
def rollStringsCard : Claim7 := { stood := { row := rollStringsRow, standIns := [], harness := (true, "c7b7c1a9058e46dadc88a5603e11477e89199220298e7c069625e19a63430a4c"), looks := true }, kinds := [], alts := [], laidByText := true, laidKinds := [.data, .data, .data, .data, .sentinel, .sentinel, .pinned], laidTests := true, laidLooks := .later }
def RollStringsCardSaid : Prop := Claim7.holds Tryz.pinned (.plain (OpenSpec.ofChange rollStringsSpec)) rollStringsCard

/-- THE TIED CARD OF 'cobbletop.TopRollResidual'. -/
def topRollResidualCard : Claim7 := { stood := { row := topRollResidualRow, standIns := [], harness := (true, "c7b7c1a9058e46dadc88a5603e11477e89199220298e7c069625e19a63430a4c"), looks := true }, kinds := [], alts := [], laidByText := true, laidKinds := [.data, .data, .data, .data, .sentinel, .sentinel, .pinned], laidTests := true, laidLooks := .later }
def TopRollResidualCardSaid : Prop := Claim7.holds Tryz.pinned (.plain (OpenSpec.ofChange topRollResidualSpec)) topRollResidualCard

/-- THE SECOND FORM's CARD OF 'cobblelaw06.RollStrings'. -/
def rollStringsUptoCard : Claim7 := { stood := { row := rollStringsUptoRow, standIns := [], harness := (true, "c7b7c1a9058e46dadc88a5603e11477e89199220298e7c069625e19a63430a4c"), looks := true }, kinds := [], alts := [], laidByText := true, laidKinds := [.data, .data, .data, .data, .sentinel, .sentinel, .pinned], laidTests := true, laidLooks := .later }
def RollStringsUptoCardSaid : Prop := Claim7.holds Tryz.pinned (.plain (OpenSpec.upto rollStringsSpec)) rollStringsUptoCard

/-- THE SECOND FORM's CARD OF 'cobbletop.TopRollResidual'. -/
def topRollResidualUptoCard : Claim7 := { stood := { row := topRollResidualUptoRow, standIns := [], harness := (true, "c7b7c1a9058e46dadc88a5603e11477e89199220298e7c069625e19a63430a4c"), looks := true }, kinds := [], alts := [], laidByText := true, laidKinds := [.data, .data, .data, .data, .sentinel, .sentinel, .pinned], laidTests := true, laidLooks := .later }
def TopRollResidualUptoCardSaid : Prop := Claim7.holds Tryz.pinned (.plain (OpenSpec.upto topRollResidualSpec)) topRollResidualUptoCard
end Rows
end Go.Proofs.YtocnbbjcfgfgdaaGreatDoor
