/-
  DERIVED. GIVEN WITH THE SEED: THE CARDS: each row of YtfcfmpdpjmbcnaaGreatDoorRows.lean that lists a variable, with what it lists TIED to the program's text (the seventh form; the later family's looks); each row that meets fmt, with fmt's text TOLD by the authors' own Lean function (tested against real Go, not proved from fmt's source: count such statements apart). THE CARD IS WHAT COUNTS. Prove the row's statement (the work); the ties are given (YtfcfmpdpjmbcnaaGreatDoorTie.lean); close each card by the builder's one call (the guide's Derived/Test/ToyasCard.lean, 'card_holds'). Laid BY PROGRAM, IN A SANDBOX (cutbox-door.mjs). By AI agents, Wed Nov 11 2026. No macro, syntax, notation, axiom, sorry.
-/
import Derived.Test.YtfcfmpdpjmbcnaaGreatDoorRows
import GoSem.ClaimSeven
namespace Go.Proofs.YtfcfmpdpjmbcnaaGreatDoor
namespace Rows

/-- THE TIED CARD OF 'cobblelaw05.GaugeStrings'. -/
def gaugeStringsCard : Claim7 := { stood := { row := gaugeStringsRow, standIns := [], harness := (true, "5845a2c61f23559e0e005585c65a4006304af70e80e148159efd501db14f25aa"), looks := true }, kinds := [], alts := [], laidByText := true, laidKinds := [.data, .data, .data, .data, .sentinel, .sentinel, .pinned], laidTests := true, laidLooks := .later }
def GaugeStringsCardSaid : Prop := Claim7.holds Tryz.pinned (.plain (OpenSpec.ofChange gaugeStringsSpec)) gaugeStringsCard

/-- THE TIED CARD OF 'cobbletop.TopGaugeSettles'. -/
def topGaugeSettlesCard : Claim7 := { stood := { row := topGaugeSettlesRow, standIns := [], harness := (true, "5845a2c61f23559e0e005585c65a4006304af70e80e148159efd501db14f25aa"), looks := true }, kinds := [], alts := [], laidByText := true, laidKinds := [.data, .data, .data, .data, .sentinel, .sentinel, .pinned], laidTests := true, laidLooks := .later }
def TopGaugeSettlesCardSaid : Prop := Claim7.holds Tryz.pinned (.plain (OpenSpec.ofChange topGaugeSettlesSpec)) topGaugeSettlesCard

/-- THE SECOND FORM's CARD OF 'cobblelaw05.GaugeStrings'. -/
def gaugeStringsUptoCard : Claim7 := { stood := { row := gaugeStringsUptoRow, standIns := [], harness := (true, "5845a2c61f23559e0e005585c65a4006304af70e80e148159efd501db14f25aa"), looks := true }, kinds := [], alts := [], laidByText := true, laidKinds := [.data, .data, .data, .data, .sentinel, .sentinel, .pinned], laidTests := true, laidLooks := .later }
def GaugeStringsUptoCardSaid : Prop := Claim7.holds Tryz.pinned (.plain (OpenSpec.upto gaugeStringsSpec)) gaugeStringsUptoCard

/-- THE SECOND FORM's CARD OF 'cobbletop.TopGaugeSettles'. -/
def topGaugeSettlesUptoCard : Claim7 := { stood := { row := topGaugeSettlesUptoRow, standIns := [], harness := (true, "5845a2c61f23559e0e005585c65a4006304af70e80e148159efd501db14f25aa"), looks := true }, kinds := [], alts := [], laidByText := true, laidKinds := [.data, .data, .data, .data, .sentinel, .sentinel, .pinned], laidTests := true, laidLooks := .later }
def TopGaugeSettlesUptoCardSaid : Prop := Claim7.holds Tryz.pinned (.plain (OpenSpec.upto topGaugeSettlesSpec)) topGaugeSettlesUptoCard
end Rows
end Go.Proofs.YtfcfmpdpjmbcnaaGreatDoor
