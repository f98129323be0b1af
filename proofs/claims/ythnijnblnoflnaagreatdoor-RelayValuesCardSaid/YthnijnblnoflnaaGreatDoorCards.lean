/-
  DERIVED. GIVEN WITH THE SEED: THE CARDS: each row of YthnijnblnoflnaaGreatDoorRows.lean that lists a variable, with what it lists TIED to the program's text (the seventh form; the later family's looks); each row that meets fmt, with fmt's text TOLD by the authors' own Lean function (tested against real Go, not proved from fmt's source: count such statements apart). THE CARD IS WHAT COUNTS. Prove the row's statement (the work); the ties are given (YthnijnblnoflnaaGreatDoorTie.lean); close each card by the builder's one call (the guide's Derived/Test/ToyasCard.lean, 'card_holds'). Laid BY PROGRAM, IN A SANDBOX (cutbox-door.mjs). By AI agents, Wed Nov 11 2026. No macro, syntax, notation, axiom, sorry.
-/
import Derived.Test.YthnijnblnoflnaaGreatDoorRows
import GoSem.ClaimSeven
namespace Go.Proofs.YthnijnblnoflnaaGreatDoor
namespace Rows

/-- THE TIED CARD OF 'bombardelaw28.RelayLayouts'. -/
def relayLayoutsCard : Claim7 := { stood := { row := relayLayoutsRow, standIns := [], harness := (true, "e9da33c13d3926d42708cf967ed720f5cf1f0f9241afa4ddbe6923658ed7955a"), looks := false }, kinds := [], alts := [], laidByText := true, laidKinds := [.data, .data, .data], laidTests := true, laidLooks := .later }
def RelayLayoutsCardSaid : Prop := Claim7.holds Tryz.pinned (.plain (OpenSpec.ofChange relayLayoutsSpec)) relayLayoutsCard

/-- THE TIED CARD OF 'bombardelaw28.RelayValues'. -/
def relayValuesCard : Claim7 := { stood := { row := relayValuesRow, standIns := [], harness := (true, "e9da33c13d3926d42708cf967ed720f5cf1f0f9241afa4ddbe6923658ed7955a"), looks := false }, kinds := [], alts := [], laidByText := true, laidKinds := [.data, .data, .data], laidTests := true, laidLooks := .later }
def RelayValuesCardSaid : Prop := Claim7.holds Tryz.pinned (.plain (OpenSpec.ofChange relayValuesSpec)) relayValuesCard

/-- THE SECOND FORM's CARD OF 'bombardelaw28.RelayLayouts'. -/
def relayLayoutsUptoCard : Claim7 := { stood := { row := relayLayoutsUptoRow, standIns := [], harness := (true, "e9da33c13d3926d42708cf967ed720f5cf1f0f9241afa4ddbe6923658ed7955a"), looks := false }, kinds := [], alts := [], laidByText := true, laidKinds := [.data, .data, .data], laidTests := true, laidLooks := .later }
def RelayLayoutsUptoCardSaid : Prop := Claim7.holds Tryz.pinned (.plain (OpenSpec.upto relayLayoutsSpec)) relayLayoutsUptoCard

/-- THE SECOND FORM's CARD OF 'bombardelaw28.RelayValues'. -/
def relayValuesUptoCard : Claim7 := { stood := { row := relayValuesUptoRow, standIns := [], harness := (true, "e9da33c13d3926d42708cf967ed720f5cf1f0f9241afa4ddbe6923658ed7955a"), looks := false }, kinds := [], alts := [], laidByText := true, laidKinds := [.data, .data, .data], laidTests := true, laidLooks := .later }
def RelayValuesUptoCardSaid : Prop := Claim7.holds Tryz.pinned (.plain (OpenSpec.upto relayValuesSpec)) relayValuesUptoCard
end Rows
end Go.Proofs.YthnijnblnoflnaaGreatDoor
