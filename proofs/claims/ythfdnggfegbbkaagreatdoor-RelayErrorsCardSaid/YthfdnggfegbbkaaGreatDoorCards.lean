/-
  DERIVED. GIVEN WITH THE SEED: THE CARDS: each row of YthfdnggfegbbkaaGreatDoorRows.lean that lists a variable, with what it lists TIED to the program's text (the seventh form; the later family's looks); each row that meets fmt, with fmt's text TOLD by the authors' own Lean function (tested against real Go, not proved from fmt's source: count such statements apart). THE CARD IS WHAT COUNTS. Prove the row's statement (the work); the ties are given (YthfdnggfegbbkaaGreatDoorTie.lean); close each card by the builder's one call (the guide's Derived/Test/ToyasCard.lean, 'card_holds'). Laid BY PROGRAM, IN A SANDBOX (cutbox-door.mjs). By AI agents, Wed Nov 11 2026. No macro, syntax, notation, axiom, sorry.
-/
import Derived.Test.YthfdnggfegbbkaaGreatDoorRows
import GoSem.ClaimSeven
namespace Go.Proofs.YthfdnggfegbbkaaGreatDoor
namespace Rows

/-- THE TIED CARD OF 'bombardelaw29.EqualityControls'. -/
def equalityControlsCard : Claim7 := { stood := { row := equalityControlsRow, standIns := [], harness := (true, "f4e0ac8375e240031d55ec1c60315eea08c52967d1dadacc6c8a5b7a791b3581"), looks := false }, kinds := [], alts := [], laidByText := true, laidKinds := [.data, .data, .data], laidTests := true, laidLooks := .later }
def EqualityControlsCardSaid : Prop := Claim7.holds Tryz.pinned (.plain (OpenSpec.ofChange equalityControlsSpec)) equalityControlsCard

/-- THE TIED CARD OF 'bombardelaw31.CrescendoLimits'. -/
def crescendoLimitsCard : Claim7 := { stood := { row := crescendoLimitsRow, standIns := [], harness := (true, "f4e0ac8375e240031d55ec1c60315eea08c52967d1dadacc6c8a5b7a791b3581"), looks := false }, kinds := [], alts := [], laidByText := true, laidKinds := [.data, .data, .data], laidTests := true, laidLooks := .later }
def CrescendoLimitsCardSaid : Prop := Claim7.holds Tryz.pinned (.plain (OpenSpec.ofChange crescendoLimitsSpec)) crescendoLimitsCard

/-- THE TIED CARD OF 'bombardelaw31.CrescendoTutti'. -/
def crescendoTuttiCard : Claim7 := { stood := { row := crescendoTuttiRow, standIns := [], harness := (true, "f4e0ac8375e240031d55ec1c60315eea08c52967d1dadacc6c8a5b7a791b3581"), looks := false }, kinds := [], alts := [], laidByText := true, laidKinds := [.data, .data, .data], laidTests := true, laidLooks := .later }
def CrescendoTuttiCardSaid : Prop := Claim7.holds Tryz.pinned (.plain (OpenSpec.ofChange crescendoTuttiSpec)) crescendoTuttiCard

/-- THE TIED CARD OF 'bombardelaw28.RelayLayouts'. -/
def relayLayoutsCard : Claim7 := { stood := { row := relayLayoutsRow, standIns := [], harness := (true, "f4e0ac8375e240031d55ec1c60315eea08c52967d1dadacc6c8a5b7a791b3581"), looks := false }, kinds := [], alts := [], laidByText := true, laidKinds := [.data, .data, .data], laidTests := true, laidLooks := .later }
def RelayLayoutsCardSaid : Prop := Claim7.holds Tryz.pinned (.plain (OpenSpec.ofChange relayLayoutsSpec)) relayLayoutsCard

/-- THE TIED CARD OF 'bombardelaw28.RelayErrors'. -/
def relayErrorsCard : Claim7 := { stood := { row := relayErrorsRow, standIns := [], harness := (true, "f4e0ac8375e240031d55ec1c60315eea08c52967d1dadacc6c8a5b7a791b3581"), looks := false }, kinds := [], alts := [], laidByText := true, laidKinds := [.data, .data, .data], laidTests := true, laidLooks := .later }
def RelayErrorsCardSaid : Prop := Claim7.holds Tryz.pinned (.plain (OpenSpec.ofChange relayErrorsSpec)) relayErrorsCard

/-- THE TIED CARD OF 'bombardelaw28.RelayValues'. -/
def relayValuesCard : Claim7 := { stood := { row := relayValuesRow, standIns := [], harness := (true, "f4e0ac8375e240031d55ec1c60315eea08c52967d1dadacc6c8a5b7a791b3581"), looks := false }, kinds := [], alts := [], laidByText := true, laidKinds := [.data, .data, .data], laidTests := true, laidLooks := .later }
def RelayValuesCardSaid : Prop := Claim7.holds Tryz.pinned (.plain (OpenSpec.ofChange relayValuesSpec)) relayValuesCard

/-- THE SECOND FORM's CARD OF 'bombardelaw29.EqualityControls'. -/
def equalityControlsUptoCard : Claim7 := { stood := { row := equalityControlsUptoRow, standIns := [], harness := (true, "f4e0ac8375e240031d55ec1c60315eea08c52967d1dadacc6c8a5b7a791b3581"), looks := false }, kinds := [], alts := [], laidByText := true, laidKinds := [.data, .data, .data], laidTests := true, laidLooks := .later }
def EqualityControlsUptoCardSaid : Prop := Claim7.holds Tryz.pinned (.plain (OpenSpec.upto equalityControlsSpec)) equalityControlsUptoCard

/-- THE SECOND FORM's CARD OF 'bombardelaw31.CrescendoLimits'. -/
def crescendoLimitsUptoCard : Claim7 := { stood := { row := crescendoLimitsUptoRow, standIns := [], harness := (true, "f4e0ac8375e240031d55ec1c60315eea08c52967d1dadacc6c8a5b7a791b3581"), looks := false }, kinds := [], alts := [], laidByText := true, laidKinds := [.data, .data, .data], laidTests := true, laidLooks := .later }
def CrescendoLimitsUptoCardSaid : Prop := Claim7.holds Tryz.pinned (.plain (OpenSpec.upto crescendoLimitsSpec)) crescendoLimitsUptoCard

/-- THE SECOND FORM's CARD OF 'bombardelaw31.CrescendoTutti'. -/
def crescendoTuttiUptoCard : Claim7 := { stood := { row := crescendoTuttiUptoRow, standIns := [], harness := (true, "f4e0ac8375e240031d55ec1c60315eea08c52967d1dadacc6c8a5b7a791b3581"), looks := false }, kinds := [], alts := [], laidByText := true, laidKinds := [.data, .data, .data], laidTests := true, laidLooks := .later }
def CrescendoTuttiUptoCardSaid : Prop := Claim7.holds Tryz.pinned (.plain (OpenSpec.upto crescendoTuttiSpec)) crescendoTuttiUptoCard

/-- THE SECOND FORM's CARD OF 'bombardelaw28.RelayLayouts'. -/
def relayLayoutsUptoCard : Claim7 := { stood := { row := relayLayoutsUptoRow, standIns := [], harness := (true, "f4e0ac8375e240031d55ec1c60315eea08c52967d1dadacc6c8a5b7a791b3581"), looks := false }, kinds := [], alts := [], laidByText := true, laidKinds := [.data, .data, .data], laidTests := true, laidLooks := .later }
def RelayLayoutsUptoCardSaid : Prop := Claim7.holds Tryz.pinned (.plain (OpenSpec.upto relayLayoutsSpec)) relayLayoutsUptoCard

/-- THE SECOND FORM's CARD OF 'bombardelaw28.RelayErrors'. -/
def relayErrorsUptoCard : Claim7 := { stood := { row := relayErrorsUptoRow, standIns := [], harness := (true, "f4e0ac8375e240031d55ec1c60315eea08c52967d1dadacc6c8a5b7a791b3581"), looks := false }, kinds := [], alts := [], laidByText := true, laidKinds := [.data, .data, .data], laidTests := true, laidLooks := .later }
def RelayErrorsUptoCardSaid : Prop := Claim7.holds Tryz.pinned (.plain (OpenSpec.upto relayErrorsSpec)) relayErrorsUptoCard

/-- THE SECOND FORM's CARD OF 'bombardelaw28.RelayValues'. -/
def relayValuesUptoCard : Claim7 := { stood := { row := relayValuesUptoRow, standIns := [], harness := (true, "f4e0ac8375e240031d55ec1c60315eea08c52967d1dadacc6c8a5b7a791b3581"), looks := false }, kinds := [], alts := [], laidByText := true, laidKinds := [.data, .data, .data], laidTests := true, laidLooks := .later }
def RelayValuesUptoCardSaid : Prop := Claim7.holds Tryz.pinned (.plain (OpenSpec.upto relayValuesSpec)) relayValuesUptoCard
end Rows
end Go.Proofs.YthfdnggfegbbkaaGreatDoor
