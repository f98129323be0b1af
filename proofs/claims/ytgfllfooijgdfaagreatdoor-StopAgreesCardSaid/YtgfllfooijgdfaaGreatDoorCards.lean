/-
  DERIVED. GIVEN WITH THE SEED: THE CARDS: each row of YtgfllfooijgdfaaGreatDoorRows.lean that lists a variable, with what it lists TIED to the program's text (the seventh form; the later family's looks); each row that meets fmt, with fmt's text TOLD by the authors' own Lean function (tested against real Go, not proved from fmt's source: count such statements apart). THE CARD IS WHAT COUNTS. Prove the row's statement (the work); the ties are given (YtgfllfooijgdfaaGreatDoorTie.lean); close each card by the builder's one call (the guide's Derived/Test/ToyasCard.lean, 'card_holds'). Laid BY PROGRAM, IN A SANDBOX (cutbox-door.mjs). By AI agents, Wed Nov 11 2026. No macro, syntax, notation, axiom, sorry.
-/
import Derived.Test.YtgfllfooijgdfaaGreatDoorRows
import GoSem.ClaimSeven
namespace Go.Proofs.YtgfllfooijgdfaaGreatDoor
namespace Rows

/-- THE TIED CARD OF 'bombardelaw15.StopAgrees'. -/
def stopAgreesCard : Claim7 := { stood := { row := stopAgreesRow, standIns := [], harness := (true, "fbcb48c0586e355bd9196d862dadda5edcdbd4cf0c552404606676e554ba24b7"), looks := false }, kinds := [], alts := [], laidByText := true, laidKinds := [.data, .data, .data], laidTests := true, laidLooks := .later }
def StopAgreesCardSaid : Prop := Claim7.holds Tryz.pinned (.plain (OpenSpec.ofChange stopAgreesSpec)) stopAgreesCard

/-- THE SECOND FORM's CARD OF 'bombardelaw15.StopAgrees'. -/
def stopAgreesUptoCard : Claim7 := { stood := { row := stopAgreesUptoRow, standIns := [], harness := (true, "fbcb48c0586e355bd9196d862dadda5edcdbd4cf0c552404606676e554ba24b7"), looks := false }, kinds := [], alts := [], laidByText := true, laidKinds := [.data, .data, .data], laidTests := true, laidLooks := .later }
def StopAgreesUptoCardSaid : Prop := Claim7.holds Tryz.pinned (.plain (OpenSpec.upto stopAgreesSpec)) stopAgreesUptoCard
end Rows
end Go.Proofs.YtgfllfooijgdfaaGreatDoor
