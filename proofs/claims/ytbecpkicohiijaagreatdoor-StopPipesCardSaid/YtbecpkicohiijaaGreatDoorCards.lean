/-
  DERIVED. GIVEN WITH THE SEED: THE CARDS: each row of YtbecpkicohiijaaGreatDoorRows.lean that lists a variable, with what it lists TIED to the program's text (the seventh form; the later family's looks); each row that meets fmt, with fmt's text TOLD by the authors' own Lean function (tested against real Go, not proved from fmt's source: count such statements apart). THE CARD IS WHAT COUNTS. Prove the row's statement (the work); the ties are given (YtbecpkicohiijaaGreatDoorTie.lean); close each card by the builder's one call (the guide's Derived/Test/ToyasCard.lean, 'card_holds'). Laid BY PROGRAM, IN A SANDBOX (cutbox-door.mjs). By AI agents, Wed Nov 11 2026. No macro, syntax, notation, axiom, sorry.
-/
import Derived.Test.YtbecpkicohiijaaGreatDoorRows
import GoSem.ClaimSeven
namespace Go.Proofs.YtbecpkicohiijaaGreatDoor
namespace Rows

/-- THE TIED CARD OF 'bombardelaw15.StopPipes'. -/
def stopPipesCard : Claim7 := { stood := { row := stopPipesRow, standIns := [], harness := (true, "d511158df26ec80f4191fede8192d34690ee7b3f4ec183e9ab09dd7d2709bbb6"), looks := false }, kinds := [], alts := [], laidByText := true, laidKinds := [.data, .data, .data], laidTests := true, laidLooks := .later }
def StopPipesCardSaid : Prop := Claim7.holds Tryz.pinned (.plain (OpenSpec.ofChange stopPipesSpec)) stopPipesCard

/-- THE TIED CARD OF 'bombardelaw15.StopAgrees'. -/
def stopAgreesCard : Claim7 := { stood := { row := stopAgreesRow, standIns := [], harness := (true, "d511158df26ec80f4191fede8192d34690ee7b3f4ec183e9ab09dd7d2709bbb6"), looks := false }, kinds := [], alts := [], laidByText := true, laidKinds := [.data, .data, .data], laidTests := true, laidLooks := .later }
def StopAgreesCardSaid : Prop := Claim7.holds Tryz.pinned (.plain (OpenSpec.ofChange stopAgreesSpec)) stopAgreesCard

/-- THE TIED CARD OF 'bombardelaw15.StopUnits'. -/
def stopUnitsCard : Claim7 := { stood := { row := stopUnitsRow, standIns := [], harness := (true, "d511158df26ec80f4191fede8192d34690ee7b3f4ec183e9ab09dd7d2709bbb6"), looks := false }, kinds := [], alts := [], laidByText := true, laidKinds := [.data, .data, .data], laidTests := true, laidLooks := .later }
def StopUnitsCardSaid : Prop := Claim7.holds Tryz.pinned (.plain (OpenSpec.ofChange stopUnitsSpec)) stopUnitsCard

/-- THE TIED CARD OF 'bombardelaw15.StopKeys'. -/
def stopKeysCard : Claim7 := { stood := { row := stopKeysRow, standIns := [], harness := (true, "d511158df26ec80f4191fede8192d34690ee7b3f4ec183e9ab09dd7d2709bbb6"), looks := false }, kinds := [], alts := [], laidByText := true, laidKinds := [.data, .data, .data], laidTests := true, laidLooks := .later }
def StopKeysCardSaid : Prop := Claim7.holds Tryz.pinned (.plain (OpenSpec.ofChange stopKeysSpec)) stopKeysCard

/-- THE TIED CARD OF 'bombardelaw15.StopFits'. -/
def stopFitsCard : Claim7 := { stood := { row := stopFitsRow, standIns := [], harness := (true, "d511158df26ec80f4191fede8192d34690ee7b3f4ec183e9ab09dd7d2709bbb6"), looks := false }, kinds := [], alts := [], laidByText := true, laidKinds := [.data, .data, .data], laidTests := true, laidLooks := .later }
def StopFitsCardSaid : Prop := Claim7.holds Tryz.pinned (.plain (OpenSpec.ofChange stopFitsSpec)) stopFitsCard

/-- THE TIED CARD OF 'bombardelaw15.StopChecks'. -/
def stopChecksCard : Claim7 := { stood := { row := stopChecksRow, standIns := [], harness := (true, "d511158df26ec80f4191fede8192d34690ee7b3f4ec183e9ab09dd7d2709bbb6"), looks := false }, kinds := [], alts := [], laidByText := true, laidKinds := [.data, .data, .data], laidTests := true, laidLooks := .later }
def StopChecksCardSaid : Prop := Claim7.holds Tryz.pinned (.plain (OpenSpec.ofChange stopChecksSpec)) stopChecksCard

/-- THE SECOND FORM's CARD OF 'bombardelaw15.StopPipes'. -/
def stopPipesUptoCard : Claim7 := { stood := { row := stopPipesUptoRow, standIns := [], harness := (true, "d511158df26ec80f4191fede8192d34690ee7b3f4ec183e9ab09dd7d2709bbb6"), looks := false }, kinds := [], alts := [], laidByText := true, laidKinds := [.data, .data, .data], laidTests := true, laidLooks := .later }
def StopPipesUptoCardSaid : Prop := Claim7.holds Tryz.pinned (.plain (OpenSpec.upto stopPipesSpec)) stopPipesUptoCard

/-- THE SECOND FORM's CARD OF 'bombardelaw15.StopAgrees'. -/
def stopAgreesUptoCard : Claim7 := { stood := { row := stopAgreesUptoRow, standIns := [], harness := (true, "d511158df26ec80f4191fede8192d34690ee7b3f4ec183e9ab09dd7d2709bbb6"), looks := false }, kinds := [], alts := [], laidByText := true, laidKinds := [.data, .data, .data], laidTests := true, laidLooks := .later }
def StopAgreesUptoCardSaid : Prop := Claim7.holds Tryz.pinned (.plain (OpenSpec.upto stopAgreesSpec)) stopAgreesUptoCard

/-- THE SECOND FORM's CARD OF 'bombardelaw15.StopUnits'. -/
def stopUnitsUptoCard : Claim7 := { stood := { row := stopUnitsUptoRow, standIns := [], harness := (true, "d511158df26ec80f4191fede8192d34690ee7b3f4ec183e9ab09dd7d2709bbb6"), looks := false }, kinds := [], alts := [], laidByText := true, laidKinds := [.data, .data, .data], laidTests := true, laidLooks := .later }
def StopUnitsUptoCardSaid : Prop := Claim7.holds Tryz.pinned (.plain (OpenSpec.upto stopUnitsSpec)) stopUnitsUptoCard

/-- THE SECOND FORM's CARD OF 'bombardelaw15.StopKeys'. -/
def stopKeysUptoCard : Claim7 := { stood := { row := stopKeysUptoRow, standIns := [], harness := (true, "d511158df26ec80f4191fede8192d34690ee7b3f4ec183e9ab09dd7d2709bbb6"), looks := false }, kinds := [], alts := [], laidByText := true, laidKinds := [.data, .data, .data], laidTests := true, laidLooks := .later }
def StopKeysUptoCardSaid : Prop := Claim7.holds Tryz.pinned (.plain (OpenSpec.upto stopKeysSpec)) stopKeysUptoCard

/-- THE SECOND FORM's CARD OF 'bombardelaw15.StopFits'. -/
def stopFitsUptoCard : Claim7 := { stood := { row := stopFitsUptoRow, standIns := [], harness := (true, "d511158df26ec80f4191fede8192d34690ee7b3f4ec183e9ab09dd7d2709bbb6"), looks := false }, kinds := [], alts := [], laidByText := true, laidKinds := [.data, .data, .data], laidTests := true, laidLooks := .later }
def StopFitsUptoCardSaid : Prop := Claim7.holds Tryz.pinned (.plain (OpenSpec.upto stopFitsSpec)) stopFitsUptoCard

/-- THE SECOND FORM's CARD OF 'bombardelaw15.StopChecks'. -/
def stopChecksUptoCard : Claim7 := { stood := { row := stopChecksUptoRow, standIns := [], harness := (true, "d511158df26ec80f4191fede8192d34690ee7b3f4ec183e9ab09dd7d2709bbb6"), looks := false }, kinds := [], alts := [], laidByText := true, laidKinds := [.data, .data, .data], laidTests := true, laidLooks := .later }
def StopChecksUptoCardSaid : Prop := Claim7.holds Tryz.pinned (.plain (OpenSpec.upto stopChecksSpec)) stopChecksUptoCard
end Rows
end Go.Proofs.YtbecpkicohiijaaGreatDoor
