/-
  DERIVED. GIVEN WITH THE SEED: THE CARDS: each row of YtkgdjnaidkhniaaGreatDoorRows.lean that lists a variable, with what it lists TIED to the program's text (the seventh form; the later family's looks); each row that meets fmt, with fmt's text TOLD by the authors' own Lean function (tested against real Go, not proved from fmt's source: count such statements apart). THE CARD IS WHAT COUNTS. Prove the row's statement (the work); the ties are given (YtkgdjnaidkhniaaGreatDoorTie.lean); close each card by the builder's one call (the guide's Derived/Test/ToyasCard.lean, 'card_holds'). Laid BY PROGRAM, IN A SANDBOX (cutbox-door.mjs). By AI agents, Wed Nov 11 2026. No macro, syntax, notation, axiom, sorry.
-/
import Derived.Test.YtkgdjnaidkhniaaGreatDoorRows
import GoSem.ClaimSeven
namespace Go.Proofs.YtkgdjnaidkhniaaGreatDoor
namespace Rows

/-- THE TIED CARD OF 'bombardelaw48.ChangeFree'. -/
def changeFreeCard : Claim7 := { stood := { row := changeFreeRow, standIns := [], harness := (true, "cd07dd1390a742ab616c3704d9a0edb236e555cf01509f4b6c29f38c4100ba1e"), looks := false }, kinds := [], alts := [], laidByText := true, laidKinds := [.data, .data, .data], laidTests := true, laidLooks := .later }
def ChangeFreeCardSaid : Prop := Claim7.holds Tryz.pinned (.plain (OpenSpec.ofChange changeFreeSpec)) changeFreeCard

/-- THE TIED CARD OF 'bombardelaw48.ChangeApplies'. -/
def changeAppliesCard : Claim7 := { stood := { row := changeAppliesRow, standIns := [], harness := (true, "cd07dd1390a742ab616c3704d9a0edb236e555cf01509f4b6c29f38c4100ba1e"), looks := false }, kinds := [], alts := [], laidByText := true, laidKinds := [.data, .data, .data], laidTests := true, laidLooks := .later }
def ChangeAppliesCardSaid : Prop := Claim7.holds Tryz.pinned (.plain (OpenSpec.ofChange changeAppliesSpec)) changeAppliesCard

/-- THE TIED CARD OF 'bombardelaw48.ChangeAfter'. -/
def changeAfterCard : Claim7 := { stood := { row := changeAfterRow, standIns := [], harness := (true, "cd07dd1390a742ab616c3704d9a0edb236e555cf01509f4b6c29f38c4100ba1e"), looks := false }, kinds := [], alts := [], laidByText := true, laidKinds := [.data, .data, .data], laidTests := true, laidLooks := .later }
def ChangeAfterCardSaid : Prop := Claim7.holds Tryz.pinned (.plain (OpenSpec.ofChange changeAfterSpec)) changeAfterCard

/-- THE TIED CARD OF 'bombardelaw48.ChangeChecks'. -/
def changeChecksCard : Claim7 := { stood := { row := changeChecksRow, standIns := [], harness := (true, "cd07dd1390a742ab616c3704d9a0edb236e555cf01509f4b6c29f38c4100ba1e"), looks := false }, kinds := [], alts := [], laidByText := true, laidKinds := [.data, .data, .data], laidTests := true, laidLooks := .later }
def ChangeChecksCardSaid : Prop := Claim7.holds Tryz.pinned (.plain (OpenSpec.ofChange changeChecksSpec)) changeChecksCard

/-- THE SECOND FORM's CARD OF 'bombardelaw48.ChangeFree'. -/
def changeFreeUptoCard : Claim7 := { stood := { row := changeFreeUptoRow, standIns := [], harness := (true, "cd07dd1390a742ab616c3704d9a0edb236e555cf01509f4b6c29f38c4100ba1e"), looks := false }, kinds := [], alts := [], laidByText := true, laidKinds := [.data, .data, .data], laidTests := true, laidLooks := .later }
def ChangeFreeUptoCardSaid : Prop := Claim7.holds Tryz.pinned (.plain (OpenSpec.upto changeFreeSpec)) changeFreeUptoCard

/-- THE SECOND FORM's CARD OF 'bombardelaw48.ChangeApplies'. -/
def changeAppliesUptoCard : Claim7 := { stood := { row := changeAppliesUptoRow, standIns := [], harness := (true, "cd07dd1390a742ab616c3704d9a0edb236e555cf01509f4b6c29f38c4100ba1e"), looks := false }, kinds := [], alts := [], laidByText := true, laidKinds := [.data, .data, .data], laidTests := true, laidLooks := .later }
def ChangeAppliesUptoCardSaid : Prop := Claim7.holds Tryz.pinned (.plain (OpenSpec.upto changeAppliesSpec)) changeAppliesUptoCard

/-- THE SECOND FORM's CARD OF 'bombardelaw48.ChangeAfter'. -/
def changeAfterUptoCard : Claim7 := { stood := { row := changeAfterUptoRow, standIns := [], harness := (true, "cd07dd1390a742ab616c3704d9a0edb236e555cf01509f4b6c29f38c4100ba1e"), looks := false }, kinds := [], alts := [], laidByText := true, laidKinds := [.data, .data, .data], laidTests := true, laidLooks := .later }
def ChangeAfterUptoCardSaid : Prop := Claim7.holds Tryz.pinned (.plain (OpenSpec.upto changeAfterSpec)) changeAfterUptoCard

/-- THE SECOND FORM's CARD OF 'bombardelaw48.ChangeChecks'. -/
def changeChecksUptoCard : Claim7 := { stood := { row := changeChecksUptoRow, standIns := [], harness := (true, "cd07dd1390a742ab616c3704d9a0edb236e555cf01509f4b6c29f38c4100ba1e"), looks := false }, kinds := [], alts := [], laidByText := true, laidKinds := [.data, .data, .data], laidTests := true, laidLooks := .later }
def ChangeChecksUptoCardSaid : Prop := Claim7.holds Tryz.pinned (.plain (OpenSpec.upto changeChecksSpec)) changeChecksUptoCard
end Rows
end Go.Proofs.YtkgdjnaidkhniaaGreatDoor
