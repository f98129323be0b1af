/-
  DERIVED. GIVEN WITH THE SEED: THE CARDS: each row of YtekpghfdglhonaaGreatDoorRows.lean that lists a variable, with what it lists TIED to the program's text (the seventh form; the later family's looks); each row that meets fmt, with fmt's text TOLD by the authors' own Lean function (tested against real Go, not proved from fmt's source: count such statements apart). THE CARD IS WHAT COUNTS. Prove the row's statement (the work); the ties are given (YtekpghfdglhonaaGreatDoorTie.lean); close each card by the builder's one call (the guide's Derived/Test/ToyasCard.lean, 'card_holds'). Laid BY PROGRAM, IN A SANDBOX (cutbox-door.mjs). By AI agents, Wed Nov 11 2026. No macro, syntax, notation, axiom, sorry.
-/
import Derived.Test.YtekpghfdglhonaaGreatDoorRows
import GoSem.ClaimSeven
namespace Go.Proofs.YtekpghfdglhonaaGreatDoor
namespace Rows

/-- THE TIED CARD OF 'bombardelaw29.EqualityControls'. -/
def equalityControlsCard : Claim7 := { stood := { row := equalityControlsRow, standIns := [], harness := (true, "27cb69c2108f34043855c2901679a21611188f021d82c2cc1d16535444e641cf"), looks := false }, kinds := [], alts := [], laidByText := true, laidKinds := [.data, .data, .data], laidTests := true, laidLooks := .later }
def EqualityControlsCardSaid : Prop := Claim7.holds Tryz.pinned (.plain (OpenSpec.ofChange equalityControlsSpec)) equalityControlsCard

/-- THE TIED CARD OF 'bombardelaw29.EqualityErrors'. -/
def equalityErrorsCard : Claim7 := { stood := { row := equalityErrorsRow, standIns := [], harness := (true, "27cb69c2108f34043855c2901679a21611188f021d82c2cc1d16535444e641cf"), looks := false }, kinds := [], alts := [], laidByText := true, laidKinds := [.data, .data, .data], laidTests := true, laidLooks := .later }
def EqualityErrorsCardSaid : Prop := Claim7.holds Tryz.pinned (.plain (OpenSpec.ofChange equalityErrorsSpec)) equalityErrorsCard

/-- THE SECOND FORM's CARD OF 'bombardelaw29.EqualityControls'. -/
def equalityControlsUptoCard : Claim7 := { stood := { row := equalityControlsUptoRow, standIns := [], harness := (true, "27cb69c2108f34043855c2901679a21611188f021d82c2cc1d16535444e641cf"), looks := false }, kinds := [], alts := [], laidByText := true, laidKinds := [.data, .data, .data], laidTests := true, laidLooks := .later }
def EqualityControlsUptoCardSaid : Prop := Claim7.holds Tryz.pinned (.plain (OpenSpec.upto equalityControlsSpec)) equalityControlsUptoCard

/-- THE SECOND FORM's CARD OF 'bombardelaw29.EqualityErrors'. -/
def equalityErrorsUptoCard : Claim7 := { stood := { row := equalityErrorsUptoRow, standIns := [], harness := (true, "27cb69c2108f34043855c2901679a21611188f021d82c2cc1d16535444e641cf"), looks := false }, kinds := [], alts := [], laidByText := true, laidKinds := [.data, .data, .data], laidTests := true, laidLooks := .later }
def EqualityErrorsUptoCardSaid : Prop := Claim7.holds Tryz.pinned (.plain (OpenSpec.upto equalityErrorsSpec)) equalityErrorsUptoCard
end Rows
end Go.Proofs.YtekpghfdglhonaaGreatDoor
