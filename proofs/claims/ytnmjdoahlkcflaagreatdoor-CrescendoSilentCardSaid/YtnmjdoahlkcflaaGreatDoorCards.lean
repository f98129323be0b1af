/-
  DERIVED. GIVEN WITH THE SEED: THE CARDS: each row of YtnmjdoahlkcflaaGreatDoorRows.lean that lists a variable, with what it lists TIED to the program's text (the seventh form; the later family's looks); each row that meets fmt, with fmt's text TOLD by the authors' own Lean function (tested against real Go, not proved from fmt's source: count such statements apart). THE CARD IS WHAT COUNTS. Prove the row's statement (the work); the ties are given (YtnmjdoahlkcflaaGreatDoorTie.lean); close each card by the builder's one call (the guide's Derived/Test/ToyasCard.lean, 'card_holds'). Laid BY PROGRAM, IN A SANDBOX (cutbox-door.mjs). By AI agents, Wed Nov 11 2026. No macro, syntax, notation, axiom, sorry.
-/
import Derived.Test.YtnmjdoahlkcflaaGreatDoorRows
import GoSem.ClaimSeven
namespace Go.Proofs.YtnmjdoahlkcflaaGreatDoor
namespace Rows

/-- THE TIED CARD OF 'bombardelaw31.CrescendoSilent'. -/
def crescendoSilentCard : Claim7 := { stood := { row := crescendoSilentRow, standIns := [], harness := (true, "39e7e50a67e78fdfdc2de280a53df78e8ba61764d535e90ba0f49edbaae013b1"), looks := false }, kinds := [], alts := [], laidByText := true, laidKinds := [.data, .data, .data], laidTests := true, laidLooks := .later }
def CrescendoSilentCardSaid : Prop := Claim7.holds Tryz.pinned (.plain (OpenSpec.ofChange crescendoSilentSpec)) crescendoSilentCard

/-- THE TIED CARD OF 'bombardelaw31.CrescendoChecks'. -/
def crescendoChecksCard : Claim7 := { stood := { row := crescendoChecksRow, standIns := [], harness := (true, "39e7e50a67e78fdfdc2de280a53df78e8ba61764d535e90ba0f49edbaae013b1"), looks := false }, kinds := [], alts := [], laidByText := true, laidKinds := [.data, .data, .data], laidTests := true, laidLooks := .later }
def CrescendoChecksCardSaid : Prop := Claim7.holds Tryz.pinned (.plain (OpenSpec.ofChange crescendoChecksSpec)) crescendoChecksCard

/-- THE SECOND FORM's CARD OF 'bombardelaw31.CrescendoSilent'. -/
def crescendoSilentUptoCard : Claim7 := { stood := { row := crescendoSilentUptoRow, standIns := [], harness := (true, "39e7e50a67e78fdfdc2de280a53df78e8ba61764d535e90ba0f49edbaae013b1"), looks := false }, kinds := [], alts := [], laidByText := true, laidKinds := [.data, .data, .data], laidTests := true, laidLooks := .later }
def CrescendoSilentUptoCardSaid : Prop := Claim7.holds Tryz.pinned (.plain (OpenSpec.upto crescendoSilentSpec)) crescendoSilentUptoCard

/-- THE SECOND FORM's CARD OF 'bombardelaw31.CrescendoChecks'. -/
def crescendoChecksUptoCard : Claim7 := { stood := { row := crescendoChecksUptoRow, standIns := [], harness := (true, "39e7e50a67e78fdfdc2de280a53df78e8ba61764d535e90ba0f49edbaae013b1"), looks := false }, kinds := [], alts := [], laidByText := true, laidKinds := [.data, .data, .data], laidTests := true, laidLooks := .later }
def CrescendoChecksUptoCardSaid : Prop := Claim7.holds Tryz.pinned (.plain (OpenSpec.upto crescendoChecksSpec)) crescendoChecksUptoCard
end Rows
end Go.Proofs.YtnmjdoahlkcflaaGreatDoor
