/-
  DERIVED. GIVEN WITH THE SEED: THE CARDS: each row of YtakbfapnhjkgoaaGreatDoorRows.lean that lists a variable, with what it lists TIED to the program's text (the seventh form; the later family's looks); each row that meets fmt, with fmt's text TOLD by the authors' own Lean function (tested against real Go, not proved from fmt's source: count such statements apart). THE CARD IS WHAT COUNTS. Prove the row's statement (the work); the ties are given (YtakbfapnhjkgoaaGreatDoorTie.lean); close each card by the builder's one call (the guide's Derived/Test/ToyasCard.lean, 'card_holds'). Laid BY PROGRAM, IN A SANDBOX (cutbox-door.mjs). By AI agents, Wed Nov 11 2026. No macro, syntax, notation, axiom, sorry.
-/
import Derived.Test.YtakbfapnhjkgoaaGreatDoorRows
import GoSem.ClaimSeven
namespace Go.Proofs.YtakbfapnhjkgoaaGreatDoor
namespace Rows

/-- THE TIED CARD OF 'bombardelaw31.CrescendoWays'. -/
def crescendoWaysCard : Claim7 := { stood := { row := crescendoWaysRow, standIns := [], harness := (true, "e975ba37f0acf64185dac46ea0f21bc0bb2c84b52098fde4dbfed7bafd2d1122"), looks := false }, kinds := [], alts := [], laidByText := true, laidKinds := [.data, .data, .data], laidTests := true, laidLooks := .later }
def CrescendoWaysCardSaid : Prop := Claim7.holds Tryz.pinned (.plain (OpenSpec.ofChange crescendoWaysSpec)) crescendoWaysCard

/-- THE TIED CARD OF 'bombardelaw31.CrescendoGrows'. -/
def crescendoGrowsCard : Claim7 := { stood := { row := crescendoGrowsRow, standIns := [], harness := (true, "e975ba37f0acf64185dac46ea0f21bc0bb2c84b52098fde4dbfed7bafd2d1122"), looks := false }, kinds := [], alts := [], laidByText := true, laidKinds := [.data, .data, .data], laidTests := true, laidLooks := .later }
def CrescendoGrowsCardSaid : Prop := Claim7.holds Tryz.pinned (.plain (OpenSpec.ofChange crescendoGrowsSpec)) crescendoGrowsCard

/-- THE SECOND FORM's CARD OF 'bombardelaw31.CrescendoWays'. -/
def crescendoWaysUptoCard : Claim7 := { stood := { row := crescendoWaysUptoRow, standIns := [], harness := (true, "e975ba37f0acf64185dac46ea0f21bc0bb2c84b52098fde4dbfed7bafd2d1122"), looks := false }, kinds := [], alts := [], laidByText := true, laidKinds := [.data, .data, .data], laidTests := true, laidLooks := .later }
def CrescendoWaysUptoCardSaid : Prop := Claim7.holds Tryz.pinned (.plain (OpenSpec.upto crescendoWaysSpec)) crescendoWaysUptoCard

/-- THE SECOND FORM's CARD OF 'bombardelaw31.CrescendoGrows'. -/
def crescendoGrowsUptoCard : Claim7 := { stood := { row := crescendoGrowsUptoRow, standIns := [], harness := (true, "e975ba37f0acf64185dac46ea0f21bc0bb2c84b52098fde4dbfed7bafd2d1122"), looks := false }, kinds := [], alts := [], laidByText := true, laidKinds := [.data, .data, .data], laidTests := true, laidLooks := .later }
def CrescendoGrowsUptoCardSaid : Prop := Claim7.holds Tryz.pinned (.plain (OpenSpec.upto crescendoGrowsSpec)) crescendoGrowsUptoCard
end Rows
end Go.Proofs.YtakbfapnhjkgoaaGreatDoor
