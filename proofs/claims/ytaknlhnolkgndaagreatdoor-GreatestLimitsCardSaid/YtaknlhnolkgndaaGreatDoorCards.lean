/-
  DERIVED. GIVEN WITH THE SEED: THE CARDS: each row of YtaknlhnolkgndaaGreatDoorRows.lean that lists a variable, with what it lists TIED to the program's text (the seventh form; the later family's looks); each row that meets fmt, with fmt's text TOLD by the authors' own Lean function (tested against real Go, not proved from fmt's source: count such statements apart). THE CARD IS WHAT COUNTS. Prove the row's statement (the work); the ties are given (YtaknlhnolkgndaaGreatDoorTie.lean); close each card by the builder's one call (the guide's Derived/Test/ToyasCard.lean, 'card_holds'). Laid BY PROGRAM, IN A SANDBOX (cutbox-door.mjs). By AI agents, Wed Nov 11 2026. No macro, syntax, notation, axiom, sorry.
-/
import Derived.Test.YtaknlhnolkgndaaGreatDoorRows
import GoSem.ClaimSeven
namespace Go.Proofs.YtaknlhnolkgndaaGreatDoor
namespace Rows

/-- THE TIED CARD OF 'bombardelaw36.GreatestLimits'. -/
def greatestLimitsCard : Claim7 := { stood := { row := greatestLimitsRow, standIns := [], harness := (true, "632365d5f88600c783d1054022a7ee12d479cdf88927b79ce439f7ac3f361078"), looks := false }, kinds := [], alts := [], laidByText := true, laidKinds := [.data], laidTests := true, laidLooks := .later }
def GreatestLimitsCardSaid : Prop := Claim7.holds Tryz.pinned (.plain (OpenSpec.ofChange greatestLimitsSpec)) greatestLimitsCard

/-- THE TIED CARD OF 'bombardelaw36.GreatestChecks'. -/
def greatestChecksCard : Claim7 := { stood := { row := greatestChecksRow, standIns := [], harness := (true, "632365d5f88600c783d1054022a7ee12d479cdf88927b79ce439f7ac3f361078"), looks := false }, kinds := [], alts := [], laidByText := true, laidKinds := [.data, .data, .data], laidTests := true, laidLooks := .later }
def GreatestChecksCardSaid : Prop := Claim7.holds Tryz.pinned (.plain (OpenSpec.ofChange greatestChecksSpec)) greatestChecksCard

/-- THE SECOND FORM's CARD OF 'bombardelaw36.GreatestLimits'. -/
def greatestLimitsUptoCard : Claim7 := { stood := { row := greatestLimitsUptoRow, standIns := [], harness := (true, "632365d5f88600c783d1054022a7ee12d479cdf88927b79ce439f7ac3f361078"), looks := false }, kinds := [], alts := [], laidByText := true, laidKinds := [.data], laidTests := true, laidLooks := .later }
def GreatestLimitsUptoCardSaid : Prop := Claim7.holds Tryz.pinned (.plain (OpenSpec.upto greatestLimitsSpec)) greatestLimitsUptoCard

/-- THE SECOND FORM's CARD OF 'bombardelaw36.GreatestChecks'. -/
def greatestChecksUptoCard : Claim7 := { stood := { row := greatestChecksUptoRow, standIns := [], harness := (true, "632365d5f88600c783d1054022a7ee12d479cdf88927b79ce439f7ac3f361078"), looks := false }, kinds := [], alts := [], laidByText := true, laidKinds := [.data, .data, .data], laidTests := true, laidLooks := .later }
def GreatestChecksUptoCardSaid : Prop := Claim7.holds Tryz.pinned (.plain (OpenSpec.upto greatestChecksSpec)) greatestChecksUptoCard
end Rows
end Go.Proofs.YtaknlhnolkgndaaGreatDoor
