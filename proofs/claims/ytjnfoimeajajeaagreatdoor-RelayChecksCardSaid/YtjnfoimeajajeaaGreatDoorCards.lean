/-
  DERIVED. GIVEN WITH THE SEED: THE CARDS: each row of YtjnfoimeajajeaaGreatDoorRows.lean that lists a variable, with what it lists TIED to the program's text (the seventh form; the later family's looks); each row that meets fmt, with fmt's text TOLD by the authors' own Lean function (tested against real Go, not proved from fmt's source: count such statements apart). THE CARD IS WHAT COUNTS. Prove the row's statement (the work); the ties are given (YtjnfoimeajajeaaGreatDoorTie.lean); close each card by the builder's one call (the guide's Derived/Test/ToyasCard.lean, 'card_holds'). Laid BY PROGRAM, IN A SANDBOX (cutbox-door.mjs). By AI agents, Wed Nov 11 2026. No macro, syntax, notation, axiom, sorry.
-/
import Derived.Test.YtjnfoimeajajeaaGreatDoorRows
import GoSem.ClaimSeven
namespace Go.Proofs.YtjnfoimeajajeaaGreatDoor
namespace Rows

/-- THE TIED CARD OF 'bombardelaw28.RelayEvaluates'. -/
def relayEvaluatesCard : Claim7 := { stood := { row := relayEvaluatesRow, standIns := [], harness := (true, "f8dfc731151c9b0d6188406707a3b8899d5bd4da2712a905e5d5e7ee36c7cc63"), looks := false }, kinds := [], alts := [], laidByText := true, laidKinds := [.data, .data, .data], laidTests := true, laidLooks := .later }
def RelayEvaluatesCardSaid : Prop := Claim7.holds Tryz.pinned (.plain (OpenSpec.ofChange relayEvaluatesSpec)) relayEvaluatesCard

/-- THE TIED CARD OF 'bombardelaw28.RelayChecks'. -/
def relayChecksCard : Claim7 := { stood := { row := relayChecksRow, standIns := [], harness := (true, "f8dfc731151c9b0d6188406707a3b8899d5bd4da2712a905e5d5e7ee36c7cc63"), looks := false }, kinds := [], alts := [], laidByText := true, laidKinds := [.data, .data, .data], laidTests := true, laidLooks := .later }
def RelayChecksCardSaid : Prop := Claim7.holds Tryz.pinned (.plain (OpenSpec.ofChange relayChecksSpec)) relayChecksCard

/-- THE SECOND FORM's CARD OF 'bombardelaw28.RelayEvaluates'. -/
def relayEvaluatesUptoCard : Claim7 := { stood := { row := relayEvaluatesUptoRow, standIns := [], harness := (true, "f8dfc731151c9b0d6188406707a3b8899d5bd4da2712a905e5d5e7ee36c7cc63"), looks := false }, kinds := [], alts := [], laidByText := true, laidKinds := [.data, .data, .data], laidTests := true, laidLooks := .later }
def RelayEvaluatesUptoCardSaid : Prop := Claim7.holds Tryz.pinned (.plain (OpenSpec.upto relayEvaluatesSpec)) relayEvaluatesUptoCard

/-- THE SECOND FORM's CARD OF 'bombardelaw28.RelayChecks'. -/
def relayChecksUptoCard : Claim7 := { stood := { row := relayChecksUptoRow, standIns := [], harness := (true, "f8dfc731151c9b0d6188406707a3b8899d5bd4da2712a905e5d5e7ee36c7cc63"), looks := false }, kinds := [], alts := [], laidByText := true, laidKinds := [.data, .data, .data], laidTests := true, laidLooks := .later }
def RelayChecksUptoCardSaid : Prop := Claim7.holds Tryz.pinned (.plain (OpenSpec.upto relayChecksSpec)) relayChecksUptoCard
end Rows
end Go.Proofs.YtjnfoimeajajeaaGreatDoor
