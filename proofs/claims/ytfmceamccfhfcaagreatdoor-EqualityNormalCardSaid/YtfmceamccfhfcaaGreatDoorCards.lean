/-
  DERIVED. GIVEN WITH THE SEED: THE CARDS: each row of YtfmceamccfhfcaaGreatDoorRows.lean that lists a variable, with what it lists TIED to the program's text (the seventh form; the later family's looks); each row that meets fmt, with fmt's text TOLD by the authors' own Lean function (tested against real Go, not proved from fmt's source: count such statements apart). THE CARD IS WHAT COUNTS. Prove the row's statement (the work); the ties are given (YtfmceamccfhfcaaGreatDoorTie.lean); close each card by the builder's one call (the guide's Derived/Test/ToyasCard.lean, 'card_holds'). Laid BY PROGRAM, IN A SANDBOX (cutbox-door.mjs). By AI agents, Wed Nov 11 2026. No macro, syntax, notation, axiom, sorry.
-/
import Derived.Test.YtfmceamccfhfcaaGreatDoorRows
import GoSem.ClaimSeven
namespace Go.Proofs.YtfmceamccfhfcaaGreatDoor
namespace Rows

/-- THE TIED CARD OF 'bombardelaw29.EqualityNormal'. -/
def equalityNormalCard : Claim7 := { stood := { row := equalityNormalRow, standIns := [], harness := (true, "e60ebfd97aeef885f0d76fa5a2656080ce82052947440bcb63df5539fcf3b969"), looks := false }, kinds := [], alts := [], laidByText := true, laidKinds := [.data, .data, .data], laidTests := true, laidLooks := .later }
def EqualityNormalCardSaid : Prop := Claim7.holds Tryz.pinned (.plain (OpenSpec.ofChange equalityNormalSpec)) equalityNormalCard

/-- THE TIED CARD OF 'bombardelaw29.EqualityTables'. -/
def equalityTablesCard : Claim7 := { stood := { row := equalityTablesRow, standIns := [], harness := (true, "e60ebfd97aeef885f0d76fa5a2656080ce82052947440bcb63df5539fcf3b969"), looks := false }, kinds := [], alts := [], laidByText := true, laidKinds := [.data, .data, .data], laidTests := true, laidLooks := .later }
def EqualityTablesCardSaid : Prop := Claim7.holds Tryz.pinned (.plain (OpenSpec.ofChange equalityTablesSpec)) equalityTablesCard

/-- THE TIED CARD OF 'bombardelaw29.EqualityPairs'. -/
def equalityPairsCard : Claim7 := { stood := { row := equalityPairsRow, standIns := [], harness := (true, "e60ebfd97aeef885f0d76fa5a2656080ce82052947440bcb63df5539fcf3b969"), looks := false }, kinds := [], alts := [], laidByText := true, laidKinds := [.data, .data, .data], laidTests := true, laidLooks := .later }
def EqualityPairsCardSaid : Prop := Claim7.holds Tryz.pinned (.plain (OpenSpec.ofChange equalityPairsSpec)) equalityPairsCard

/-- THE TIED CARD OF 'bombardelaw29.EqualityRedundant'. -/
def equalityRedundantCard : Claim7 := { stood := { row := equalityRedundantRow, standIns := [], harness := (true, "e60ebfd97aeef885f0d76fa5a2656080ce82052947440bcb63df5539fcf3b969"), looks := false }, kinds := [], alts := [], laidByText := true, laidKinds := [.data, .data, .data], laidTests := true, laidLooks := .later }
def EqualityRedundantCardSaid : Prop := Claim7.holds Tryz.pinned (.plain (OpenSpec.ofChange equalityRedundantSpec)) equalityRedundantCard

/-- THE SECOND FORM's CARD OF 'bombardelaw29.EqualityNormal'. -/
def equalityNormalUptoCard : Claim7 := { stood := { row := equalityNormalUptoRow, standIns := [], harness := (true, "e60ebfd97aeef885f0d76fa5a2656080ce82052947440bcb63df5539fcf3b969"), looks := false }, kinds := [], alts := [], laidByText := true, laidKinds := [.data, .data, .data], laidTests := true, laidLooks := .later }
def EqualityNormalUptoCardSaid : Prop := Claim7.holds Tryz.pinned (.plain (OpenSpec.upto equalityNormalSpec)) equalityNormalUptoCard

/-- THE SECOND FORM's CARD OF 'bombardelaw29.EqualityTables'. -/
def equalityTablesUptoCard : Claim7 := { stood := { row := equalityTablesUptoRow, standIns := [], harness := (true, "e60ebfd97aeef885f0d76fa5a2656080ce82052947440bcb63df5539fcf3b969"), looks := false }, kinds := [], alts := [], laidByText := true, laidKinds := [.data, .data, .data], laidTests := true, laidLooks := .later }
def EqualityTablesUptoCardSaid : Prop := Claim7.holds Tryz.pinned (.plain (OpenSpec.upto equalityTablesSpec)) equalityTablesUptoCard

/-- THE SECOND FORM's CARD OF 'bombardelaw29.EqualityPairs'. -/
def equalityPairsUptoCard : Claim7 := { stood := { row := equalityPairsUptoRow, standIns := [], harness := (true, "e60ebfd97aeef885f0d76fa5a2656080ce82052947440bcb63df5539fcf3b969"), looks := false }, kinds := [], alts := [], laidByText := true, laidKinds := [.data, .data, .data], laidTests := true, laidLooks := .later }
def EqualityPairsUptoCardSaid : Prop := Claim7.holds Tryz.pinned (.plain (OpenSpec.upto equalityPairsSpec)) equalityPairsUptoCard

/-- THE SECOND FORM's CARD OF 'bombardelaw29.EqualityRedundant'. -/
def equalityRedundantUptoCard : Claim7 := { stood := { row := equalityRedundantUptoRow, standIns := [], harness := (true, "e60ebfd97aeef885f0d76fa5a2656080ce82052947440bcb63df5539fcf3b969"), looks := false }, kinds := [], alts := [], laidByText := true, laidKinds := [.data, .data, .data], laidTests := true, laidLooks := .later }
def EqualityRedundantUptoCardSaid : Prop := Claim7.holds Tryz.pinned (.plain (OpenSpec.upto equalityRedundantSpec)) equalityRedundantUptoCard
end Rows
end Go.Proofs.YtfmceamccfhfcaaGreatDoor
