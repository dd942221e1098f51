/-
  DERIVED. GIVEN WITH THE SEED: THE CARDS: each row of YtjedoipbllcfdaaDoorRows.lean that lists a variable, with what it lists TIED to the program's text (the seventh form; the later family's looks); each row that meets fmt, with fmt's text TOLD by the authors' own Lean function (tested against real Go, not proved from fmt's source: count such statements apart). THE CARD IS WHAT COUNTS. Prove the row's statement (the work); the ties are given (YtjedoipbllcfdaaDoorTie.lean); close each card by the builder's one call (the guide's Derived/Test/ToyasCard.lean, 'card_holds'). Laid BY PROGRAM, IN A SANDBOX (cutbox-door.mjs). By AI agents, Wed Nov 11 2026. No macro, syntax, notation, axiom, sorry.
-/
import Derived.Test.YtjedoipbllcfdaaDoorRows
import GoSem.ClaimSeven
namespace Go.Proofs.YtjedoipbllcfdaaDoor
namespace Rows

/-- THE TIED CARD OF 'reachlaw3.ScanUnquotes'. -/
def scanUnquotesCard : Claim7 := { stood := { row := scanUnquotesRow, standIns := [], harness := (true, "b517def55807f333178a651088e9556c54952bc020bf2f3d51dac208c4605f50"), looks := true }, kinds := [], alts := [], laidByText := true, laidKinds := [.data, .data, .data, .data, .sentinel, .sentinel, .pinned], laidTests := true, laidLooks := .later }
def ScanUnquotesCardSaid : Prop := Claim7.holds Tryd.pinned (.plain (OpenSpec.ofChange scanUnquotesSpec)) scanUnquotesCard

/-- THE TIED CARD OF 'reachlaw3.ScanSaysAlike'. -/
def scanSaysAlikeCard : Claim7 := { stood := { row := scanSaysAlikeRow, standIns := [], harness := (true, "b517def55807f333178a651088e9556c54952bc020bf2f3d51dac208c4605f50"), looks := true }, kinds := [], alts := [], laidByText := true, laidKinds := [.data, .data, .data, .data, .sentinel, .sentinel, .pinned], laidTests := true, laidLooks := .later }
def ScanSaysAlikeCardSaid : Prop := Claim7.holds Tryd.pinned (.plain (OpenSpec.ofChange scanSaysAlikeSpec)) scanSaysAlikeCard

/-- THE TIED CARD OF 'reachlaw3.ScanValues'. -/
def scanValuesCard : Claim7 := { stood := { row := scanValuesRow, standIns := [], harness := (true, "b517def55807f333178a651088e9556c54952bc020bf2f3d51dac208c4605f50"), looks := true }, kinds := [], alts := [], laidByText := true, laidKinds := [.data, .data, .data, .data, .sentinel, .sentinel, .pinned], laidTests := true, laidLooks := .later }
def ScanValuesCardSaid : Prop := Claim7.holds Tryd.pinned (.plain (OpenSpec.ofChange scanValuesSpec)) scanValuesCard

/-- THE TIED CARD OF 'reachlaw3.ScanLeavesNothing'. -/
def scanLeavesNothingCard : Claim7 := { stood := { row := scanLeavesNothingRow, standIns := [], harness := (true, "b517def55807f333178a651088e9556c54952bc020bf2f3d51dac208c4605f50"), looks := true }, kinds := [], alts := [], laidByText := true, laidKinds := [.data, .data, .data, .data, .sentinel, .sentinel, .data, .pinned], laidTests := true, laidLooks := .later }
def ScanLeavesNothingCardSaid : Prop := Claim7.holds Tryd.pinned (.plain (OpenSpec.ofChange scanLeavesNothingSpec)) scanLeavesNothingCard

/-- THE TIED CARD OF 'reachlaw3.ScanJoins'. -/
def scanJoinsCard : Claim7 := { stood := { row := scanJoinsRow, standIns := [], harness := (true, "b517def55807f333178a651088e9556c54952bc020bf2f3d51dac208c4605f50"), looks := true }, kinds := [], alts := [], laidByText := true, laidKinds := [.data, .data, .data, .data, .sentinel, .sentinel, .data, .pinned], laidTests := true, laidLooks := .later }
def ScanJoinsCardSaid : Prop := Claim7.holds Tryd.pinned (.plain (OpenSpec.ofChange scanJoinsSpec)) scanJoinsCard

/-- THE TIED CARD OF 'reachlaw3.ScanIsNew'. -/
def scanIsNewCard : Claim7 := { stood := { row := scanIsNewRow, standIns := [], harness := (true, "b517def55807f333178a651088e9556c54952bc020bf2f3d51dac208c4605f50"), looks := true }, kinds := [], alts := [], laidByText := true, laidKinds := [.data, .data, .data, .data, .sentinel, .sentinel, .data, .pinned], laidTests := true, laidLooks := .later }
def ScanIsNewCardSaid : Prop := Claim7.holds Tryd.pinned (.plain (OpenSpec.ofChange scanIsNewSpec)) scanIsNewCard

/-- THE TIED CARD OF 'reachlaw3.ScanCounts'. -/
def scanCountsCard : Claim7 := { stood := { row := scanCountsRow, standIns := [], harness := (true, "b517def55807f333178a651088e9556c54952bc020bf2f3d51dac208c4605f50"), looks := true }, kinds := [], alts := [], laidByText := true, laidKinds := [.data, .data, .data, .data, .sentinel, .sentinel, .data, .pinned], laidTests := true, laidLooks := .later }
def ScanCountsCardSaid : Prop := Claim7.holds Tryd.pinned (.plain (OpenSpec.ofChange scanCountsSpec)) scanCountsCard

/-- THE TIED CARD OF 'reachlaw3.ScanSaysBack'. -/
def scanSaysBackCard : Claim7 := { stood := { row := scanSaysBackRow, standIns := [], harness := (true, "b517def55807f333178a651088e9556c54952bc020bf2f3d51dac208c4605f50"), looks := true }, kinds := [], alts := [], laidByText := true, laidKinds := [.data, .data, .data, .data, .sentinel, .sentinel, .data, .pinned], laidTests := true, laidLooks := .later }
def ScanSaysBackCardSaid : Prop := Claim7.holds Tryd.pinned (.plain (OpenSpec.ofChange scanSaysBackSpec)) scanSaysBackCard

/-- THE SECOND FORM's CARD OF 'reachlaw3.ScanUnquotes'. -/
def scanUnquotesUptoCard : Claim7 := { stood := { row := scanUnquotesUptoRow, standIns := [], harness := (true, "b517def55807f333178a651088e9556c54952bc020bf2f3d51dac208c4605f50"), looks := true }, kinds := [], alts := [], laidByText := true, laidKinds := [.data, .data, .data, .data, .sentinel, .sentinel, .pinned], laidTests := true, laidLooks := .later }
def ScanUnquotesUptoCardSaid : Prop := Claim7.holds Tryd.pinned (.plain (OpenSpec.upto scanUnquotesSpec)) scanUnquotesUptoCard

/-- THE SECOND FORM's CARD OF 'reachlaw3.ScanSaysAlike'. -/
def scanSaysAlikeUptoCard : Claim7 := { stood := { row := scanSaysAlikeUptoRow, standIns := [], harness := (true, "b517def55807f333178a651088e9556c54952bc020bf2f3d51dac208c4605f50"), looks := true }, kinds := [], alts := [], laidByText := true, laidKinds := [.data, .data, .data, .data, .sentinel, .sentinel, .pinned], laidTests := true, laidLooks := .later }
def ScanSaysAlikeUptoCardSaid : Prop := Claim7.holds Tryd.pinned (.plain (OpenSpec.upto scanSaysAlikeSpec)) scanSaysAlikeUptoCard

/-- THE SECOND FORM's CARD OF 'reachlaw3.ScanValues'. -/
def scanValuesUptoCard : Claim7 := { stood := { row := scanValuesUptoRow, standIns := [], harness := (true, "b517def55807f333178a651088e9556c54952bc020bf2f3d51dac208c4605f50"), looks := true }, kinds := [], alts := [], laidByText := true, laidKinds := [.data, .data, .data, .data, .sentinel, .sentinel, .pinned], laidTests := true, laidLooks := .later }
def ScanValuesUptoCardSaid : Prop := Claim7.holds Tryd.pinned (.plain (OpenSpec.upto scanValuesSpec)) scanValuesUptoCard

/-- THE SECOND FORM's CARD OF 'reachlaw3.ScanLeavesNothing'. -/
def scanLeavesNothingUptoCard : Claim7 := { stood := { row := scanLeavesNothingUptoRow, standIns := [], harness := (true, "b517def55807f333178a651088e9556c54952bc020bf2f3d51dac208c4605f50"), looks := true }, kinds := [], alts := [], laidByText := true, laidKinds := [.data, .data, .data, .data, .sentinel, .sentinel, .data, .pinned], laidTests := true, laidLooks := .later }
def ScanLeavesNothingUptoCardSaid : Prop := Claim7.holds Tryd.pinned (.plain (OpenSpec.upto scanLeavesNothingSpec)) scanLeavesNothingUptoCard

/-- THE SECOND FORM's CARD OF 'reachlaw3.ScanJoins'. -/
def scanJoinsUptoCard : Claim7 := { stood := { row := scanJoinsUptoRow, standIns := [], harness := (true, "b517def55807f333178a651088e9556c54952bc020bf2f3d51dac208c4605f50"), looks := true }, kinds := [], alts := [], laidByText := true, laidKinds := [.data, .data, .data, .data, .sentinel, .sentinel, .data, .pinned], laidTests := true, laidLooks := .later }
def ScanJoinsUptoCardSaid : Prop := Claim7.holds Tryd.pinned (.plain (OpenSpec.upto scanJoinsSpec)) scanJoinsUptoCard

/-- THE SECOND FORM's CARD OF 'reachlaw3.ScanIsNew'. -/
def scanIsNewUptoCard : Claim7 := { stood := { row := scanIsNewUptoRow, standIns := [], harness := (true, "b517def55807f333178a651088e9556c54952bc020bf2f3d51dac208c4605f50"), looks := true }, kinds := [], alts := [], laidByText := true, laidKinds := [.data, .data, .data, .data, .sentinel, .sentinel, .data, .pinned], laidTests := true, laidLooks := .later }
def ScanIsNewUptoCardSaid : Prop := Claim7.holds Tryd.pinned (.plain (OpenSpec.upto scanIsNewSpec)) scanIsNewUptoCard

/-- THE SECOND FORM's CARD OF 'reachlaw3.ScanCounts'. -/
def scanCountsUptoCard : Claim7 := { stood := { row := scanCountsUptoRow, standIns := [], harness := (true, "b517def55807f333178a651088e9556c54952bc020bf2f3d51dac208c4605f50"), looks := true }, kinds := [], alts := [], laidByText := true, laidKinds := [.data, .data, .data, .data, .sentinel, .sentinel, .data, .pinned], laidTests := true, laidLooks := .later }
def ScanCountsUptoCardSaid : Prop := Claim7.holds Tryd.pinned (.plain (OpenSpec.upto scanCountsSpec)) scanCountsUptoCard

/-- THE SECOND FORM's CARD OF 'reachlaw3.ScanSaysBack'. -/
def scanSaysBackUptoCard : Claim7 := { stood := { row := scanSaysBackUptoRow, standIns := [], harness := (true, "b517def55807f333178a651088e9556c54952bc020bf2f3d51dac208c4605f50"), looks := true }, kinds := [], alts := [], laidByText := true, laidKinds := [.data, .data, .data, .data, .sentinel, .sentinel, .data, .pinned], laidTests := true, laidLooks := .later }
def ScanSaysBackUptoCardSaid : Prop := Claim7.holds Tryd.pinned (.plain (OpenSpec.upto scanSaysBackSpec)) scanSaysBackUptoCard
end Rows
end Go.Proofs.YtjedoipbllcfdaaDoor
