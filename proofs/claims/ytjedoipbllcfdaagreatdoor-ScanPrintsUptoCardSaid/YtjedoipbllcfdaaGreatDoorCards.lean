/-
  DERIVED. GIVEN WITH THE SEED: THE CARDS: each row of YtjedoipbllcfdaaGreatDoorRows.lean that lists a variable, with what it lists TIED to the program's text (the seventh form; the later family's looks); each row that meets fmt, with fmt's text TOLD by the authors' own Lean function (tested against real Go, not proved from fmt's source: count such statements apart). THE CARD IS WHAT COUNTS. Prove the row's statement (the work); the ties are given (YtjedoipbllcfdaaGreatDoorTie.lean); close each card by the builder's one call (the guide's Derived/Test/ToyasCard.lean, 'card_holds'). Laid BY PROGRAM, IN A SANDBOX (cutbox-door.mjs). By AI agents, Wed Nov 11 2026. No macro, syntax, notation, axiom, sorry.
-/
import Derived.Test.YtjedoipbllcfdaaGreatDoorRows
import GoSem.ClaimSeven
namespace Go.Proofs.YtjedoipbllcfdaaGreatDoor
namespace Rows

/-- THE TIED CARD OF 'reachlaw3.ScanTells'. -/
def scanTellsCard : Claim7 := { stood := { row := scanTellsRow, standIns := [], harness := (true, "0290f550e712d919156c4dafef5e489bb33e0997250dfb77493e2e6847d9135f"), looks := true }, kinds := [], alts := [], laidByText := true, laidKinds := [.data, .data, .data, .data, .data, .sentinel, .sentinel, .data, .pinned], laidTests := true, laidLooks := .later }
def ScanTellsCardSaid : Prop := Claim7.holds Tryz.pinned (.plain (OpenSpec.ofChange scanTellsSpec)) scanTellsCard

/-- THE TIED CARD OF 'reachlaw3.ScanPrints'. -/
def scanPrintsCard : Claim7 := { stood := { row := scanPrintsRow, standIns := [], harness := (true, "0290f550e712d919156c4dafef5e489bb33e0997250dfb77493e2e6847d9135f"), looks := true }, kinds := [], alts := [], laidByText := true, laidKinds := [.data, .data, .data, .data, .data, .sentinel, .sentinel, .data, .pinned], laidTests := true, laidLooks := .later }
def ScanPrintsCardSaid : Prop := Claim7.holds Tryz.pinned (.plain (OpenSpec.ofChange scanPrintsSpec)) scanPrintsCard

/-- THE TIED CARD OF 'reachlaw3.ScanPrintsBack'. -/
def scanPrintsBackCard : Claim7 := { stood := { row := scanPrintsBackRow, standIns := [], harness := (true, "0290f550e712d919156c4dafef5e489bb33e0997250dfb77493e2e6847d9135f"), looks := true }, kinds := [], alts := [], laidByText := true, laidKinds := [.data, .data, .data, .data, .sentinel, .sentinel, .data, .pinned], laidTests := true, laidLooks := .later }
def ScanPrintsBackCardSaid : Prop := Claim7.holds Tryz.pinned (.plain (OpenSpec.ofChange scanPrintsBackSpec)) scanPrintsBackCard

/-- THE TIED CARD OF 'reachlaw3.ScanSettles'. -/
def scanSettlesCard : Claim7 := { stood := { row := scanSettlesRow, standIns := [], harness := (true, "0290f550e712d919156c4dafef5e489bb33e0997250dfb77493e2e6847d9135f"), looks := true }, kinds := [], alts := [], laidByText := true, laidKinds := [.data, .data, .data, .data, .sentinel, .sentinel, .data, .pinned], laidTests := true, laidLooks := .later }
def ScanSettlesCardSaid : Prop := Claim7.holds Tryz.pinned (.plain (OpenSpec.ofChange scanSettlesSpec)) scanSettlesCard

/-- THE SECOND FORM's CARD OF 'reachlaw3.ScanTells'. -/
def scanTellsUptoCard : Claim7 := { stood := { row := scanTellsUptoRow, standIns := [], harness := (true, "0290f550e712d919156c4dafef5e489bb33e0997250dfb77493e2e6847d9135f"), looks := true }, kinds := [], alts := [], laidByText := true, laidKinds := [.data, .data, .data, .data, .data, .sentinel, .sentinel, .data, .pinned], laidTests := true, laidLooks := .later }
def ScanTellsUptoCardSaid : Prop := Claim7.holds Tryz.pinned (.plain (OpenSpec.upto scanTellsSpec)) scanTellsUptoCard

/-- THE SECOND FORM's CARD OF 'reachlaw3.ScanPrints'. -/
def scanPrintsUptoCard : Claim7 := { stood := { row := scanPrintsUptoRow, standIns := [], harness := (true, "0290f550e712d919156c4dafef5e489bb33e0997250dfb77493e2e6847d9135f"), looks := true }, kinds := [], alts := [], laidByText := true, laidKinds := [.data, .data, .data, .data, .data, .sentinel, .sentinel, .data, .pinned], laidTests := true, laidLooks := .later }
def ScanPrintsUptoCardSaid : Prop := Claim7.holds Tryz.pinned (.plain (OpenSpec.upto scanPrintsSpec)) scanPrintsUptoCard

/-- THE SECOND FORM's CARD OF 'reachlaw3.ScanPrintsBack'. -/
def scanPrintsBackUptoCard : Claim7 := { stood := { row := scanPrintsBackUptoRow, standIns := [], harness := (true, "0290f550e712d919156c4dafef5e489bb33e0997250dfb77493e2e6847d9135f"), looks := true }, kinds := [], alts := [], laidByText := true, laidKinds := [.data, .data, .data, .data, .sentinel, .sentinel, .data, .pinned], laidTests := true, laidLooks := .later }
def ScanPrintsBackUptoCardSaid : Prop := Claim7.holds Tryz.pinned (.plain (OpenSpec.upto scanPrintsBackSpec)) scanPrintsBackUptoCard

/-- THE SECOND FORM's CARD OF 'reachlaw3.ScanSettles'. -/
def scanSettlesUptoCard : Claim7 := { stood := { row := scanSettlesUptoRow, standIns := [], harness := (true, "0290f550e712d919156c4dafef5e489bb33e0997250dfb77493e2e6847d9135f"), looks := true }, kinds := [], alts := [], laidByText := true, laidKinds := [.data, .data, .data, .data, .sentinel, .sentinel, .data, .pinned], laidTests := true, laidLooks := .later }
def ScanSettlesUptoCardSaid : Prop := Claim7.holds Tryz.pinned (.plain (OpenSpec.upto scanSettlesSpec)) scanSettlesUptoCard
end Rows
end Go.Proofs.YtjedoipbllcfdaaGreatDoor
