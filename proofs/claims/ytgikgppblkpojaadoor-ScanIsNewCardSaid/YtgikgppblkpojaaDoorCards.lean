/-
  DERIVED. GIVEN WITH THE SEED: THE CARDS: each row of YtgikgppblkpojaaDoorRows.lean that lists a variable, with what it lists TIED to the program's text (the seventh form; the later family's looks); each row that meets fmt, with fmt's text TOLD by the authors' own Lean function (tested against real Go, not proved from fmt's source: count such statements apart). THE CARD IS WHAT COUNTS. Prove the row's statement (the work); the ties are given (YtgikgppblkpojaaDoorTie.lean); close each card by the builder's one call (the guide's Derived/Test/ToyasCard.lean, 'card_holds'). Laid BY PROGRAM, IN A SANDBOX (cutbox-door.mjs). By AI agents, Wed Nov 11 2026. No macro, syntax, notation, axiom, sorry.
-/
import Derived.Test.YtgikgppblkpojaaDoorRows
import GoSem.ClaimSeven
namespace Go.Proofs.YtgikgppblkpojaaDoor
namespace Rows

/-- THE TIED CARD OF 'reachlaw3.ScanIsNew'. -/
def scanIsNewCard : Claim7 := { stood := { row := scanIsNewRow, standIns := [], harness := (true, "0adbb602db976c0a7a95dc7369f9b16d7d997ad4d4a6c3c3c64de1a23c05cf79"), looks := true }, kinds := [], alts := [], laidByText := true, laidKinds := [.data, .data, .data, .data, .sentinel, .sentinel, .data, .pinned], laidTests := true, laidLooks := .later }
def ScanIsNewCardSaid : Prop := Claim7.holds Tryd.pinned (.plain (OpenSpec.ofChange scanIsNewSpec)) scanIsNewCard

/-- THE SECOND FORM's CARD OF 'reachlaw3.ScanIsNew'. -/
def scanIsNewUptoCard : Claim7 := { stood := { row := scanIsNewUptoRow, standIns := [], harness := (true, "0adbb602db976c0a7a95dc7369f9b16d7d997ad4d4a6c3c3c64de1a23c05cf79"), looks := true }, kinds := [], alts := [], laidByText := true, laidKinds := [.data, .data, .data, .data, .sentinel, .sentinel, .data, .pinned], laidTests := true, laidLooks := .later }
def ScanIsNewUptoCardSaid : Prop := Claim7.holds Tryd.pinned (.plain (OpenSpec.upto scanIsNewSpec)) scanIsNewUptoCard
end Rows
end Go.Proofs.YtgikgppblkpojaaDoor
