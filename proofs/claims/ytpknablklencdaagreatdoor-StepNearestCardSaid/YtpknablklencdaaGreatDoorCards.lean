/-
  DERIVED. GIVEN WITH THE SEED: THE CARDS: each row of YtpknablklencdaaGreatDoorRows.lean that lists a variable, with what it lists TIED to the program's text (the seventh form; the later family's looks); each row that meets fmt, with fmt's text TOLD by the authors' own Lean function (tested against real Go, not proved from fmt's source: count such statements apart). THE CARD IS WHAT COUNTS. Prove the row's statement (the work); the ties are given (YtpknablklencdaaGreatDoorTie.lean); close each card by the builder's one call (the guide's Derived/Test/ToyasCard.lean, 'card_holds'). Laid BY PROGRAM, IN A SANDBOX (cutbox-door.mjs). By AI agents, Wed Nov 11 2026. No macro, syntax, notation, axiom, sorry.
-/
import Derived.Test.YtpknablklencdaaGreatDoorRows
import GoSem.ClaimSeven
namespace Go.Proofs.YtpknablklencdaaGreatDoor
namespace Rows

/-- THE TIED CARD OF 'reachlaw10.StepWhole'. -/
def stepWholeCard : Claim7 := { stood := { row := stepWholeRow, standIns := [], harness := (true, "01795f51d222bdb12326ea765775f905476f9c58bcb9128fb23eb484ac646035"), looks := true }, kinds := [], alts := [], laidByText := true, laidKinds := [.data, .data, .data, .data, .sentinel, .sentinel, .listed, .data, .data, .pinned], laidTests := true, laidLooks := .later }
def StepWholeCardSaid : Prop := Claim7.holds Tryz.pinned (.plain (OpenSpec.ofChange stepWholeSpec)) stepWholeCard

/-- THE TIED CARD OF 'reachlaw10.StepOff'. -/
def stepOffCard : Claim7 := { stood := { row := stepOffRow, standIns := [], harness := (true, "01795f51d222bdb12326ea765775f905476f9c58bcb9128fb23eb484ac646035"), looks := true }, kinds := [], alts := [], laidByText := true, laidKinds := [.data, .data, .data, .data, .sentinel, .sentinel, .listed, .data, .data, .pinned], laidTests := true, laidLooks := .later }
def StepOffCardSaid : Prop := Claim7.holds Tryz.pinned (.plain (OpenSpec.ofChange stepOffSpec)) stepOffCard

/-- THE TIED CARD OF 'reachlaw10.StepAgain'. -/
def stepAgainCard : Claim7 := { stood := { row := stepAgainRow, standIns := [], harness := (true, "01795f51d222bdb12326ea765775f905476f9c58bcb9128fb23eb484ac646035"), looks := true }, kinds := [], alts := [], laidByText := true, laidKinds := [.data, .data, .data, .data, .sentinel, .sentinel, .listed, .data, .data, .pinned], laidTests := true, laidLooks := .later }
def StepAgainCardSaid : Prop := Claim7.holds Tryz.pinned (.plain (OpenSpec.ofChange stepAgainSpec)) stepAgainCard

/-- THE TIED CARD OF 'reachlaw10.StepNearest'. -/
def stepNearestCard : Claim7 := { stood := { row := stepNearestRow, standIns := [], harness := (true, "01795f51d222bdb12326ea765775f905476f9c58bcb9128fb23eb484ac646035"), looks := true }, kinds := [], alts := [], laidByText := true, laidKinds := [.data, .data, .data, .data, .sentinel, .sentinel, .listed, .data, .data, .pinned], laidTests := true, laidLooks := .later }
def StepNearestCardSaid : Prop := Claim7.holds Tryz.pinned (.plain (OpenSpec.ofChange stepNearestSpec)) stepNearestCard

/-- THE SECOND FORM's CARD OF 'reachlaw10.StepWhole'. -/
def stepWholeUptoCard : Claim7 := { stood := { row := stepWholeUptoRow, standIns := [], harness := (true, "01795f51d222bdb12326ea765775f905476f9c58bcb9128fb23eb484ac646035"), looks := true }, kinds := [], alts := [], laidByText := true, laidKinds := [.data, .data, .data, .data, .sentinel, .sentinel, .listed, .data, .data, .pinned], laidTests := true, laidLooks := .later }
def StepWholeUptoCardSaid : Prop := Claim7.holds Tryz.pinned (.plain (OpenSpec.upto stepWholeSpec)) stepWholeUptoCard

/-- THE SECOND FORM's CARD OF 'reachlaw10.StepOff'. -/
def stepOffUptoCard : Claim7 := { stood := { row := stepOffUptoRow, standIns := [], harness := (true, "01795f51d222bdb12326ea765775f905476f9c58bcb9128fb23eb484ac646035"), looks := true }, kinds := [], alts := [], laidByText := true, laidKinds := [.data, .data, .data, .data, .sentinel, .sentinel, .listed, .data, .data, .pinned], laidTests := true, laidLooks := .later }
def StepOffUptoCardSaid : Prop := Claim7.holds Tryz.pinned (.plain (OpenSpec.upto stepOffSpec)) stepOffUptoCard

/-- THE SECOND FORM's CARD OF 'reachlaw10.StepAgain'. -/
def stepAgainUptoCard : Claim7 := { stood := { row := stepAgainUptoRow, standIns := [], harness := (true, "01795f51d222bdb12326ea765775f905476f9c58bcb9128fb23eb484ac646035"), looks := true }, kinds := [], alts := [], laidByText := true, laidKinds := [.data, .data, .data, .data, .sentinel, .sentinel, .listed, .data, .data, .pinned], laidTests := true, laidLooks := .later }
def StepAgainUptoCardSaid : Prop := Claim7.holds Tryz.pinned (.plain (OpenSpec.upto stepAgainSpec)) stepAgainUptoCard

/-- THE SECOND FORM's CARD OF 'reachlaw10.StepNearest'. -/
def stepNearestUptoCard : Claim7 := { stood := { row := stepNearestUptoRow, standIns := [], harness := (true, "01795f51d222bdb12326ea765775f905476f9c58bcb9128fb23eb484ac646035"), looks := true }, kinds := [], alts := [], laidByText := true, laidKinds := [.data, .data, .data, .data, .sentinel, .sentinel, .listed, .data, .data, .pinned], laidTests := true, laidLooks := .later }
def StepNearestUptoCardSaid : Prop := Claim7.holds Tryz.pinned (.plain (OpenSpec.upto stepNearestSpec)) stepNearestUptoCard
end Rows
end Go.Proofs.YtpknablklencdaaGreatDoor
