/-
  DERIVED. GIVEN WITH THE SEED: THE CARDS: each row of YtedfppbnkgffcaaGreatDoorRows.lean that lists a variable, with what it lists TIED to the program's text (the seventh form; the later family's looks); each row that meets fmt, with fmt's text TOLD by the authors' own Lean function (tested against real Go, not proved from fmt's source: count such statements apart). THE CARD IS WHAT COUNTS. Prove the row's statement (the work); the ties are given (YtedfppbnkgffcaaGreatDoorTie.lean); close each card by the builder's one call (the guide's Derived/Test/ToyasCard.lean, 'card_holds'). Laid BY PROGRAM, IN A SANDBOX (cutbox-door.mjs). By AI agents, Wed Nov 11 2026. No macro, syntax, notation, axiom, sorry.
-/
import Derived.Test.YtedfppbnkgffcaaGreatDoorRows
import GoSem.ClaimSeven
namespace Go.Proofs.YtedfppbnkgffcaaGreatDoor
namespace Rows

/-- THE TIED CARD OF 'reachlaw10.StepAgain'. -/
def stepAgainCard : Claim7 := { stood := { row := stepAgainRow, standIns := [], harness := (true, "059b26a6afe7ac750c1a496086d31066693ebbbcc332b649e4d966c6542796f7"), looks := true }, kinds := [], alts := [], laidByText := true, laidKinds := [.data, .data, .data, .data, .sentinel, .sentinel, .listed, .data, .data, .pinned], laidTests := true, laidLooks := .later }
def StepAgainCardSaid : Prop := Claim7.holds Tryz.pinned (.plain (OpenSpec.ofChange stepAgainSpec)) stepAgainCard

/-- THE TIED CARD OF 'reachlaw10.StepNearest'. -/
def stepNearestCard : Claim7 := { stood := { row := stepNearestRow, standIns := [], harness := (true, "059b26a6afe7ac750c1a496086d31066693ebbbcc332b649e4d966c6542796f7"), looks := true }, kinds := [], alts := [], laidByText := true, laidKinds := [.data, .data, .data, .data, .sentinel, .sentinel, .listed, .data, .data, .pinned], laidTests := true, laidLooks := .later }
def StepNearestCardSaid : Prop := Claim7.holds Tryz.pinned (.plain (OpenSpec.ofChange stepNearestSpec)) stepNearestCard

/-- THE TIED CARD OF 'reachlaw10.StepOwn'. -/
def stepOwnCard : Claim7 := { stood := { row := stepOwnRow, standIns := [], harness := (true, "059b26a6afe7ac750c1a496086d31066693ebbbcc332b649e4d966c6542796f7"), looks := true }, kinds := [], alts := [], laidByText := true, laidKinds := [.data, .data, .data, .data, .sentinel, .sentinel, .listed, .data, .data, .pinned], laidTests := true, laidLooks := .later }
def StepOwnCardSaid : Prop := Claim7.holds Tryz.pinned (.plain (OpenSpec.ofChange stepOwnSpec)) stepOwnCard

/-- THE TIED CARD OF 'reachlaw10.StepTurns'. -/
def stepTurnsCard : Claim7 := { stood := { row := stepTurnsRow, standIns := [], harness := (true, "059b26a6afe7ac750c1a496086d31066693ebbbcc332b649e4d966c6542796f7"), looks := true }, kinds := [], alts := [], laidByText := true, laidKinds := [.data, .data, .data, .data, .sentinel, .sentinel, .listed, .data, .data, .pinned], laidTests := true, laidLooks := .later }
def StepTurnsCardSaid : Prop := Claim7.holds Tryz.pinned (.plain (OpenSpec.ofChange stepTurnsSpec)) stepTurnsCard

/-- THE SECOND FORM's CARD OF 'reachlaw10.StepAgain'. -/
def stepAgainUptoCard : Claim7 := { stood := { row := stepAgainUptoRow, standIns := [], harness := (true, "059b26a6afe7ac750c1a496086d31066693ebbbcc332b649e4d966c6542796f7"), looks := true }, kinds := [], alts := [], laidByText := true, laidKinds := [.data, .data, .data, .data, .sentinel, .sentinel, .listed, .data, .data, .pinned], laidTests := true, laidLooks := .later }
def StepAgainUptoCardSaid : Prop := Claim7.holds Tryz.pinned (.plain (OpenSpec.upto stepAgainSpec)) stepAgainUptoCard

/-- THE SECOND FORM's CARD OF 'reachlaw10.StepNearest'. -/
def stepNearestUptoCard : Claim7 := { stood := { row := stepNearestUptoRow, standIns := [], harness := (true, "059b26a6afe7ac750c1a496086d31066693ebbbcc332b649e4d966c6542796f7"), looks := true }, kinds := [], alts := [], laidByText := true, laidKinds := [.data, .data, .data, .data, .sentinel, .sentinel, .listed, .data, .data, .pinned], laidTests := true, laidLooks := .later }
def StepNearestUptoCardSaid : Prop := Claim7.holds Tryz.pinned (.plain (OpenSpec.upto stepNearestSpec)) stepNearestUptoCard

/-- THE SECOND FORM's CARD OF 'reachlaw10.StepOwn'. -/
def stepOwnUptoCard : Claim7 := { stood := { row := stepOwnUptoRow, standIns := [], harness := (true, "059b26a6afe7ac750c1a496086d31066693ebbbcc332b649e4d966c6542796f7"), looks := true }, kinds := [], alts := [], laidByText := true, laidKinds := [.data, .data, .data, .data, .sentinel, .sentinel, .listed, .data, .data, .pinned], laidTests := true, laidLooks := .later }
def StepOwnUptoCardSaid : Prop := Claim7.holds Tryz.pinned (.plain (OpenSpec.upto stepOwnSpec)) stepOwnUptoCard

/-- THE SECOND FORM's CARD OF 'reachlaw10.StepTurns'. -/
def stepTurnsUptoCard : Claim7 := { stood := { row := stepTurnsUptoRow, standIns := [], harness := (true, "059b26a6afe7ac750c1a496086d31066693ebbbcc332b649e4d966c6542796f7"), looks := true }, kinds := [], alts := [], laidByText := true, laidKinds := [.data, .data, .data, .data, .sentinel, .sentinel, .listed, .data, .data, .pinned], laidTests := true, laidLooks := .later }
def StepTurnsUptoCardSaid : Prop := Claim7.holds Tryz.pinned (.plain (OpenSpec.upto stepTurnsSpec)) stepTurnsUptoCard
end Rows
end Go.Proofs.YtedfppbnkgffcaaGreatDoor
