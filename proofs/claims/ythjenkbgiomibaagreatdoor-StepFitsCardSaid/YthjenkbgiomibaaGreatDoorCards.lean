/-
  DERIVED. GIVEN WITH THE SEED: THE CARDS: each row of YthjenkbgiomibaaGreatDoorRows.lean that lists a variable, with what it lists TIED to the program's text (the seventh form; the later family's looks); each row that meets fmt, with fmt's text TOLD by the authors' own Lean function (tested against real Go, not proved from fmt's source: count such statements apart). THE CARD IS WHAT COUNTS. Prove the row's statement (the work); the ties are given (YthjenkbgiomibaaGreatDoorTie.lean); close each card by the builder's one call (the guide's Derived/Test/ToyasCard.lean, 'card_holds'). Laid BY PROGRAM, IN A SANDBOX (cutbox-door.mjs). By AI agents, Wed Nov 11 2026. No macro, syntax, notation, axiom, sorry.
-/
import Derived.Test.YthjenkbgiomibaaGreatDoorRows
import GoSem.ClaimSeven
namespace Go.Proofs.YthjenkbgiomibaaGreatDoor
namespace Rows

/-- THE TIED CARD OF 'reachlaw10.StepNexts'. -/
def stepNextsCard : Claim7 := { stood := { row := stepNextsRow, standIns := [], harness := (true, "4a7f5a2447d89b012ebd6c2b4ffa5f07fd032e3268371eb927f57af48d4dfe65"), looks := true }, kinds := [], alts := [], laidByText := true, laidKinds := [.data, .data, .data, .data, .sentinel, .sentinel, .listed, .data, .data, .pinned], laidTests := true, laidLooks := .later }
def StepNextsCardSaid : Prop := Claim7.holds Tryz.pinned (.plain (OpenSpec.ofChange stepNextsSpec)) stepNextsCard

/-- THE TIED CARD OF 'reachlaw10.StepFits'. -/
def stepFitsCard : Claim7 := { stood := { row := stepFitsRow, standIns := [], harness := (true, "4a7f5a2447d89b012ebd6c2b4ffa5f07fd032e3268371eb927f57af48d4dfe65"), looks := true }, kinds := [], alts := [], laidByText := true, laidKinds := [.data, .data, .data, .data, .sentinel, .sentinel, .listed, .data, .data, .pinned], laidTests := true, laidLooks := .later }
def StepFitsCardSaid : Prop := Claim7.holds Tryz.pinned (.plain (OpenSpec.ofChange stepFitsSpec)) stepFitsCard

/-- THE TIED CARD OF 'reachlaw10.StepFollows'. -/
def stepFollowsCard : Claim7 := { stood := { row := stepFollowsRow, standIns := [], harness := (true, "4a7f5a2447d89b012ebd6c2b4ffa5f07fd032e3268371eb927f57af48d4dfe65"), looks := true }, kinds := [], alts := [], laidByText := true, laidKinds := [.data, .data, .data, .data, .sentinel, .sentinel, .listed, .data, .data, .pinned], laidTests := true, laidLooks := .later }
def StepFollowsCardSaid : Prop := Claim7.holds Tryz.pinned (.plain (OpenSpec.ofChange stepFollowsSpec)) stepFollowsCard

/-- THE SECOND FORM's CARD OF 'reachlaw10.StepNexts'. -/
def stepNextsUptoCard : Claim7 := { stood := { row := stepNextsUptoRow, standIns := [], harness := (true, "4a7f5a2447d89b012ebd6c2b4ffa5f07fd032e3268371eb927f57af48d4dfe65"), looks := true }, kinds := [], alts := [], laidByText := true, laidKinds := [.data, .data, .data, .data, .sentinel, .sentinel, .listed, .data, .data, .pinned], laidTests := true, laidLooks := .later }
def StepNextsUptoCardSaid : Prop := Claim7.holds Tryz.pinned (.plain (OpenSpec.upto stepNextsSpec)) stepNextsUptoCard

/-- THE SECOND FORM's CARD OF 'reachlaw10.StepFits'. -/
def stepFitsUptoCard : Claim7 := { stood := { row := stepFitsUptoRow, standIns := [], harness := (true, "4a7f5a2447d89b012ebd6c2b4ffa5f07fd032e3268371eb927f57af48d4dfe65"), looks := true }, kinds := [], alts := [], laidByText := true, laidKinds := [.data, .data, .data, .data, .sentinel, .sentinel, .listed, .data, .data, .pinned], laidTests := true, laidLooks := .later }
def StepFitsUptoCardSaid : Prop := Claim7.holds Tryz.pinned (.plain (OpenSpec.upto stepFitsSpec)) stepFitsUptoCard

/-- THE SECOND FORM's CARD OF 'reachlaw10.StepFollows'. -/
def stepFollowsUptoCard : Claim7 := { stood := { row := stepFollowsUptoRow, standIns := [], harness := (true, "4a7f5a2447d89b012ebd6c2b4ffa5f07fd032e3268371eb927f57af48d4dfe65"), looks := true }, kinds := [], alts := [], laidByText := true, laidKinds := [.data, .data, .data, .data, .sentinel, .sentinel, .listed, .data, .data, .pinned], laidTests := true, laidLooks := .later }
def StepFollowsUptoCardSaid : Prop := Claim7.holds Tryz.pinned (.plain (OpenSpec.upto stepFollowsSpec)) stepFollowsUptoCard
end Rows
end Go.Proofs.YthjenkbgiomibaaGreatDoor
