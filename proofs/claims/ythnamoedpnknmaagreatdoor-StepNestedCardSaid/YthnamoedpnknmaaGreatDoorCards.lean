/-
  DERIVED. GIVEN WITH THE SEED: THE CARDS: each row of YthnamoedpnknmaaGreatDoorRows.lean that lists a variable, with what it lists TIED to the program's text (the seventh form; the later family's looks); each row that meets fmt, with fmt's text TOLD by the authors' own Lean function (tested against real Go, not proved from fmt's source: count such statements apart). THE CARD IS WHAT COUNTS. Prove the row's statement (the work); the ties are given (YthnamoedpnknmaaGreatDoorTie.lean); close each card by the builder's one call (the guide's Derived/Test/ToyasCard.lean, 'card_holds'). Laid BY PROGRAM, IN A SANDBOX (cutbox-door.mjs). By AI agents, Wed Nov 11 2026. No macro, syntax, notation, axiom, sorry.
-/
import Derived.Test.YthnamoedpnknmaaGreatDoorRows
import GoSem.ClaimSeven
namespace Go.Proofs.YthnamoedpnknmaaGreatDoor
namespace Rows

/-- THE TIED CARD OF 'reachlaw10.StepNexts'. -/
def stepNextsCard : Claim7 := { stood := { row := stepNextsRow, standIns := [], harness := (true, "dacb1f7f347b44a9da4d03f0d8b3d2785cf50124cab647a1e6e0a4a4066981ac"), looks := true }, kinds := [], alts := [], laidByText := true, laidKinds := [.data, .data, .data, .data, .sentinel, .sentinel, .listed, .data, .data, .pinned], laidTests := true, laidLooks := .later }
def StepNextsCardSaid : Prop := Claim7.holds Tryz.pinned (.plain (OpenSpec.ofChange stepNextsSpec)) stepNextsCard

/-- THE TIED CARD OF 'reachlaw10.StepFollows'. -/
def stepFollowsCard : Claim7 := { stood := { row := stepFollowsRow, standIns := [], harness := (true, "dacb1f7f347b44a9da4d03f0d8b3d2785cf50124cab647a1e6e0a4a4066981ac"), looks := true }, kinds := [], alts := [], laidByText := true, laidKinds := [.data, .data, .data, .data, .sentinel, .sentinel, .listed, .data, .data, .pinned], laidTests := true, laidLooks := .later }
def StepFollowsCardSaid : Prop := Claim7.holds Tryz.pinned (.plain (OpenSpec.ofChange stepFollowsSpec)) stepFollowsCard

/-- THE TIED CARD OF 'reachlaw10.StepPaths'. -/
def stepPathsCard : Claim7 := { stood := { row := stepPathsRow, standIns := [], harness := (true, "dacb1f7f347b44a9da4d03f0d8b3d2785cf50124cab647a1e6e0a4a4066981ac"), looks := true }, kinds := [], alts := [], laidByText := true, laidKinds := [.data, .data, .data, .data, .sentinel, .sentinel, .listed, .data, .data, .pinned], laidTests := true, laidLooks := .later }
def StepPathsCardSaid : Prop := Claim7.holds Tryz.pinned (.plain (OpenSpec.ofChange stepPathsSpec)) stepPathsCard

/-- THE TIED CARD OF 'reachlaw10.StepNested'. -/
def stepNestedCard : Claim7 := { stood := { row := stepNestedRow, standIns := [], harness := (true, "dacb1f7f347b44a9da4d03f0d8b3d2785cf50124cab647a1e6e0a4a4066981ac"), looks := true }, kinds := [], alts := [], laidByText := true, laidKinds := [.data, .data, .data, .data, .sentinel, .sentinel, .listed, .data, .data, .pinned], laidTests := true, laidLooks := .later }
def StepNestedCardSaid : Prop := Claim7.holds Tryz.pinned (.plain (OpenSpec.ofChange stepNestedSpec)) stepNestedCard

/-- THE TIED CARD OF 'reachlaw10.StepOwn'. -/
def stepOwnCard : Claim7 := { stood := { row := stepOwnRow, standIns := [], harness := (true, "dacb1f7f347b44a9da4d03f0d8b3d2785cf50124cab647a1e6e0a4a4066981ac"), looks := true }, kinds := [], alts := [], laidByText := true, laidKinds := [.data, .data, .data, .data, .sentinel, .sentinel, .listed, .data, .data, .pinned], laidTests := true, laidLooks := .later }
def StepOwnCardSaid : Prop := Claim7.holds Tryz.pinned (.plain (OpenSpec.ofChange stepOwnSpec)) stepOwnCard

/-- THE TIED CARD OF 'reachlaw10.StepTurns'. -/
def stepTurnsCard : Claim7 := { stood := { row := stepTurnsRow, standIns := [], harness := (true, "dacb1f7f347b44a9da4d03f0d8b3d2785cf50124cab647a1e6e0a4a4066981ac"), looks := true }, kinds := [], alts := [], laidByText := true, laidKinds := [.data, .data, .data, .data, .sentinel, .sentinel, .listed, .data, .data, .pinned], laidTests := true, laidLooks := .later }
def StepTurnsCardSaid : Prop := Claim7.holds Tryz.pinned (.plain (OpenSpec.ofChange stepTurnsSpec)) stepTurnsCard

/-- THE SECOND FORM's CARD OF 'reachlaw10.StepNexts'. -/
def stepNextsUptoCard : Claim7 := { stood := { row := stepNextsUptoRow, standIns := [], harness := (true, "dacb1f7f347b44a9da4d03f0d8b3d2785cf50124cab647a1e6e0a4a4066981ac"), looks := true }, kinds := [], alts := [], laidByText := true, laidKinds := [.data, .data, .data, .data, .sentinel, .sentinel, .listed, .data, .data, .pinned], laidTests := true, laidLooks := .later }
def StepNextsUptoCardSaid : Prop := Claim7.holds Tryz.pinned (.plain (OpenSpec.upto stepNextsSpec)) stepNextsUptoCard

/-- THE SECOND FORM's CARD OF 'reachlaw10.StepFollows'. -/
def stepFollowsUptoCard : Claim7 := { stood := { row := stepFollowsUptoRow, standIns := [], harness := (true, "dacb1f7f347b44a9da4d03f0d8b3d2785cf50124cab647a1e6e0a4a4066981ac"), looks := true }, kinds := [], alts := [], laidByText := true, laidKinds := [.data, .data, .data, .data, .sentinel, .sentinel, .listed, .data, .data, .pinned], laidTests := true, laidLooks := .later }
def StepFollowsUptoCardSaid : Prop := Claim7.holds Tryz.pinned (.plain (OpenSpec.upto stepFollowsSpec)) stepFollowsUptoCard

/-- THE SECOND FORM's CARD OF 'reachlaw10.StepPaths'. -/
def stepPathsUptoCard : Claim7 := { stood := { row := stepPathsUptoRow, standIns := [], harness := (true, "dacb1f7f347b44a9da4d03f0d8b3d2785cf50124cab647a1e6e0a4a4066981ac"), looks := true }, kinds := [], alts := [], laidByText := true, laidKinds := [.data, .data, .data, .data, .sentinel, .sentinel, .listed, .data, .data, .pinned], laidTests := true, laidLooks := .later }
def StepPathsUptoCardSaid : Prop := Claim7.holds Tryz.pinned (.plain (OpenSpec.upto stepPathsSpec)) stepPathsUptoCard

/-- THE SECOND FORM's CARD OF 'reachlaw10.StepNested'. -/
def stepNestedUptoCard : Claim7 := { stood := { row := stepNestedUptoRow, standIns := [], harness := (true, "dacb1f7f347b44a9da4d03f0d8b3d2785cf50124cab647a1e6e0a4a4066981ac"), looks := true }, kinds := [], alts := [], laidByText := true, laidKinds := [.data, .data, .data, .data, .sentinel, .sentinel, .listed, .data, .data, .pinned], laidTests := true, laidLooks := .later }
def StepNestedUptoCardSaid : Prop := Claim7.holds Tryz.pinned (.plain (OpenSpec.upto stepNestedSpec)) stepNestedUptoCard

/-- THE SECOND FORM's CARD OF 'reachlaw10.StepOwn'. -/
def stepOwnUptoCard : Claim7 := { stood := { row := stepOwnUptoRow, standIns := [], harness := (true, "dacb1f7f347b44a9da4d03f0d8b3d2785cf50124cab647a1e6e0a4a4066981ac"), looks := true }, kinds := [], alts := [], laidByText := true, laidKinds := [.data, .data, .data, .data, .sentinel, .sentinel, .listed, .data, .data, .pinned], laidTests := true, laidLooks := .later }
def StepOwnUptoCardSaid : Prop := Claim7.holds Tryz.pinned (.plain (OpenSpec.upto stepOwnSpec)) stepOwnUptoCard

/-- THE SECOND FORM's CARD OF 'reachlaw10.StepTurns'. -/
def stepTurnsUptoCard : Claim7 := { stood := { row := stepTurnsUptoRow, standIns := [], harness := (true, "dacb1f7f347b44a9da4d03f0d8b3d2785cf50124cab647a1e6e0a4a4066981ac"), looks := true }, kinds := [], alts := [], laidByText := true, laidKinds := [.data, .data, .data, .data, .sentinel, .sentinel, .listed, .data, .data, .pinned], laidTests := true, laidLooks := .later }
def StepTurnsUptoCardSaid : Prop := Claim7.holds Tryz.pinned (.plain (OpenSpec.upto stepTurnsSpec)) stepTurnsUptoCard
end Rows
end Go.Proofs.YthnamoedpnknmaaGreatDoor
