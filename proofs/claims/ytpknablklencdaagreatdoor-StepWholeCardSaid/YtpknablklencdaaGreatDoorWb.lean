/-
  Texts joined: Wb Wc Wd We Wf.
-/
import Derived.Test.YtpknablklencdaaGreatDoorWsize
import Derived.Test.YtpknablklencdaaGreatDoorPa
import Derived.Laws.BytesString
import Derived.Deep.RegionWith
import Derived.BigQuiet
import Derived.Deep.RegionHeld3

/-
  THE WALKS of the reference's escapes (chapter 3).
-/
set_option linter.unusedVariables false
set_option linter.unusedSimpArgs false
set_option maxRecDepth 100000
set_option maxHeartbeats 1000000
namespace Go.Proofs.YtpknablklencdaaGreatDoor
open Go.RowKit

end Go.Proofs.YtpknablklencdaaGreatDoor

/-
  THE WALK of reachref3.braced (chapter 3).
-/
set_option linter.unusedVariables false
set_option linter.unusedSimpArgs false
set_option maxRecDepth 100000
set_option maxHeartbeats 2000000
namespace Go.Proofs.YtpknablklencdaaGreatDoor
open Go.RowKit

end Go.Proofs.YtpknablklencdaaGreatDoor

/-
  THE WALK of reachref3.escape (chapter 3).
-/
set_option linter.unusedVariables false
set_option linter.unusedSimpArgs false
set_option maxRecDepth 100000
set_option maxHeartbeats 2000000
namespace Go.Proofs.YtpknablklencdaaGreatDoor
open Go.RowKit

end Go.Proofs.YtpknablklencdaaGreatDoor

/-
  THE WALK of reachref3.escape: the x piece (chapter 3).
-/
set_option linter.unusedVariables false
set_option linter.unusedSimpArgs false
set_option maxRecDepth 100000
set_option maxHeartbeats 2000000
namespace Go.Proofs.YtpknablklencdaaGreatDoor
open Go.RowKit

end Go.Proofs.YtpknablklencdaaGreatDoor

/-
  THE WALK of reachref3.inside (chapter 3).
-/
set_option linter.unusedVariables false
set_option linter.unusedSimpArgs false
set_option maxRecDepth 100000
set_option maxHeartbeats 2000000
namespace Go.Proofs.YtpknablklencdaaGreatDoor
open Go.RowKit

end Go.Proofs.YtpknablklencdaaGreatDoor
