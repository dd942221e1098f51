/-
 THE WALK of step.Follow (chapter 10): a loop over ports; in each round a loop over the iterator of moves.
-/
import Derived.Test.YthnamoedpnknmaaGreatDoorAe
import Derived.Test.YthnamoedpnknmaaGreatDoorMw
import Derived.BigRegionIn
set_option linter.unusedVariables false
set_option linter.unusedSimpArgs false
set_option maxRecDepth 100000
set_option maxHeartbeats 8000000
namespace Go.Proofs.YthnamoedpnknmaaGreatDoor
open Go.RowKit
attribute [local go_sem] Oper.semAt_some
end Go.Proofs.YthnamoedpnknmaaGreatDoor
