/-
  THE WALKS of reachref3.size, one a class of first bytes (written by wip/gen/size.py).
-/
import Derived.Test.YthjenkbgiomibaaGreatDoorWa
import Derived.Test.YthjenkbgiomibaaGreatDoorPa
namespace Go.Proofs.YthjenkbgiomibaaGreatDoor
open Go.RowKit

end Go.Proofs.YthjenkbgiomibaaGreatDoor
