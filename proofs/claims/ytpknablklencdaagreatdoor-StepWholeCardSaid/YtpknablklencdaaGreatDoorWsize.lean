/-
  THE WALKS of reachref3.size, one a class of first bytes (written by wip/gen/size.py).
-/
import Derived.Test.YtpknablklencdaaGreatDoorWa
import Derived.Test.YtpknablklencdaaGreatDoorPa
namespace Go.Proofs.YtpknablklencdaaGreatDoor
open Go.RowKit

end Go.Proofs.YtpknablklencdaaGreatDoor
