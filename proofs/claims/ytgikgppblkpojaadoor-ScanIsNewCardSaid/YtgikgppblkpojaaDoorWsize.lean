/-
  THE WALKS of reachref3.size, one a class of first bytes (written by wip/gen/size.py).
-/
import Derived.Test.YtgikgppblkpojaaDoorWa
import Derived.Test.YtgikgppblkpojaaDoorPa
namespace Go.Proofs.YtgikgppblkpojaaDoor
open Go.RowKit

end Go.Proofs.YtgikgppblkpojaaDoor
