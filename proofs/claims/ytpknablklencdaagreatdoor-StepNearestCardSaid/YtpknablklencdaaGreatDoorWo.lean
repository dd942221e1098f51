/-
  Texts joined: Wsize Wb Wo.
-/
import Derived.Test.YtpknablklencdaaGreatDoorWa
import Derived.Test.YtpknablklencdaaGreatDoorPa
import Derived.Laws.BytesString
import Derived.Deep.RegionWith
import Derived.BigQuiet
import Derived.Deep.RegionHeld3
import Derived.Test.YtpknablklencdaaGreatDoorWk

namespace Go.Proofs.YtpknablklencdaaGreatDoor
open Go.RowKit

end Go.Proofs.YtpknablklencdaaGreatDoor


/-
  THE WALKS of the reference's escapes (chapter 3).
-/
set_option linter.unusedVariables false
set_option linter.unusedSimpArgs false
set_option maxRecDepth 100000
set_option maxHeartbeats 1000000
namespace Go.Proofs.YtpknablklencdaaGreatDoor
open Go.RowKit

end Go.Proofs.YtpknablklencdaaGreatDoor

/-
  THE WALK of reachref3.braced (chapter 3).
-/
set_option linter.unusedVariables false
set_option linter.unusedSimpArgs false
set_option maxRecDepth 100000
set_option maxHeartbeats 8000000
namespace Go.Proofs.YtpknablklencdaaGreatDoor
open Go.RowKit

end Go.Proofs.YtpknablklencdaaGreatDoor

/-
  THE WALK of reachref3.escape (chapter 3).
-/
set_option linter.unusedVariables false
set_option linter.unusedSimpArgs false
set_option maxRecDepth 100000
set_option maxHeartbeats 8000000
namespace Go.Proofs.YtpknablklencdaaGreatDoor
open Go.RowKit

end Go.Proofs.YtpknablklencdaaGreatDoor

/-
  THE WALK of reachref3.escape: the x piece (chapter 3).
-/
set_option linter.unusedVariables false
set_option linter.unusedSimpArgs false
set_option maxRecDepth 100000
set_option maxHeartbeats 8000000
namespace Go.Proofs.YtpknablklencdaaGreatDoor
open Go.RowKit

end Go.Proofs.YtpknablklencdaaGreatDoor

/-
  THE WALK of reachref3.inside (chapter 3).
-/
set_option linter.unusedVariables false
set_option linter.unusedSimpArgs false
set_option maxRecDepth 100000
set_option maxHeartbeats 8000000
namespace Go.Proofs.YtpknablklencdaaGreatDoor
open Go.RowKit

end Go.Proofs.YtpknablklencdaaGreatDoor

set_option linter.unusedVariables false
set_option linter.unusedSimpArgs false
set_option maxRecDepth 100000
set_option maxHeartbeats 4000000
namespace Go.Proofs.YtpknablklencdaaGreatDoor
open Go.RowKit

/-- A row of bytes lies in a slice of its length. -/
theorem own_slice {w : World} {B : Nat} {v : Value} {n : Nat} {xs : List Value} (h : w.ownsRowF B 5 1 v n xs) : ∃ o cap, v = .slice o n cap := by
  rcases h.2 with ⟨rfl, rfl⟩ | ⟨g, cap, cur, fz, rfl, hbg, _⟩
  · have := h.1
    simp at this
    subst this
    exact ⟨_, _, rfl⟩
  · exact ⟨_, _, rfl⟩
end Go.Proofs.YtpknablklencdaaGreatDoor
