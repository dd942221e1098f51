/-
  THE WALK of scan.Unquote, of reachref3.Unquote and of the law ScanUnquotes (chapter 3).
-/
import Derived.Test.YtpknablklencdaaGreatDoorPa
import Derived.Test.YtpknablklencdaaGreatDoorWk
import Derived.Test.YtpknablklencdaaGreatDoorWb
set_option linter.unusedVariables false
set_option linter.unusedSimpArgs false
set_option maxRecDepth 100000
set_option maxHeartbeats 4000000
namespace Go.Proofs.YtpknablklencdaaGreatDoor
open Go.RowKit

/-- A row of bytes lies in a slice of its length. -/
theorem own_slice {w : World} {B : Nat} {v : Value} {n : Nat} {xs : List Value} (h : w.ownsRowF B 5 1 v n xs) : ∃ o cap, v = .slice o n cap := by
  rcases h.2 with ⟨rfl, rfl⟩ | ⟨g, cap, cur, fz, rfl, hbg, _⟩
  · have := h.1
    simp at this
    subst this
    exact ⟨_, _, rfl⟩
  · exact ⟨_, _, rfl⟩
end Go.Proofs.YtpknablklencdaaGreatDoor
