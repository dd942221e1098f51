/-
  THE WALKS of reachlaw10's num, in, has, lets (chapter 10).
-/
import Derived.Test.YtpknablklencdaaGreatDoorMs
import Derived.Deep.QuietTactic
import Derived.BigQuiet
set_option linter.unusedVariables false
set_option linter.unusedSimpArgs false
set_option maxRecDepth 100000
set_option maxHeartbeats 4000000
namespace Go.Proofs.YtpknablklencdaaGreatDoor
open Go.RowKit
theorem law10_num (e : Int) (w : World) : Calls Tryz.prog 10 #[.int .i64 e] w fun r w' => r = .returned (.int .i64 e) ∧ w' = w := by
  go_enter Tryz.func10, Tryz.ntmps10
  go_wp2
  go_ret
  exact ⟨rfl, rfl⟩
end Go.Proofs.YtpknablklencdaaGreatDoor
