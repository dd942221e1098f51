/-
 THE WALKS of the reference's small functions (chapter 3): bytes and characters.
-/
import Derived.Test.YtedfppbnkgffcaaGreatDoorProg
import Derived.Test.YtedfppbnkgffcaaGreatDoorPa
import Derived.WalkKit
import Derived.WalkSpells
import Derived.WalkLawsBesides
import Derived.BigGuardPart
import Derived.Lib.Hide
set_option linter.unusedVariables false
set_option linter.unusedSimpArgs false
namespace Go.Proofs.YtedfppbnkgffcaaGreatDoor
open Go.RowKit
theorem ret_bool {a b:Bool} (h:a=b):Ending.returned (.bool a)=.returned (.bool b):=by rw [h]
theorem ret_int {k:IntKind} {a b:Int} (h:a=b):Ending.returned (.int k a)=.returned (.int k b):=by rw [h]
end Go.Proofs.YtedfppbnkgffcaaGreatDoor
