/-
 THE WALK of reachlaw10.within; THE LAW StepOff (chapter 10).
-/
import Derived.Test.YtedfppbnkgffcaaGreatDoorAi
import Derived.Test.YtedfppbnkgffcaaGreatDoorAe
import Derived.Test.YtedfppbnkgffcaaGreatDoorHb
import Derived.Test.YtedfppbnkgffcaaGreatDoorUc
set_option linter.unusedVariables false
set_option linter.unusedSimpArgs false
set_option maxRecDepth 100000
set_option maxHeartbeats 8000000
namespace Go.Proofs.YtedfppbnkgffcaaGreatDoor
open Go.RowKit
def Sp.withinV (k most:Int):Int:=if k<0 then 0 else if most<k then most else k
theorem law10_within (k most:Int) (w:World):Calls Tryz.prog 11 #[.int .i64 k,.int .i64 most] w fun e w'=>e=.returned (.int .i64 (Sp.withinV k most))∧w'=w:=by
 by_cases h1:k<0
 ·have t1:decide (k<0)=true:=decide_eq_true h1;have HV:=Lib.hid (show Sp.withinV k most=0 by unfold Sp.withinV;rw [if_pos h1]);clear h1;go_enter Tryz.func11,Tryz.ntmps11;go_wp2;go_ret;exact⟨by rw [HV.out];rfl,rfl⟩
 ·have t1:decide (k<0)=false:=decide_eq_false h1;by_cases h2:most<k
  ·have t2:decide (k > most)=true:=decide_eq_true h2;have HV:=Lib.hid (show Sp.withinV k most=most by unfold Sp.withinV;rw [if_neg h1,if_pos h2]);clear h1 h2;go_enter Tryz.func11,Tryz.ntmps11;go_wp2;go_ret;exact⟨by rw [HV.out];rfl,rfl⟩
  ·have t2:decide (k > most)=false:=decide_eq_false h2;have HV:=Lib.hid (show Sp.withinV k most=k by unfold Sp.withinV;rw [if_neg h1,if_neg h2]);clear h1 h2;go_enter Tryz.func11,Tryz.ntmps11;go_wp2;go_ret;exact⟨by rw [HV.out];rfl,rfl⟩
end Go.Proofs.YtedfppbnkgffcaaGreatDoor
