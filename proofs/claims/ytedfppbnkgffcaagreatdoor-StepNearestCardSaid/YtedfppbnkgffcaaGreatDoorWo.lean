/-
  Texts joined: Wsize Wb Wo.
-/
import Derived.Test.YtedfppbnkgffcaaGreatDoorWa
import Derived.Test.YtedfppbnkgffcaaGreatDoorPa
import Derived.Laws.BytesString
import Derived.Deep.RegionWith
import Derived.BigQuiet
import Derived.Deep.RegionHeld3
import Derived.Test.YtedfppbnkgffcaaGreatDoorWk
set_option linter.unusedVariables false
set_option linter.unusedSimpArgs false
set_option maxRecDepth 100000
set_option maxHeartbeats 8000000
namespace Go.Proofs.YtedfppbnkgffcaaGreatDoor
open Go.RowKit
theorem own_slice {w:World} {B:Nat} {v:Value} {n:Nat} {xs:List Value} (h:w.ownsRowF B 5 1 v n xs):∃ o cap,v=.slice o n cap:=by
 rcases h.2 with⟨rfl,rfl⟩ | ⟨g,cap,cur,fz,rfl,hbg,_⟩
 ·have:=h.1;simp at this;subst this;exact⟨_,_,rfl⟩
 ·exact⟨_,_,rfl⟩
end Go.Proofs.YtedfppbnkgffcaaGreatDoor
