/-
  Texts joined: Ca Bw Bx Cb Cc Cd Ce Cf.
-/
import Derived.Test.YthnamoedpnknmaaGreatDoorBz
import Derived.Test.YthnamoedpnknmaaGreatDoorGu
import Derived.Test.YthnamoedpnknmaaGreatDoorBu
import Derived.Test.YthnamoedpnknmaaGreatDoorUc
set_option linter.unusedVariables false
set_option linter.unusedSimpArgs false
set_option maxRecDepth 100000
set_option maxHeartbeats 8000000
namespace Go.Proofs.YthnamoedpnknmaaGreatDoor
open Go.RowKit
theorem net_views {w:World} {n:Sp.Net} {A1 A2 A3:Option Addr} {c1 c2 c3:Nat} (hnr:NetR w n [.int .i64 n.bits,.slice A1 n.ports.length c1,.slice A2 n.tables.length c2,.slice A3 n.guards.length c3]):PV w A1 n.ports∧TTV w A2 n.tables∧GGV w A3 n.guards:=by
 obtain⟨B1,d1,B2,d2,B3,d3,hx,hv1,hv2,hv3,_⟩:=hnr;injection hx with _ hx
 injection hx with e1 hx
 injection hx with e2 hx
 injection hx with e3 hx
 injection e1 with e1 _ _
 injection e2 with e2 _ _
 injection e3 with e3 _ _
 subst e1 e2 e3;exact⟨hv1,hv2,hv3⟩
end Go.Proofs.YthnamoedpnknmaaGreatDoor
