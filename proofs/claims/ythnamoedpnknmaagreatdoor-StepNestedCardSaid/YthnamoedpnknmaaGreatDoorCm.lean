/-
 THE WALKS of reachlaw10's path, paths on equal paths (chapter 10).
-/
import Derived.Test.YthnamoedpnknmaaGreatDoorCl
set_option linter.unusedVariables false
set_option linter.unusedSimpArgs false
set_option maxRecDepth 100000
set_option maxHeartbeats 8000000
namespace Go.Proofs.YthnamoedpnknmaaGreatDoor
open Go.RowKit
def PthV (W:World) (p:Sp.Path) (cs:List Value):Prop:=∃ A c B d,cs=[.slice A p.ports.length c,.slice B p.entries.length d,.string p.header]∧IV W A p.ports∧IV W B p.entries
theorem PthV.more {W W':World} {p:Sp.Path} {cs:List Value} (h:PthV W p cs) (hb:Below W.heap.size W W'):PthV W' p cs:=by
 obtain⟨A,c,B,d,e,h1,h2⟩:=h;exact⟨A,c,B,d,e,h1.more hb,h2.more hb⟩
theorem PathO.view {W:World} {p:Sp.Path} {cs:List Value} (h:PathO W p cs):PthV W p cs:=by
 obtain⟨v1,v2,rfl,h1,h2⟩:=h;obtain⟨A,c,rfl,_,i1⟩:=in_view h1;obtain⟨B,d,rfl,_,i2⟩:=in_view h2;exact⟨A,c,B,d,rfl,i1,i2⟩
end Go.Proofs.YthnamoedpnknmaaGreatDoor
