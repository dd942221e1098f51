/-
 The results of a function that stand in cells: a path and a flag; a path, a flag and a number (step.begin; step.Loop, step.Reach).
-/
import Derived.Test.YtedfppbnkgffcaaGreatDoorAq
set_option linter.unusedVariables false
set_option linter.unusedSimpArgs false
set_option maxRecDepth 100000
set_option maxHeartbeats 4000000
namespace Go.Proofs.YtedfppbnkgffcaaGreatDoor
open Go.RowKit
theorem run_loadVar_plain {P:Program} {ty:TypeId} {w:World} {g:Nat} {v:Value} (hg:w.cell? ⟨g,0,none⟩=some v) (ha:(isAgg ty).run P w=.ok false w):(loadVar ty ⟨g,0,none⟩).run P w=.ok v w:=by
 simp [loadVar,Sem.run_bind,ha,hg,go_sem]
theorem results_pb {P:Program} {fn:Func} {p q:Tmp} {ty tb:TypeId} (h:fn.results=#[.cell p ty,.cell q tb]) (tmps:Array Value) (w:World) (g g':Nat) (t:TypeId) (cs:Array Value) (v:Value) (d:TypeDesc)
  (hp:tmps.getD p undef=.pointer (some ⟨g,0,none⟩)) (hq:tmps.getD q undef=.pointer (some ⟨g',0,none⟩)) (hg:w.heap[g]?=some (.cells cs t (0,0))) (hg':w.cell? ⟨g',0,none⟩=some v)
  (hu:P.underlying ty=some d) (hd:(match d with | .struct _ | .array _ _=>true | _=>false)=true) (hi:(P.info? ty).map (·.size)=some cs.size) (ha:(isAgg tb).run P w=.ok false w):
  (results fn tmps).run P w=.ok (.tuple #[.agg cs,v]) w:=by
 have hp':tmps[p]?.getD undef=.pointer (some ⟨g,0,none⟩):=by simpa using hp
 have hq':tmps[q]?.getD undef=.pointer (some ⟨g',0,none⟩):=by simpa using hq
 simp [results,h,hp',hq',asAddr,run_loadVar_row w g t ty cs (0,0) d hg hu hd hi,run_loadVar_plain hg' ha,Sem.run_bind,Result.andThen]
theorem results_pbe {P:Program} {fn:Func} {p q r:Tmp} {ty tb te:TypeId} (h:fn.results=#[.cell p ty,.cell q tb,.cell r te]) (tmps:Array Value) (w:World) (g g' g2:Nat) (t:TypeId) (cs:Array Value) (v u:Value) (d:TypeDesc)
  (hp:tmps.getD p undef=.pointer (some ⟨g,0,none⟩)) (hq:tmps.getD q undef=.pointer (some ⟨g',0,none⟩)) (hr:tmps.getD r undef=.pointer (some ⟨g2,0,none⟩)) (hg:w.heap[g]?=some (.cells cs t (0,0))) (hg':w.cell? ⟨g',0,none⟩=some v) (hg2:w.cell? ⟨g2,0,none⟩=some u)
  (hu:P.underlying ty=some d) (hd:(match d with | .struct _ | .array _ _=>true | _=>false)=true) (hi:(P.info? ty).map (·.size)=some cs.size) (ha:(isAgg tb).run P w=.ok false w) (he:(isAgg te).run P w=.ok false w):
  (results fn tmps).run P w=.ok (.tuple #[.agg cs,v,u]) w:=by
 have hp':tmps[p]?.getD undef=.pointer (some ⟨g,0,none⟩):=by simpa using hp
 have hq':tmps[q]?.getD undef=.pointer (some ⟨g',0,none⟩):=by simpa using hq
 have hr':tmps[r]?.getD undef=.pointer (some ⟨g2,0,none⟩):=by simpa using hr
 simp [results,h,hp',hq',hr',asAddr,run_loadVar_row w g t ty cs (0,0) d hg hu hd hi,run_loadVar_plain hg' ha,run_loadVar_plain hg2 he,Sem.run_bind,Result.andThen]
def Sp.BegR (n:Sp.Net) (s:Nat) (h:ByteArray) (p:Sp.Path) (ok:Bool):Prop:=
 (Sp.portIn n s=true∧ok=true∧p=⟨[(s:Int)],[],h⟩)∨(Sp.portIn n s=false∧∃ m r,Sp.movesV n s h=m :: r∧ok=true∧p=Sp.onP ⟨[(s:Int)],[],h⟩ m)∨(Sp.portIn n s=false∧Sp.movesV n s h=[]∧ok=false∧p=⟨[(s:Int)],[],h⟩)
def BegEnd (n:Sp.Net) (s:Nat) (h:ByteArray) (w:World) (e:Ending) (w':World):Prop:=
 ∃ v1 v2 p ok,e=.returned (.tuple #[.agg #[v1,v2,.string p.header],.bool ok])∧InR w' w.heap.size v1 p.ports∧InR w' w.heap.size v2 p.entries∧Below w.heap.size w w'∧Sp.BegR n s h p ok
end Go.Proofs.YtedfppbnkgffcaaGreatDoor
