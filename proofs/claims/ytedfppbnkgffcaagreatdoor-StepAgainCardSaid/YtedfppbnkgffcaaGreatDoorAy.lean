/-
 The rounds of step.Loop in plain terms: what a round keeps, and what each way out of the loop says (chapter 10; no program in sight).
-/
import Derived.Test.YtedfppbnkgffcaaGreatDoorAx
set_option linter.unusedVariables false
set_option linter.unusedSimpArgs false
namespace Go.Proofs.YtedfppbnkgffcaaGreatDoor
open Go.RowKit
namespace Sp
structure LpEnd (n:Net) (s:Nat) (h:ByteArray) (hops:Int) (p:Path):Prop where
 follow:followT n (s:Int) h p.ports=(p.header,(p.entries.length:Int),0)
 within:(p.entries.length:Int)≤hops
 twice:Twice p.ports (p.ports.length - 1)
 long:1<p.ports.length
 best:∀ q ∈ pathsV n (s:Int) h hops,∀ k,Twice q.ports k→p.entries.length≤cntIn n (q.ports.take k)
theorem beg_ok {n:Net} {s:Nat} {h:ByteArray} {hops:Int} (hc:checkE n (s:Int) h=0∧0≤hops∧hops≤64) {b:Path} (hB:BegR n s h b true):GOk n s h hops b∧∃ f,pathsV n (s:Int) h hops=walkV n hops f b:=by
 rcases hB with⟨h1,_,rfl⟩ | ⟨h1,m,r,h2,_,rfl⟩ | ⟨_,_,h3,_⟩
 ·obtain⟨a,e⟩:=begin_in hc h1;exact⟨a,_,e⟩
 ·obtain⟨a,_,e⟩:=begin_link hc h1 h2;exact⟨a,_,e⟩
 ·cases h3
theorem beg_no {n:Net} {s:Nat} {h:ByteArray} {hops:Int} {b:Path} (hB:BegR n s h b false):∀ q ∈ pathsV n (s:Int) h hops,∀ k,¬ Twice q.ports k:=by
 rcases hB with⟨_,h3,_⟩ | ⟨_,_,_,_,h3,_⟩ | ⟨_,h2,_,_⟩
 ·cases h3
 ·cases h3
 ·intro q hq k ht;obtain rfl:=begin_none h2 q hq;exact ht.not_nodup (by simp)
theorem LoopEnd.lp {n:Net} {s:Nat} {h:ByteArray} {hops:Int} {b p:Path} {f:Nat} (hf:pathsV n (s:Int) h hops=walkV n hops f b) (hl:LoopEnd n s h hops b p):LpEnd n s h hops p:=
 ⟨hl.follow,hl.within,hl.twice,hl.long,fun q hq k ht=>hl.best f q (by rw [← hf];exact hq) k ht⟩
structure RInv (n:Net) (s:Nat) (h:ByteArray) (hops:Int) (b:Path) (g:List Path) (cur:Nat) (y:Path) (pre:List Mv):Prop where
 inv:LInv n s h hops b g cur
 here:g[cur]?=some y
 lt:(y.entries.length:Int)<hops
 seen:∀ m ∈ pre,OkM g y m
theorem RInv.first {n:Net} {s:Nat} {h:ByteArray} {hops:Int} {b:Path} {g:List Path} {cur:Nat} {y:Path} (hI:LInv n s h hops b g cur) (hy:g[cur]?=some y) (hne:(y.entries.length:Int)≠hops):RInv n s h hops b g cur y []:=
 ⟨hI,hy,by have:=(hI.ok y (List.mem_of_getElem? hy)).ok.ents;omega,fun m hm=>by cases hm⟩
theorem RInv.skip {n:Net} {s:Nat} {h:ByteArray} {hops:Int} {b:Path} {g:List Path} {cur:Nat} {y:Path} {pre:List Mv} (hR:RInv n s h hops b g cur y pre) {m:Mv} (h1:m.out ∉ y.ports) (h0:m.inn<0):RInv n s h hops b g cur y (pre ++ [m]):=
 ⟨hR.inv,hR.here,hR.lt,fun m' hm'=>by
  rcases List.mem_append.1 hm' with h9 | h9
  ·exact hR.seen m' h9
  ·obtain rfl:=List.mem_singleton.1 h9
   exact⟨h1,fun h2=>by omega⟩⟩
theorem RInv.push {n:Net} (hn:NetOk n) {s:Nat} {h:ByteArray} {hops:Int} {b:Path} {g:List Path} {cur:Nat} {y:Path} {pre:List Mv} (hR:RInv n s h hops b g cur y pre) {m:Mv} (hm:m ∈ movesV n (lastP y).toNat y.header) (h1:m.out ∉ y.ports) (h0:¬ m.inn<0) (h2:m.inn ∉ (shortP y m).ports):RInv n s h hops b (g ++ [onP y m]) cur y (pre ++ [m]):=by
 have hcl:cur<g.length:=(List.getElem?_eq_some_iff.1 hR.here).1;refine⟨hR.inv.push hn hR.here hR.lt hm h1 (by omega) h2,by rw [List.getElem?_append_left hcl];exact hR.here,hR.lt,fun m' hm'=>?_⟩;rcases List.mem_append.1 hm' with h9 | h9
 ·exact (hR.seen m' h9).more _
 ·obtain rfl:=List.mem_singleton.1 h9;exact⟨h1,fun _=>⟨h2,by simp⟩⟩
theorem RInv.done {n:Net} {s:Nat} {h:ByteArray} {hops:Int} {b:Path} {g:List Path} {cur:Nat} {y:Path} (hR:RInv n s h hops b g cur y (movesV n (lastP y).toNat y.header)):LInv n s h hops b g (cur+1):=
 hR.inv.next hR.here (fun _ m hm=>hR.seen m hm)
theorem LInv.full {n:Net} {s:Nat} {h:ByteArray} {hops:Int} {b:Path} {g:List Path} {cur:Nat} (hI:LInv n s h hops b g cur) {y:Path} (hy:g[cur]?=some y) (he:(y.entries.length:Int)=hops):LInv n s h hops b g (cur+1):=
 hI.next hy (fun hlt=>by omega)
def LpR (n:Net) (s:Int) (h:ByteArray) (hops:Int) (p:Path) (ok:Bool) (e:Int):Prop:=
 (e≠0∧ok=false∧p=⟨[],[],⟨#[]⟩⟩) ∨
 (e=0∧∃ k:Nat,s=k∧(checkE n s h=0∧0≤hops∧hops≤64)∧((ok=true∧LpEnd n k h hops p)∨(ok=false∧p=⟨[],[],⟨#[]⟩⟩∧∀ q ∈ pathsV n s h hops,∀ j,¬ Twice q.ports j)))
end Sp
def LpRes (n:Sp.Net) (s:Int) (h:ByteArray) (hops:Int) (w:World) (r:Ending) (w':World):Prop:=
 ∃ v1 v2 p ok e,r=.returned (.tuple #[.agg #[v1,v2,.string p.header],.bool ok,.int .i64 e])∧InR w' w.heap.size v1 p.ports∧InR w' w.heap.size v2 p.entries∧Below w.heap.size w w'∧Sp.LpR n s h hops p ok e
end Go.Proofs.YtedfppbnkgffcaaGreatDoor
