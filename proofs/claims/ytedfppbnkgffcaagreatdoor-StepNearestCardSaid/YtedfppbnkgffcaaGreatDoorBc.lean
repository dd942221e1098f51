/-
 The nearest path of a packet to a port: breadth first over states, as a plain machine; what it finds is nearest (chapter 10; no program in sight).
-/
import Derived.Test.YtedfppbnkgffcaaGreatDoorAn
set_option linter.unusedVariables false
set_option linter.unusedSimpArgs false
namespace Go.Proofs.YtedfppbnkgffcaaGreatDoor
open Go.RowKit
namespace Sp
inductive RRes where
 | found (p:Path)
 | budget
 | none
structure BSt where
 g:List Path
 cur:Nat
 ms:Option (List Mv)
def stP (p:Path):Int × ByteArray:=(lastP p,p.header)
def Came (g:List Path) (z:Path):Prop:=∃ x ∈ g,stP x=stP z
open Classical in
noncomputable def bstep (n:Net) (tp hops:Int) (s:BSt):RRes ⊕ BSt:=
 match s.ms,s.g[s.cur]? with
 | Option.none,Option.none=>.inl .none
 | Option.none,some y=>if (y.entries.length:Int)=hops then .inr ⟨s.g,s.cur+1,Option.none⟩ else .inr ⟨s.g,s.cur,some (movesV n (lastP y).toNat y.header)⟩
 | some [],_=>.inr ⟨s.g,s.cur+1,Option.none⟩
 | some (m :: r),Option.none=>.inl .none
 | some (m :: r),some y=>
  if m.out=tp then .inl (.found (shortP y m)) else if m.inn=tp then .inl (.found (onP y m))
  else if m.inn<0∨Came s.g (onP y m) then .inr ⟨s.g,s.cur,some r⟩
  else if s.g.length=4096 then .inl .budget else .inr ⟨s.g ++ [onP y m],s.cur,some r⟩
noncomputable def bRun (n:Net) (tp hops:Int):Nat→BSt→Option RRes
 | 0,_=>Option.none
 | f+1,s=>match bstep n tp hops s with
  | .inl r=>some r
  | .inr s'=>bRun n tp hops f s'
def Bfs (n:Net) (tp hops:Int) (s:BSt) (r:RRes):Prop:=∃ f,bRun n tp hops f s=some r
theorem Bfs.stop {n:Net} {tp hops:Int} {s:BSt} {r:RRes} (h:bstep n tp hops s=.inl r):Bfs n tp hops s r:=⟨1,by rw [bRun,h]⟩
theorem Bfs.on {n:Net} {tp hops:Int} {s s':BSt} {r:RRes} (h:bstep n tp hops s=.inr s') (k:Bfs n tp hops s' r):Bfs n tp hops s r:=by
 obtain⟨f,hf⟩:=k;exact⟨f+1,by rw [bRun,h];exact hf⟩
theorem bRun_det {n:Net} {tp hops:Int}:∀ (f f':Nat) (s:BSt) (r r':RRes),bRun n tp hops f s=some r→bRun n tp hops f' s=some r'→r=r'
 | 0,_,_,_,_,h,_=>by rw [bRun] at h;cases h
 | _+1,0,_,_,_,_,h=>by rw [bRun] at h;cases h
 | f+1,f'+1,s,r,r',h,h'=>by
  rw [bRun] at h h'
  cases hs:bstep n tp hops s with
  | inl x=>rw [hs] at h h';simp only [Option.some.injEq] at h h';rw [← h,← h']
  | inr x=>rw [hs] at h h';exact bRun_det f f' x r r' h h'
theorem Bfs.det {n:Net} {tp hops:Int} {s:BSt} {r r':RRes} (h:Bfs n tp hops s r) (h':Bfs n tp hops s r'):r=r':=by
 obtain⟨f,hf⟩:=h;obtain⟨f',hf'⟩:=h';exact bRun_det f f' s r r' hf hf'
theorem bstep_end {n:Net} {tp hops:Int} {g:List Path} {cur:Nat} (h:g[cur]?=Option.none):bstep n tp hops ⟨g,cur,Option.none⟩=.inl .none:=by simp only [bstep,h]
theorem bstep_full {n:Net} {tp hops:Int} {g:List Path} {cur:Nat} {y:Path} (h:g[cur]?=some y) (he:(y.entries.length:Int)=hops):bstep n tp hops ⟨g,cur,Option.none⟩=.inr ⟨g,cur+1,Option.none⟩:=by simp only [bstep,h,if_pos he]
theorem bstep_go {n:Net} {tp hops:Int} {g:List Path} {cur:Nat} {y:Path} (h:g[cur]?=some y) (he:(y.entries.length:Int)≠hops):bstep n tp hops ⟨g,cur,Option.none⟩=.inr ⟨g,cur,some (movesV n (lastP y).toNat y.header)⟩:=by simp only [bstep,h,if_neg he]
theorem bstep_next {n:Net} {tp hops:Int} {g:List Path} {cur:Nat}:bstep n tp hops ⟨g,cur,some []⟩=.inr ⟨g,cur+1,Option.none⟩:=by
 unfold bstep;rfl
theorem bstep_short {n:Net} {tp hops:Int} {g:List Path} {cur:Nat} {y:Path} {m:Mv} {r:List Mv} (h:g[cur]?=some y) (h1:m.out=tp):bstep n tp hops ⟨g,cur,some (m :: r)⟩=.inl (.found (shortP y m)):=by simp only [bstep,h,if_pos h1]
theorem bstep_whole {n:Net} {tp hops:Int} {g:List Path} {cur:Nat} {y:Path} {m:Mv} {r:List Mv} (h:g[cur]?=some y) (h1:m.out≠tp) (h2:m.inn=tp):bstep n tp hops ⟨g,cur,some (m :: r)⟩=.inl (.found (onP y m)):=by simp only [bstep,h,if_neg h1,if_pos h2]
theorem bstep_skip {n:Net} {tp hops:Int} {g:List Path} {cur:Nat} {y:Path} {m:Mv} {r:List Mv} (h:g[cur]?=some y) (h1:m.out≠tp) (h2:m.inn≠tp) (h3:m.inn<0∨Came g (onP y m)):bstep n tp hops ⟨g,cur,some (m :: r)⟩=.inr ⟨g,cur,some r⟩:=by simp only [bstep,h,if_neg h1,if_neg h2,if_pos h3]
theorem bstep_budget {n:Net} {tp hops:Int} {g:List Path} {cur:Nat} {y:Path} {m:Mv} {r:List Mv} (h:g[cur]?=some y) (h1:m.out≠tp) (h2:m.inn≠tp) (h3:¬ (m.inn<0∨Came g (onP y m))) (h4:g.length=4096):bstep n tp hops ⟨g,cur,some (m :: r)⟩=.inl .budget:=by simp only [bstep,h,if_neg h1,if_neg h2,if_neg h3,if_pos h4]
theorem bstep_push {n:Net} {tp hops:Int} {g:List Path} {cur:Nat} {y:Path} {m:Mv} {r:List Mv} (h:g[cur]?=some y) (h1:m.out≠tp) (h2:m.inn≠tp) (h3:¬ (m.inn<0∨Came g (onP y m))) (h4:g.length≠4096):bstep n tp hops ⟨g,cur,some (m :: r)⟩=.inr ⟨g ++ [onP y m],cur,some r⟩:=by simp only [bstep,h,if_neg h1,if_neg h2,if_neg h3,if_neg h4]
structure NOk (n:Net) (s:Nat) (h:ByteArray) (tp hops:Int) (x:Path):Prop where
 ok:POk n hops x
 reached:Reached n s h x
 inn:portIn n (lastP x).toNat=true
 no:tp ∉ x.ports
 cnt:cntIn n x.ports=x.entries.length+1
theorem NOk.move {n:Net} (hn:NetOk n) {s:Nat} {h:ByteArray} {tp hops:Int} {x:Path} (hx:NOk n s h tp hops x) {m:Mv} (hm:m ∈ movesV n (lastP x).toNat x.header):MvIn n (lastP x).toNat x.header m:=by
 obtain⟨q,hq,hqi⟩:=hx.ok.port;exact mvIn_of hn hq (by rw [← hqi];exact hx.inn) hm
theorem NOk.go {n:Net} {s:Nat} {h:ByteArray} {tp hops:Int} {x:Path} (hx:NOk n s h tp hops x) (hlt:(x.entries.length:Int)<hops) {m:Mv} (hm:m ∈ movesV n (lastP x).toNat x.header):leafB n hops x=false:=by
 unfold leafB;rw [hx.inn,if_neg (by simp),Bool.or_eq_false_iff];refine⟨?_,decide_eq_false (by omega)⟩
 cases hM:movesV n (lastP x).toNat x.header with
 | nil=>rw [hM] at hm;cases hm
 | cons _ _=>rfl
theorem NOk.next {n:Net} (hn:NetOk n) {s:Nat} {h:ByteArray} {tp hops:Int} {x:Path} (hx:NOk n s h tp hops x) (hlt:(x.entries.length:Int)<hops) {m:Mv} (hm:m ∈ movesV n (lastP x).toNat x.header) (h1:m.out≠tp) (h0:0≤m.inn) (h2:m.inn≠tp):NOk n s h tp hops (onP x m):=by
 have hM:=hx.move hn hm;obtain⟨q,hq,hqi⟩:=hx.ok.port;have hI:=inAt_inn hn hM h0;refine⟨(hx.ok.next hn (hx.go hlt hm) hm).1,hx.reached.next hn hq hm,?_,?_,?_⟩
 ·rw [lastP_on,if_pos h0];exact hI.2
 ·rw [onP_ports hM.out h0];intro e;rcases List.mem_append.1 e with e | e
  ·rcases List.mem_append.1 e with e | e
   ·exact hx.no e
   ·exact h1 (List.mem_singleton.1 e).symm
  ·exact h2 (List.mem_singleton.1 e).symm
 ·rw [onP_ports hM.out h0,cntIn_append,cntIn_append,hx.cnt,on_ents hM.entry];unfold cntIn;rw [List.filter_cons_of_neg (by rw [inAt_out hM];simp),List.filter_cons_of_pos hI.1];simp
def OkN (tp:Int) (g:List Path) (x:Path) (m:Mv):Prop:=m.out≠tp∧m.inn≠tp∧(0≤m.inn→∃ z ∈ g,stP z=stP (onP x m)∧z.entries.length≤x.entries.length+1)
def DoneN (n:Net) (tp hops:Int) (g:List Path) (x:Path):Prop:=(x.entries.length:Int)<hops→∀ m ∈ movesV n (lastP x).toNat x.header,OkN tp g x m
theorem OkN.more {tp:Int} {g:List Path} {x:Path} {m:Mv} (h:OkN tp g x m) (r:List Path):OkN tp (g ++ r) x m:=⟨h.1,h.2.1,fun h0=>by
 obtain⟨z,hz,h1⟩:=h.2.2 h0
 exact⟨z,List.mem_append_left _ hz,h1⟩⟩
structure NInv (n:Net) (s:Nat) (h:ByteArray) (tp hops:Int) (b:Path) (g:List Path) (cur:Nat):Prop where
 start:b ∈ g
 ok:∀ x ∈ g,NOk n s h tp hops x
 sorted:∀ (i j:Nat) (x y:Path),i≤j→g[i]?=some x→g[j]?=some y→x.entries.length≤y.entries.length
 top:∀ y,g[cur]?=some y→∀ x ∈ g,x.entries.length≤y.entries.length+1
 done:∀ (i:Nat) (x:Path),i<cur→g[i]?=some x→DoneN n tp hops g x
 len:g.length≤4096
theorem NInv.first {n:Net} {s:Nat} {h:ByteArray} {tp hops:Int} {b:Path} (hb:NOk n s h tp hops b):NInv n s h tp hops b [b] 0:=by
 refine⟨List.mem_singleton.2 rfl,fun x hx=>?_,fun i j x y _ hi hj=>?_,fun y hy x hx=>?_,fun i x hi=>by omega,by simp⟩
 ·obtain rfl:=List.mem_singleton.1 hx;exact hb
 ·obtain rfl:=List.mem_singleton.1 (List.mem_of_getElem? hi);obtain rfl:=List.mem_singleton.1 (List.mem_of_getElem? hj);exact Nat.le_refl _
 ·obtain rfl:=List.mem_singleton.1 hx;obtain rfl:=List.mem_singleton.1 (List.mem_of_getElem? hy);omega
theorem NInv.next {n:Net} {s:Nat} {h:ByteArray} {tp hops:Int} {b:Path} {g:List Path} {cur:Nat} (hI:NInv n s h tp hops b g cur) {y:Path} (hy:g[cur]?=some y) (hd:DoneN n tp hops g y):NInv n s h tp hops b g (cur+1):=by
 refine⟨hI.start,hI.ok,hI.sorted,fun z hz x hx=>?_,fun i x hi hx=>?_,hI.len⟩
 ·have h1:=hI.top y hy x hx;have h2:=hI.sorted cur (cur+1) y z (by omega) hy hz;omega
 ·rcases Nat.lt_or_ge i cur with h9 | h9
  ·exact hI.done i x h9 hx
  ·obtain rfl:i=cur:=by omega
   rw [hy] at hx;(obtain rfl:y=x:=by simpa using hx);exact hd
theorem NInv.push {n:Net} (hn:NetOk n) {s:Nat} {h:ByteArray} {tp hops:Int} {b:Path} {g:List Path} {cur:Nat} (hI:NInv n s h tp hops b g cur) {y:Path} (hy:g[cur]?=some y) (hlt:(y.entries.length:Int)<hops) {m:Mv} (hm:m ∈ movesV n (lastP y).toNat y.header) (h1:m.out≠tp) (h0:0≤m.inn) (h2:m.inn≠tp) (hl:g.length≠4096):NInv n s h tp hops b (g ++ [onP y m]) cur:=by
 have hcl:cur<g.length:=(List.getElem?_eq_some_iff.1 hy).1;have hG:=hI.ok y (List.mem_of_getElem? hy);have he:=on_ents (x:=y) (hG.move hn hm).entry
 have hold:∀ (i:Nat) (x:Path),(g ++ [onP y m])[i]?=some x→(i<g.length∧g[i]?=some x)∨(i=g.length∧x=onP y m):=fun i x hx=>by
  rcases Nat.lt_or_ge i g.length with h9 | h9
  ·rw [List.getElem?_append_left h9] at hx;exact .inl ⟨h9,hx⟩
  ·rw [List.getElem?_append_right h9] at hx
   have h8:i - g.length=0:=by
    rcases Nat.eq_zero_or_pos (i - g.length) with e | e
    ·exact e
    ·rw [List.getElem?_eq_none (by simp only [List.length_singleton];omega)] at hx;cases hx
   rw [h8] at hx;exact .inr ⟨by omega,by simpa using hx.symm⟩
 refine⟨List.mem_append_left _ hI.start,fun x hx=>?_,fun i j x z hij hi hj=>?_,fun z hz x hx=>?_,fun i x hi hx hl m' hm'=>?_,by rw [List.length_append,List.length_singleton];have:=hI.len;omega⟩
 ·rcases List.mem_append.1 hx with h9 | h9
  ·exact hI.ok x h9
  ·obtain rfl:=List.mem_singleton.1 h9;exact hG.next hn hlt hm h1 h0 h2
 ·rcases hold i x hi with⟨a1,a2⟩ | ⟨a1,rfl⟩ <;> rcases hold j z hj with⟨b1,b2⟩ | ⟨b1,rfl⟩
  ·exact hI.sorted i j x z hij a2 b2
  ·rw [he];exact hI.top y hy x (List.mem_of_getElem? a2)
  ·omega
  ·exact Nat.le_refl _
 ·rw [List.getElem?_append_left hcl,hy] at hz;obtain rfl:y=z:=by simpa using hz
  rcases List.mem_append.1 hx with h9 | h9
  ·exact hI.top y hy x h9
  ·obtain rfl:=List.mem_singleton.1 h9;omega
 ·rw [List.getElem?_append_left (by omega)] at hx;exact (hI.done i x hi hx hl m' hm').more _
structure RN (n:Net) (s:Nat) (h:ByteArray) (tp hops:Int) (b:Path) (g:List Path) (cur:Nat) (y:Path) (pre:List Mv):Prop where
 inv:NInv n s h tp hops b g cur
 here:g[cur]?=some y
 lt:(y.entries.length:Int)<hops
 seen:∀ m ∈ pre,OkN tp g y m
theorem RN.first {n:Net} {s:Nat} {h:ByteArray} {tp hops:Int} {b:Path} {g:List Path} {cur:Nat} {y:Path} (hI:NInv n s h tp hops b g cur) (hy:g[cur]?=some y) (hne:(y.entries.length:Int)≠hops):RN n s h tp hops b g cur y []:=
 ⟨hI,hy,by have:=(hI.ok y (List.mem_of_getElem? hy)).ok.ents;omega,fun m hm=>by cases hm⟩
theorem RN.skip {n:Net} {s:Nat} {h:ByteArray} {tp hops:Int} {b:Path} {g:List Path} {cur:Nat} {y:Path} {pre:List Mv} (hR:RN n s h tp hops b g cur y pre) {m:Mv} (h1:m.out≠tp) (h2:m.inn≠tp) (h0:m.inn<0∨Came g (onP y m)):RN n s h tp hops b g cur y (pre ++ [m]):=
 ⟨hR.inv,hR.here,hR.lt,fun m' hm'=>by
  rcases List.mem_append.1 hm' with h9 | h9
  ·exact hR.seen m' h9
  ·obtain rfl:=List.mem_singleton.1 h9;refine⟨h1,h2,fun h3=>?_⟩;rcases h0 with h0 | ⟨z,hz,he⟩
   ·omega
   ·exact⟨z,hz,he,hR.inv.top y hR.here z hz⟩⟩
theorem RN.push {n:Net} (hn:NetOk n) {s:Nat} {h:ByteArray} {tp hops:Int} {b:Path} {g:List Path} {cur:Nat} {y:Path} {pre:List Mv} (hR:RN n s h tp hops b g cur y pre) {m:Mv} (hm:m ∈ movesV n (lastP y).toNat y.header) (h1:m.out≠tp) (h0:0≤m.inn) (h2:m.inn≠tp) (hl:g.length≠4096):RN n s h tp hops b (g ++ [onP y m]) cur y (pre ++ [m]):=by
 have hcl:cur<g.length:=(List.getElem?_eq_some_iff.1 hR.here).1;have he:=on_ents (x:=y) ((hR.inv.ok y (List.mem_of_getElem? hR.here)).move hn hm).entry;refine⟨hR.inv.push hn hR.here hR.lt hm h1 h0 h2 hl,by rw [List.getElem?_append_left hcl];exact hR.here,hR.lt,fun m' hm'=>?_⟩;rcases List.mem_append.1 hm' with h9 | h9
 ·exact (hR.seen m' h9).more _
 ·obtain rfl:=List.mem_singleton.1 h9;exact⟨h1,h2,fun _=>⟨onP y m',by simp,rfl,by omega⟩⟩
theorem RN.done {n:Net} {s:Nat} {h:ByteArray} {tp hops:Int} {b:Path} {g:List Path} {cur:Nat} {y:Path} (hR:RN n s h tp hops b g cur y (movesV n (lastP y).toNat y.header)):NInv n s h tp hops b g (cur+1):=
 hR.inv.next hR.here (fun _ m hm=>hR.seen m hm)
theorem NInv.full {n:Net} {s:Nat} {h:ByteArray} {tp hops:Int} {b:Path} {g:List Path} {cur:Nat} (hI:NInv n s h tp hops b g cur) {y:Path} (hy:g[cur]?=some y) (he:(y.entries.length:Int)=hops):NInv n s h tp hops b g (cur+1):=
 hI.next hy (fun hlt=>by omega)
theorem walk_near {n:Net} (hn:NetOk n) {s:Nat} {h:ByteArray} {tp hops:Int} {g:List Path} (hg:∀ x ∈ g,NOk n s h tp hops x) {E:Nat} (hd:∀ x ∈ g,x.entries.length<E→DoneN n tp hops g x):∀ (f:Nat) (z x:Path),x ∈ g→NOk n s h tp hops z→stP x=stP z→x.entries.length≤z.entries.length→∀ q ∈ walkV n hops f z,∀ k:Nat,q.ports[k]?=some tp→E+1≤cntIn n (q.ports.take k)
 | 0,z,x,hx,hz,_,_,q,hq,k,ht=>by
  rw [walkV] at hq;obtain rfl:q=z:=by simpa using hq
  exact absurd (List.mem_of_getElem? ht) hz.no
 | f+1,z,x,hx,hz,hst,hle,q,hq,k,ht=>by
  rcases Nat.lt_or_ge z.entries.length E with h9 | h9
  ·cases hl:leafB n hops z with
   | true=>
    rw [walkV_leaf hl] at hq;(obtain rfl:q=z:=by simpa using hq);exact absurd (List.mem_of_getElem? ht) hz.no
   | false=>
    rw [walkV_on hl] at hq;obtain⟨m,hm,hq⟩:=List.mem_flatMap.1 hq
    have hlt:(z.entries.length:Int)<hops:=by
     unfold leafB at hl;rw [hz.inn,if_neg (by simp),Bool.or_eq_false_iff,decide_eq_false_iff_not] at hl;omega
    have hM:=hz.move hn hm;have hs1:lastP x=lastP z:=congrArg Prod.fst hst;have hs2:x.header=z.header:=congrArg Prod.snd hst;obtain⟨h1,h2,h3⟩:=hd x hx (by omega) (by omega) m (by rw [hs1,hs2];exact hm);by_cases h0:0≤m.inn
    ·obtain⟨x',hx',he1,he2⟩:=h3 h0;refine walk_near hn hg hd f (onP z m) x' hx' (hz.next hn hlt hm h1 h0 h2) ?_ ?_ q hq k ht
     ·rw [he1];unfold stP;rw [lastP_on,lastP_on,if_pos h0,if_pos h0];rfl
     ·rw [on_ents hM.entry];omega
    ·exfalso;obtain⟨r,hr,hri,hdst⟩:=hM.port;have hlast:lastP (onP z m)=m.out:=by rw [lastP_on,if_neg h0,if_pos hM.out]
     have hmv:movesV n (lastP (onP z m)).toNat (onP z m).header=[]:=by
      rw [hlast,movesV_link hr hri,if_neg (by rw [← hdst];exact h0)]
     (have hlf:leafB n hops (onP z m)=true:=by unfold leafB;rw [hmv];rfl);rw [walkV_leaf hlf] at hq;(obtain rfl:q=onP z m:=by simpa using hq);rw [onP_short h0,short_ports hM.out] at ht;rcases List.mem_append.1 (List.mem_of_getElem? ht) with e | e
     ·exact hz.no e
     ·exact h1 (List.mem_singleton.1 e).symm
  ·have hp:=walk_prefix (f+1) z q hq
   have hk:z.ports.length≤k:=by
    rcases Nat.lt_or_ge k z.ports.length with h8 | h8
    ·exfalso;obtain⟨r,hr⟩:=hp;rw [← hr,List.getElem?_append_left h8] at ht;exact hz.no (List.mem_of_getElem? ht)
    ·exact h8
   have h8:z.ports <+: q.ports.take k:=by
    obtain⟨r,hr⟩:=hp;rw [← hr,List.take_append,List.take_of_length_le hk];exact List.prefix_append _ _
   have:=cntIn_prefix n h8;rw [hz.cnt] at this;omega
structure NearEnd (n:Net) (s:Nat) (h:ByteArray) (tp hops:Int) (p:Path):Prop where
 follow:followT n (s:Int) h p.ports=(p.header,(p.entries.length:Int),0)
 within:(p.entries.length:Int)≤hops
 here:∃ l,p.ports=l ++ [tp]∧tp ∉ l
 short:p.ports.length≤130
 best:∀ q ∈ pathsV n (s:Int) h hops,∀ k:Nat,q.ports[k]?=some tp→p.entries.length≤cntIn n (q.ports.take k)
theorem NInv.late {n:Net} (hn:NetOk n) {s:Nat} {h:ByteArray} {tp hops:Int} {b:Path} {g:List Path} {cur:Nat} (hI:NInv n s h tp hops b g cur) {y:Path} (hy:g[cur]?=some y):∀ f q,q ∈ walkV n hops f b→∀ k:Nat,q.ports[k]?=some tp→y.entries.length+1≤cntIn n (q.ports.take k):=fun f q hq k ht=>
 walk_near hn hI.ok (E:=y.entries.length) (fun x hx hlt=>by
  obtain⟨i,hi⟩:=List.mem_iff_getElem?.1 hx;rcases Nat.lt_or_ge i cur with h9 | h9
  ·exact hI.done i x h9 hi
  ·have:=hI.sorted cur i y x h9 hy hi
   omega) f b b hI.start (hI.ok b hI.start) rfl (Nat.le_refl _) q hq k ht
theorem NInv.none {n:Net} (hn:NetOk n) {s:Nat} {h:ByteArray} {tp hops:Int} {b:Path} {g:List Path} {cur:Nat} (hI:NInv n s h tp hops b g cur) (he:g.length≤cur):∀ f q,q ∈ walkV n hops f b→∀ k:Nat,q.ports[k]?≠some tp:=fun f q hq k ht=>by
 have:=walk_near hn hI.ok (E:=cntIn n (q.ports.take k)) (fun x hx _=>by
  obtain⟨i,hi⟩:=List.mem_iff_getElem?.1 hx
  exact hI.done i x (Nat.lt_of_lt_of_le (List.getElem?_eq_some_iff.1 hi).1 he) hi) f b b hI.start (hI.ok b hI.start) rfl (Nat.le_refl _) q hq k ht
 omega
theorem NInv.short {n:Net} (hn:NetOk n) {s:Nat} {h:ByteArray} {tp hops:Int} (hc:checkE n (s:Int) h=0) (h64:hops≤64) {b:Path} {g:List Path} {cur:Nat} (hI:NInv n s h tp hops b g cur) {f0:Nat} (hp0:pathsV n (s:Int) h hops=walkV n hops f0 b) {y:Path} (hy:g[cur]?=some y) (hlt:(y.entries.length:Int)<hops) {m:Mv} (hm:m ∈ movesV n (lastP y).toNat y.header) (h1:m.out=tp):NearEnd n s h tp hops (shortP y m):=by
 have hG:=hI.ok y (List.mem_of_getElem? hy);have hM:=hG.move hn hm;have he:(shortP y m).entries.length=y.entries.length+1:=on_ents hM.entry;have hp:=(hG.ok.next hn (hG.go hlt hm) hm).1;have hpl:=hp.len;have hpe:=hp.ents;rw [on_ents hM.entry] at hpl hpe;have hsl:=short_len (x:=y) (m:=m);have hps:=short_ports (x:=y) (m:=m) hM.out;obtain⟨l,hl,hf⟩:=hG.reached;obtain⟨q,hq,hqi⟩:=hG.ok.port;refine⟨?_,by rw [he];omega,⟨y.ports,by rw [hps,h1],hG.no⟩,by omega,fun q hq k ht=>by rw [he];exact hI.late hn hy f0 q (by rw [← hp0];exact hq) k ht⟩;have hsp:(shortP y m).ports=(s:Int) :: (l ++ [m.out]):=by rw [hps,hl];rfl
 have hsl2:=hsl;rw [hsp,List.length_cons] at hsl2;rw [hsp,followT_at hc (by omega),hf,follow_out hn hq (by rw [← hqi];exact hG.inn) hm,he];show followV n _ m.header [] _ _=_;simp [followV,shortP]
theorem NInv.whole {n:Net} (hn:NetOk n) {s:Nat} {h:ByteArray} {tp hops:Int} (hc:checkE n (s:Int) h=0) (h64:hops≤64) (ht0:0≤tp) {b:Path} {g:List Path} {cur:Nat} (hI:NInv n s h tp hops b g cur) {f0:Nat} (hp0:pathsV n (s:Int) h hops=walkV n hops f0 b) {y:Path} (hy:g[cur]?=some y) (hlt:(y.entries.length:Int)<hops) {m:Mv} (hm:m ∈ movesV n (lastP y).toNat y.header) (h1:m.out≠tp) (h2:m.inn=tp):NearEnd n s h tp hops (onP y m):=by
 have hG:=hI.ok y (List.mem_of_getElem? hy);have hM:=hG.move hn hm;have he:(onP y m).entries.length=y.entries.length+1:=on_ents hM.entry;have hp:=(hG.ok.next hn (hG.go hlt hm) hm).1;have hpl:=hp.len;have hpe:=hp.ents;have hps:=onP_ports (x:=y) (m:=m) hM.out (by omega);obtain⟨q,hq,hqi⟩:=hG.ok.port;refine⟨reached_followed hc (hG.reached.next hn hq hm) (by omega),hpe,⟨_,by rw [hps,h2],fun e=>?_⟩,by omega,fun q hq k ht=>by rw [he];exact hI.late hn hy f0 q (by rw [← hp0];exact hq) k ht⟩;rcases List.mem_append.1 e with e | e
 ·exact hG.no e
 ·exact h1 (List.mem_singleton.1 e).symm
def StI (n:Net) (s:Nat) (h:ByteArray) (tp hops:Int) (b:Path) (t:BSt):Prop:=
 match t.ms with
 | Option.none=>NInv n s h tp hops b t.g t.cur
 | some r=>∃ y pre,RN n s h tp hops b t.g t.cur y pre∧movesV n (lastP y).toNat y.header=pre ++ r
theorem StI.here {n:Net} {s:Nat} {h:ByteArray} {tp hops:Int} {b:Path} {t:BSt} (hs:StI n s h tp hops b t):NInv n s h tp hops b t.g t.cur:=by
 obtain⟨g,cur,ms⟩:=t
 cases ms with
 | none=>exact hs
 | some r=>obtain⟨y,pre,hR,_⟩:=hs;exact hR.inv
theorem bstep_cases {n:Net} (hn:NetOk n) {s:Nat} {h:ByteArray} {tp hops:Int} {b:Path} {t:BSt} (hs:StI n s h tp hops b t):
  (t.ms=Option.none∧t.g[t.cur]?=Option.none∧∀ hops',bstep n tp hops' t=.inl .none) ∨
  (∃ y,t.ms=Option.none∧t.g[t.cur]?=some y∧(y.entries.length:Int)=hops∧bstep n tp hops t=.inr ⟨t.g,t.cur+1,Option.none⟩∧StI n s h tp hops b ⟨t.g,t.cur+1,Option.none⟩) ∨
  (∃ y,t.ms=Option.none∧t.g[t.cur]?=some y∧(y.entries.length:Int)<hops∧(∀ hops':Int,(y.entries.length:Int)≠hops'→bstep n tp hops' t=.inr ⟨t.g,t.cur,some (movesV n (lastP y).toNat y.header)⟩)∧StI n s h tp hops b ⟨t.g,t.cur,some (movesV n (lastP y).toNat y.header)⟩) ∨
  (t.ms=some []∧(∀ hops',bstep n tp hops' t=.inr ⟨t.g,t.cur+1,Option.none⟩)∧StI n s h tp hops b ⟨t.g,t.cur+1,Option.none⟩) ∨
  (∃ y m r p,t.ms=some (m :: r)∧t.g[t.cur]?=some y∧p.entries.length=y.entries.length+1∧(y.entries.length:Int)<hops∧∀ hops',bstep n tp hops' t=.inl (.found p)) ∨
  (∃ y m r,t.ms=some (m :: r)∧t.g[t.cur]?=some y∧(∀ hops',bstep n tp hops' t=.inr ⟨t.g,t.cur,some r⟩)∧StI n s h tp hops b ⟨t.g,t.cur,some r⟩) ∨
  (∀ hops',bstep n tp hops' t=.inl .budget) ∨
  (∃ y m r,t.ms=some (m :: r)∧t.g[t.cur]?=some y∧(onP y m).entries.length=y.entries.length+1∧(∀ hops',bstep n tp hops' t=.inr ⟨t.g ++ [onP y m],t.cur,some r⟩)∧StI n s h tp hops b ⟨t.g ++ [onP y m],t.cur,some r⟩):=by
 obtain⟨g,cur,ms⟩:=t
 cases ms with
 | none=>
  cases hg:g[cur]? with
  | none=>exact .inl ⟨rfl,rfl,fun _=>bstep_end hg⟩
  | some y=>
   have hI:NInv n s h tp hops b g cur:=hs;by_cases he:(y.entries.length:Int)=hops
   ·exact .inr (.inl ⟨y,rfl,rfl,he,bstep_full hg he,hI.full hg he⟩)
   ·have hR:=RN.first hI hg he
    exact .inr (.inr (.inl ⟨y,rfl,rfl,hR.lt,fun _ he'=>bstep_go hg he',y,[],hR,rfl⟩))
 | some r=>
  obtain⟨y,pre,hR,hM⟩:=hs
  cases r with
  | nil=>
   rw [List.append_nil] at hM;refine .inr (.inr (.inr (.inl ⟨rfl,fun _=>bstep_next,?_⟩)));rw [← hM] at hR;exact hR.done
  | cons m r=>
   have hy:=hR.here;(have hmm:m ∈ movesV n (lastP y).toNat y.header:=by rw [hM];simp);have hMv:=(hR.inv.ok y (List.mem_of_getElem? hy)).move hn hmm;(have hM2:movesV n (lastP y).toNat y.header=(pre ++ [m]) ++ r:=by rw [hM];simp);by_cases h1:m.out=tp
   ·exact .inr (.inr (.inr (.inr (.inl ⟨y,m,r,shortP y m,rfl,hy,on_ents hMv.entry,hR.lt,fun _=>bstep_short hy h1⟩))))
   ·by_cases h2:m.inn=tp
    ·exact .inr (.inr (.inr (.inr (.inl ⟨y,m,r,onP y m,rfl,hy,on_ents hMv.entry,hR.lt,fun _=>bstep_whole hy h1 h2⟩))))
    ·by_cases h3:m.inn<0∨Came g (onP y m)
     ·exact .inr (.inr (.inr (.inr (.inr (.inl ⟨y,m,r,rfl,hy,fun _=>bstep_skip hy h1 h2 h3,y,pre ++ [m],hR.skip h1 h2 h3,hM2⟩)))))
     ·by_cases h4:g.length=4096
      ·exact .inr (.inr (.inr (.inr (.inr (.inr (.inl fun _=>bstep_budget hy h1 h2 h3 h4))))))
      ·exact .inr (.inr (.inr (.inr (.inr (.inr (.inr ⟨y,m,r,rfl,hy,on_ents hMv.entry,fun _=>bstep_push hy h1 h2 h3 h4,y,pre ++ [m],hR.push hn hmm h1 (by omega) h2 h4,hM2⟩))))))
theorem bRun_ge {n:Net} (hn:NetOk n) {s:Nat} {h:ByteArray} {tp hops:Int} {b:Path} {p:Path}:∀ (f:Nat) (t:BSt),StI n s h tp hops b t→bRun n tp hops f t=some (.found p)→∃ y,t.g[t.cur]?=some y∧y.entries.length+1≤p.entries.length∧(p.entries.length:Int)≤hops
 | 0,t,_,hf=>by rw [bRun] at hf;cases hf
 | f+1,t,hs,hf=>by
  rw [bRun] at hf;rcases bstep_cases hn hs with⟨_,_,e⟩ | ⟨y,_,hy,_,e,hs'⟩ | ⟨y,_,hy,_,e,hs'⟩ | ⟨hms,e,hs'⟩ | ⟨y,m,r,p',_,hy,hp,hlt,e⟩ | ⟨y,m,r,_,hy,e,hs'⟩ | e | ⟨y,m,r,_,hy,_,e,hs'⟩
  ·rw [e] at hf;simp at hf
  ·rw [e] at hf;obtain⟨z,hz,h1,h2⟩:=bRun_ge hn f _ hs' hf;have:=hs.here.sorted t.cur (t.cur+1) y z (by omega) hy hz;exact⟨y,hy,by omega,h2⟩
  ·rw [e _ (by omega)] at hf;have h9:=bRun_ge hn f _ hs' hf;exact h9
  ·rw [e] at hf;obtain⟨z,hz,h1,h2⟩:=bRun_ge hn f _ hs' hf;have hz':t.cur+1<t.g.length:=(List.getElem?_eq_some_iff.1 hz).1;have hy:t.g[t.cur]?=some t.g[t.cur]:=List.getElem?_eq_getElem (by omega);have:=hs.here.sorted t.cur (t.cur+1) _ z (by omega) hy hz;exact⟨_,hy,by omega,h2⟩
  ·rw [e] at hf;(obtain rfl:p'=p:=by simpa using hf);exact⟨y,hy,by omega,by omega⟩
  ·rw [e] at hf;have h9:=bRun_ge hn f _ hs' hf;exact h9
  ·rw [e] at hf;simp at hf
  ·rw [e] at hf;obtain⟨z,hz,h1⟩:=bRun_ge hn f _ hs' hf;have hcl:t.cur<t.g.length:=(List.getElem?_eq_some_iff.1 hy).1;rw [List.getElem?_append_left hcl] at hz;exact⟨z,hz,h1⟩
theorem bRun_same {n:Net} (hn:NetOk n) {s:Nat} {h:ByteArray} {tp hops:Int} {b:Path} {p:Path}:∀ (f:Nat) (t:BSt),StI n s h tp hops b t→bRun n tp hops f t=some (.found p)→Bfs n tp (p.entries.length:Int) t (.found p)
 | 0,t,_,hf=>by rw [bRun] at hf;cases hf
 | f+1,t,hs,hf=>by
  obtain⟨y0,hy0,hge,hle⟩:=bRun_ge hn (f+1) t hs hf;rw [bRun] at hf;rcases bstep_cases hn hs with⟨_,_,e⟩ | ⟨y,_,hy,he,e,hs'⟩ | ⟨y,_,hy,_,e,hs'⟩ | ⟨hms,e,hs'⟩ | ⟨y,m,r,p',_,hy,hp,hlt,e⟩ | ⟨y,m,r,_,hy,e,hs'⟩ | e | ⟨y,m,r,_,hy,_,e,hs'⟩
  ·rw [e] at hf;simp at hf
  ·rw [hy0] at hy;(obtain rfl:y0=y:=by simpa using hy);omega
  ·rw [hy0] at hy;(obtain rfl:y0=y:=by simpa using hy);rw [e _ (by omega)] at hf;exact (bRun_same hn f _ hs' hf).on (e _ (by omega))
  ·rw [e] at hf;exact (bRun_same hn f _ hs' hf).on (e _)
  ·rw [e] at hf;(obtain rfl:p'=p:=by simpa using hf);exact Bfs.stop (e _)
  ·rw [e] at hf;exact (bRun_same hn f _ hs' hf).on (e _)
  ·rw [e] at hf;simp at hf
  ·rw [e] at hf;exact (bRun_same hn f _ hs' hf).on (e _)
theorem bfs_skips {n:Net} {tp hops:Int} {g:List Path}:∀ (d cur:Nat),g.length≤cur+d→(∀ (i:Nat) (x:Path),cur≤i→g[i]?=some x→(x.entries.length:Int)=hops)→Bfs n tp hops ⟨g,cur,Option.none⟩ .none
 | 0,cur,hd,_=>Bfs.stop (bstep_end (List.getElem?_eq_none (by omega)))
 | d+1,cur,hd,hx=>by
  cases hg:g[cur]? with
  | none=>exact Bfs.stop (bstep_end hg)
  | some y=>exact (bfs_skips d (cur+1) (by omega) (fun i x hi=>hx i x (by omega))).on (bstep_full hg (hx cur y (Nat.le_refl _) hg))
theorem bRun_less {n:Net} (hn:NetOk n) {s:Nat} {h:ByteArray} {tp hops:Int} {b:Path} {p:Path} {E:Nat} (hE:p.entries.length=E+1):∀ (f:Nat) (t:BSt),StI n s h tp hops b t→(∀ x ∈ t.g,x.entries.length≤E)→(t.ms≠Option.none→∀ y,t.g[t.cur]?=some y→y.entries.length<E)→bRun n tp hops f t=some (.found p)→Bfs n tp (E:Int) t .none
 | 0,t,_,_,_,hf=>by rw [bRun] at hf;cases hf
 | f+1,t,hs,hall,hms,hf=>by
  obtain⟨y0,hy0,hge,hle⟩:=bRun_ge hn (f+1) t hs hf;rw [bRun] at hf;rcases bstep_cases hn hs with⟨_,_,e⟩ | ⟨y,_,hy,he,e,hs'⟩ | ⟨y,hmn,hy,_,e,hs'⟩ | ⟨hm0,e,hs'⟩ | ⟨y,m,r,p',hm0,hy,hp,hlt,e⟩ | ⟨y,m,r,hm0,hy,e,hs'⟩ | e | ⟨y,m,r,hm0,hy,hpe,e,hs'⟩
  ·rw [e] at hf;simp at hf
  ·rw [hy0] at hy;(obtain rfl:y0=y:=by simpa using hy);omega
  ·rw [hy0] at hy;(obtain rfl:y0=y:=by simpa using hy);rw [e _ (by omega)] at hf;by_cases h9:y0.entries.length=E
   ·obtain⟨g,cur,ms⟩:=t;simp only at hmn hy0 hall;subst hmn;refine bfs_skips g.length cur (by omega) (fun i x hi hx=>?_);have h1:=hall x (List.mem_of_getElem? hx);have h2:=hs.here.sorted cur i y0 x hi hy0 hx;omega
   ·refine (bRun_less hn hE f _ hs' hall (fun _ y hy=>?_) hf).on (e _ (by omega));simp only at hy;rw [hy0] at hy;(obtain rfl:y0=y:=by simpa using hy);omega
  ·rw [e] at hf;exact (bRun_less hn hE f _ hs' hall (fun h9=>absurd rfl h9) hf).on (e _)
  ·rw [e] at hf;(obtain rfl:p'=p:=by simpa using hf);have:=hms (by rw [hm0];simp) y hy;omega
  ·rw [e] at hf;exact (bRun_less hn hE f _ hs' hall (fun _=>hms (by rw [hm0];simp)) hf).on (e _)
  ·rw [e] at hf;simp at hf
  ·rw [e] at hf;have h9:=hms (by rw [hm0];simp) y hy;have hcl:t.cur<t.g.length:=(List.getElem?_eq_some_iff.1 hy).1;refine (bRun_less hn hE f _ hs' (fun x hx=>?_) (fun _ z hz=>?_) hf).on (e _)
   ·simp only at hx;rcases List.mem_append.1 hx with h8 | h8
    ·exact hall x h8
    ·obtain rfl:=List.mem_singleton.1 h8;omega
   ·simp only at hz;rw [List.getElem?_append_left hcl,hy] at hz;(obtain rfl:y=z:=by simpa using hz);exact h9
end Sp
end Go.Proofs.YtedfppbnkgffcaaGreatDoor
