/-
  Texts joined: Bj Bk.
-/
import Derived.Test.YthnamoedpnknmaaGreatDoorAe
set_option linter.unusedVariables false
set_option linter.unusedSimpArgs false
namespace Go.Proofs.YthnamoedpnknmaaGreatDoor
open Go.RowKit
namespace Sp
theorem mem_stV {l:List Mv} {q:Int × ByteArray}:q ∈ stV l↔∃ m ∈ l,(0≤m.out∧q=(m.out,m.header))∨(0≤m.inn∧q=(m.inn,m.header)):=by
 unfold stV;rw [List.mem_flatMap];constructor
 ·rintro⟨m,hm,hq⟩;unfold stM at hq;refine⟨m,hm,?_⟩;rcases List.mem_append.1 hq with h | h
  ·split at h
   ·exact .inl ⟨by assumption,List.mem_singleton.1 h⟩
   ·cases h
  ·split at h
   ·exact .inr ⟨by assumption,List.mem_singleton.1 h⟩
   ·cases h
 ·rintro⟨m,hm,h | h⟩
  ·exact⟨m,hm,by unfold stM;rw [if_pos h.1];exact List.mem_append_left _ (List.mem_singleton.2 h.2)⟩
  ·exact⟨m,hm,by unfold stM;rw [if_pos h.1];exact List.mem_append_right _ (List.mem_singleton.2 h.2)⟩
theorem inn_in {n:Net} (hn:NetOk n) {k:Nat} {h:ByteArray} {q:Port} (hq:n.ports[k]?=some q) {m:Mv} (hm:m ∈ movesV n k h) (h0:0≤m.inn):portIn n m.inn.toNat=true:=by
 cases hin:q.inn with
 | false=>
  rw [movesV_link hq hin] at hm;split at hm
  ·obtain rfl:=List.mem_singleton.1 hm;rcases (hn.ports _ q hq).dst with e | ⟨_,_,r,hr,hri⟩
   ·have h0:0≤q.dst:=h0;omega
   ·unfold portIn;rw [hr];exact hri
  ·cases hm
 | true=>
  have hM:=mvIn_of hn hq hin hm;obtain⟨s,hs,hsi,hdst⟩:=hM.port;rcases (hn.ports _ s hs).dst with e | ⟨_,_,r,hr,hri⟩
  ·omega
  ·rw [← hdst] at hr;unfold portIn;rw [hr];exact hri
end Sp
namespace Sp
def dstOf (n:Net) (k:Int):Int:=match n.ports[k.toNat]? with | some q=>q.dst | none=>-1
def moreP (n:Net) (num:Int) (p:Path) (q:Int × ByteArray):Path:=⟨p.ports ++ ([q.1] ++ ifL (dstOf n q.1)),p.entries ++ ifL num,q.2⟩
def refSt (n:Net) (num:Int) (p:Path) (q:Int × ByteArray):Option Path:=if portIn n q.1.toNat=true then none else some (moreP n num p q)
noncomputable def refSteps (n:Net) (hops:Int) (p:Path):List Path:=
 if portIn n (lastP p).toNat=false∨hops≤(p.entries.length:Int) then [] else (nextS n (lastP p) p.header).filterMap (refSt n (nextE n (lastP p) p.header) p)
noncomputable def refWalk (n:Net) (hops:Int):Nat→Path→List Path
 | 0,p=>[p]
 | f+1,p=>if refSteps n hops p=[] then [p] else (refSteps n hops p).flatMap (refWalk n hops f)
def refFirst (n:Net) (s:Int) (h:ByteArray):Path:=⟨[s] ++ ifL (dstOf n s),[],h⟩
theorem moves_entry {n:Net} {k:Nat} {h:ByteArray} {q:Port} (hn:NetOk n) (hq:n.ports[k]?=some q) (hin:q.inn=true) {m:Mv} (hm:m ∈ movesV n k h):m.entry=entryV n k h:=by
 unfold movesV at hm;rw [hq] at hm;simp only [hin,Bool.true_eq_false,if_false] at hm;split at hm
 ·cases hm
 ·rename_i hf;split at hm
  ·cases hm
  ·obtain⟨o,_,ho⟩:=List.mem_filterMap.1 hm;rw [(outMv_some ho).1];unfold entryV;rw [hq];simp only [hin,Bool.true_eq_false,if_false];rw [if_neg hf]
theorem walk_fuel {n:Net} (hn:NetOk n) {hops:Int}:∀ (f:Nat) (p:Path),POk n hops p→needP n hops p≤f→∀ g,needP n hops p≤g→walkV n hops f p=walkV n hops g p
 | 0,p,_,hf,_,_=>by unfold needP at hf;split at hf <;> omega
 | f+1,p,_,_,0,hg=>by unfold needP at hg;split at hg <;> omega
 | f+1,p,hp,hf,g+1,hg=>by
  cases hl:leafB n hops p with
  | true=>rw [walkV_leaf hl,walkV_leaf hl]
  | false=>
   rw [walkV_on hl,walkV_on hl]
   have key:∀ l:List Mv,(∀ m ∈ l,m ∈ movesV n (lastP p).toNat p.header)→l.flatMap (fun m=>walkV n hops f (onP p m))=l.flatMap (fun m=>walkV n hops g (onP p m)):=by
    intro l
    induction l with
    | nil=>intro _;rfl
    | cons m r ih=>
     intro hlm;rw [List.flatMap_cons,List.flatMap_cons,ih (fun m' hm'=>hlm m' (List.mem_cons_of_mem _ hm'))];obtain⟨h1,h2⟩:=hp.next hn hl (hlm m List.mem_cons_self);rw [walk_fuel hn f (onP p m) h1 (by omega) g (by omega)]
   exact key _ (fun m hm=>hm)
theorem steps_in {n:Net} (hn:NetOk n) {hops:Int} {p:Path} (hp:POk n hops p) (hi:portIn n (lastP p).toNat=true) (hlt:(p.entries.length:Int)<hops):refSteps n hops p=(movesV n (lastP p).toNat p.header).map (onP p):=by
 obtain⟨q,hq,hqi⟩:=hp.port;have hin:q.inn=true:=by rw [← hqi];exact hi
 have hck:checkE n (lastP p) p.header=0:=by unfold checkE;rw [tb_yes hn,tb_yes hp.st];rfl
 unfold refSteps;rw [if_neg (by rw [hi];simp;omega)];have e1:nextS n (lastP p) p.header=stV (movesV n (lastP p).toNat p.header):=by unfold nextS;rw [if_pos hck]
 have e2:nextE n (lastP p) p.header=entryV n (lastP p).toNat p.header:=by unfold nextE;rw [if_pos hck]
 rw [e1,e2]
 have key:∀ l:List Mv,(∀ m ∈ l,m ∈ movesV n (lastP p).toNat p.header)→(stV l).filterMap (refSt n (entryV n (lastP p).toNat p.header) p)=l.map (onP p):=by
  intro l
  induction l with
  | nil=>intro _;rfl
  | cons m r ih=>
   intro hl;have hm:=hl m List.mem_cons_self;have hM:=mvIn_of hn hq hin hm;have hE:=moves_entry hn hq hin hm;obtain⟨s,hs,hsi,hdst⟩:=hM.port;unfold stV;rw [List.flatMap_cons,List.filterMap_append,List.map_cons];have ih':=ih (fun m' hm'=>hl m' (List.mem_cons_of_mem _ hm'));unfold stV at ih';rw [ih'];(have ho:portIn n m.out.toNat=false:=by unfold portIn;rw [hs];exact hsi);have hd:dstOf n m.out=m.inn:=by unfold dstOf;rw [hs];exact hdst.symm
   have hone:(stM m).filterMap (refSt n (entryV n (lastP p).toNat p.header) p)=[onP p m]:=by
    unfold stM;rw [if_pos hM.out,List.filterMap_append]
    have h1:([(m.out,m.header)]:List (Int × ByteArray)).filterMap (refSt n (entryV n (lastP p).toNat p.header) p)=[onP p m]:=by
     rw [List.filterMap_cons];unfold refSt;simp only [ho,Bool.false_eq_true,if_false,List.filterMap_nil];unfold moreP onP;simp only [hd,← hE,ifL_yes hM.out,List.append_assoc]
    rw [h1];by_cases h0:0≤m.inn
    ·rw [if_pos h0];have:=inn_in hn hq hm h0;rw [List.filterMap_cons];unfold refSt;simp [this]
    ·rw [if_neg h0];simp
   rw [hone];rfl
 exact key _ (fun m hm=>hm)
theorem refWalk_eq {n:Net} (hn:NetOk n) {hops:Int}:∀ (f:Nat) (p:Path),POk n hops p→(portIn n (lastP p).toNat=false→1<p.ports.length)→refWalk n hops f p=walkV n hops f p
 | 0,p,_,_=>rfl
 | f+1,p,hp,h1=>by
  cases hi:portIn n (lastP p).toNat with
  | false=>
   have hl:leafB n hops p=true:=by
    unfold leafB;rw [if_pos hi,decide_eq_true (h1 hi),Bool.or_true]
   rw [walkV_leaf hl,refWalk,if_pos];unfold refSteps;rw [if_pos (.inl hi)]
  | true=>
   cases hl:leafB n hops p with
   | true=>
    rw [walkV_leaf hl,refWalk,if_pos];unfold leafB at hl;rw [hi,if_neg (by simp),Bool.or_eq_true,decide_eq_true_eq,List.isEmpty_iff] at hl;by_cases hh:hops≤(p.entries.length:Int)
    ·unfold refSteps;rw [if_pos (.inr hh)]
    ·rcases hl with e | e
     ·rw [steps_in hn hp hi (by omega),e];rfl
     ·exact absurd e hh
   | false=>
    have hl2:=hl;unfold leafB at hl2;rw [hi,if_neg (by simp),Bool.or_eq_false_iff,decide_eq_false_iff_not] at hl2;have hst:=steps_in hn hp hi (by omega)
    have hne:refSteps n hops p≠[]:=by
     rw [hst];intro e;rw [List.map_eq_nil_iff] at e;rw [e] at hl2;exact absurd hl2.1 (by decide)
    rw [walkV_on hl,refWalk,if_neg hne,hst,List.flatMap_map];obtain⟨q,hq,hqi⟩:=hp.port
    have key:∀ l:List Mv,(∀ m ∈ l,m ∈ movesV n (lastP p).toNat p.header)→l.flatMap (fun m=>refWalk n hops f (onP p m))=l.flatMap (fun m=>walkV n hops f (onP p m)):=by
     intro l
     induction l with
     | nil=>intro _;rfl
     | cons m r ih=>
      intro hlm;rw [List.flatMap_cons,List.flatMap_cons,ih (fun m' hm'=>hlm m' (List.mem_cons_of_mem _ hm'))];have hm:=hlm m List.mem_cons_self;have hM:=mvIn_of hn hq (by rw [← hqi];exact hi) hm
      rw [refWalk_eq hn f (onP p m) (hp.next hn hl hm).1 (fun _=>by
       show 1<(p.ports ++ ifL m.out ++ ifL m.inn).length;rw [ifL_yes hM.out,List.length_append,List.length_append];(have:1≤p.ports.length:=by cases hpp:p.ports with | nil=>exact absurd hpp hp.ne | cons _ _=>simp);simp only [List.length_singleton]
       omega)]
    exact key _ (fun m hm=>hm)
theorem refFirst_in {n:Net} (hn:NetOk n) {s:Nat} {q:Port} (hq:n.ports[s]?=some q) (hin:q.inn=true) (h:ByteArray):refFirst n (s:Int) h=⟨[(s:Int)],[],h⟩:=by
 have hd:q.dst=-1:=by
  rcases (hn.ports _ q hq).dst with e | ⟨e,_⟩
  ·exact e
  ·rw [hin] at e;cases e
 unfold refFirst dstOf;rw [Int.toNat_natCast,hq];simp only [hd];rfl
theorem ref_paths {n:Net} {s:Nat} {h:ByteArray} {hops:Int} (hc:checkE n (s:Int) h=0∧0≤hops∧hops≤64):refWalk n hops (hops.toNat+2) (refFirst n (s:Int) h)=pathsV n (s:Int) h hops:=by
 obtain⟨hn,hs⟩:=checkE_zero hc.1;have hf:=POk.first hs hc.2.1
 obtain⟨q,hq,hqi⟩:=hf.port;have hl1:(lastP ⟨[(s:Int)],[],h⟩).toNat=s:=Int.toNat_natCast s;rw [hl1] at hq hqi
 cases hin:q.inn with
 | true=>
  rw [refFirst_in hn hq hin,refWalk_eq hn _ _ hf (by rw [hl1,hqi,hin];intro e;cases e)];unfold pathsV;rw [if_pos hc]
 | false=>
  by_cases hd:0≤q.dst
  ·have hmv:movesV n s h=[⟨-1,-1,q.dst,h⟩]:=by rw [movesV_link hq hin,if_pos hd]
   have hmm:(⟨-1,-1,q.dst,h⟩:Mv) ∈ movesV n (lastP ⟨[(s:Int)],[],h⟩).toNat h:=by rw [hl1,hmv];exact List.mem_cons_self
   have hlf:leafB n hops ⟨[(s:Int)],[],h⟩=false:=by
    unfold leafB;rw [hl1,hmv,hqi,hin];rfl
   have hnx:=(hf.next hn hlf hmm).1
   have hfirst:refFirst n (s:Int) h=onP ⟨[(s:Int)],[],h⟩ ⟨-1,-1,q.dst,h⟩:=by
    unfold refFirst dstOf onP;rw [Int.toNat_natCast,hq];simp only [ifL_no (show ¬ (0:Int)≤-1 by decide),ifL_yes hd,List.append_nil,List.nil_append]
   have hlast:lastP (onP ⟨[(s:Int)],[],h⟩ ⟨-1,-1,q.dst,h⟩)=q.dst:=by rw [lastP_on,if_pos hd]
   have hpin:portIn n (lastP (onP ⟨[(s:Int)],[],h⟩ ⟨-1,-1,q.dst,h⟩)).toNat=true:=by
    rw [hlast];rcases (hn.ports _ q hq).dst with e | ⟨_,_,r,hr,hri⟩
    ·omega
    ·unfold portIn;rw [hr];exact hri
   rw [hfirst]
   have hneed:needP n hops (onP ⟨[(s:Int)],[],h⟩ ⟨-1,-1,q.dst,h⟩)≤hops.toNat+1:=by
    have:=(hf.next hn hlf hmm).2;have h2:=needP_first n (s:Int) h hops;omega
   rw [refWalk_eq hn _ _ hnx (by rw [hpin];intro e;cases e)];unfold pathsV;rw [if_pos hc,walkV_on hlf (hops.toNat+1),hl1];show _=(movesV n s h).flatMap _;rw [hmv];rw [List.flatMap_cons,List.flatMap_nil,List.append_nil];exact walk_fuel hn _ _ hnx (by omega) (hops.toNat+1) (by omega)
  ·have hmv:movesV n s h=[]:=by rw [movesV_link hq hin,if_neg hd]
   have hlf:leafB n hops ⟨[(s:Int)],[],h⟩=true:=by
    unfold leafB;rw [hl1];show ((movesV n s h).isEmpty || _)=true;rw [hmv];rfl
   have hd1:q.dst=-1:=by
    rcases (hn.ports _ q hq).dst with e | ⟨_,e,_⟩
    ·exact e
    ·exact absurd e hd
   have hfirst:refFirst n (s:Int) h=⟨[(s:Int)],[],h⟩:=by
    unfold refFirst dstOf;rw [Int.toNat_natCast,hq];simp only [hd1];rfl
   unfold pathsV;rw [if_pos hc,walkV_leaf hlf,hfirst,refWalk,if_pos];unfold refSteps;rw [if_pos (.inl (by rw [hl1,hqi,hin]))]
end Sp
end Go.Proofs.YthnamoedpnknmaaGreatDoor
