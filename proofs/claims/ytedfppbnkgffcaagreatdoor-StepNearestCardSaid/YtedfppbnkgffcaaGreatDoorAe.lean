/-
  Texts joined: Ha Ab Ae.
-/
import Derived.Test.YtedfppbnkgffcaaGreatDoorMs
import Derived.Test.YtedfppbnkgffcaaGreatDoorMw
import Derived.Test.YtedfppbnkgffcaaGreatDoorUb
import Derived.Maps.AppendAt
set_option linter.unusedVariables false
set_option linter.unusedSimpArgs false
set_option maxRecDepth 100000
set_option maxHeartbeats 8000000
namespace Go.Proofs.YtedfppbnkgffcaaGreatDoor
open Go.RowKit
open Go.Lib (hid)
namespace Sp
def hitM (x:Int) (m:Mv):Bool:=(m.out == x && decide (0≤m.entry)) || (decide (m.out<0) && m.inn == x)
def stepA (x:Int) (m:Mv) (a:Int):Int:=if (m.out == x && decide (0≤m.entry))=true then a+1 else a
def followV (n:Net):Nat→ByteArray→List Int→Int→Int→ByteArray × Int × Int
 | _,h,[],_,a=>(h,a,0)
 | p,h,x :: r,i,a=>match (movesV n p h).find? (hitM x) with
  | none=>(⟨#[]⟩,i,101)
  | some m=>followV n x.toNat m.header r (i+1) (stepA x m a)
noncomputable def followT (n:Net) (p:Int) (h:ByteArray) (l:List Int):ByteArray × Int × Int:=
 if 130<l.length then (⟨#[]⟩,0,2) else if checkE n p h=0 then (match l with
  | []=>(⟨#[]⟩,0,101)
  | x :: r=>if p=x then followV n p.toNat h r 1 0 else (⟨#[]⟩,0,101)) else (⟨#[]⟩,0,checkE n p h)
theorem followV_none {n:Net} {p:Nat} {h:ByteArray} {x:Int} {r:List Int} {i a:Int} (hn:∀ m ∈ movesV n p h,hitM x m=false):followV n p h (x :: r) i a=(⟨#[]⟩,i,101):=by
 unfold followV;rw [List.find?_eq_none.2 (fun m hm=>by rw [hn m hm];decide)]
theorem followV_some {n:Net} {p:Nat} {h:ByteArray} {x:Int} {r:List Int} {i a:Int} {pre:List Mv} {m:Mv} (hp:pre ++ [m] <+: movesV n p h) (hn:∀ y ∈ pre,hitM x y=false) (hm:hitM x m=true):followV n p h (x :: r) i a=followV n x.toNat m.header r (i+1) (stepA x m a):=by
 obtain⟨s,hs⟩:=hp
 have hf:(movesV n p h).find? (hitM x)=some m:=by
  rw [← hs,List.find?_append,List.find?_append,List.find?_eq_none.2 (fun y hy=>by rw [hn y hy];decide)];simp [hm]
 conv=>lhs;unfold followV
 rw [hf]
structure MvFine (n:Net) (h:ByteArray) (m:Mv):Prop where
 size:m.header.size=h.size
 out:0≤m.out→m.out<(n.ports.length:Int)
 inn:0≤m.inn→m.inn<(n.ports.length:Int)
 entry:0≤m.entry→0≤m.out
 link:m.out<0→0≤m.inn
theorem dst_lt {n:Net} (hn:NetOk n) {p:Nat} {q:Port} (hq:n.ports[p]?=some q) (h0:0≤q.dst):q.dst<(n.ports.length:Int):=by
 rcases (hn.ports p q hq).dst with hd | ⟨_,_,r,hr,_⟩
 ·omega
 ·have:=(List.getElem?_eq_some_iff.1 hr).1;omega
theorem wordV_sz (word h:ByteArray):(wordV word h).size=h.size:=by
 show (wrL word.data.toList h.data.toList).toArray.size=_;rw [List.size_toArray,wrL_len,Array.length_toList];rfl
theorem movesV_fine {n:Net} (hn:NetOk n) {p:Nat} {h:ByteArray} {m:Mv} (hm:m ∈ movesV n p h):MvFine n h m:=by
 unfold movesV at hm;split at hm
 ·cases hm
 ·rename_i q hq;split at hm
  ·split at hm
   ·rename_i hd;(obtain rfl:m=⟨-1,-1,q.dst,h⟩:=by simpa using hm);exact⟨rfl,fun h0=>absurd h0 (by show ¬ (0:Int)≤-1;decide),fun h0=>dst_lt hn hq h0,fun h0=>absurd h0 (by show ¬ (0:Int)≤-1;decide),fun _=>hd⟩
   ·cases hm
  ·split at hm
   ·cases hm
   ·split at hm
    ·cases hm
    ·rename_i e he;have hbx:=(hn.ports p q hq).box;(have hbl:q.box.toNat<n.tables.length:=by omega);have ht:n.tables[q.box.toNat]?=some (n.tables[q.box.toNat]):=List.getElem?_eq_getElem hbl;rw [List.getD_eq_getElem?_getD,ht] at he;obtain⟨o,ho,hmo⟩:=List.mem_filterMap.1 hm;obtain⟨i,hi⟩:=List.mem_iff_getElem?.1 ho;obtain⟨h1,q',h2,_⟩:=((table_at hn ht (List.mem_of_getElem? he)).outs i o hi).1;have h3:=(List.getElem?_eq_some_iff.1 h2).1;unfold outMv at hmo;split at hmo
     ·rename_i g r hg hr;split at hmo
      ·injection hmo with hmo
       subst hmo;exact⟨wordV_sz _ _,fun _=>by show o<_;omega,fun h0=>dst_lt hn hr h0,fun _=>h1,fun h0=>absurd h1 (by have:o<0:=h0;omega)⟩
      ·cases hmo
     ·cases hmo
theorem hit_lt {n:Net} {h:ByteArray} {m:Mv} {x:Int} (hf:MvFine n h m) (hm:hitM x m=true):0≤x∧x<(n.ports.length:Int):=by
 unfold hitM at hm;rw [Bool.or_eq_true,Bool.and_eq_true,Bool.and_eq_true,beq_iff_eq,beq_iff_eq,decide_eq_true_eq,decide_eq_true_eq] at hm;rcases hm with⟨h1,h2⟩ | ⟨h1,h2⟩
 ·have:=hf.entry h2;have:=hf.out this;omega
 ·have:=hf.link h1;have:=hf.inn this;omega
theorem fitsG_sz {g:List Guard} {h h':ByteArray} (he:h'.size=h.size) (hf:fitsG g h):fitsG g h':=⟨fun l hl=>⟨(hf.1 l hl).1,fun c hc=>by rw [he];exact (hf.1 l hl).2 c hc⟩,hf.2⟩
theorem mvOk_sz {n:Net} {p:Nat} {h h':ByteArray} (he:h'.size=h.size) (hm:MvOk n p h):MvOk n p h':=by
 rcases hm with hx | ⟨q,g,t,ok⟩
 ·exact Or.inl hx
 ·refine Or.inr ⟨q,g,t,ok.hq,ok.hin,ok.hg,ok.hb,ok.ht,fitsG_sz he ok.hf,?_,ok.htl,ok.hp,ok.hpp,ok.htt,by rw [he];exact ok.hh,ok.hs,fun e hx=>by rw [he];exact ok.hw e hx,fun e hx=>?_⟩
  ·intro e hx;obtain⟨h1,h2,h3⟩:=ok.hft e hx;exact⟨h1,h2,fun c hc=>by rw [he];exact h3 c hc⟩
  ·obtain⟨h1,h2⟩:=ok.ho e hx;refine⟨h1,fun o ho=>?_⟩;obtain⟨h3,g',q',h4,h5,h6⟩:=h2 o ho;exact⟨h3,g',q',h4,h5,fun k hk=>h6 k (by rw [hk,he])⟩
structure StAt (n:Net) (h0:ByteArray) (p:Nat) (h:ByteArray):Prop where
 port:p<n.ports.length
 size:h.size=h0.size
theorem StAt.mvOk {n:Net} {p0:Int} {h0 h:ByteArray} {p:Nat} (hn:NetOk n) (hs:StateOk n p0 h0) (h1:StAt n h0 p h):MvOk n p h:=
 mvOk_sz h1.size (mvOk_of (p:=p) hn ⟨⟨by omega,by have:=h1.port;omega⟩,hs.bits,hs.digits⟩)
theorem StAt.next {n:Net} {h0 h:ByteArray} {p:Nat} {x:Int} {m:Mv} (hn:NetOk n) (h1:StAt n h0 p h) (hm:m ∈ movesV n p h) (hx:hitM x m=true):StAt n h0 x.toNat m.header:=by
 have hf:=movesV_fine hn hm;have:=hit_lt hf hx;exact⟨by omega,by rw [hf.size,h1.size]⟩
theorem StAt.first {n:Net} {p:Nat} {h:ByteArray} (hs:StateOk n p h):StAt n h p h:=⟨by have:=hs.port;omega,rfl⟩
end Sp
namespace Sp
structure Path where
 ports:List Int
 entries:List Int
 header:ByteArray
def ifL (x:Int):List Int:=if 0≤x then [x] else []
theorem ifL_yes {x:Int} (h:0≤x):ifL x=[x]:=if_pos h
theorem ifL_no {x:Int} (h:¬ 0≤x):ifL x=[]:=if_neg h
theorem ifL_len (x:Int):(ifL x).length≤1:=by unfold ifL;split <;> simp
def onP (p:Path) (m:Mv):Path:=⟨p.ports ++ ifL m.out ++ ifL m.inn,p.entries ++ ifL m.entry,m.header⟩
def shortP (p:Path) (m:Mv):Path:=⟨p.ports ++ ifL m.out,p.entries ++ ifL m.entry,m.header⟩
def lastP (p:Path):Int:=p.ports.getLastD 0
def portIn (n:Net) (k:Nat):Bool:=match n.ports[k]? with
 | some q=>q.inn
 | none=>false
def leafB (n:Net) (hops:Int) (p:Path):Bool:=
 (movesV n (lastP p).toNat p.header).isEmpty || (if portIn n (lastP p).toNat=false then decide (1<p.ports.length) else decide (hops≤(p.entries.length:Int)))
def walkV (n:Net) (hops:Int):Nat→Path→List Path
 | 0,p=>[p]
 | f+1,p=>if leafB n hops p=true then [p] else (movesV n (lastP p).toNat p.header).flatMap fun m=>walkV n hops f (onP p m)
theorem walkV_leaf {n:Net} {hops:Int} {p:Path} (h:leafB n hops p=true):∀ f,walkV n hops f p=[p]
 | 0=>rfl
 | f+1=>by unfold walkV;rw [if_pos h]
theorem walkV_on {n:Net} {hops:Int} {p:Path} (h:leafB n hops p=false) (f:Nat):walkV n hops (f+1) p=(movesV n (lastP p).toNat p.header).flatMap fun m=>walkV n hops f (onP p m):=by
 rw [walkV,if_neg (by rw [h];decide)]
noncomputable def pathsV (n:Net) (p:Int) (h:ByteArray) (hops:Int):List Path:=
 if checkE n p h=0∧0≤hops∧hops≤64 then walkV n hops (hops.toNat+2) ⟨[p],[],h⟩ else []
theorem lastP_on (p:Path) (m:Mv):lastP (onP p m)=if 0≤m.inn then m.inn else if 0≤m.out then m.out else lastP p:=by
 unfold lastP onP ifL;split <;> split <;> simp
theorem digits_word {n:Net} {w h:ByteArray} (hw:CubeOk n.bits w) (hh:∀ (i:Nat) (c:UInt8),h.data.toList[i]?=some c→c=48∨c=49):∀ (i:Nat) (c:UInt8),(wordV w h).data.toList[i]?=some c→c=48∨c=49:=by
 intro i c hc
 have hcu:∀ x ∈ w.data.toList,x=48∨x=49∨x=120:=by
  intro x hx;have h1:=hw.1;unfold cubeE at h1;split at h1
  ·cases h1
  ·split at h1
   ·cases h1
   ·split at h1
    ·rename_i h3;have:=List.all_eq_true.1 h3 x hx;simp only [Bool.or_eq_true,beq_iff_eq] at this;rcases this with (e | e) | e
     ·exact .inl e
     ·exact .inr (.inl e)
     ·exact .inr (.inr e)
    ·cases h1
 have key:∀ (a b:List UInt8),(∀ x ∈ a,x=48∨x=49∨x=120)→(∀ (i:Nat) (c:UInt8),b[i]?=some c→c=48∨c=49)→∀ (i:Nat) (c:UInt8),(wrL a b)[i]?=some c→c=48∨c=49:=by
  intro a
  induction a with
  | nil=>intro b _ hb i c hc;rw [show wrL [] b=b by cases b <;> rfl] at hc;exact hb i c hc
  | cons x a ih=>
   intro b ha hb i c hc
   cases b with
   | nil=>rw [show wrL (x :: a) []=[] from rfl] at hc;simp at hc
   | cons y b=>
    rw [show wrL (x :: a) (y :: b)=wrB x y :: wrL a b from rfl] at hc
    cases i with
    | zero=>
     (have hc':wrB x y=c:=by simpa using hc);unfold wrB at hc';split at hc'
     ·exact hb 0 c (by simpa using hc')
     ·rename_i hne;rcases ha x List.mem_cons_self with e | e | e
      ·exact .inl (hc'.symm.trans e)
      ·exact .inr (hc'.symm.trans e)
      ·exact absurd e hne
    | succ i=>exact ih b (fun z hz=>ha z (List.mem_cons_of_mem _ hz)) (fun j d hd=>hb (j+1) d (by simpa using hd)) i c (by simpa using hc)
 exact key _ _ hcu hh i c (by simpa [wordV] using hc)
structure MvIn (n:Net) (k:Nat) (h:ByteArray) (m:Mv):Prop where
 entry:0≤m.entry
 out:0≤m.out
 port:∃ r,n.ports[m.out.toNat]?=some r∧r.inn=false∧m.inn=r.dst
 size:m.header.size=h.size
 digits:(∀ (i:Nat) (c:UInt8),h.data.toList[i]?=some c→c=48∨c=49)→∀ (i:Nat) (c:UInt8),m.header.data.toList[i]?=some c→c=48∨c=49
 uniq:∀ m' ∈ movesV n k h,m'.out=m.out→m'=m
theorem movesV_link {n:Net} {k:Nat} {h:ByteArray} {q:Port} (hq:n.ports[k]?=some q) (hin:q.inn=false):movesV n k h=if 0≤q.dst then [⟨-1,-1,q.dst,h⟩] else []:=by
 unfold movesV;rw [hq];simp only [hin,if_true]
theorem movesV_in {n:Net} (hn:NetOk n) {k:Nat} {h:ByteArray} {q:Port} (hq:n.ports[k]?=some q) (hin:q.inn=true):movesV n k h=[]∨∃ t e num,n.tables[q.box.toNat]?=some t∧e ∈ t∧0≤num∧movesV n k h=e.outs.filterMap (outMv n num (wordV e.write h)):=by
 unfold movesV;rw [hq];simp only [hin,Bool.true_eq_false,if_false];split
 ·exact .inl rfl
 ·split
  ·exact .inl rfl
  ·rename_i e he;have hbx:=(hn.ports k q hq).box;(have hbl:q.box.toNat<n.tables.length:=by omega);have ht:n.tables[q.box.toNat]?=some (n.tables[q.box.toNat]):=List.getElem?_eq_getElem hbl;rw [List.getD_eq_getElem?_getD,ht] at he;exact .inr ⟨_,e,_,ht,List.mem_of_getElem? he,Int.natCast_nonneg _,rfl⟩
theorem outMv_some {n:Net} {num:Int} {h:ByteArray} {o:Int} {m:Mv} (hm:outMv n num h o=some m):m.entry=num∧m.out=o∧m.header=h∧∃ r,n.ports[o.toNat]?=some r∧m.inn=r.dst:=by
 unfold outMv at hm;split at hm
 ·rename_i g r hg hr;split at hm
  ·injection hm with hm
   subst hm;exact⟨rfl,rfl,rfl,r,hr,rfl⟩
  ·cases hm
 ·cases hm
theorem mvIn_of {n:Net} (hn:NetOk n) {k:Nat} {h:ByteArray} {q:Port} (hq:n.ports[k]?=some q) (hin:q.inn=true) {m:Mv} (hm:m ∈ movesV n k h):MvIn n k h m:=by
 rcases movesV_in hn (h:=h) hq hin with e | ⟨t,e,num,ht,he,h0,hM⟩
 ·rw [e] at hm;cases hm
 have ho:=table_at hn ht he;have hmm:=hm;rw [hM] at hmm;obtain⟨o,hoo,hmo⟩:=List.mem_filterMap.1 hmm;obtain⟨e1,e2,e3,r,hr,e4⟩:=outMv_some hmo;obtain⟨i,hi⟩:=List.mem_iff_getElem?.1 hoo;obtain⟨g1,r',hr',g2,g3⟩:=(ho.outs i o hi).1;rw [hr] at hr';injection hr' with hr'
 subst hr';refine⟨by omega,by omega,⟨r,by rw [e2];exact hr,g2,e4⟩,by rw [e3];exact wordV_sz _ _,fun hd=>by rw [e3];exact digits_word ho.word hd,fun m' hm' ho'=>?_⟩;rw [hM] at hm';obtain⟨o',_,hmo'⟩:=List.mem_filterMap.1 hm';obtain⟨_,e2',_⟩:=outMv_some hmo';rw [show o'=o by omega,hmo] at hmo';injection hmo' with hx
 exact hx.symm
theorem find_uniq {α:Type} {f:α→Bool} {m:α}:∀ {l:List α},m ∈ l→f m=true→(∀ y ∈ l,f y=true→y=m)→l.find? f=some m
 | [],h,_,_=>by cases h
 | x :: l,h,hf,hu=>by
  rw [List.find?_cons]
  cases hx:f x with
  | true=>simp only;rw [hu x List.mem_cons_self hx]
  | false=>
   simp only;rcases List.mem_cons.1 h with rfl | h
   ·rw [hf] at hx;cases hx
   ·exact find_uniq h hf (fun y hy=>hu y (List.mem_cons_of_mem _ hy))
theorem followV_hit {n:Net} {k:Nat} {h:ByteArray} {x:Int} {r:List Int} {i a:Int} {m:Mv} (hf:(movesV n k h).find? (hitM x)=some m):followV n k h (x :: r) i a=followV n x.toNat m.header r (i+1) (stepA x m a):=by
 conv=>lhs;unfold followV
 rw [hf]
theorem follow_link {n:Net} {k:Nat} {h:ByteArray} {q:Port} (hq:n.ports[k]?=some q) (hin:q.inn=false) (hd:0≤q.dst) (r:List Int) (i a:Int):followV n k h (q.dst :: r) i a=followV n q.dst.toNat h r (i+1) a:=by
 have hf:(movesV n k h).find? (hitM q.dst)=some ⟨-1,-1,q.dst,h⟩:=by
  rw [movesV_link hq hin,if_pos hd];have:hitM q.dst ⟨-1,-1,q.dst,h⟩=true:=by unfold hitM;simp
  rw [List.find?_cons,this]
 rw [followV_hit hf]
 have:stepA q.dst ⟨-1,-1,q.dst,h⟩ a=a:=by
  unfold stepA;rw [if_neg];simp
 rw [this]
theorem follow_move {n:Net} (hn:NetOk n) {k:Nat} {h:ByteArray} {q:Port} (hq:n.ports[k]?=some q) {m:Mv} (hm:m ∈ movesV n k h) (p:Path) (r:List Int) (i a:Int):
  followV n k h (ifL m.out ++ ifL m.inn ++ r) i a=followV n (lastP (onP p m)).toNat m.header r (i+((ifL m.out ++ ifL m.inn).length:Int)) (a+((ifL m.entry).length:Int)):=by
 rw [lastP_on]
 cases hin:q.inn with
 | false=>
  rw [movesV_link hq hin] at hm;split at hm
  ·rename_i hd;(obtain rfl:m=⟨-1,-1,q.dst,h⟩:=by simpa using hm);simp only [ifL_no (show ¬ (0:Int)≤-1 by decide),ifL_yes hd,if_pos hd,List.nil_append,List.singleton_append,List.length_singleton,List.length_nil];rw [follow_link hq hin hd];simp
  ·cases hm
 | true=>
  have hM:=mvIn_of hn hq hin hm;obtain⟨s,hs,hsi,hdst⟩:=hM.port
  have hf:(movesV n k h).find? (hitM m.out)=some m:=by
   refine find_uniq hm ?_ (fun y hy hh=>?_)
   ·unfold hitM;simp [hM.entry]
   ·have hY:=mvIn_of hn hq hin hy;have h1:=hY.out;unfold hitM at hh;simp only [Bool.or_eq_true,Bool.and_eq_true,beq_iff_eq,decide_eq_true_eq] at hh;rcases hh with⟨e,_⟩ | ⟨e,_⟩
    ·exact hM.uniq y hy e
    ·omega
  have hst:stepA m.out m a=a+1:=by
   unfold stepA;rw [if_pos (by simp [hM.entry])]
  rw [ifL_yes hM.out,ifL_yes hM.entry];by_cases hd:0≤m.inn
  ·rw [ifL_yes hd,if_pos hd];simp only [List.singleton_append,List.cons_append,List.nil_append,List.length_cons,List.length_nil];rw [followV_hit hf,hst,hdst,follow_link hs hsi (by omega)];congr 1;omega
  ·rw [ifL_no hd,if_neg hd,if_pos hM.out];simp only [List.singleton_append,List.cons_append,List.nil_append,List.append_nil,List.length_cons,List.length_nil];rw [followV_hit hf,hst];rfl
def Reached (n:Net) (s:Nat) (h:ByteArray) (p:Path):Prop:=∃ l,p.ports=(s:Int) :: l∧∀ (r:List Int) (i a:Int),followV n s h (l ++ r) i a=followV n (lastP p).toNat p.header r (i+(l.length:Int)) (a+(p.entries.length:Int))
structure POk (n:Net) (hops:Int) (p:Path):Prop where
 st:StateOk n (lastP p) p.header
 ne:p.ports≠[]
 ents:(p.entries.length:Int)≤hops
 len:p.ports.length≤2 * p.entries.length+2
 one:portIn n (lastP p).toNat=false→1<p.ports.length→movesV n (lastP p).toNat p.header=[]
theorem POk.port {n:Net} {hops:Int} {p:Path} (h:POk n hops p):∃ q,n.ports[(lastP p).toNat]?=some q∧portIn n (lastP p).toNat=q.inn:=by
 obtain⟨q,hq⟩:=port_at h.st;exact⟨q,hq,by unfold portIn;rw [hq]⟩
theorem Reached.next {n:Net} (hn:NetOk n) {s:Nat} {h:ByteArray} {p:Path} (hr:Reached n s h p) {q:Port} (hq:n.ports[(lastP p).toNat]?=some q) {m:Mv} (hm:m ∈ movesV n (lastP p).toNat p.header):Reached n s h (onP p m):=by
 obtain⟨l,hl,hf⟩:=hr;refine⟨l ++ (ifL m.out ++ ifL m.inn),by show p.ports ++ ifL m.out ++ ifL m.inn=_;rw [hl];simp,fun r i a=>?_⟩;rw [List.append_assoc,hf,follow_move hn hq hm p];show followV n _ m.header r _ _=followV n _ m.header r (i+((l ++ (ifL m.out ++ ifL m.inn)).length:Int)) (a+((p.entries ++ ifL m.entry).length:Int));obtain⟨X,hX⟩:=nM (ifL m.out ++ ifL m.inn);rw [hX];have e1:(l ++ X).length=l.length+X.length:=List.length_append;have e2:(p.entries ++ ifL m.entry).length=p.entries.length+(ifL m.entry).length:=List.length_append;rw [e1,e2];congr 1 <;> omega
def needP (n:Net) (hops:Int) (p:Path):Nat:=(hops - (p.entries.length:Int)).toNat+(if portIn n (lastP p).toNat=false∧p.ports.length≤1 then 2 else 1)
theorem POk.next {n:Net} (hn:NetOk n) {hops:Int} {p:Path} (h:POk n hops p) (hl:leafB n hops p=false) {m:Mv} (hm:m ∈ movesV n (lastP p).toNat p.header):POk n hops (onP p m)∧needP n hops (onP p m)<needP n hops p:=by
 obtain⟨q,hq,hqi⟩:=h.port;have hf:=movesV_fine hn hm;unfold leafB at hl;rw [Bool.or_eq_false_iff] at hl;have hlen:=h.len;have hne:1≤p.ports.length:=by cases hp:p.ports with | nil=>exact absurd hp h.ne | cons _ _=>simp
 have hbits:=h.st.bits
 cases hin:q.inn with
 | false=>
  rw [hqi,hin,if_pos rfl,decide_eq_false_iff_not] at hl;rw [movesV_link hq hin] at hm;split at hm
  ·rename_i hd;(obtain rfl:m=⟨-1,-1,q.dst,p.header⟩:=by simpa using hm);have hlast:lastP (onP p ⟨-1,-1,q.dst,p.header⟩)=q.dst:=by rw [lastP_on,if_pos hd]
   have hpo:(onP p ⟨-1,-1,q.dst,p.header⟩).ports.length=p.ports.length+1:=by
    unfold onP;simp only [ifL_no (show ¬ (0:Int)≤-1 by decide),ifL_yes hd,List.append_nil,List.length_append,List.length_singleton]
   have hen:(onP p ⟨-1,-1,q.dst,p.header⟩).entries=p.entries:=by
    unfold onP;simp only [ifL_no (show ¬ (0:Int)≤-1 by decide),List.append_nil]
   rcases (hn.ports _ q hq).dst with e | ⟨_,_,r,hr,hri⟩
   ·omega
   (have hpi:portIn n (lastP (onP p ⟨-1,-1,q.dst,p.header⟩)).toNat=true:=by unfold portIn;rw [hlast,hr];exact hri);refine⟨⟨?_,?_,?_,?_,?_⟩,?_⟩
   ·rw [hlast];exact⟨⟨hd,hf.inn hd⟩,hbits,h.st.digits⟩
   ·intro e;rw [e] at hpo;simp at hpo
   ·rw [hen];exact h.ents
   ·rw [hen,hpo];omega
   ·intro e;rw [hpi] at e;cases e
   ·unfold needP;rw [hen,hpi,hqi,hin,if_neg (by simp),if_pos ⟨rfl,by omega⟩];omega
  ·cases hm
 | true=>
  rw [hqi,hin,if_neg (by simp),decide_eq_false_iff_not] at hl;have hM:=mvIn_of hn hq hin hm;obtain⟨s,hs,hsi,hdst⟩:=hM.port
  have hen:(onP p m).entries.length=p.entries.length+1:=by
   unfold onP;simp only [ifL_yes hM.entry,List.length_append,List.length_singleton]
  have hpo:(onP p m).ports.length=p.ports.length+1+(ifL m.inn).length:=by
   unfold onP;simp only [ifL_yes hM.out,List.length_append,List.length_singleton]
  have hil:=ifL_len m.inn
  have hst:StateOk n (lastP (onP p m)) (onP p m).header:=by
   refine⟨?_,by show ((m.header.size:Nat):Int)=_;rw [hM.size];exact hbits,hM.digits h.st.digits⟩;rw [lastP_on];split
   ·rename_i e;exact⟨e,hf.inn e⟩
   ·rw [if_pos hM.out];exact⟨hM.out,hf.out hM.out⟩
  refine⟨⟨hst,?_,by omega,by omega,?_⟩,?_⟩
  ·intro e;rw [e] at hpo;simp only [List.length_nil] at hpo;omega
  ·intro e1 e2;by_cases hd:0≤m.inn
   ·exfalso;rcases (hn.ports _ s hs).dst with e | ⟨_,_,r,hr,hri⟩
    ·omega
    ·rw [lastP_on,if_pos hd,hdst] at e1;unfold portIn at e1;rw [hr] at e1;simp only at e1;rw [hri] at e1
     cases e1
   ·rw [lastP_on,if_neg hd,if_pos hM.out,movesV_link hs hsi,if_neg (by omega)]
  ·unfold needP;rw [hen,hqi,hin,if_neg (by rw [hpo];omega),if_neg (by simp)];omega
theorem POk.first {n:Net} {p:Int} {h:ByteArray} (hs:StateOk n p h) {hops:Int} (hh:0≤hops):POk n hops ⟨[p],[],h⟩:=
 ⟨hs,by simp,by simpa using hh,by simp,fun _ h=>by simp at h⟩
theorem needP_first (n:Net) (p:Int) (h:ByteArray) (hops:Int):needP n hops ⟨[p],[],h⟩≤hops.toNat+2:=by
 unfold needP;simp only [List.length_nil];split <;> omega
theorem Reached.first (n:Net) (s:Nat) (h:ByteArray):Reached n s h ⟨[(s:Int)],[],h⟩:=⟨[],rfl,fun r i a=>by
 show followV n s h r i a=followV n ((s:Int)).toNat h r (i+0) (a+0)
 rw [Int.toNat_natCast,Int.add_zero,Int.add_zero]⟩
structure Whole (n:Net) (s:Nat) (h:ByteArray) (hops:Int) (p:Path):Prop where
 ok:POk n hops p
 reached:Reached n s h p
 leaf:leafB n hops p=true
theorem walk_whole {n:Net} (hn:NetOk n) {s:Nat} {h:ByteArray} {hops:Int}:∀ (f:Nat) (p:Path),POk n hops p→Reached n s h p→needP n hops p≤f→∀ q ∈ walkV n hops f p,Whole n s h hops q
 | 0,p,hp,_,hf,q,hq=>by unfold needP at hf;split at hf <;> omega
 | f+1,p,hp,hr,hf,q,hq=>by
  cases hl:leafB n hops p with
  | true=>
   rw [walkV_leaf hl] at hq;(obtain rfl:q=p:=by simpa using hq);exact⟨hp,hr,hl⟩
  | false=>
   rw [walkV_on hl] at hq;obtain⟨m,hm,hq⟩:=List.mem_flatMap.1 hq;obtain⟨h1,h2⟩:=hp.next hn hl hm;obtain⟨pq,hpq,_⟩:=hp.port;exact walk_whole hn f (onP p m) h1 (hr.next hn hpq hm) (by omega) q hq
theorem paths_whole {n:Net} {s:Nat} {h:ByteArray} {hops:Int} {q:Path} (hq:q ∈ pathsV n (s:Int) h hops):Whole n s h hops q:=by
 unfold pathsV at hq;split at hq
 ·rename_i hc;obtain⟨hn,hs⟩:=checkE_zero hc.1;exact walk_whole hn _ _ (POk.first hs hc.2.1) (Reached.first n s h) (needP_first _ _ _ _) q hq
 ·cases hq
end Sp
namespace Sp
theorem Whole.ports_len {n:Net} {s:Nat} {h:ByteArray} {hops:Int} {q:Path} (hw:Whole n s h hops q) (hh:hops≤64):1≤q.ports.length∧q.ports.length≤130:=by
 have h1:=hw.ok.len;have h2:=hw.ok.ents;obtain⟨l,hl,_⟩:=hw.reached;refine⟨by rw [hl];simp,by omega⟩
theorem followT_at {n:Net} {s:Nat} {h:ByteArray} (hc:checkE n (s:Int) h=0) {l:List Int} (hl:l.length≤129):followT n (s:Int) h ((s:Int) :: l)=followV n s h l 1 0:=by
 unfold followT;rw [if_neg (by rw [List.length_cons];omega),if_pos hc];simp only;rw [if_pos trivial,Int.toNat_natCast]
theorem walk_prefix {n:Net} {hops:Int}:∀ (f:Nat) (p:Path),∀ q ∈ walkV n hops f p,p.ports <+: q.ports
 | 0,p,q,hq=>by rw [walkV] at hq;obtain rfl:q=p:=(by simpa using hq);exact List.prefix_refl _
 | f+1,p,q,hq=>by
  cases hl:leafB n hops p with
  | true=>rw [walkV_leaf hl] at hq;obtain rfl:q=p:=(by simpa using hq);exact List.prefix_refl _
  | false=>
   rw [walkV_on hl] at hq;obtain⟨m,hm,hq⟩:=List.mem_flatMap.1 hq;refine List.IsPrefix.trans ?_ (walk_prefix f (onP p m) q hq);exact⟨ifL m.out ++ ifL m.inn,by show _=p.ports ++ ifL m.out ++ ifL m.inn;rw [List.append_assoc]⟩
end Sp
theorem law10_ints (A1 A2:Option Addr) (cap1 cap2:Nat) (l:List Int) (w:World) (k1:IV w A1 l) (k2:IV w A2 l) (hl:l.length≤4611686018427387904):
  Calls Tryz.prog 24 #[.slice A1 l.length cap1,.slice A2 l.length cap2] w fun e w'=>e=.returned (.bool true)∧Below w.heap.size w w':=by
 have K1:=hid k1;have K2:=hid k2;obtain⟨n,hn⟩:=nM l.length;rw [hn] at hl ⊢;have HN:=hid hn;have q0:((n:Int) != (n:Int))=false:=by rw [bne_eq_false_iff_eq]
 have n1:(n:Int)≤4611686018427387904:=by omega
 clear k1 k2 hn;go_enter Tryz.func24,Tryz.ntmps24;go_wp2_with fail;go_loopw [5] (fun v5 wr=>Below w.heap.size w wr∧∃ i:Nat,v5=.int .i64 (i:Int)∧i≤n) (fun v5 _=>n - (intOf v5).toNat)
 case atStart=>exact⟨Below.refl _ _,0,rfl,by omega⟩
 case round=>
  obtain⟨hb,i,rfl,hi⟩:=hrel;have HB:=hid hb;by_cases hlt:i<n
  ·have z1:decide ((i:Int)<n)=true:=dT;have z1b:decide (i<n)=true:=decide_eq_true hlt;(have z2:(i:Int)<n:=by omega);have z3:(0:Int)≤(i:Int):=by omega
   obtain⟨d,hd⟩:∃ d,l[i]?=some d:=⟨_,List.getElem?_eq_getElem (by rw [HN.out];exact hlt)⟩
   obtain⟨g1,o1,rfl,hg1,a0⟩:=(K1.out.more hb).at hd;obtain⟨g2,o2,rfl,hg2,b0⟩:=(K2.out.more hb).at hd;clear hb hd hg1 hg2;go_wp2_with fail;go_quiet (fail);go_wp2_with fail;go_roundw
   case rel=>exact⟨below_drewN HB.out _,i+1,by rfl,by omega⟩
   case measure=>simp [intOf];omega
  ·have z1:decide ((i:Int)<n)=false:=dF;have z1b:decide (i<n)=false:=decide_eq_false hlt;clear hb hlt hi;go_wp2_with fail;go_ret;exact⟨rfl,HB.out⟩
theorem iinfo:(Tryz.prog.info? 3).map (fun i=>(i.zero,i.size,i.bytes))=some (some (.int .i64 0),1,8):=by kernel_rfl
def InR (w:World) (B:Nat) (v:Value) (l:List Int):Prop:=w.ownsRow B 3 1 v l.length (l.map (Value.int .i64))
theorem in_view {w:World} {B:Nat} {v:Value} {l:List Int} (h:InR w B v l):∃ A cap,v=.slice A l.length cap∧l.length≤cap∧IV w A l:=by
 rcases h.2 with⟨rfl,hn⟩ | ⟨g,cap,cur,hv,hg,hh,hle,hcm,r⟩
 ·refine⟨none,0,by rw [hn],by omega,?_⟩;intro i d hd;have:l=[]:=List.length_eq_zero_iff.1 hn;subst this;simp at hd
 ·refine⟨some ⟨g,0,none⟩,cap,hv,hle,?_⟩;intro i z hz;refine⟨g,0,[.int .i64 z],rfl,(World.ownsRow.lt h g (by rw [hv];rfl)).2,rfl,rfl,?_⟩;intro f u hu;have hf:f=0:=by have:=(List.getElem?_eq_some_iff.1 hu).1;simpa using this
  subst hf;have hi:i<l.length:=(List.getElem?_eq_some_iff.1 hz).1;have h2:w.ownsRow B 3 1 (.slice (some ⟨g,0,none⟩) l.length cap) l.length (l.map (Value.int .i64)):=by rw [← hv];exact h
  rw [Nat.zero_add,Nat.mul_one,Nat.add_zero,h2.cellAt i (by omega),List.getElem?_map,hz];simpa using hu
theorem results_cell2 {P:Program} {fn:Func} {p q:Tmp} {ty:TypeId} (h:fn.results=#[.cell p ty,.cell q ty]) (tmps:Array Value) (w:World) (g g':Nat) (t:TypeId) (cs cs':Array Value) (d:TypeDesc)
  (hp:tmps.getD p undef=.pointer (some ⟨g,0,none⟩)) (hq:tmps.getD q undef=.pointer (some ⟨g',0,none⟩)) (hg:w.heap[g]?=some (.cells cs t (0,0))) (hg':w.heap[g']?=some (.cells cs' t (0,0)))
  (hu:P.underlying ty=some d) (hd:(match d with | .struct _ | .array _ _=>true | _=>false)=true) (hi:(P.info? ty).map (·.size)=some cs.size) (hi':(P.info? ty).map (·.size)=some cs'.size):
  (results fn tmps).run P w=.ok (.tuple #[.agg cs,.agg cs']) w:=by
 have hp':tmps[p]?.getD undef=.pointer (some ⟨g,0,none⟩):=by simpa using hp
 have hq':tmps[q]?.getD undef=.pointer (some ⟨g',0,none⟩):=by simpa using hq
 simp [results,h,hp',hq',asAddr,run_loadVar_row w g t ty cs (0,0) d hg hu hd hi,run_loadVar_row w g' t ty cs' (0,0) d hg' hu hd hi',Sem.run_bind,Result.andThen]
theorem in_below {A B:World} {b:Nat} {v:Value} {l:List Int} (h:InR A b v l) (hb:Below A.heap.size A B):InR B b v l:=by
 refine World.ownsRow.kept h (grown_of_below hb) ?_
 cases hv:v.ownBlock with
 | none=>exact .inl rfl
 | some k=>exact .inr (by simp)
theorem in_mono {A:World} {b b':Nat} {v:Value} {l:List Int} (h:InR A b v l) (hb:b'≤b):InR A b' v l:=by
 refine⟨h.1,?_⟩;rcases h.2 with h | ⟨g,cap,cur,h1,h2,h3⟩
 ·exact Or.inl h
 ·exact Or.inr ⟨g,cap,cur,h1,Nat.le_trans hb h2,h3⟩
theorem in_nil (A:World) (b:Nat):InR A b (.slice none 0 0) []:=World.ownsRow_nil _ _ _ _
theorem in_set {A:World} {b:Nat} {v:Value} {l:List Int} (h:InR A b v l) {p:Addr} (hp:p.block<b) (u:Value):InR (A.setCell p u) b v l:=ownsRow_setCell_below h hp u
theorem in_drew {A:World} {b:Nat} {v:Value} {l:List Int} (h:InR A b v l):InR A.drew b v l:=h
theorem clone_int {B:Nat} {v:Value} {l:List Int} (w:World) (h:InR w B v l) (hl:l.length≤1000000):
  Calls Tryz.prog 52 #[v] w fun e w'=>∃ v',e=.returned v'∧InR w' w.heap.size v' l∧Below w.heap.size w w':=by
 have H:=hid h;rcases h.2 with⟨rfl,hn⟩ | ⟨g,cap,cur,rfl,hg,hh,hle,hcm,r⟩
 ·have:l=[]:=List.length_eq_zero_iff.1 hn;subst this;have hnil:∀ w:World,(binOp .eql 29 (.slice none 0 0) (.slice none 0 0)).run Tryz.prog w=.ok (.bool true) w:=fun _=>rfl
  clear h H hn hl;go_enter Tryz.func52,Tryz.ntmps52;go_wp2;go_ret;exact⟨_,rfl,in_nil _ _,Below.refl _ _⟩
 ·obtain⟨n,hn⟩:=nM l.length
  have HC:Hid (∀ j u,(l.map (Value.int .i64))[j]?=some u→w.cell? ((⟨g,0,none⟩:Addr).add j)=some u):=hid (fun j u hj=>by
   have h2:w.ownsRow B 3 1 (.slice (some ⟨g,0,none⟩) l.length cap) l.length (l.map (Value.int .i64)):=h;rw [xadd_plain,Nat.zero_add,h2.cellAt j (by have:=(List.getElem?_eq_some_iff.1 hj).1;simpa using this)]
   exact hj)
  have HGL:=hid (show g<w.heap.size from (Array.getElem?_eq_some_iff.1 hh).1);have HN:=hid hn;rw [hn] at hl ⊢;have HL:=hid hl;have hnil:∀ w:World,(binOp .eql 29 (.slice (some ⟨g,0,none⟩) n cap) (.slice none 0 0)).run Tryz.prog w=.ok (.bool false) w:=fun _=>rfl
  obtain⟨i0,hi0,hz0,hz1,hz2⟩:=info_parts iinfo;have HO:Hid ((w.alloc (.cells #[] 3)).ownsRow w.heap.size 3 1 (.slice (some ⟨w.heap.size,0,none⟩) 0 0) 0 []):=hid ⟨rfl,.inr ⟨w.heap.size,0,#[],rfl,Nat.le_refl _,heap_alloc_new w _,Nat.le_refl _,by decide,rfl,rfl⟩⟩
  have HC2:Hid (∀ j u,(l.map (Value.int .i64))[j]?=some u→(w.alloc (.cells #[] 3)).cell? ((⟨g,0,none⟩:Addr).add j)=some u):=hid (fun j u hj=>by
   have h1:=HC.out j u hj;rw [xadd_plain] at h1 ⊢
   exact (((Below.refl w.heap.size w).alloc (Nat.le_refl _) _).cell (p:=⟨g,0+j,none⟩) HGL.out).trans h1)
  have HS:Hid (∀ u ∈ l.map (Value.int .i64),u.oneCell'=true):=hid (fun u hu=>by obtain⟨x,_,rfl⟩:=List.mem_map.1 hu;rfl);clear h H hg hh hle hcm r hn hl;go_enter Tryz.func52,Tryz.ntmps52
  go_wp2_with (at_builtin;refine wpList_append_own_at _ rfl _ _ 29 rfl w.heap.size 3 i0 (.int .i64 0) 1 8 Tryz.underlying29 hi0 hz0 hz1 hz2 rfl (by decide) (.slice (some ⟨w.heap.size,0,none⟩) 0 0) 0 [] rfl HO.out ⟨g,0,none⟩ n cap (l.map (Value.int .i64)) rfl (by have:=HN.out;simpa using this) HC2.out HS.out (by have:=HL.out;unfold maxLen;omega) (by have:=HL.out;omega) (by rw [World.size_alloc];omega) ?_;intro v' w' hown' hgrow _ _)
  go_ret;refine⟨_,rfl,?_,?_⟩
  ·unfold InR;rw [HN.out];simpa using hown'
  ·exact ((Below.refl w.heap.size w).alloc (Nat.le_refl _) _).grown hgrow (by rw [World.size_alloc];omega) (fun k e=>Nat.le_of_eq (by simpa [Value.ownBlock] using e))
theorem last_get {l:List Int} (h:l≠[]):l[l.length - 1]?=some (l.getLastD 0):=by
 rw [← List.getLast?_eq_getElem?,List.getLastD_eq_getLast?,List.getLast?_eq_some_getLast h];rfl
theorem blk_at {w:World} {n:Nat} {t:TypeId} {cs:Array Value} (h:w.heap.size=n):Blk (w.alloc (.cells cs t)) n t cs:=by rw [← h];exact Blk.new _ _ _
theorem step_last {B:Nat} {v1 v2:Value} {P:List Int} (h:ByteArray) (w:World) (h1:InR w B v1 P) (hne:P≠[]) (hl:P.length≤1000000):
  Calls Tryz.prog 31 #[.agg #[v1,v2,.string h]] w fun e w'=>e=.returned (.agg #[.int .i64 (P.getLastD 0),.string h])∧Below w.heap.size w w':=by
 obtain⟨N,hN⟩:=nM w.heap.size;rcases h1.2 with⟨_,hn⟩ | ⟨g,cap,cur,rfl,hg,hh,hle,hcm,r⟩
 ·exact absurd (List.length_eq_zero_iff.1 hn) hne
 obtain⟨n,hn⟩:∃ n,P.length=n+1:=⟨P.length - 1,by have:=List.length_pos_iff.2 hne;omega⟩
 obtain⟨z,hz⟩:=nM (P.getLastD 0)
 have hc:w.cell? ⟨g,n,none⟩=some (.int .i64 z):=by
  have h2:w.ownsRow B 3 1 (.slice (some ⟨g,0,none⟩) P.length cap) P.length (P.map (Value.int .i64)):=h1;rw [h2.cellAt n (by omega),List.getElem?_map,show n=P.length - 1 by omega,last_get hne,hz];rfl
 have hgl:g<w.heap.size:=(Array.getElem?_eq_some_iff.1 hh).1;obtain⟨W,hW⟩:=nM ((w.alloc (.cells #[.slice (some ⟨g,0,none⟩) (n+1) cap,v2,.string h] 31)).alloc (.cells #[.int .i64 0,.string ⟨#[]⟩] 28));have hWb:Below w.heap.size w W:=by rw [← hW];exact ((Below.refl _ _).alloc (Nat.le_refl _) _).alloc (by simp) _
 have hk1:Blk W N 31 #[.slice (some ⟨g,0,none⟩) (n+1) cap,v2,.string h]:=by rw [← hW,← hN];exact (Blk.new w _ _).alloc _
 have hk2:Blk W (N+1) 28 #[.int .i64 0,.string ⟨#[]⟩]:=by rw [← hW];exact blk_at (by rw [World.size_alloc];omega)
 rw [hz];rw [hn] at hl ⊢;have n0:(0:Int)≤(n:Int):=by omega
 have n1:(n:Int)<(n:Int)+1:=by omega
 have HC:=hid ((hWb.cell (p:=⟨g,n,none⟩) hgl).trans hc);have HK1:=hid hk1;have HK2:=hid hk2;have HWB:=hid hWb;have HN:=hid hN;have HL:=hid hl;clear h1 hne hl hg hh hle hcm r hn hz hc hgl hWb hk1 hk2;go_enter Tryz.func31,Tryz.ntmps31;go_wp2_with fail;have z1:IntKind.i64.wrap (n:Int)=(n:Int):=by have:=HL.out;rw [IntKind.wrap_i64];omega
 have hQp:True:=trivial;refine wp_region_K 11 (fun w'=>w'.cell? ⟨N,0,none⟩=some (.slice (some ⟨g,0,none⟩) (n+1) cap)∧w'.cell? ⟨N,2,none⟩=some (.string h)∧w'.cell? ⟨g,n,none⟩=some (.int .i64 z)) (by kernel_rfl) (fun hcl=>?_);refine mS (⟨HK1.out.cell 0,HK1.out.cell 2,HC.out⟩) (fun hS=>?_);refine tk 0 hcl hS ?_;clear hcl;intro hcl;simp only [tkl];refine tk 1 hcl hS ?_;clear hcl;intro hcl;simp only [tkl];refine tk 2 hcl hS ?_;clear hcl;intro hcl;simp only [tkl];refine tk 3 hcl hS ?_;clear hcl;intro hcl;simp only [tkl];refine tk 4 hcl hS ?_;clear hcl;intro hcl;simp only [tkl];refine tk 5 hcl hS ?_;clear hcl;intro hcl;simp only [tkl];refine tk 6 hcl hS ?_;clear hcl;intro hcl;simp only [tkl];refine tk 7 hcl hS ?_;clear hcl;intro hcl;simp only [tkl];refine tk 8 hcl hS ?_;clear hcl;intro hcl;simp only [tkl];refine tk 9 hcl hS ?_;clear hcl;intro hcl;simp only [tkl];refine tk 10 hcl hS ?_;clear hcl;intro hcl;simp only [tkl];clear hS;have c0:W.cell? ⟨N+1,0,none⟩=some (.int .i64 0):=HK2.out.cell 0;have c1:W.cell? ⟨N+1,1,none⟩=some (.string ⟨#[]⟩):=HK2.out.cell 1;have f0:W.frozen? ⟨N+1,0,none⟩=false:=HK2.out.frozen 0;have f1:W.frozen? ⟨N+1,1,none⟩=false:=HK2.out.frozen 1;refine on1 11 hcl (fun K hK=>?_);go_simp;refine hK.out _ _ (Or.inl (by kernel_rfl)) (fun hcl2=>?_);clear hK K hcl hcl2;refine wpAnyK_done (by kernel_rfl) ?_ _;(try simp only [Act.put,pu]);go_wp2;refine bodyPost_ret (results_cell_row rfl _ _ (N+1) 28 #[.int .i64 z,.string h] (0,0) _ rfl (((HK2.out.set_ 0 (.int .i64 z)).set_ 1 (.string h))) Tryz.underlying28 rfl (by kernel_rfl)) rfl ⟨rfl,?_⟩;exact ((HWB.out.setCell (p:=⟨N+1,0,none⟩) (by have:=HN.out;show _≤N+1;omega) _).setCell (p:=⟨N+1,1,none⟩) (by have:=HN.out;show _≤N+1;omega) _).drew
structure Two (B:Nat) (W:World) (x y:Value) (P E:List Int):Prop where
 fst:InR W B x P
 snd:InR W B y E
 apart:∀ b,x.ownBlock=some b→y.ownBlock≠some b
theorem Two.symm {B:Nat} {W:World} {x y:Value} {P E:List Int} (h:Two B W x y P E):Two B W y x E P:=⟨h.snd,h.fst,fun b hy hx=>h.apart b hx hy⟩
theorem Two.cloned {B:Nat} {W W':World} {x y:Value} {P E:List Int} (hx:InR W B x P) (hB:B≤W.heap.size) (hb:Below W.heap.size W W') (hy:InR W' W.heap.size y E):Two B W' x y P E:=
 ⟨in_below hx hb,in_mono hy hB,fun b h1 h2=>by
  have l1:=(World.ownsRow.lt hx b h1).2;have l2:=(World.ownsRow.lt hy b h2).1
  omega⟩
theorem Two.set {B:Nat} {W:World} {x y:Value} {P E:List Int} (h:Two B W x y P E) {p:Addr} (hp:p.block<B) (u:Value):Two B (W.setCell p u) x y P E:=⟨in_set h.fst hp u,in_set h.snd hp u,h.apart⟩
theorem wpList_two {ops:Array Oper} {rest:List Oper} {o:Oper} {a:Act} {Q:Exit→Act→World→Prop} (hgd:o.guard=none) (s r:Operand)
  (ho:o.op=.call { callee:=.builtin .append,args:=#[s,r],argTypes:=#[29,29] })
  (B:Nat) (x y:Value) (P E:List Int) (hs:a.eval s=x) (W:World) (c:Int) (hr:a.eval r=.slice (some ⟨W.heap.size,0,none⟩) 1 1) (hT:Two B W x y P E) (hB:B≤W.heap.size) (hl:P.length≤1000000)
  (h:∀ x' w',Two B w' x' y (P ++ [c]) E→Below B W w'→wpList Tryz.prog ops Q rest (a.put o.dst x') w'):wpList Tryz.prog ops Q (o :: rest) a (W.alloc (.cells #[.int .i64 c] 3)):=by
 obtain⟨i0,hi0,hz0,hz1,hz2⟩:=info_parts iinfo;refine wpList_append_own_at _ hgd s r 29 ho B 3 i0 (.int .i64 0) 1 8 Tryz.underlying29 hi0 hz0 hz1 hz2 rfl (by decide) x P.length (P.map (Value.int .i64)) hs (World.ownsRow.alloc hT.fst _) ⟨W.heap.size,0,none⟩ 1 1 [.int .i64 c] hr rfl ?_ ?_ (by unfold maxLen;omega) (by omega) (by rw [World.size_alloc];omega) ?_
 ·intro j u hj;exact World.news_of_block (heap_alloc_new W (.cells #[.int .i64 c] 3)) j u (by simpa using hj)
 ·intro u hu;rcases List.mem_cons.1 hu with rfl | hu
  ·rfl
  ·cases hu
 ·intro x' w' hown' hgrow _ hat;refine h x' w' ⟨?_,?_,fun b h1 h2=>?_⟩ ?_
  ·unfold InR;rw [List.length_append,List.map_append];exact hown'
  ·refine World.ownsRow.kept (World.ownsRow.alloc hT.snd _) hgrow ?_
   cases hy:y.ownBlock with
   | none=>exact .inl rfl
   | some k=>exact .inr (fun e=>hT.apart k e.symm hy)
  ·rcases hat with e | e
   ·exact hT.apart b (e.symm.trans h1) h2
   ·have l2:=(World.ownsRow.lt hT.snd b h2).2;rw [World.size_alloc,h1] at e;(injection e with e);omega
  ·exact ((Below.refl B W).alloc hB _).grown hgrow (by rw [World.size_alloc];omega) (fun g e=>(World.ownsRow.lt hT.fst g e).1)
theorem in_slice {B:Nat} {W:World} {v:Value} {l:List Int} (h:InR W B v l):∃ A k c,v=.slice A k c:=by
 obtain⟨A,c,rfl,_⟩:=in_view h;exact⟨A,_,c,rfl⟩
def OnEnd (P E:List Int) (m:Sp.Mv) (w:World) (r:Ending) (w':World):Prop:=
 ∃ s1 s2 q1 q2,r=.returned (.tuple #[.agg #[s1,s2,.string m.header],.agg #[q1,q2,.string m.header]])∧InR w' w.heap.size s1 (P ++ Sp.ifL m.out)∧InR w' w.heap.size s2 (E ++ Sp.ifL m.entry)∧InR w' w.heap.size q1 (P ++ Sp.ifL m.out ++ Sp.ifL m.inn)∧InR w' w.heap.size q2 (E ++ Sp.ifL m.entry)∧Below w.heap.size w w'
theorem OnEnd.of {P E P2 E2 P3:List Int} {e o i:Int} {hd:ByteArray} {w w':World} {s1 s2 q1 q2:Value} {B:Nat} (hP:P ++ Sp.ifL o=P2) (hE:E ++ Sp.ifL e=E2) (hQ:P2 ++ Sp.ifL i=P3) (hB:w.heap.size≤B) (h1:InR w' B s1 P2) (h2:InR w' B s2 E2) (h3:InR w' B q1 P3) (h4:InR w' B q2 E2) (hb:Below w.heap.size w w'):
  OnEnd P E ⟨e,o,i,hd⟩ w (.returned (.tuple #[.agg #[s1,s2,.string hd],.agg #[q1,q2,.string hd]])) w':=
 ⟨s1,s2,q1,q2,rfl,in_mono (by rw [hP];exact h1) hB,in_mono (by rw [hE];exact h2) hB,in_mono (by rw [hP,hQ];exact h3) hB,in_mono (by rw [hE];exact h4) hB,hb⟩
theorem in_under {A C:World} {b B:Nat} {v:Value} {l:List Int} (h:InR A b v l) (hk:∀ k,v.ownBlock=some k→k<B) (hb:Below B A C):InR C b v l:=by
 refine⟨h.1,?_⟩;rcases h.2 with h | ⟨g,cap,cur,rfl,h2,h3,h4⟩
 ·exact Or.inl h
 ·exact Or.inr ⟨g,cap,cur,rfl,h2,(hb.block g (hk g rfl)).trans h3,h4⟩
theorem step_on {B:Nat} {v1 v2:Value} {P E:List Int} (h:ByteArray) (m:Sp.Mv) (w:World) (h1:InR w B v1 P) (h2:InR w B v2 E) (l1:P.length≤999990) (l2:E.length≤999990)
  (hm:(m.entry<0∧m.out<0∧0≤m.inn)∨(0≤m.entry∧0≤m.out)):
  Calls Tryz.prog 32 #[.agg #[v1,v2,.string h],mvC m] w (OnEnd P E m w):=by
 obtain⟨e,o,i,hd⟩:=m;simp only [] at hm;obtain⟨N,hN⟩:=nM w.heap.size;obtain⟨V,hV⟩:=nM ((((w.alloc (.cells #[v1,v2,.string h] 31)).alloc (.cells #[.int .i64 e,.int .i64 o,.int .i64 i,.string hd] 77)).alloc (.cells #[.slice none 0 0,.slice none 0 0,.string ⟨#[]⟩] 31)).alloc (.cells #[.slice none 0 0,.slice none 0 0,.string ⟨#[]⟩] 31));have hVb:Below N w V:=by rw [← hV,← hN];exact ((((Below.refl _ _).alloc (Nat.le_refl _) _).alloc (by simp) _).alloc (by simp;omega) _).alloc (by simp;omega) _
 have hVs:V.heap.size=N+4:=by rw [← hV,← hN];simp
 have hk1:Blk V N 31 #[v1,v2,.string h]:=by rw [← hV,← hN];exact (((Blk.new w _ _).alloc _).alloc _).alloc _
 have hk2:Blk V (N+1) 77 #[.int .i64 e,.int .i64 o,.int .i64 i,.string hd]:=by rw [← hV];exact ((blk_at (by rw [World.size_alloc];omega)).alloc _).alloc _
 have hk3:Blk V (N+2) 31 #[.slice none 0 0,.slice none 0 0,.string ⟨#[]⟩]:=by rw [← hV];exact (blk_at (by rw [World.size_alloc,World.size_alloc];omega)).alloc _
 have hk4:Blk V (N+3) 31 #[.slice none 0 0,.slice none 0 0,.string ⟨#[]⟩]:=by rw [← hV];exact blk_at (by rw [World.size_alloc,World.size_alloc,World.size_alloc];omega)
 have H1:=hid (in_below (B:=V) h1 (by rw [hN];exact hVb));have H2:=hid (in_below (B:=V) h2 (by rw [hN];exact hVb));have HK1:=hid hk1;have HK2:=hid hk2;have HK3:=hid hk3;have HK4:=hid hk4;have HVB:=hid hVb;have HVS:=hid hVs;have HN:=hid hN;have HL1:=hid l1;have HL2:=hid l2;have HM:=hid hm;have hmv_:mvC ⟨e,o,i,hd⟩=.agg #[.int .i64 e,.int .i64 o,.int .i64 i,.string hd]:=rfl;rw [hmv_];clear hmv_ h1 h2 hk1 hk2 hk3 hk4 hVb hVs l1 l2 hm;go_enter Tryz.func32,Tryz.ntmps32;go_wp2_with fail;refine wp_region_K 5 (fun w'=>w'.cell? ⟨N,0,none⟩=some v1∧w'.cell? ⟨N,1,none⟩=some v2) (by kernel_rfl) (fun hcl=>?_);refine mS (⟨HK1.out.cell 0,HK1.out.cell 1⟩) (fun hS=>?_);refine tk 0 hcl hS ?_;clear hcl;intro hcl;simp only [tkl];refine tk 1 hcl hS ?_;clear hcl;intro hcl;simp only [tkl];refine tk 3 hcl hS ?_;clear hcl;intro hcl;simp only [tkl];refine tk 4 hcl hS ?_;clear hcl;intro hcl;simp only [tkl];clear hS;refine on1 2 hcl (fun K hK=>?_);go_simp;refine (clone_int V.drew (in_drew H1.out) (by have:=HL1.out;omega)).mono ?_;rintro r W5 ⟨x,rfl,hx,hb5⟩;have hb5':Below V.heap.size V W5:=((Below.refl V.heap.size V).drew).trans hb5;have HX:=hid hx;have HB5:=hid hb5'
 have hS5:W5.cell? ⟨N,0,none⟩=some v1∧W5.cell? ⟨N,1,none⟩=some v2:=⟨(hb5'.cell (p:=⟨N,0,none⟩) HK1.out.lt).trans (HK1.out.cell 0),(hb5'.cell (p:=⟨N,1,none⟩) HK1.out.lt).trans (HK1.out.cell 1)⟩
 clear hx hb5 hb5';refine hK.out _ _ (Or.inr hS5) (fun hcl2=>?_);clear hK K hcl hS5;have hcl:=hcl2;clear hcl2;refine on1 5 hcl (fun K hK=>?_);go_simp;refine (clone_int W5 (in_below H2.out HB5.out) (by have:=HL2.out;omega)).mono ?_;rintro r W6 ⟨y,rfl,hy,hb6⟩;have HT:Hid (Two V.heap.size W6 x y P E):=hid (Two.cloned HX.out HB5.out.size hb6 hy);have HB6:=hid (HB5.out.trans (hb6.mono HB5.out.size));clear hy hb6;refine hK.out _ _ (Or.inl (by kernel_rfl)) (fun hcl2=>?_);clear hK K hcl HX HB5;have hcl:=hcl2;clear hcl2;refine on1 6 hcl (fun K hK=>?_);go_simp;refine hK.out _ _ (Or.inl (by kernel_rfl)) (fun hcl2=>?_);clear hK K hcl;have hcl:=hcl2;clear hcl2;refine on1 7 hcl (fun K hK=>?_);go_simp;refine hK.out _ _ (Or.inl (by kernel_rfl)) (fun hcl2=>?_);clear hK K hcl hcl2;refine wpAnyK_done (by kernel_rfl) ?_ _;have hV6:V.heap.size≤W6.heap.size:=HB6.out.size;replace HK2:=hid (HK2.out.below HB6.out HK2.out.lt);replace HK3:=hid (HK3.out.below HB6.out HK3.out.lt);replace HK4:=hid (HK4.out.below HB6.out HK4.out.lt);replace HT:Hid (Two (N+4) W6 x y P E):=hid (by have:=HT.out;rw [HVS.out] at this;exact this);replace HVB:=hid (HVB.out.trans (HB6.out.mono (by have:=HVS.out;omega)));have HS6:=hid (show N+4≤W6.heap.size by have:=HVS.out;omega);clear HK1 H1 H2 HB6 hV6 hV HVS;obtain⟨xA,xk,xc,rfl⟩:=in_slice HT.out.fst;obtain⟨yA,yk,yc,rfl⟩:=in_slice HT.out.snd;have m0:W6.cell? ⟨N+1,0,none⟩=some (.int .i64 e):=HK2.out.cell 0;have m1:W6.cell? ⟨N+1,1,none⟩=some (.int .i64 o):=HK2.out.cell 1;rcases HM.out with hm | hm
 ·obtain⟨g1,g2,g3⟩:=hm;have t1:decide (e ≥ 0)=false:=dF;have t2:decide (o ≥ 0)=false:=dF;have t3:decide (i ≥ 0)=true:=dT;have HP:Hid (P ++ Sp.ifL o=P):=hid (by rw [Sp.ifL_no (by omega),List.append_nil]);have HE:Hid (E ++ Sp.ifL e=E):=hid (by rw [Sp.ifL_no (by omega),List.append_nil]);have HQ:Hid (P ++ Sp.ifL i=P ++ [i]):=hid (by rw [Sp.ifL_yes (by omega)]);clear g1 g2 g3 HM;have m2:W6.cell? ⟨N+1,2,none⟩=some (.int .i64 i):=HK2.out.cell 2;have m3:W6.cell? ⟨N+1,3,none⟩=some (.string hd):=HK2.out.cell 3;have f0:W6.frozen? ⟨N+1+1,0,none⟩=false:=HK3.out.frozen 0;have f1:W6.frozen? ⟨N+1+1,1,none⟩=false:=HK3.out.frozen 1;have f2:W6.frozen? ⟨N+1+1,2,none⟩=false:=HK3.out.frozen 2;have c0:W6.cell? ⟨N+1+1,0,none⟩=some (.slice none 0 0):=HK3.out.cell 0;have c1:W6.cell? ⟨N+1+1,1,none⟩=some (.slice none 0 0):=HK3.out.cell 1;have c2:W6.cell? ⟨N+1+1,2,none⟩=some (.string ⟨#[]⟩):=HK3.out.cell 2;go_wp2_with fail;clear m2 m3 f0 f1 f2 c0 c1 c2 t1 t2;obtain⟨Wa,hWa⟩:=nM (((W6.setCell ⟨N+1+1,0,none⟩ (.slice xA xk xc)).setCell ⟨N+1+1,1,none⟩ (.slice yA yk yc)).setCell ⟨N+1+1,2,none⟩ (.string hd));rw [hWa];have HT7:Hid (Two (N+4) Wa (.slice xA xk xc) (.slice yA yk yc) P E):=hid (by rw [← hWa];exact ((HT.out.set (p:=⟨N+1+1,0,none⟩) (by show N+1+1<N+4;omega) _).set (p:=⟨N+1+1,1,none⟩) (by show N+1+1<N+4;omega) _).set (p:=⟨N+1+1,2,none⟩) (by show N+1+1<N+4;omega) _);have HM7:Hid (Blk Wa (N+1) 77 #[.int .i64 e,.int .i64 o,.int .i64 i,.string hd]):=hid (by rw [← hWa];exact ((HK2.out.far (p:=⟨N+1+1,0,none⟩) (by show N+1≠N+1+1;omega) _).far (p:=⟨N+1+1,1,none⟩) (by show N+1≠N+1+1;omega) _).far (p:=⟨N+1+1,2,none⟩) (by show N+1≠N+1+1;omega) _);have HS7:Hid (Blk Wa (N+2) 31 #[(.slice xA xk xc),(.slice yA yk yc),.string hd]):=hid (by rw [← hWa];exact ((HK3.out.set_ 0 _).set_ 1 _).set_ 2 _);have HW7:Hid (Blk Wa (N+3) 31 #[.slice none 0 0,.slice none 0 0,.string ⟨#[]⟩]):=hid (by rw [← hWa];exact ((HK4.out.far (p:=⟨N+1+1,0,none⟩) (by show N+3≠N+1+1;omega) _).far (p:=⟨N+1+1,1,none⟩) (by show N+3≠N+1+1;omega) _).far (p:=⟨N+1+1,2,none⟩) (by show N+3≠N+1+1;omega) _);have HB7:Hid (Below N w Wa):=hid (by rw [← hWa];exact ((HVB.out.setCell (p:=⟨N+1+1,0,none⟩) (by show N≤N+1+1;omega) _).setCell (p:=⟨N+1+1,1,none⟩) (by show N≤N+1+1;omega) _).setCell (p:=⟨N+1+1,2,none⟩) (by show N≤N+1+1;omega) _);have HZ7:Hid (N+4≤Wa.heap.size):=hid (by have:=HW7.out.lt;omega);clear HT HK2 HK3 HK4 HVB HS6 hWa;refine wp_region_K 7 (fun w'=>w'.cell? ⟨N+1,3,none⟩=some (.string hd)) (by kernel_rfl) (fun hcl=>?_);refine mS (HM7.out.cell 3) (fun hS=>?_);refine tk 0 hcl hS ?_;clear hcl;intro hcl;simp only [tkl];refine tk 2 hcl hS ?_;clear hcl;intro hcl;simp only [tkl];refine tk 4 hcl hS ?_;clear hcl;intro hcl;simp only [tkl];refine tk 5 hcl hS ?_;clear hcl;intro hcl;simp only [tkl];clear hS;refine on1 1 hcl (fun K hK=>?_);go_simp;refine (clone_int Wa.drew (in_drew HT7.out.fst) (by have:=HL1.out;omega)).mono ?_;rintro r W8 ⟨q1,rfl,hq1,hb8⟩;have hb8':Below Wa.heap.size Wa W8:=((Below.refl Wa.heap.size Wa).drew).trans hb8;obtain⟨qA,qk,qc,rfl⟩:=in_slice hq1;have HX:=hid hq1;have HB8:=hid hb8';refine hK.out _ _ (Or.inr ((hb8'.cell (p:=⟨N+1,3,none⟩) HM7.out.lt).trans (HM7.out.cell 3))) (fun hcl2=>?_);clear hK K hcl hq1 hb8 hb8';have hcl:=hcl2;clear hcl2;refine on1 3 hcl (fun K hK=>?_);go_simp;refine (clone_int W8 (in_below HT7.out.snd HB8.out) (by have:=HL2.out;omega)).mono ?_;rintro r W9 ⟨q2,rfl,hq2,hb9⟩;obtain⟨rA,rk,rc,rfl⟩:=in_slice hq2;have HT9:Hid (Two Wa.heap.size W9 (.slice qA qk qc) (.slice rA rk rc) P E):=hid (Two.cloned HX.out HB8.out.size hb9 hq2);have HB9:Hid (Below Wa.heap.size Wa W9):=hid (HB8.out.trans (hb9.mono HB8.out.size));refine hK.out _ _ (Or.inr ((HB9.out.cell (p:=⟨N+1,3,none⟩) HM7.out.lt).trans (HM7.out.cell 3))) (fun hcl2=>?_);clear hK K hcl hq2 hb9;have hcl:=hcl2;clear hcl2;refine on1 6 hcl (fun K hK=>?_);go_simp;refine hK.out _ _ (Or.inr ((HB9.out.cell (p:=⟨N+1,3,none⟩) HM7.out.lt).trans (HM7.out.cell 3))) (fun hcl2=>?_);clear hK K hcl;have hcl:=hcl2;clear hcl2;have HM9:Hid (Blk W9 (N+1) 77 #[.int .i64 e,.int .i64 o,.int .i64 i,.string hd]):=hid (HM7.out.below HB9.out HM7.out.lt);have HS9:Hid (Blk W9 (N+2) 31 #[(.slice xA xk xc),(.slice yA yk yc),.string hd]):=hid (HS7.out.below HB9.out HS7.out.lt);have HW9:Hid (Blk W9 (N+3) 31 #[.slice none 0 0,.slice none 0 0,.string ⟨#[]⟩]):=hid (HW7.out.below HB9.out HW7.out.lt);have f0:W9.frozen? ⟨N+1+1+1,0,none⟩=false:=HW9.out.frozen 0;have f1:W9.frozen? ⟨N+1+1+1,1,none⟩=false:=HW9.out.frozen 1;have f2:W9.frozen? ⟨N+1+1+1,2,none⟩=false:=HW9.out.frozen 2;have c0:W9.cell? ⟨N+1+1+1,0,none⟩=some (.slice none 0 0):=HW9.out.cell 0;have c1:W9.cell? ⟨N+1+1+1,1,none⟩=some (.slice none 0 0):=HW9.out.cell 1;have c2:W9.cell? ⟨N+1+1+1,2,none⟩=some (.string ⟨#[]⟩):=HW9.out.cell 2;refine on1 7 hcl (fun K hK=>?_);go_simp;refine hK.out _ _ (Or.inl (by kernel_rfl)) (fun hcl2=>?_);clear hK K hcl hcl2 f0 f1 f2 c0 c1 c2;refine wpAnyK_done (by kernel_rfl) ?_ _;obtain⟨Wb,hWb⟩:=nM (((W9.setCell ⟨N+1+1+1,0,none⟩ (.slice qA qk qc)).setCell ⟨N+1+1+1,1,none⟩ (.slice rA rk rc)).setCell ⟨N+1+1+1,2,none⟩ (.string hd));rw [hWb];have HTb:Hid (Two Wa.heap.size Wb (.slice qA qk qc) (.slice rA rk rc) P E):=hid (by have:=HZ7.out;rw [← hWb];exact ((HT9.out.set (p:=⟨N+1+1+1,0,none⟩) (by show N+1+1+1<_;omega) _).set (p:=⟨N+1+1+1,1,none⟩) (by show N+1+1+1<_;omega) _).set (p:=⟨N+1+1+1,2,none⟩) (by show N+1+1+1<_;omega) _);have HMb:Hid (Blk Wb (N+1) 77 #[.int .i64 e,.int .i64 o,.int .i64 i,.string hd]):=hid (by rw [← hWb];exact ((HM9.out.far (p:=⟨N+1+1+1,0,none⟩) (by show N+1≠N+1+1+1;omega) _).far (p:=⟨N+1+1+1,1,none⟩) (by show N+1≠N+1+1+1;omega) _).far (p:=⟨N+1+1+1,2,none⟩) (by show N+1≠N+1+1+1;omega) _);have HSb:Hid (Blk Wb (N+2) 31 #[(.slice xA xk xc),(.slice yA yk yc),.string hd]):=hid (by rw [← hWb];exact ((HS9.out.far (p:=⟨N+1+1+1,0,none⟩) (by show N+2≠N+1+1+1;omega) _).far (p:=⟨N+1+1+1,1,none⟩) (by show N+2≠N+1+1+1;omega) _).far (p:=⟨N+1+1+1,2,none⟩) (by show N+2≠N+1+1+1;omega) _);have HWb:Hid (Blk Wb (N+3) 31 #[.slice qA qk qc,.slice rA rk rc,.string hd]):=hid (by rw [← hWb];exact ((HW9.out.set_ 0 _).set_ 1 _).set_ 2 _)
  have HBb:Hid (Below N w Wb):=hid (by
   have:=HZ7.out;rw [← hWb]
   exact (((HB7.out.trans (HB9.out.mono (by omega))).setCell (p:=⟨N+1+1+1,0,none⟩) (by show N≤N+1+1+1;omega) _).setCell (p:=⟨N+1+1+1,1,none⟩) (by show N≤N+1+1+1;omega) _).setCell (p:=⟨N+1+1+1,2,none⟩) (by show N≤N+1+1+1;omega) _)
  have HRb:Hid (InR Wb (N+4) (.slice xA xk xc) P∧InR Wb (N+4) (.slice yA yk yc) E):=hid (by
   have h9:InR W9 (N+4) (.slice xA xk xc) P∧InR W9 (N+4) (.slice yA yk yc) E:=⟨in_below HT7.out.fst HB9.out,in_below HT7.out.snd HB9.out⟩
   rw [← hWb]
   exact⟨in_set (in_set (in_set h9.1 (p:=⟨N+1+1+1,0,none⟩) (by show N+1+1+1<_;omega) _) (p:=⟨N+1+1+1,1,none⟩) (by show N+1+1+1<_;omega) _) (p:=⟨N+1+1+1,2,none⟩) (by show N+1+1+1<_;omega) _,in_set (in_set (in_set h9.2 (p:=⟨N+1+1+1,0,none⟩) (by show N+1+1+1<_;omega) _) (p:=⟨N+1+1+1,1,none⟩) (by show N+1+1+1<_;omega) _) (p:=⟨N+1+1+1,2,none⟩) (by show N+1+1+1<_;omega) _⟩)
  have HZb:Hid (Wa.heap.size≤Wb.heap.size):=hid (by have:=HB9.out.size;rw [← hWb];simpa using this);have HLX:Hid (∀ k,Value.ownBlock (.slice xA xk xc)=some k→k<Wa.heap.size):=hid (fun k e=>(World.ownsRow.lt HT7.out.fst k e).2);have HLY:Hid (∀ k,Value.ownBlock (.slice yA yk yc)=some k→k<Wa.heap.size):=hid (fun k e=>(World.ownsRow.lt HT7.out.snd k e).2);clear HT9 HM9 HS9 HW9 HB9 HB8 HX HT7 HM7 HS7 HW7 HB7 hWb;have m2b:Wb.cell? ⟨N+1,2,none⟩=some (.int .i64 i):=HMb.out.cell 2;have d0b:Wb.cell? ⟨N+1+1+1,0,none⟩=some (.slice qA qk qc):=HWb.out.cell 0
  go_wp2_with (at_builtin;refine wpList_two rfl _ _ rfl Wa.heap.size (.slice qA qk qc) (.slice rA rk rc) P E rfl Wb i rfl HTb.out HZb.out (by have:=HL1.out;omega) ?_;intro x' w' hT' hb';obtain⟨zA,zk,zc,rfl⟩:=in_slice hT'.fst;have hkw:=HWb.out.below hb' (by have:=HZ7.out;omega);have d0:w'.cell? ⟨N+1+1+1,0,none⟩=some (.slice qA qk qc):=hkw.cell 0;have g0:w'.frozen? ⟨N+1+1+1,0,none⟩=false:=hkw.frozen 0;have HKW:=hid hkw;have HTW:=hid hT';have HBW:=hid hb';clear hkw hT' hb')
  clear d0 g0 d0b;obtain⟨Wc,hWc⟩:=nM (w'.setCell ⟨N+1+1+1,0,none⟩ (.slice zA zk zc));rw [hWc];have HTc:Hid (Two Wa.heap.size Wc (.slice zA zk zc) (.slice rA rk rc) (P ++ [i]) E):=hid (by have:=HZ7.out;rw [← hWc];exact HTW.out.set (p:=⟨N+1+1+1,0,none⟩) (by show N+1+1+1<_;omega) _);have HSc:Hid (Blk Wc (N+2) 31 #[(.slice xA xk xc),(.slice yA yk yc),.string hd]):=hid (by have:=HZ7.out;rw [← hWc];exact (HSb.out.below HBW.out (by omega)).far (p:=⟨N+1+1+1,0,none⟩) (by show N+2≠N+1+1+1;omega) _);have HWc:Hid (Blk Wc (N+3) 31 #[.slice zA zk zc,.slice rA rk rc,.string hd]):=hid (by rw [← hWc];exact HKW.out.set_ 0 _)
  have HRc:Hid (InR Wc (N+4) (.slice xA xk xc) P∧InR Wc (N+4) (.slice yA yk yc) E):=hid (by
   have h9:InR w' (N+4) (.slice xA xk xc) P∧InR w' (N+4) (.slice yA yk yc) E:=⟨in_under HRb.out.1 HLX.out HBW.out,in_under HRb.out.2 HLY.out HBW.out⟩
   rw [← hWc]
   exact⟨in_set h9.1 (p:=⟨N+1+1+1,0,none⟩) (by show N+1+1+1<_;omega) _,in_set h9.2 (p:=⟨N+1+1+1,0,none⟩) (by show N+1+1+1<_;omega) _⟩)
  have HBc:Hid (Below N w Wc):=hid (by have:=HZ7.out;rw [← hWc];exact (HBb.out.trans (HBW.out.mono (by omega))).setCell (p:=⟨N+1+1+1,0,none⟩) (by show N≤N+1+1+1;omega) _);clear HTb HSb HWb HRb HBb HMb HKW HTW HBW hWc HZb m2b;have c0:Wc.cell? ⟨N+1+1,0,none⟩=some (.slice xA xk xc):=HSc.out.cell 0;have c1:Wc.cell? ⟨N+1+1,1,none⟩=some (.slice yA yk yc):=HSc.out.cell 1;have c2:Wc.cell? ⟨N+1+1,2,none⟩=some (.string hd):=HSc.out.cell 2;have d0:Wc.cell? ⟨N+1+1+1,0,none⟩=some (.slice zA zk zc):=HWc.out.cell 0;have d1:Wc.cell? ⟨N+1+1+1,1,none⟩=some (.slice rA rk rc):=HWc.out.cell 1;have d2:Wc.cell? ⟨N+1+1+1,2,none⟩=some (.string hd):=HWc.out.cell 2
  (try go_wp2_with fail)
  refine wp_region_K 3 (fun w'=>Blk w' (N+1+1) 31 #[(.slice xA xk xc),(.slice yA yk yc),.string hd]∧Blk w' (N+1+1+1) 31 #[(.slice zA zk zc),.slice rA rk rc,.string hd]) (by kernel_rfl) (fun hcl=>?_);refine mS (⟨HSc.out,HWc.out⟩) (fun hS=>?_);refine wpAnyK_take (i:=0) (v:=.agg #[(.slice xA xk xc),(.slice yA yk yc),.string hd]) hcl hS rfl (by kernel_rfl) (fun _ _ _ h=>h) (by rfl) (fun wq hSw=>?_) (fun hcl2=>?_)
  ·have e0:wq.cell? ⟨N+1+1,0,none⟩=some (.slice xA xk xc):=hSw.1.cell 0;have e1:wq.cell? ⟨N+1+1,1,none⟩=some (.slice yA yk yc):=hSw.1.cell 1;have e2:wq.cell? ⟨N+1+1,2,none⟩=some (.string hd):=hSw.1.cell 2;clear hcl hS hSw;go_simp
  (try simp only [ly]);(try simp only [Act.put,pu]);clear hcl;have hcl:=hcl2;clear hcl2;refine wpAnyK_take (i:=1) (v:=.agg #[(.slice zA zk zc),.slice rA rk rc,.string hd]) hcl hS rfl (by kernel_rfl) (fun _ _ _ h=>h) (by rfl) (fun wq hSw=>?_) (fun hcl2=>?_)
  ·have e0:wq.cell? ⟨N+1+1+1,0,none⟩=some (.slice zA zk zc):=hSw.2.cell 0;have e1:wq.cell? ⟨N+1+1+1,1,none⟩=some (.slice rA rk rc):=hSw.2.cell 1;have e2:wq.cell? ⟨N+1+1+1,2,none⟩=some (.string hd):=hSw.2.cell 2;clear hcl hS hSw;go_simp
  (try simp only [ly]);(try simp only [Act.put,pu]);clear hcl;have hcl:=hcl2;clear hcl2;clear hS;have f0:Wc.frozen? ⟨N+1+1,0,none⟩=false:=HSc.out.frozen 0;have f1:Wc.frozen? ⟨N+1+1,1,none⟩=false:=HSc.out.frozen 1;have f2:Wc.frozen? ⟨N+1+1,2,none⟩=false:=HSc.out.frozen 2;refine on1 2 hcl (fun K hK=>?_);go_simp;obtain⟨We,hWe⟩:=nM (((Wc.setCell ⟨N+1+1,0,none⟩ (.slice xA xk xc)).setCell ⟨N+1+1,1,none⟩ (.slice yA yk yc)).setCell ⟨N+1+1,2,none⟩ (.string hd));rw [hWe];have HSe:Hid (Blk We (N+2) 31 #[(.slice xA xk xc),(.slice yA yk yc),.string hd]):=hid (by rw [← hWe];exact ((HSc.out.set_ 0 _).set_ 1 _).set_ 2 _);have HWe:Hid (Blk We (N+3) 31 #[(.slice zA zk zc),.slice rA rk rc,.string hd]):=hid (by rw [← hWe];exact ((HWc.out.far (p:=⟨N+1+1,0,none⟩) (by show N+3≠N+1+1;omega) _).far (p:=⟨N+1+1,1,none⟩) (by show N+3≠N+1+1;omega) _).far (p:=⟨N+1+1,2,none⟩) (by show N+3≠N+1+1;omega) _)
  have HRe:Hid ((InR We (N+4) (.slice xA xk xc) P∧InR We (N+4) (.slice yA yk yc) E)∧InR We (N+4) (.slice zA zk zc) (P ++ [i])∧InR We (N+4) (.slice rA rk rc) E):=hid (by
   have g:∀ (v:Value) (l:List Int),InR Wc (N+4) v l→InR We (N+4) v l:=fun v l hv=>by
    rw [← hWe];exact in_set (in_set (in_set hv (p:=⟨N+1+1,0,none⟩) (by show N+1+1<_;omega) _) (p:=⟨N+1+1,1,none⟩) (by show N+1+1<_;omega) _) (p:=⟨N+1+1,2,none⟩) (by show N+1+1<_;omega) _
   exact⟨⟨g _ _ HRc.out.1,g _ _ HRc.out.2⟩,g _ _ (in_mono HTc.out.fst HZ7.out),g _ _ (in_mono HTc.out.snd HZ7.out)⟩)
  have HBe:Hid (Below N w We):=hid (by rw [← hWe];exact ((HBc.out.setCell (p:=⟨N+1+1,0,none⟩) (by show N≤N+1+1;omega) _).setCell (p:=⟨N+1+1,1,none⟩) (by show N≤N+1+1;omega) _).setCell (p:=⟨N+1+1,2,none⟩) (by show N≤N+1+1;omega) _);clear HSc HWc HRc HTc HBc hWe f0 f1 f2 c0 c1 c2 d0 d1 d2;refine hK.out _ _ (Or.inr ⟨HSe.out,HWe.out⟩) (fun hcl2=>?_);clear hK K hcl;have hcl:=hcl2;clear hcl2;have f0:We.frozen? ⟨N+1+1+1,0,none⟩=false:=HWe.out.frozen 0;have f1:We.frozen? ⟨N+1+1+1,1,none⟩=false:=HWe.out.frozen 1;have f2:We.frozen? ⟨N+1+1+1,2,none⟩=false:=HWe.out.frozen 2;have c0:We.cell? ⟨N+1+1+1,0,none⟩=some (.slice zA zk zc):=HWe.out.cell 0;have c1:We.cell? ⟨N+1+1+1,1,none⟩=some (.slice rA rk rc):=HWe.out.cell 1;have c2:We.cell? ⟨N+1+1+1,2,none⟩=some (.string hd):=HWe.out.cell 2;refine on1 3 hcl (fun K hK=>?_);go_simp;obtain⟨Wf,hWf⟩:=nM (((We.setCell ⟨N+1+1+1,0,none⟩ (.slice zA zk zc)).setCell ⟨N+1+1+1,1,none⟩ (.slice rA rk rc)).setCell ⟨N+1+1+1,2,none⟩ (.string hd));rw [hWf];have HSf:Hid (Blk Wf (N+2) 31 #[(.slice xA xk xc),(.slice yA yk yc),.string hd]):=hid (by rw [← hWf];exact ((HSe.out.far (p:=⟨N+1+1+1,0,none⟩) (by show N+2≠N+1+1+1;omega) _).far (p:=⟨N+1+1+1,1,none⟩) (by show N+2≠N+1+1+1;omega) _).far (p:=⟨N+1+1+1,2,none⟩) (by show N+2≠N+1+1+1;omega) _);have HWf:Hid (Blk Wf (N+3) 31 #[(.slice zA zk zc),.slice rA rk rc,.string hd]):=hid (by rw [← hWf];exact ((HWe.out.set_ 0 _).set_ 1 _).set_ 2 _)
  have HRf:Hid ((InR Wf (N+4) (.slice xA xk xc) P∧InR Wf (N+4) (.slice yA yk yc) E)∧InR Wf (N+4) (.slice zA zk zc) (P ++ [i])∧InR Wf (N+4) (.slice rA rk rc) E):=hid (by
   have g:∀ (v:Value) (l:List Int),InR We (N+4) v l→InR Wf (N+4) v l:=fun v l hv=>by
    rw [← hWf];exact in_set (in_set (in_set hv (p:=⟨N+1+1+1,0,none⟩) (by show N+1+1+1<_;omega) _) (p:=⟨N+1+1+1,1,none⟩) (by show N+1+1+1<_;omega) _) (p:=⟨N+1+1+1,2,none⟩) (by show N+1+1+1<_;omega) _
   exact⟨⟨g _ _ HRe.out.1.1,g _ _ HRe.out.1.2⟩,g _ _ HRe.out.2.1,g _ _ HRe.out.2.2⟩)
  have HBf:Hid (Below N w Wf):=hid (by rw [← hWf];exact ((HBe.out.setCell (p:=⟨N+1+1+1,0,none⟩) (by show N≤N+1+1+1;omega) _).setCell (p:=⟨N+1+1+1,1,none⟩) (by show N≤N+1+1+1;omega) _).setCell (p:=⟨N+1+1+1,2,none⟩) (by show N≤N+1+1+1;omega) _);clear HSe HWe HRe HBe hWf f0 f1 f2 c0 c1 c2;refine hK.out _ _ (Or.inl (by kernel_rfl)) (fun hcl2=>?_);clear hK K hcl hcl2;refine wpAnyK_done (by kernel_rfl) ?_ _;go_wp2_with fail;refine bodyPost_ret (results_cell2 rfl _ _ (N+1+1) (N+1+1+1) 31 #[(.slice xA xk xc),(.slice yA yk yc),.string hd] #[(.slice zA zk zc),.slice rA rk rc,.string hd] _ rfl rfl HSf.out HWf.out Tryz.underlying31 rfl (by kernel_rfl) (by kernel_rfl)) rfl ?_;exact OnEnd.of (B:=N+4) HP.out HE.out HQ.out (by have:=HN.out;omega) HRf.out.1.1 HRf.out.1.2 HRf.out.2.1 HRf.out.2.2 (by rw [HN.out];exact HBf.out.drew)
 ·obtain⟨g1,g2⟩:=hm;have t1:decide (e ≥ 0)=true:=dT;have t2:decide (o ≥ 0)=true:=dT;have HP:Hid (P ++ Sp.ifL o=P ++ [o]):=hid (by rw [Sp.ifL_yes (by omega)]);have HE:Hid (E ++ Sp.ifL e=E ++ [e]):=hid (by rw [Sp.ifL_yes (by omega)]);clear g1 g2 HM
  go_wp2_with (at_builtin;first
   | (have _t:=tok2
      refine wpList_two rfl _ _ rfl (N+4) (.slice xA xk xc) (.slice vA vk vc) P (E ++ [e]) rfl w1 o rfl HT1.out.symm HS1.out (by have:=HL1.out;omega) ?_;intro x' w2 hT2 hb2;obtain⟨uA,uk,uc,rfl⟩:=in_slice hT2.fst;have HT2:=hid hT2;have HB2:=hid (HB1.out.trans hb2);have hm2:=HK2.out.below HB2.out (by omega);have m2b:w2.cell? ⟨N+1,3,none⟩=some (.string hd):=hm2.cell 3;have hs2:=HK3.out.below HB2.out (by omega);have f0:w2.frozen? ⟨N+1+1,0,none⟩=false:=hs2.frozen 0;have f1:w2.frozen? ⟨N+1+1,1,none⟩=false:=hs2.frozen 1;have f2:w2.frozen? ⟨N+1+1,2,none⟩=false:=hs2.frozen 2;have c0:w2.cell? ⟨N+1+1,0,none⟩=some (.slice none 0 0):=hs2.cell 0;have c1:w2.cell? ⟨N+1+1,1,none⟩=some (.slice none 0 0):=hs2.cell 1;have c2:w2.cell? ⟨N+1+1,2,none⟩=some (.string ⟨#[]⟩):=hs2.cell 2;have HM2:=hid hm2;have HS2:=hid hs2
      clear hT2 hb2 hm2 hs2 tok2)
   | (refine wpList_two rfl _ _ rfl (N+4) (.slice yA yk yc) (.slice xA xk xc) E P rfl W6 e rfl HT.out.symm HS6.out (by have:=HL2.out;omega) ?_
      intro y' w1 hT1 hb1;obtain⟨vA,vk,vc,rfl⟩:=in_slice hT1.fst;have HT1:=hid hT1;have HB1:=hid hb1;have HS1:=hid (Nat.le_trans HS6.out hb1.size);have tok2:=hid (show True from trivial);have m1b:w1.cell? ⟨N+1,1,none⟩=some (.int .i64 o):=(HK2.out.below hb1 (by omega)).cell 1
      clear hT1 hb1))
  clear m2b f0 f1 f2 c0 c1 c2;replace HT:Hid (Two (N+4) w2 (.slice uA uk uc) (.slice vA vk vc) (P ++ [o]) (E ++ [e])):=HT2;replace HK2:=HM2;replace HK3:=HS2;replace HK4:=hid (HK4.out.below HB2.out (by omega));replace HVB:=hid (HVB.out.trans (HB2.out.mono (by omega)));replace HS6:=hid (Nat.le_trans HS6.out HB2.out.size);clear HT1 HS1 HB1 HB2 HT2 HM2 HS2;obtain⟨Wa,hWa⟩:=nM (((w2.setCell ⟨N+1+1,0,none⟩ (.slice uA uk uc)).setCell ⟨N+1+1,1,none⟩ (.slice vA vk vc)).setCell ⟨N+1+1,2,none⟩ (.string hd));rw [hWa];have HT7:Hid (Two (N+4) Wa (.slice uA uk uc) (.slice vA vk vc) (P ++ [o]) (E ++ [e])):=hid (by rw [← hWa];exact ((HT.out.set (p:=⟨N+1+1,0,none⟩) (by show N+1+1<N+4;omega) _).set (p:=⟨N+1+1,1,none⟩) (by show N+1+1<N+4;omega) _).set (p:=⟨N+1+1,2,none⟩) (by show N+1+1<N+4;omega) _);have HM7:Hid (Blk Wa (N+1) 77 #[.int .i64 e,.int .i64 o,.int .i64 i,.string hd]):=hid (by rw [← hWa];exact ((HK2.out.far (p:=⟨N+1+1,0,none⟩) (by show N+1≠N+1+1;omega) _).far (p:=⟨N+1+1,1,none⟩) (by show N+1≠N+1+1;omega) _).far (p:=⟨N+1+1,2,none⟩) (by show N+1≠N+1+1;omega) _);have HS7:Hid (Blk Wa (N+2) 31 #[(.slice uA uk uc),(.slice vA vk vc),.string hd]):=hid (by rw [← hWa];exact ((HK3.out.set_ 0 _).set_ 1 _).set_ 2 _);have HW7:Hid (Blk Wa (N+3) 31 #[.slice none 0 0,.slice none 0 0,.string ⟨#[]⟩]):=hid (by rw [← hWa];exact ((HK4.out.far (p:=⟨N+1+1,0,none⟩) (by show N+3≠N+1+1;omega) _).far (p:=⟨N+1+1,1,none⟩) (by show N+3≠N+1+1;omega) _).far (p:=⟨N+1+1,2,none⟩) (by show N+3≠N+1+1;omega) _);have HB7:Hid (Below N w Wa):=hid (by rw [← hWa];exact ((HVB.out.setCell (p:=⟨N+1+1,0,none⟩) (by show N≤N+1+1;omega) _).setCell (p:=⟨N+1+1,1,none⟩) (by show N≤N+1+1;omega) _).setCell (p:=⟨N+1+1,2,none⟩) (by show N≤N+1+1;omega) _);have HZ7:Hid (N+4≤Wa.heap.size):=hid (by have:=HW7.out.lt;omega);clear HT HK2 HK3 HK4 HVB HS6 hWa;refine wp_region_K 7 (fun w'=>w'.cell? ⟨N+1,3,none⟩=some (.string hd)) (by kernel_rfl) (fun hcl=>?_);refine mS (HM7.out.cell 3) (fun hS=>?_);refine tk 0 hcl hS ?_;clear hcl;intro hcl;simp only [tkl];refine tk 2 hcl hS ?_;clear hcl;intro hcl;simp only [tkl];refine tk 4 hcl hS ?_;clear hcl;intro hcl;simp only [tkl];refine tk 5 hcl hS ?_;clear hcl;intro hcl;simp only [tkl];clear hS;refine on1 1 hcl (fun K hK=>?_);go_simp;refine (clone_int Wa.drew (in_drew HT7.out.fst) (by have:=HL1.out;simp only [List.length_append,List.length_singleton];omega)).mono ?_;rintro r W8 ⟨q1,rfl,hq1,hb8⟩;have hb8':Below Wa.heap.size Wa W8:=((Below.refl Wa.heap.size Wa).drew).trans hb8;obtain⟨qA,qk,qc,rfl⟩:=in_slice hq1;have HX:=hid hq1;have HB8:=hid hb8';refine hK.out _ _ (Or.inr ((hb8'.cell (p:=⟨N+1,3,none⟩) HM7.out.lt).trans (HM7.out.cell 3))) (fun hcl2=>?_);clear hK K hcl hq1 hb8 hb8';have hcl:=hcl2;clear hcl2;refine on1 3 hcl (fun K hK=>?_);go_simp;refine (clone_int W8 (in_below HT7.out.snd HB8.out) (by have:=HL2.out;simp only [List.length_append,List.length_singleton];omega)).mono ?_;rintro r W9 ⟨q2,rfl,hq2,hb9⟩;obtain⟨rA,rk,rc,rfl⟩:=in_slice hq2;have HT9:Hid (Two Wa.heap.size W9 (.slice qA qk qc) (.slice rA rk rc) (P ++ [o]) (E ++ [e])):=hid (Two.cloned HX.out HB8.out.size hb9 hq2);have HB9:Hid (Below Wa.heap.size Wa W9):=hid (HB8.out.trans (hb9.mono HB8.out.size));refine hK.out _ _ (Or.inr ((HB9.out.cell (p:=⟨N+1,3,none⟩) HM7.out.lt).trans (HM7.out.cell 3))) (fun hcl2=>?_);clear hK K hcl hq2 hb9;have hcl:=hcl2;clear hcl2;refine on1 6 hcl (fun K hK=>?_);go_simp;refine hK.out _ _ (Or.inr ((HB9.out.cell (p:=⟨N+1,3,none⟩) HM7.out.lt).trans (HM7.out.cell 3))) (fun hcl2=>?_);clear hK K hcl;have hcl:=hcl2;clear hcl2;have HM9:Hid (Blk W9 (N+1) 77 #[.int .i64 e,.int .i64 o,.int .i64 i,.string hd]):=hid (HM7.out.below HB9.out HM7.out.lt);have HS9:Hid (Blk W9 (N+2) 31 #[(.slice uA uk uc),(.slice vA vk vc),.string hd]):=hid (HS7.out.below HB9.out HS7.out.lt);have HW9:Hid (Blk W9 (N+3) 31 #[.slice none 0 0,.slice none 0 0,.string ⟨#[]⟩]):=hid (HW7.out.below HB9.out HW7.out.lt);have f0:W9.frozen? ⟨N+1+1+1,0,none⟩=false:=HW9.out.frozen 0;have f1:W9.frozen? ⟨N+1+1+1,1,none⟩=false:=HW9.out.frozen 1;have f2:W9.frozen? ⟨N+1+1+1,2,none⟩=false:=HW9.out.frozen 2;have c0:W9.cell? ⟨N+1+1+1,0,none⟩=some (.slice none 0 0):=HW9.out.cell 0;have c1:W9.cell? ⟨N+1+1+1,1,none⟩=some (.slice none 0 0):=HW9.out.cell 1;have c2:W9.cell? ⟨N+1+1+1,2,none⟩=some (.string ⟨#[]⟩):=HW9.out.cell 2;refine on1 7 hcl (fun K hK=>?_);go_simp;refine hK.out _ _ (Or.inl (by kernel_rfl)) (fun hcl2=>?_);clear hK K hcl hcl2 f0 f1 f2 c0 c1 c2;refine wpAnyK_done (by kernel_rfl) ?_ _;obtain⟨Wb,hWb⟩:=nM (((W9.setCell ⟨N+1+1+1,0,none⟩ (.slice qA qk qc)).setCell ⟨N+1+1+1,1,none⟩ (.slice rA rk rc)).setCell ⟨N+1+1+1,2,none⟩ (.string hd));rw [hWb];have HTb:Hid (Two Wa.heap.size Wb (.slice qA qk qc) (.slice rA rk rc) (P ++ [o]) (E ++ [e])):=hid (by have:=HZ7.out;rw [← hWb];exact ((HT9.out.set (p:=⟨N+1+1+1,0,none⟩) (by show N+1+1+1<_;omega) _).set (p:=⟨N+1+1+1,1,none⟩) (by show N+1+1+1<_;omega) _).set (p:=⟨N+1+1+1,2,none⟩) (by show N+1+1+1<_;omega) _);have HMb:Hid (Blk Wb (N+1) 77 #[.int .i64 e,.int .i64 o,.int .i64 i,.string hd]):=hid (by rw [← hWb];exact ((HM9.out.far (p:=⟨N+1+1+1,0,none⟩) (by show N+1≠N+1+1+1;omega) _).far (p:=⟨N+1+1+1,1,none⟩) (by show N+1≠N+1+1+1;omega) _).far (p:=⟨N+1+1+1,2,none⟩) (by show N+1≠N+1+1+1;omega) _);have HSb:Hid (Blk Wb (N+2) 31 #[(.slice uA uk uc),(.slice vA vk vc),.string hd]):=hid (by rw [← hWb];exact ((HS9.out.far (p:=⟨N+1+1+1,0,none⟩) (by show N+2≠N+1+1+1;omega) _).far (p:=⟨N+1+1+1,1,none⟩) (by show N+2≠N+1+1+1;omega) _).far (p:=⟨N+1+1+1,2,none⟩) (by show N+2≠N+1+1+1;omega) _);have HWb:Hid (Blk Wb (N+3) 31 #[.slice qA qk qc,.slice rA rk rc,.string hd]):=hid (by rw [← hWb];exact ((HW9.out.set_ 0 _).set_ 1 _).set_ 2 _)
  have HBb:Hid (Below N w Wb):=hid (by
   have:=HZ7.out;rw [← hWb]
   exact (((HB7.out.trans (HB9.out.mono (by omega))).setCell (p:=⟨N+1+1+1,0,none⟩) (by show N≤N+1+1+1;omega) _).setCell (p:=⟨N+1+1+1,1,none⟩) (by show N≤N+1+1+1;omega) _).setCell (p:=⟨N+1+1+1,2,none⟩) (by show N≤N+1+1+1;omega) _)
  have HRb:Hid (InR Wb (N+4) (.slice uA uk uc) (P ++ [o])∧InR Wb (N+4) (.slice vA vk vc) (E ++ [e])):=hid (by
   have h9:InR W9 (N+4) (.slice uA uk uc) (P ++ [o])∧InR W9 (N+4) (.slice vA vk vc) (E ++ [e]):=⟨in_below HT7.out.fst HB9.out,in_below HT7.out.snd HB9.out⟩
   rw [← hWb]
   exact⟨in_set (in_set (in_set h9.1 (p:=⟨N+1+1+1,0,none⟩) (by show N+1+1+1<_;omega) _) (p:=⟨N+1+1+1,1,none⟩) (by show N+1+1+1<_;omega) _) (p:=⟨N+1+1+1,2,none⟩) (by show N+1+1+1<_;omega) _,in_set (in_set (in_set h9.2 (p:=⟨N+1+1+1,0,none⟩) (by show N+1+1+1<_;omega) _) (p:=⟨N+1+1+1,1,none⟩) (by show N+1+1+1<_;omega) _) (p:=⟨N+1+1+1,2,none⟩) (by show N+1+1+1<_;omega) _⟩)
  have HZb:Hid (Wa.heap.size≤Wb.heap.size):=hid (by have:=HB9.out.size;rw [← hWb];simpa using this);have HLX:Hid (∀ k,Value.ownBlock (.slice uA uk uc)=some k→k<Wa.heap.size):=hid (fun k e=>(World.ownsRow.lt HT7.out.fst k e).2);have HLY:Hid (∀ k,Value.ownBlock (.slice vA vk vc)=some k→k<Wa.heap.size):=hid (fun k e=>(World.ownsRow.lt HT7.out.snd k e).2);clear HT9 HM9 HS9 HW9 HB9 HB8 HX HT7 HM7 HS7 HW7 HB7 hWb;have m2b:Wb.cell? ⟨N+1,2,none⟩=some (.int .i64 i):=HMb.out.cell 2;have d0b:Wb.cell? ⟨N+1+1+1,0,none⟩=some (.slice qA qk qc):=HWb.out.cell 0;by_cases g3:0≤i
  ·have t3:decide (i ≥ 0)=true:=dT;have HQ:Hid ((P ++ [o]) ++ Sp.ifL i=(P ++ [o]) ++ [i]):=hid (by rw [Sp.ifL_yes g3]);clear g3
   go_wp2_with (at_builtin;refine wpList_two rfl _ _ rfl Wa.heap.size (.slice qA qk qc) (.slice rA rk rc) (P ++ [o]) (E ++ [e]) rfl Wb i rfl HTb.out HZb.out (by have:=HL1.out;simp only [List.length_append,List.length_singleton];omega) ?_;intro x' w' hT' hb';obtain⟨zA,zk,zc,rfl⟩:=in_slice hT'.fst;have hkw:=HWb.out.below hb' (by have:=HZ7.out;omega);have d0:w'.cell? ⟨N+1+1+1,0,none⟩=some (.slice qA qk qc):=hkw.cell 0;have g0:w'.frozen? ⟨N+1+1+1,0,none⟩=false:=hkw.frozen 0;have HKW:=hid hkw;have HTW:=hid hT';have HBW:=hid hb';clear hkw hT' hb')
   clear d0 g0 d0b;obtain⟨Wc,hWc⟩:=nM (w'.setCell ⟨N+1+1+1,0,none⟩ (.slice zA zk zc));rw [hWc];have HTc:Hid (Two Wa.heap.size Wc (.slice zA zk zc) (.slice rA rk rc) ((P ++ [o]) ++ [i]) (E ++ [e])):=hid (by have:=HZ7.out;rw [← hWc];exact HTW.out.set (p:=⟨N+1+1+1,0,none⟩) (by show N+1+1+1<_;omega) _);have HSc:Hid (Blk Wc (N+2) 31 #[(.slice uA uk uc),(.slice vA vk vc),.string hd]):=hid (by have:=HZ7.out;rw [← hWc];exact (HSb.out.below HBW.out (by omega)).far (p:=⟨N+1+1+1,0,none⟩) (by show N+2≠N+1+1+1;omega) _);have HWc:Hid (Blk Wc (N+3) 31 #[.slice zA zk zc,.slice rA rk rc,.string hd]):=hid (by rw [← hWc];exact HKW.out.set_ 0 _)
   have HRc:Hid (InR Wc (N+4) (.slice uA uk uc) (P ++ [o])∧InR Wc (N+4) (.slice vA vk vc) (E ++ [e])):=hid (by
    have h9:InR w' (N+4) (.slice uA uk uc) (P ++ [o])∧InR w' (N+4) (.slice vA vk vc) (E ++ [e]):=⟨in_under HRb.out.1 HLX.out HBW.out,in_under HRb.out.2 HLY.out HBW.out⟩
    rw [← hWc]
    exact⟨in_set h9.1 (p:=⟨N+1+1+1,0,none⟩) (by show N+1+1+1<_;omega) _,in_set h9.2 (p:=⟨N+1+1+1,0,none⟩) (by show N+1+1+1<_;omega) _⟩)
   have HBc:Hid (Below N w Wc):=hid (by have:=HZ7.out;rw [← hWc];exact (HBb.out.trans (HBW.out.mono (by omega))).setCell (p:=⟨N+1+1+1,0,none⟩) (by show N≤N+1+1+1;omega) _);clear HTb HSb HWb HRb HBb HMb HKW HTW HBW hWc HZb m2b;have c0:Wc.cell? ⟨N+1+1,0,none⟩=some (.slice uA uk uc):=HSc.out.cell 0;have c1:Wc.cell? ⟨N+1+1,1,none⟩=some (.slice vA vk vc):=HSc.out.cell 1;have c2:Wc.cell? ⟨N+1+1,2,none⟩=some (.string hd):=HSc.out.cell 2;have d0:Wc.cell? ⟨N+1+1+1,0,none⟩=some (.slice zA zk zc):=HWc.out.cell 0;have d1:Wc.cell? ⟨N+1+1+1,1,none⟩=some (.slice rA rk rc):=HWc.out.cell 1;have d2:Wc.cell? ⟨N+1+1+1,2,none⟩=some (.string hd):=HWc.out.cell 2
   (try go_wp2_with fail)
   refine wp_region_K 3 (fun w'=>Blk w' (N+1+1) 31 #[(.slice uA uk uc),(.slice vA vk vc),.string hd]∧Blk w' (N+1+1+1) 31 #[(.slice zA zk zc),.slice rA rk rc,.string hd]) (by kernel_rfl) (fun hcl=>?_);refine mS (⟨HSc.out,HWc.out⟩) (fun hS=>?_);refine wpAnyK_take (i:=0) (v:=.agg #[(.slice uA uk uc),(.slice vA vk vc),.string hd]) hcl hS rfl (by kernel_rfl) (fun _ _ _ h=>h) (by rfl) (fun wq hSw=>?_) (fun hcl2=>?_)
   ·have e0:wq.cell? ⟨N+1+1,0,none⟩=some (.slice uA uk uc):=hSw.1.cell 0;have e1:wq.cell? ⟨N+1+1,1,none⟩=some (.slice vA vk vc):=hSw.1.cell 1;have e2:wq.cell? ⟨N+1+1,2,none⟩=some (.string hd):=hSw.1.cell 2;clear hcl hS hSw;go_simp
   (try simp only [ly]);(try simp only [Act.put,pu]);clear hcl;have hcl:=hcl2;clear hcl2;refine wpAnyK_take (i:=1) (v:=.agg #[(.slice zA zk zc),.slice rA rk rc,.string hd]) hcl hS rfl (by kernel_rfl) (fun _ _ _ h=>h) (by rfl) (fun wq hSw=>?_) (fun hcl2=>?_)
   ·have e0:wq.cell? ⟨N+1+1+1,0,none⟩=some (.slice zA zk zc):=hSw.2.cell 0;have e1:wq.cell? ⟨N+1+1+1,1,none⟩=some (.slice rA rk rc):=hSw.2.cell 1;have e2:wq.cell? ⟨N+1+1+1,2,none⟩=some (.string hd):=hSw.2.cell 2;clear hcl hS hSw;go_simp
   (try simp only [ly]);(try simp only [Act.put,pu]);clear hcl;have hcl:=hcl2;clear hcl2;clear hS;have f0:Wc.frozen? ⟨N+1+1,0,none⟩=false:=HSc.out.frozen 0;have f1:Wc.frozen? ⟨N+1+1,1,none⟩=false:=HSc.out.frozen 1;have f2:Wc.frozen? ⟨N+1+1,2,none⟩=false:=HSc.out.frozen 2;refine on1 2 hcl (fun K hK=>?_);go_simp;obtain⟨We,hWe⟩:=nM (((Wc.setCell ⟨N+1+1,0,none⟩ (.slice uA uk uc)).setCell ⟨N+1+1,1,none⟩ (.slice vA vk vc)).setCell ⟨N+1+1,2,none⟩ (.string hd));rw [hWe];have HSe:Hid (Blk We (N+2) 31 #[(.slice uA uk uc),(.slice vA vk vc),.string hd]):=hid (by rw [← hWe];exact ((HSc.out.set_ 0 _).set_ 1 _).set_ 2 _);have HWe:Hid (Blk We (N+3) 31 #[(.slice zA zk zc),.slice rA rk rc,.string hd]):=hid (by rw [← hWe];exact ((HWc.out.far (p:=⟨N+1+1,0,none⟩) (by show N+3≠N+1+1;omega) _).far (p:=⟨N+1+1,1,none⟩) (by show N+3≠N+1+1;omega) _).far (p:=⟨N+1+1,2,none⟩) (by show N+3≠N+1+1;omega) _)
   have HRe:Hid ((InR We (N+4) (.slice uA uk uc) (P ++ [o])∧InR We (N+4) (.slice vA vk vc) (E ++ [e]))∧InR We (N+4) (.slice zA zk zc) ((P ++ [o]) ++ [i])∧InR We (N+4) (.slice rA rk rc) (E ++ [e])):=hid (by
    have g:∀ (v:Value) (l:List Int),InR Wc (N+4) v l→InR We (N+4) v l:=fun v l hv=>by
     rw [← hWe];exact in_set (in_set (in_set hv (p:=⟨N+1+1,0,none⟩) (by show N+1+1<_;omega) _) (p:=⟨N+1+1,1,none⟩) (by show N+1+1<_;omega) _) (p:=⟨N+1+1,2,none⟩) (by show N+1+1<_;omega) _
    exact⟨⟨g _ _ HRc.out.1,g _ _ HRc.out.2⟩,g _ _ (in_mono HTc.out.fst HZ7.out),g _ _ (in_mono HTc.out.snd HZ7.out)⟩)
   have HBe:Hid (Below N w We):=hid (by rw [← hWe];exact ((HBc.out.setCell (p:=⟨N+1+1,0,none⟩) (by show N≤N+1+1;omega) _).setCell (p:=⟨N+1+1,1,none⟩) (by show N≤N+1+1;omega) _).setCell (p:=⟨N+1+1,2,none⟩) (by show N≤N+1+1;omega) _);clear HSc HWc HRc HTc HBc hWe f0 f1 f2 c0 c1 c2 d0 d1 d2;refine hK.out _ _ (Or.inr ⟨HSe.out,HWe.out⟩) (fun hcl2=>?_);clear hK K hcl;have hcl:=hcl2;clear hcl2;have f0:We.frozen? ⟨N+1+1+1,0,none⟩=false:=HWe.out.frozen 0;have f1:We.frozen? ⟨N+1+1+1,1,none⟩=false:=HWe.out.frozen 1;have f2:We.frozen? ⟨N+1+1+1,2,none⟩=false:=HWe.out.frozen 2;have c0:We.cell? ⟨N+1+1+1,0,none⟩=some (.slice zA zk zc):=HWe.out.cell 0;have c1:We.cell? ⟨N+1+1+1,1,none⟩=some (.slice rA rk rc):=HWe.out.cell 1;have c2:We.cell? ⟨N+1+1+1,2,none⟩=some (.string hd):=HWe.out.cell 2;refine on1 3 hcl (fun K hK=>?_);go_simp;obtain⟨Wf,hWf⟩:=nM (((We.setCell ⟨N+1+1+1,0,none⟩ (.slice zA zk zc)).setCell ⟨N+1+1+1,1,none⟩ (.slice rA rk rc)).setCell ⟨N+1+1+1,2,none⟩ (.string hd));rw [hWf];have HSf:Hid (Blk Wf (N+2) 31 #[(.slice uA uk uc),(.slice vA vk vc),.string hd]):=hid (by rw [← hWf];exact ((HSe.out.far (p:=⟨N+1+1+1,0,none⟩) (by show N+2≠N+1+1+1;omega) _).far (p:=⟨N+1+1+1,1,none⟩) (by show N+2≠N+1+1+1;omega) _).far (p:=⟨N+1+1+1,2,none⟩) (by show N+2≠N+1+1+1;omega) _);have HWf:Hid (Blk Wf (N+3) 31 #[(.slice zA zk zc),.slice rA rk rc,.string hd]):=hid (by rw [← hWf];exact ((HWe.out.set_ 0 _).set_ 1 _).set_ 2 _)
   have HRf:Hid ((InR Wf (N+4) (.slice uA uk uc) (P ++ [o])∧InR Wf (N+4) (.slice vA vk vc) (E ++ [e]))∧InR Wf (N+4) (.slice zA zk zc) ((P ++ [o]) ++ [i])∧InR Wf (N+4) (.slice rA rk rc) (E ++ [e])):=hid (by
    have g:∀ (v:Value) (l:List Int),InR We (N+4) v l→InR Wf (N+4) v l:=fun v l hv=>by
     rw [← hWf];exact in_set (in_set (in_set hv (p:=⟨N+1+1+1,0,none⟩) (by show N+1+1+1<_;omega) _) (p:=⟨N+1+1+1,1,none⟩) (by show N+1+1+1<_;omega) _) (p:=⟨N+1+1+1,2,none⟩) (by show N+1+1+1<_;omega) _
    exact⟨⟨g _ _ HRe.out.1.1,g _ _ HRe.out.1.2⟩,g _ _ HRe.out.2.1,g _ _ HRe.out.2.2⟩)
   have HBf:Hid (Below N w Wf):=hid (by rw [← hWf];exact ((HBe.out.setCell (p:=⟨N+1+1+1,0,none⟩) (by show N≤N+1+1+1;omega) _).setCell (p:=⟨N+1+1+1,1,none⟩) (by show N≤N+1+1+1;omega) _).setCell (p:=⟨N+1+1+1,2,none⟩) (by show N≤N+1+1+1;omega) _);clear HSe HWe HRe HBe hWf f0 f1 f2 c0 c1 c2;refine hK.out _ _ (Or.inl (by kernel_rfl)) (fun hcl2=>?_);clear hK K hcl hcl2;refine wpAnyK_done (by kernel_rfl) ?_ _;go_wp2_with fail;refine bodyPost_ret (results_cell2 rfl _ _ (N+1+1) (N+1+1+1) 31 #[(.slice uA uk uc),(.slice vA vk vc),.string hd] #[(.slice zA zk zc),.slice rA rk rc,.string hd] _ rfl rfl HSf.out HWf.out Tryz.underlying31 rfl (by kernel_rfl) (by kernel_rfl)) rfl ?_;exact OnEnd.of (B:=N+4) HP.out HE.out HQ.out (by have:=HN.out;omega) HRf.out.1.1 HRf.out.1.2 HRf.out.2.1 HRf.out.2.2 (by rw [HN.out];exact HBf.out.drew)
  ·have t3:decide (i ≥ 0)=false:=dF;have HQ:Hid ((P ++ [o]) ++ Sp.ifL i=(P ++ [o])):=hid (by rw [Sp.ifL_no g3,List.append_nil]);clear g3;go_wp2_with fail;have c0:Wb.cell? ⟨N+1+1,0,none⟩=some (.slice uA uk uc):=HSb.out.cell 0;have c1:Wb.cell? ⟨N+1+1,1,none⟩=some (.slice vA vk vc):=HSb.out.cell 1;have c2:Wb.cell? ⟨N+1+1,2,none⟩=some (.string hd):=HSb.out.cell 2;have d0:Wb.cell? ⟨N+1+1+1,0,none⟩=some (.slice qA qk qc):=HWb.out.cell 0;have d1:Wb.cell? ⟨N+1+1+1,1,none⟩=some (.slice rA rk rc):=HWb.out.cell 1;have d2:Wb.cell? ⟨N+1+1+1,2,none⟩=some (.string hd):=HWb.out.cell 2
   (try go_wp2_with fail)
   refine wp_region_K 3 (fun w'=>Blk w' (N+1+1) 31 #[(.slice uA uk uc),(.slice vA vk vc),.string hd]∧Blk w' (N+1+1+1) 31 #[(.slice qA qk qc),.slice rA rk rc,.string hd]) (by kernel_rfl) (fun hcl=>?_);refine mS (⟨HSb.out,HWb.out⟩) (fun hS=>?_);refine wpAnyK_take (i:=0) (v:=.agg #[(.slice uA uk uc),(.slice vA vk vc),.string hd]) hcl hS rfl (by kernel_rfl) (fun _ _ _ h=>h) (by rfl) (fun wq hSw=>?_) (fun hcl2=>?_)
   ·have e0:wq.cell? ⟨N+1+1,0,none⟩=some (.slice uA uk uc):=hSw.1.cell 0;have e1:wq.cell? ⟨N+1+1,1,none⟩=some (.slice vA vk vc):=hSw.1.cell 1;have e2:wq.cell? ⟨N+1+1,2,none⟩=some (.string hd):=hSw.1.cell 2;clear hcl hS hSw;go_simp
   (try simp only [ly]);(try simp only [Act.put,pu]);clear hcl;have hcl:=hcl2;clear hcl2;refine wpAnyK_take (i:=1) (v:=.agg #[(.slice qA qk qc),.slice rA rk rc,.string hd]) hcl hS rfl (by kernel_rfl) (fun _ _ _ h=>h) (by rfl) (fun wq hSw=>?_) (fun hcl2=>?_)
   ·have e0:wq.cell? ⟨N+1+1+1,0,none⟩=some (.slice qA qk qc):=hSw.2.cell 0;have e1:wq.cell? ⟨N+1+1+1,1,none⟩=some (.slice rA rk rc):=hSw.2.cell 1;have e2:wq.cell? ⟨N+1+1+1,2,none⟩=some (.string hd):=hSw.2.cell 2;clear hcl hS hSw;go_simp
   (try simp only [ly]);(try simp only [Act.put,pu]);clear hcl;have hcl:=hcl2;clear hcl2;clear hS;have f0:Wb.frozen? ⟨N+1+1,0,none⟩=false:=HSb.out.frozen 0;have f1:Wb.frozen? ⟨N+1+1,1,none⟩=false:=HSb.out.frozen 1;have f2:Wb.frozen? ⟨N+1+1,2,none⟩=false:=HSb.out.frozen 2;refine on1 2 hcl (fun K hK=>?_);go_simp;obtain⟨We,hWe⟩:=nM (((Wb.setCell ⟨N+1+1,0,none⟩ (.slice uA uk uc)).setCell ⟨N+1+1,1,none⟩ (.slice vA vk vc)).setCell ⟨N+1+1,2,none⟩ (.string hd));rw [hWe];have HSe:Hid (Blk We (N+2) 31 #[(.slice uA uk uc),(.slice vA vk vc),.string hd]):=hid (by rw [← hWe];exact ((HSb.out.set_ 0 _).set_ 1 _).set_ 2 _);have HWe:Hid (Blk We (N+3) 31 #[(.slice qA qk qc),.slice rA rk rc,.string hd]):=hid (by rw [← hWe];exact ((HWb.out.far (p:=⟨N+1+1,0,none⟩) (by show N+3≠N+1+1;omega) _).far (p:=⟨N+1+1,1,none⟩) (by show N+3≠N+1+1;omega) _).far (p:=⟨N+1+1,2,none⟩) (by show N+3≠N+1+1;omega) _)
   have HRe:Hid ((InR We (N+4) (.slice uA uk uc) (P ++ [o])∧InR We (N+4) (.slice vA vk vc) (E ++ [e]))∧InR We (N+4) (.slice qA qk qc) (P ++ [o])∧InR We (N+4) (.slice rA rk rc) (E ++ [e])):=hid (by
    have g:∀ (v:Value) (l:List Int),InR Wb (N+4) v l→InR We (N+4) v l:=fun v l hv=>by
     rw [← hWe];exact in_set (in_set (in_set hv (p:=⟨N+1+1,0,none⟩) (by show N+1+1<_;omega) _) (p:=⟨N+1+1,1,none⟩) (by show N+1+1<_;omega) _) (p:=⟨N+1+1,2,none⟩) (by show N+1+1<_;omega) _
    exact⟨⟨g _ _ HRb.out.1,g _ _ HRb.out.2⟩,g _ _ (in_mono HTb.out.fst HZ7.out),g _ _ (in_mono HTb.out.snd HZ7.out)⟩)
   have HBe:Hid (Below N w We):=hid (by rw [← hWe];exact ((HBb.out.setCell (p:=⟨N+1+1,0,none⟩) (by show N≤N+1+1;omega) _).setCell (p:=⟨N+1+1,1,none⟩) (by show N≤N+1+1;omega) _).setCell (p:=⟨N+1+1,2,none⟩) (by show N≤N+1+1;omega) _);clear HSb HWb HRb HTb HBb hWe f0 f1 f2 c0 c1 c2 d0 d1 d2;refine hK.out _ _ (Or.inr ⟨HSe.out,HWe.out⟩) (fun hcl2=>?_);clear hK K hcl;have hcl:=hcl2;clear hcl2;have f0:We.frozen? ⟨N+1+1+1,0,none⟩=false:=HWe.out.frozen 0;have f1:We.frozen? ⟨N+1+1+1,1,none⟩=false:=HWe.out.frozen 1;have f2:We.frozen? ⟨N+1+1+1,2,none⟩=false:=HWe.out.frozen 2;have c0:We.cell? ⟨N+1+1+1,0,none⟩=some (.slice qA qk qc):=HWe.out.cell 0;have c1:We.cell? ⟨N+1+1+1,1,none⟩=some (.slice rA rk rc):=HWe.out.cell 1;have c2:We.cell? ⟨N+1+1+1,2,none⟩=some (.string hd):=HWe.out.cell 2;refine on1 3 hcl (fun K hK=>?_);go_simp;obtain⟨Wf,hWf⟩:=nM (((We.setCell ⟨N+1+1+1,0,none⟩ (.slice qA qk qc)).setCell ⟨N+1+1+1,1,none⟩ (.slice rA rk rc)).setCell ⟨N+1+1+1,2,none⟩ (.string hd));rw [hWf];have HSf:Hid (Blk Wf (N+2) 31 #[(.slice uA uk uc),(.slice vA vk vc),.string hd]):=hid (by rw [← hWf];exact ((HSe.out.far (p:=⟨N+1+1+1,0,none⟩) (by show N+2≠N+1+1+1;omega) _).far (p:=⟨N+1+1+1,1,none⟩) (by show N+2≠N+1+1+1;omega) _).far (p:=⟨N+1+1+1,2,none⟩) (by show N+2≠N+1+1+1;omega) _);have HWf:Hid (Blk Wf (N+3) 31 #[(.slice qA qk qc),.slice rA rk rc,.string hd]):=hid (by rw [← hWf];exact ((HWe.out.set_ 0 _).set_ 1 _).set_ 2 _)
   have HRf:Hid ((InR Wf (N+4) (.slice uA uk uc) (P ++ [o])∧InR Wf (N+4) (.slice vA vk vc) (E ++ [e]))∧InR Wf (N+4) (.slice qA qk qc) (P ++ [o])∧InR Wf (N+4) (.slice rA rk rc) (E ++ [e])):=hid (by
    have g:∀ (v:Value) (l:List Int),InR We (N+4) v l→InR Wf (N+4) v l:=fun v l hv=>by
     rw [← hWf];exact in_set (in_set (in_set hv (p:=⟨N+1+1+1,0,none⟩) (by show N+1+1+1<_;omega) _) (p:=⟨N+1+1+1,1,none⟩) (by show N+1+1+1<_;omega) _) (p:=⟨N+1+1+1,2,none⟩) (by show N+1+1+1<_;omega) _
    exact⟨⟨g _ _ HRe.out.1.1,g _ _ HRe.out.1.2⟩,g _ _ HRe.out.2.1,g _ _ HRe.out.2.2⟩)
   have HBf:Hid (Below N w Wf):=hid (by rw [← hWf];exact ((HBe.out.setCell (p:=⟨N+1+1+1,0,none⟩) (by show N≤N+1+1+1;omega) _).setCell (p:=⟨N+1+1+1,1,none⟩) (by show N≤N+1+1+1;omega) _).setCell (p:=⟨N+1+1+1,2,none⟩) (by show N≤N+1+1+1;omega) _);clear HSe HWe HRe HBe hWf f0 f1 f2 c0 c1 c2;refine hK.out _ _ (Or.inl (by kernel_rfl)) (fun hcl2=>?_);clear hK K hcl hcl2;refine wpAnyK_done (by kernel_rfl) ?_ _;go_wp2_with fail;refine bodyPost_ret (results_cell2 rfl _ _ (N+1+1) (N+1+1+1) 31 #[(.slice uA uk uc),(.slice vA vk vc),.string hd] #[(.slice qA qk qc),.slice rA rk rc,.string hd] _ rfl rfl HSf.out HWf.out Tryz.underlying31 rfl (by kernel_rfl) (by kernel_rfl)) rfl ?_;exact OnEnd.of (B:=N+4) HP.out HE.out HQ.out (by have:=HN.out;omega) HRf.out.1.1 HRf.out.1.2 HRf.out.2.1 HRf.out.2.2 (by rw [HN.out];exact HBf.out.drew)
end Go.Proofs.YtedfppbnkgffcaaGreatDoor
