/-
 The first path that comes to a port twice, as it is gathered: nothing comes there sooner (chapter 10; no program in sight).
-/
import Derived.Test.YtedfppbnkgffcaaGreatDoorAe
set_option linter.unusedVariables false
set_option linter.unusedSimpArgs false
namespace Go.Proofs.YtedfppbnkgffcaaGreatDoor
open Go.RowKit
namespace Sp
def inAt (n:Net) (x:Int):Bool:=decide (0≤x) && portIn n x.toNat
def cntIn (n:Net) (l:List Int):Nat:=(l.filter (inAt n)).length
theorem cntIn_append (n:Net) (a b:List Int):cntIn n (a ++ b)=cntIn n a+cntIn n b:=by unfold cntIn;rw [List.filter_append,List.length_append]
theorem cntIn_prefix (n:Net) {a b:List Int} (h:a <+: b):cntIn n a≤cntIn n b:=by
 obtain⟨r,rfl⟩:=h;rw [cntIn_append];omega
theorem nodup_snoc {a:List Int} {x:Int} (h:a.Nodup) (hx:x ∉ a):(a ++ [x]).Nodup:=by
 rw [List.nodup_append];refine⟨h,by simp,fun y hy z hz=>?_⟩;obtain rfl:z=x:=by simpa using hz
 exact fun e=>hx (e ▸ hy)
structure Twice (l:List Int) (k:Nat):Prop where
 here:∃ x,l[k]?=some x∧x ∈ l.take k
 first:(l.take k).Nodup
theorem Twice.beyond {l a:List Int} {k:Nat} (h:Twice l k) (ha:a.Nodup) (hp:a <+: l):a.length≤k:=by
 obtain⟨x,hx,hm⟩:=h.here;rcases Nat.lt_or_ge k a.length with hk | hk
 ·exfalso;obtain⟨r,rfl⟩:=hp;rw [List.getElem?_append_left hk] at hx;rw [List.take_append_of_le_length (Nat.le_of_lt hk)] at hm;have hd:x ∈ a.drop k:=List.mem_of_getElem? (i:=0) (by rw [List.getElem?_drop];exact hx);rw [← List.take_append_drop k a] at ha;exact (List.nodup_append.1 ha).2.2 x hm x hd rfl
 ·exact hk
theorem Twice.not_nodup {l:List Int} {k:Nat} (h:Twice l k):¬ l.Nodup:=fun hn=>by
 have:=h.beyond hn (List.prefix_refl _);obtain⟨x,hx,_⟩:=h.here;rw [List.getElem?_eq_none this] at hx
 cases hx
theorem Twice.snoc {a:List Int} {x:Int} (h:a.Nodup) (hx:x ∈ a):Twice (a ++ [x]) a.length:=⟨⟨x,by simp,by simpa using hx⟩,by simpa using h⟩
structure GOk (n:Net) (s:Nat) (h:ByteArray) (hops:Int) (x:Path):Prop where
 ok:POk n hops x
 reached:Reached n s h x
 inn:portIn n (lastP x).toNat=true
 nodup:x.ports.Nodup
 cnt:cntIn n x.ports=x.entries.length+1
theorem GOk.move {n:Net} (hn:NetOk n) {s:Nat} {h:ByteArray} {hops:Int} {x:Path} (hx:GOk n s h hops x) {m:Mv} (hm:m ∈ movesV n (lastP x).toNat x.header):MvIn n (lastP x).toNat x.header m:=by
 obtain⟨q,hq,hqi⟩:=hx.ok.port;exact mvIn_of hn hq (by rw [← hqi];exact hx.inn) hm
theorem GOk.go {n:Net} {s:Nat} {h:ByteArray} {hops:Int} {x:Path} (hx:GOk n s h hops x) (hlt:(x.entries.length:Int)<hops) {m:Mv} (hm:m ∈ movesV n (lastP x).toNat x.header):leafB n hops x=false:=by
 unfold leafB;rw [hx.inn,if_neg (by simp),Bool.or_eq_false_iff];refine⟨?_,decide_eq_false (by omega)⟩
 cases hM:movesV n (lastP x).toNat x.header with
 | nil=>rw [hM] at hm;cases hm
 | cons _ _=>rfl
theorem inAt_out {n:Net} {k:Nat} {h:ByteArray} {m:Mv} (hM:MvIn n k h m):inAt n m.out=false:=by
 obtain⟨r,hr,hri,_⟩:=hM.port;unfold inAt portIn;rw [hr];simp [hri]
theorem inAt_inn {n:Net} (hn:NetOk n) {k:Nat} {h:ByteArray} {m:Mv} (hM:MvIn n k h m) (h0:0≤m.inn):inAt n m.inn=true∧portIn n m.inn.toNat=true:=by
 obtain⟨r,hr,hri,hd⟩:=hM.port;rcases (hn.ports _ r hr).dst with e | ⟨_,_,t,ht,hti⟩
 ·omega
 ·rw [← hd] at ht;have:portIn n m.inn.toNat=true:=by unfold portIn;rw [ht];exact hti
  exact⟨by unfold inAt;rw [this];simpa using h0,this⟩
theorem onP_ports {x:Path} {m:Mv} (ho:0≤m.out) (hi:0≤m.inn):(onP x m).ports=(x.ports ++ [m.out]) ++ [m.inn]:=by
 show x.ports ++ ifL m.out ++ ifL m.inn=_;rw [ifL_yes ho,ifL_yes hi]
theorem onP_short {x:Path} {m:Mv} (hi:¬ 0≤m.inn):onP x m=shortP x m:=by
 show Path.mk (x.ports ++ ifL m.out ++ ifL m.inn) _ _=_;rw [ifL_no hi,List.append_nil];rfl
theorem short_ports {x:Path} {m:Mv} (ho:0≤m.out):(shortP x m).ports=x.ports ++ [m.out]:=by
 show x.ports ++ ifL m.out=_;rw [ifL_yes ho]
theorem on_ents {x:Path} {m:Mv} (he:0≤m.entry):(onP x m).entries.length=x.entries.length+1:=by
 show (x.entries ++ ifL m.entry).length=_;rw [ifL_yes he,List.length_append];rfl
theorem GOk.next {n:Net} (hn:NetOk n) {s:Nat} {h:ByteArray} {hops:Int} {x:Path} (hx:GOk n s h hops x) (hlt:(x.entries.length:Int)<hops) {m:Mv} (hm:m ∈ movesV n (lastP x).toNat x.header) (h1:m.out ∉ x.ports) (h0:0≤m.inn) (h2:m.inn ∉ (shortP x m).ports):GOk n s h hops (onP x m):=by
 have hM:=hx.move hn hm;obtain⟨q,hq,hqi⟩:=hx.ok.port;have hI:=inAt_inn hn hM h0;rw [short_ports hM.out] at h2;refine⟨(hx.ok.next hn (hx.go hlt hm) hm).1,hx.reached.next hn hq hm,?_,?_,?_⟩
 ·rw [lastP_on,if_pos h0];exact hI.2
 ·rw [onP_ports hM.out h0];exact nodup_snoc (nodup_snoc hx.nodup h1) h2
 ·rw [onP_ports hM.out h0,cntIn_append,cntIn_append,hx.cnt,on_ents hM.entry];unfold cntIn;rw [List.filter_cons_of_neg (by rw [inAt_out hM];simp),List.filter_cons_of_pos hI.1];simp
def OkM (g:List Path) (x:Path) (m:Mv):Prop:=m.out ∉ x.ports∧(0≤m.inn→m.inn ∉ (shortP x m).ports∧onP x m ∈ g)
def DoneP (n:Net) (hops:Int) (g:List Path) (x:Path):Prop:=(x.entries.length:Int)<hops→∀ m ∈ movesV n (lastP x).toNat x.header,OkM g x m
theorem OkM.more {g:List Path} {x:Path} {m:Mv} (h:OkM g x m) (r:List Path):OkM (g ++ r) x m:=⟨h.1,fun h0=>⟨(h.2 h0).1,List.mem_append_left _ (h.2 h0).2⟩⟩
structure LInv (n:Net) (s:Nat) (h:ByteArray) (hops:Int) (b:Path) (g:List Path) (cur:Nat):Prop where
 start:b ∈ g
 ok:∀ x ∈ g,GOk n s h hops x
 sorted:∀ (i j:Nat) (x y:Path),i≤j→g[i]?=some x→g[j]?=some y→x.entries.length≤y.entries.length
 top:∀ y,g[cur]?=some y→∀ x ∈ g,x.entries.length≤y.entries.length+1
 done:∀ (i:Nat) (x:Path),i<cur→g[i]?=some x→DoneP n hops g x
theorem LInv.first {n:Net} {s:Nat} {h:ByteArray} {hops:Int} {b:Path} (hb:GOk n s h hops b):LInv n s h hops b [b] 0:=by
 refine⟨List.mem_singleton.2 rfl,fun x hx=>?_,fun i j x y _ hi hj=>?_,fun y hy x hx=>?_,fun i x hi=>by omega⟩
 ·obtain rfl:=List.mem_singleton.1 hx;exact hb
 ·obtain rfl:=List.mem_singleton.1 (List.mem_of_getElem? hi);obtain rfl:=List.mem_singleton.1 (List.mem_of_getElem? hj);exact Nat.le_refl _
 ·obtain rfl:=List.mem_singleton.1 hx;obtain rfl:=List.mem_singleton.1 (List.mem_of_getElem? hy);omega
theorem LInv.next {n:Net} {s:Nat} {h:ByteArray} {hops:Int} {b:Path} {g:List Path} {cur:Nat} (hI:LInv n s h hops b g cur) {y:Path} (hy:g[cur]?=some y) (hd:DoneP n hops g y):LInv n s h hops b g (cur+1):=by
 refine⟨hI.start,hI.ok,hI.sorted,fun z hz x hx=>?_,fun i x hi hx=>?_⟩
 ·have h1:=hI.top y hy x hx;have h2:=hI.sorted cur (cur+1) y z (by omega) hy hz;omega
 ·rcases Nat.lt_or_ge i cur with h9 | h9
  ·exact hI.done i x h9 hx
  ·obtain rfl:i=cur:=by omega
   rw [hy] at hx;(obtain rfl:y=x:=by simpa using hx);exact hd
theorem LInv.push {n:Net} (hn:NetOk n) {s:Nat} {h:ByteArray} {hops:Int} {b:Path} {g:List Path} {cur:Nat} (hI:LInv n s h hops b g cur) {y:Path} (hy:g[cur]?=some y) (hlt:(y.entries.length:Int)<hops) {m:Mv} (hm:m ∈ movesV n (lastP y).toNat y.header) (h1:m.out ∉ y.ports) (h0:0≤m.inn) (h2:m.inn ∉ (shortP y m).ports):LInv n s h hops b (g ++ [onP y m]) cur:=by
 have hcl:cur<g.length:=(List.getElem?_eq_some_iff.1 hy).1;have hG:=hI.ok y (List.mem_of_getElem? hy);have he:=on_ents (x:=y) (hG.move hn hm).entry
 have hold:∀ (i:Nat) (x:Path),(g ++ [onP y m])[i]?=some x→(i<g.length∧g[i]?=some x)∨(i=g.length∧x=onP y m):=fun i x hx=>by
  rcases Nat.lt_or_ge i g.length with h9 | h9
  ·rw [List.getElem?_append_left h9] at hx;exact .inl ⟨h9,hx⟩
  ·rw [List.getElem?_append_right h9] at hx
   have h8:i - g.length=0:=by
    rcases Nat.eq_zero_or_pos (i - g.length) with e | e
    ·exact e
    ·rw [List.getElem?_eq_none (by simp only [List.length_singleton];omega)] at hx;cases hx
   rw [h8] at hx;exact .inr ⟨by omega,by simpa using hx.symm⟩
 refine⟨List.mem_append_left _ hI.start,fun x hx=>?_,fun i j x z hij hi hj=>?_,fun z hz x hx=>?_,fun i x hi hx hl m' hm'=>?_⟩
 ·rcases List.mem_append.1 hx with h9 | h9
  ·exact hI.ok x h9
  ·obtain rfl:=List.mem_singleton.1 h9;exact hG.next hn hlt hm h1 h0 h2
 ·rcases hold i x hi with⟨a1,a2⟩ | ⟨a1,rfl⟩ <;> rcases hold j z hj with⟨b1,b2⟩ | ⟨b1,rfl⟩
  ·exact hI.sorted i j x z hij a2 b2
  ·rw [he];exact hI.top y hy x (List.mem_of_getElem? a2)
  ·omega
  ·exact Nat.le_refl _
 ·rw [List.getElem?_append_left hcl,hy] at hz;obtain rfl:y=z:=by simpa using hz
  rcases List.mem_append.1 hx with h9 | h9
  ·exact hI.top y hy x h9
  ·obtain rfl:=List.mem_singleton.1 h9;omega
 ·rw [List.getElem?_append_left (by omega)] at hx;exact (hI.done i x hi hx hl m' hm').more _
theorem walk_late {n:Net} (hn:NetOk n) {s:Nat} {h:ByteArray} {hops:Int} {g:List Path} (hg:∀ x ∈ g,GOk n s h hops x) {E:Nat} (hd:∀ x ∈ g,x.entries.length<E→DoneP n hops g x):∀ (f:Nat) (x:Path),x ∈ g→∀ q ∈ walkV n hops f x,∀ k,Twice q.ports k→E+1≤cntIn n (q.ports.take k)
 | 0,x,hx,q,hq,k,ht=>by
  rw [walkV] at hq;obtain rfl:q=x:=by simpa using hq
  exact absurd (hg q hx).nodup ht.not_nodup
 | f+1,x,hx,q,hq,k,ht=>by
  have hG:=hg x hx;rcases Nat.lt_or_ge x.entries.length E with h9 | h9
  ·cases hl:leafB n hops x with
   | true=>
    rw [walkV_leaf hl] at hq;(obtain rfl:q=x:=by simpa using hq);exact absurd hG.nodup ht.not_nodup
   | false=>
    rw [walkV_on hl] at hq;obtain⟨m,hm,hq⟩:=List.mem_flatMap.1 hq
    have hlt:(x.entries.length:Int)<hops:=by
     unfold leafB at hl;rw [hG.inn,if_neg (by simp),Bool.or_eq_false_iff,decide_eq_false_iff_not] at hl;omega
    have hM:=hG.move hn hm;obtain⟨h1,h2⟩:=hd x hx h9 hlt m hm;by_cases h0:0≤m.inn
    ·exact walk_late hn hg hd f (onP x m) (h2 h0).2 q hq k ht
    ·exfalso;have hp:=(hG.ok.next hn (hG.go hlt hm) hm).1;obtain⟨r,hr,hri,hdst⟩:=hM.port;(have hlast:lastP (onP x m)=m.out:=by rw [lastP_on,if_neg h0,if_pos hM.out]);have hpi:portIn n (lastP (onP x m)).toNat=false:=by unfold portIn;rw [hlast,hr];exact hri
     have hmv:movesV n (lastP (onP x m)).toNat (onP x m).header=[]:=by
      rw [hlast,movesV_link hr hri,if_neg (by rw [← hdst];exact h0)]
     (have hlf:leafB n hops (onP x m)=true:=by unfold leafB;rw [hmv];rfl);rw [walkV_leaf hlf] at hq;(obtain rfl:q=onP x m:=by simpa using hq);rw [onP_short h0,short_ports hM.out] at ht;exact ht.not_nodup (nodup_snoc hG.nodup h1)
  ·have hp:=walk_prefix (f+1) x q hq;have hk:=ht.beyond hG.nodup hp
   have h8:x.ports <+: q.ports.take k:=by
    obtain⟨r,hr⟩:=hp;rw [← hr,List.take_append,List.take_of_length_le hk];exact List.prefix_append _ _
   have:=cntIn_prefix n h8;rw [hG.cnt] at this;omega
theorem follow_out {n:Net} (hn:NetOk n) {k:Nat} {h:ByteArray} {q:Port} (hq:n.ports[k]?=some q) (hin:q.inn=true) {m:Mv} (hm:m ∈ movesV n k h) (r:List Int) (i a:Int):followV n k h (m.out :: r) i a=followV n m.out.toNat m.header r (i+1) (a+1):=by
 have hM:=mvIn_of hn hq hin hm
 have hf:(movesV n k h).find? (hitM m.out)=some m:=by
  refine find_uniq hm ?_ (fun y hy hh=>?_)
  ·unfold hitM;simp [hM.entry]
  ·have hY:=mvIn_of hn hq hin hy;have h1:=hY.out;have h2:=hM.out;unfold hitM at hh;simp only [Bool.or_eq_true,Bool.and_eq_true,beq_iff_eq,decide_eq_true_eq] at hh;rcases hh with⟨e,_⟩ | ⟨e,_⟩
   ·exact hM.uniq y hy e
   ·omega
 rw [followV_hit hf]
 have hst:stepA m.out m a=a+1:=by
  unfold stepA;rw [if_pos (by simp [hM.entry])]
 rw [hst]
theorem reached_followed {n:Net} {s:Nat} {h:ByteArray} (hc:checkE n (s:Int) h=0) {p:Path} (hr:Reached n s h p) (hl:p.ports.length≤130):followT n (s:Int) h p.ports=(p.header,(p.entries.length:Int),0):=by
 obtain⟨l,hp,hf⟩:=hr;rw [hp,List.length_cons] at hl;have:=hf [] 1 0;rw [List.append_nil] at this;rw [hp,followT_at hc (by omega),this];simp [followV]
structure LoopEnd (n:Net) (s:Nat) (h:ByteArray) (hops:Int) (b p:Path):Prop where
 follow:followT n (s:Int) h p.ports=(p.header,(p.entries.length:Int),0)
 within:(p.entries.length:Int)≤hops
 twice:Twice p.ports (p.ports.length - 1)
 long:1<p.ports.length
 best:∀ f q,q ∈ walkV n hops f b→∀ k,Twice q.ports k→p.entries.length≤cntIn n (q.ports.take k)
theorem LInv.late {n:Net} (hn:NetOk n) {s:Nat} {h:ByteArray} {hops:Int} {b:Path} {g:List Path} {cur:Nat} (hI:LInv n s h hops b g cur) {y:Path} (hy:g[cur]?=some y):∀ f q,q ∈ walkV n hops f b→∀ k,Twice q.ports k→y.entries.length+1≤cntIn n (q.ports.take k):=fun f q hq k ht=>
 walk_late hn hI.ok (E:=y.entries.length) (fun x hx hlt=>by
  obtain⟨i,hi⟩:=List.mem_iff_getElem?.1 hx;rcases Nat.lt_or_ge i cur with h9 | h9
  ·exact hI.done i x h9 hi
  ·have:=hI.sorted cur i y x h9 hy hi
   omega) f b hI.start q hq k ht
theorem LInv.none {n:Net} (hn:NetOk n) {s:Nat} {h:ByteArray} {hops:Int} {b:Path} {g:List Path} {cur:Nat} (hI:LInv n s h hops b g cur) (he:g.length≤cur):∀ f q,q ∈ walkV n hops f b→∀ k,¬ Twice q.ports k:=fun f q hq k ht=>by
 have:=walk_late hn hI.ok (E:=cntIn n (q.ports.take k)) (fun x hx _=>by
  obtain⟨i,hi⟩:=List.mem_iff_getElem?.1 hx
  exact hI.done i x (Nat.lt_of_lt_of_le (List.getElem?_eq_some_iff.1 hi).1 he) hi) f b hI.start q hq k ht
 omega
theorem short_len {x:Path} {m:Mv}:(shortP x m).ports.length≤(onP x m).ports.length:=by
 show (x.ports ++ ifL m.out).length≤(x.ports ++ ifL m.out ++ ifL m.inn).length;exact (List.prefix_append (x.ports ++ ifL m.out) (ifL m.inn)).length_le
theorem LInv.short {n:Net} (hn:NetOk n) {s:Nat} {h:ByteArray} {hops:Int} (hc:checkE n (s:Int) h=0) (h64:hops≤64) {b:Path} {g:List Path} {cur:Nat} (hI:LInv n s h hops b g cur) {y:Path} (hy:g[cur]?=some y) (hlt:(y.entries.length:Int)<hops) {m:Mv} (hm:m ∈ movesV n (lastP y).toNat y.header) (h1:m.out ∈ y.ports):LoopEnd n s h hops b (shortP y m):=by
 have hG:=hI.ok y (List.mem_of_getElem? hy);have hM:=hG.move hn hm;have he:(shortP y m).entries.length=y.entries.length+1:=on_ents hM.entry;have hp:=(hG.ok.next hn (hG.go hlt hm) hm).1;have hpl:=hp.len;have hpe:=hp.ents;rw [on_ents hM.entry] at hpl hpe;have hsl:=short_len (x:=y) (m:=m);have hps:=short_ports (x:=y) (m:=m) hM.out;obtain⟨l,hl,hf⟩:=hG.reached;obtain⟨q,hq,hqi⟩:=hG.ok.port;refine⟨?_,by rw [he];omega,?_,?_,fun f q hq k ht=>by rw [he];exact hI.late hn hy f q hq k ht⟩
 ·have hsp:(shortP y m).ports=(s:Int) :: (l ++ [m.out]):=by rw [hps,hl];rfl
  have hsl2:=hsl;rw [hsp,List.length_cons] at hsl2;rw [hsp,followT_at hc (by omega),hf,follow_out hn hq (by rw [← hqi];exact hG.inn) hm,he];show followV n _ m.header [] _ _=_;simp [followV,shortP]
 ·rw [hps,List.length_append];exact Twice.snoc hG.nodup h1
 ·rw [hps,List.length_append];have:0<y.ports.length:=List.length_pos_of_mem h1;simp;omega
theorem LInv.whole {n:Net} (hn:NetOk n) {s:Nat} {h:ByteArray} {hops:Int} (hc:checkE n (s:Int) h=0) (h64:hops≤64) {b:Path} {g:List Path} {cur:Nat} (hI:LInv n s h hops b g cur) {y:Path} (hy:g[cur]?=some y) (hlt:(y.entries.length:Int)<hops) {m:Mv} (hm:m ∈ movesV n (lastP y).toNat y.header) (h1:m.out ∉ y.ports) (h0:0≤m.inn) (h2:m.inn ∈ (shortP y m).ports):LoopEnd n s h hops b (onP y m):=by
 have hG:=hI.ok y (List.mem_of_getElem? hy);have hM:=hG.move hn hm;have he:(onP y m).entries.length=y.entries.length+1:=on_ents hM.entry;have hp:=(hG.ok.next hn (hG.go hlt hm) hm).1;have hpl:=hp.len;have hpe:=hp.ents;have hps:=onP_ports (x:=y) (m:=m) hM.out h0;rw [short_ports hM.out] at h2;obtain⟨q,hq,hqi⟩:=hG.ok.port;refine⟨reached_followed hc (hG.reached.next hn hq hm) (by omega),hpe,?_,?_,fun f q hq k ht=>by rw [he];exact hI.late hn hy f q hq k ht⟩
 ·rw [hps,List.length_append];exact Twice.snoc (nodup_snoc hG.nodup h1) h2
 ·rw [hps,List.length_append];have:0<(y.ports ++ [m.out]).length:=List.length_pos_of_mem h2;simp only [List.length_singleton];omega
theorem begin_in {n:Net} {s:Nat} {h:ByteArray} {hops:Int} (hc:checkE n (s:Int) h=0∧0≤hops∧hops≤64) (hi:portIn n s=true):GOk n s h hops ⟨[(s:Int)],[],h⟩∧pathsV n (s:Int) h hops=walkV n hops (hops.toNat+2) ⟨[(s:Int)],[],h⟩:=by
 refine⟨⟨POk.first (checkE_zero hc.1).2 hc.2.1,Reached.first n s h,hi,by simp,?_⟩,by unfold pathsV;rw [if_pos hc]⟩;show ([(s:Int)].filter (inAt n)).length=1;rw [List.filter_cons_of_pos (by unfold inAt;rw [Int.toNat_natCast,hi];simp)];rfl
theorem begin_link {n:Net} {s:Nat} {h:ByteArray} {hops:Int} (hc:checkE n (s:Int) h=0∧0≤hops∧hops≤64) (hi:portIn n s=false) {m:Mv} {r:List Mv} (hm:movesV n s h=m :: r):GOk n s h hops (onP ⟨[(s:Int)],[],h⟩ m)∧(onP ⟨[(s:Int)],[],h⟩ m).entries=[]∧pathsV n (s:Int) h hops=walkV n hops (hops.toNat+1) (onP ⟨[(s:Int)],[],h⟩ m):=by
 obtain⟨hn,hs⟩:=checkE_zero hc.1;have hf:=POk.first hs hc.2.1
 obtain⟨q,hq,hqi⟩:=hf.port;have hl1:(lastP ⟨[(s:Int)],[],h⟩).toNat=s:=Int.toNat_natCast s;rw [hl1] at hq hqi;have hin:q.inn=false:=by rw [← hqi];exact hi
 have hm2:=hm;rw [movesV_link hq hin] at hm2;split at hm2
 ·rename_i hd;injection hm2 with e1 e2
  subst e1;subst e2;have hmm:(⟨-1,-1,q.dst,h⟩:Mv) ∈ movesV n (lastP ⟨[(s:Int)],[],h⟩).toNat h:=by rw [hl1,hm];exact List.mem_cons_self
  have hlf:leafB n hops ⟨[(s:Int)],[],h⟩=false:=by
   unfold leafB;rw [hl1,hm,hi];rfl
  have hpo:(onP ⟨[(s:Int)],[],h⟩ ⟨-1,-1,q.dst,h⟩).ports=[(s:Int),q.dst]:=by
   show [(s:Int)] ++ ifL (-1) ++ ifL q.dst=_;rw [ifL_yes hd];rfl
  have hen:(onP ⟨[(s:Int)],[],h⟩ ⟨-1,-1,q.dst,h⟩).entries=[]:=rfl;rcases (hn.ports _ q hq).dst with e | ⟨_,_,t,ht,hti⟩
  ·omega
  have hpi:portIn n q.dst.toNat=true:=by unfold portIn;rw [ht];exact hti
  refine⟨⟨(hf.next hn hlf hmm).1,(Reached.first n s h).next hn (by rw [hl1];exact hq) hmm,?_,?_,?_⟩,hen,?_⟩
  ·rw [lastP_on,if_pos hd];exact hpi
  ·rw [hpo];refine List.nodup_cons.2 ⟨fun e=>?_,by simp⟩;(have e:(s:Int)=q.dst:=by simpa using e);rw [← e,Int.toNat_natCast,hi] at hpi
   cases hpi
  ·rw [hpo,hen];unfold cntIn;rw [List.filter_cons_of_neg (by unfold inAt;rw [Int.toNat_natCast,hi];simp),List.filter_cons_of_pos (by unfold inAt;rw [hpi];simpa using hd)];rfl
  ·unfold pathsV;rw [if_pos hc,walkV_on hlf (hops.toNat+1),hl1];show (movesV n s h).flatMap _=_;rw [hm];simp
 ·cases hm2
theorem begin_none {n:Net} {s:Nat} {h:ByteArray} {hops:Int} (hm:movesV n s h=[]):∀ q ∈ pathsV n (s:Int) h hops,q=⟨[(s:Int)],[],h⟩:=by
 intro q hq;unfold pathsV at hq;split at hq
 ·rw [walkV_leaf (by unfold leafB;rw [show (lastP ⟨[(s:Int)],[],h⟩).toNat=s from Int.toNat_natCast s];show ((movesV n s h).isEmpty || _)=true;rw [hm];rfl)] at hq;simpa using hq
 ·cases hq
end Sp
end Go.Proofs.YtedfppbnkgffcaaGreatDoor
