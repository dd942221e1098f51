/-
 The first path that comes to a port twice, as it is gathered: nothing comes there sooner (chapter 10; no program in sight).
-/
import Derived.Test.YtedfppbnkgffcaaGreatDoorAe
set_option linter.unusedVariables false
set_option linter.unusedSimpArgs false
namespace Go.Proofs.YtedfppbnkgffcaaGreatDoor
open Go.RowKit
namespace Sp
def inAt (n:Net) (x:Int):Bool:=decide (0≤x) && portIn n x.toNat
def cntIn (n:Net) (l:List Int):Nat:=(l.filter (inAt n)).length
theorem cntIn_append (n:Net) (a b:List Int):cntIn n (a ++ b)=cntIn n a+cntIn n b:=by unfold cntIn;rw [List.filter_append,List.length_append]
theorem cntIn_prefix (n:Net) {a b:List Int} (h:a <+: b):cntIn n a≤cntIn n b:=by
 obtain⟨r,rfl⟩:=h;rw [cntIn_append];omega
structure GOk (n:Net) (s:Nat) (h:ByteArray) (hops:Int) (x:Path):Prop where
 ok:POk n hops x
 reached:Reached n s h x
 inn:portIn n (lastP x).toNat=true
 nodup:x.ports.Nodup
 cnt:cntIn n x.ports=x.entries.length+1
theorem inAt_out {n:Net} {k:Nat} {h:ByteArray} {m:Mv} (hM:MvIn n k h m):inAt n m.out=false:=by
 obtain⟨r,hr,hri,_⟩:=hM.port;unfold inAt portIn;rw [hr];simp [hri]
theorem inAt_inn {n:Net} (hn:NetOk n) {k:Nat} {h:ByteArray} {m:Mv} (hM:MvIn n k h m) (h0:0≤m.inn):inAt n m.inn=true∧portIn n m.inn.toNat=true:=by
 obtain⟨r,hr,hri,hd⟩:=hM.port;rcases (hn.ports _ r hr).dst with e | ⟨_,_,t,ht,hti⟩
 ·omega
 ·rw [← hd] at ht;have:portIn n m.inn.toNat=true:=by unfold portIn;rw [ht];exact hti
  exact⟨by unfold inAt;rw [this];simpa using h0,this⟩
theorem onP_ports {x:Path} {m:Mv} (ho:0≤m.out) (hi:0≤m.inn):(onP x m).ports=(x.ports ++ [m.out]) ++ [m.inn]:=by
 show x.ports ++ ifL m.out ++ ifL m.inn=_;rw [ifL_yes ho,ifL_yes hi]
theorem onP_short {x:Path} {m:Mv} (hi:¬ 0≤m.inn):onP x m=shortP x m:=by
 show Path.mk (x.ports ++ ifL m.out ++ ifL m.inn) _ _=_;rw [ifL_no hi,List.append_nil];rfl
theorem short_ports {x:Path} {m:Mv} (ho:0≤m.out):(shortP x m).ports=x.ports ++ [m.out]:=by
 show x.ports ++ ifL m.out=_;rw [ifL_yes ho]
theorem on_ents {x:Path} {m:Mv} (he:0≤m.entry):(onP x m).entries.length=x.entries.length+1:=by
 show (x.entries ++ ifL m.entry).length=_;rw [ifL_yes he,List.length_append];rfl
theorem follow_out {n:Net} (hn:NetOk n) {k:Nat} {h:ByteArray} {q:Port} (hq:n.ports[k]?=some q) (hin:q.inn=true) {m:Mv} (hm:m ∈ movesV n k h) (r:List Int) (i a:Int):followV n k h (m.out :: r) i a=followV n m.out.toNat m.header r (i+1) (a+1):=by
 have hM:=mvIn_of hn hq hin hm
 have hf:(movesV n k h).find? (hitM m.out)=some m:=by
  refine find_uniq hm ?_ (fun y hy hh=>?_)
  ·unfold hitM;simp [hM.entry]
  ·have hY:=mvIn_of hn hq hin hy;have h1:=hY.out;have h2:=hM.out;unfold hitM at hh;simp only [Bool.or_eq_true,Bool.and_eq_true,beq_iff_eq,decide_eq_true_eq] at hh;rcases hh with⟨e,_⟩ | ⟨e,_⟩
   ·exact hM.uniq y hy e
   ·omega
 rw [followV_hit hf]
 have hst:stepA m.out m a=a+1:=by
  unfold stepA;rw [if_pos (by simp [hM.entry])]
 rw [hst]
theorem reached_followed {n:Net} {s:Nat} {h:ByteArray} (hc:checkE n (s:Int) h=0) {p:Path} (hr:Reached n s h p) (hl:p.ports.length≤130):followT n (s:Int) h p.ports=(p.header,(p.entries.length:Int),0):=by
 obtain⟨l,hp,hf⟩:=hr;rw [hp,List.length_cons] at hl;have:=hf [] 1 0;rw [List.append_nil] at this;rw [hp,followT_at hc (by omega),this];simp [followV]
theorem short_len {x:Path} {m:Mv}:(shortP x m).ports.length≤(onP x m).ports.length:=by
 show (x.ports ++ ifL m.out).length≤(x.ports ++ ifL m.out ++ ifL m.inn).length;exact (List.prefix_append (x.ports ++ ifL m.out) (ifL m.inn)).length_le
theorem begin_in {n:Net} {s:Nat} {h:ByteArray} {hops:Int} (hc:checkE n (s:Int) h=0∧0≤hops∧hops≤64) (hi:portIn n s=true):GOk n s h hops ⟨[(s:Int)],[],h⟩∧pathsV n (s:Int) h hops=walkV n hops (hops.toNat+2) ⟨[(s:Int)],[],h⟩:=by
 refine⟨⟨POk.first (checkE_zero hc.1).2 hc.2.1,Reached.first n s h,hi,by simp,?_⟩,by unfold pathsV;rw [if_pos hc]⟩;show ([(s:Int)].filter (inAt n)).length=1;rw [List.filter_cons_of_pos (by unfold inAt;rw [Int.toNat_natCast,hi];simp)];rfl
theorem begin_link {n:Net} {s:Nat} {h:ByteArray} {hops:Int} (hc:checkE n (s:Int) h=0∧0≤hops∧hops≤64) (hi:portIn n s=false) {m:Mv} {r:List Mv} (hm:movesV n s h=m :: r):GOk n s h hops (onP ⟨[(s:Int)],[],h⟩ m)∧(onP ⟨[(s:Int)],[],h⟩ m).entries=[]∧pathsV n (s:Int) h hops=walkV n hops (hops.toNat+1) (onP ⟨[(s:Int)],[],h⟩ m):=by
 obtain⟨hn,hs⟩:=checkE_zero hc.1;have hf:=POk.first hs hc.2.1
 obtain⟨q,hq,hqi⟩:=hf.port;have hl1:(lastP ⟨[(s:Int)],[],h⟩).toNat=s:=Int.toNat_natCast s;rw [hl1] at hq hqi;have hin:q.inn=false:=by rw [← hqi];exact hi
 have hm2:=hm;rw [movesV_link hq hin] at hm2;split at hm2
 ·rename_i hd;injection hm2 with e1 e2
  subst e1;subst e2;have hmm:(⟨-1,-1,q.dst,h⟩:Mv) ∈ movesV n (lastP ⟨[(s:Int)],[],h⟩).toNat h:=by rw [hl1,hm];exact List.mem_cons_self
  have hlf:leafB n hops ⟨[(s:Int)],[],h⟩=false:=by
   unfold leafB;rw [hl1,hm,hi];rfl
  have hpo:(onP ⟨[(s:Int)],[],h⟩ ⟨-1,-1,q.dst,h⟩).ports=[(s:Int),q.dst]:=by
   show [(s:Int)] ++ ifL (-1) ++ ifL q.dst=_;rw [ifL_yes hd];rfl
  have hen:(onP ⟨[(s:Int)],[],h⟩ ⟨-1,-1,q.dst,h⟩).entries=[]:=rfl;rcases (hn.ports _ q hq).dst with e | ⟨_,_,t,ht,hti⟩
  ·omega
  have hpi:portIn n q.dst.toNat=true:=by unfold portIn;rw [ht];exact hti
  refine⟨⟨(hf.next hn hlf hmm).1,(Reached.first n s h).next hn (by rw [hl1];exact hq) hmm,?_,?_,?_⟩,hen,?_⟩
  ·rw [lastP_on,if_pos hd];exact hpi
  ·rw [hpo];refine List.nodup_cons.2 ⟨fun e=>?_,by simp⟩;(have e:(s:Int)=q.dst:=by simpa using e);rw [← e,Int.toNat_natCast,hi] at hpi
   cases hpi
  ·rw [hpo,hen];unfold cntIn;rw [List.filter_cons_of_neg (by unfold inAt;rw [Int.toNat_natCast,hi];simp),List.filter_cons_of_pos (by unfold inAt;rw [hpi];simpa using hd)];rfl
  ·unfold pathsV;rw [if_pos hc,walkV_on hlf (hops.toNat+1),hl1];show (movesV n s h).flatMap _=_;rw [hm];simp
 ·cases hm2
theorem begin_none {n:Net} {s:Nat} {h:ByteArray} {hops:Int} (hm:movesV n s h=[]):∀ q ∈ pathsV n (s:Int) h hops,q=⟨[(s:Int)],[],h⟩:=by
 intro q hq;unfold pathsV at hq;split at hq
 ·rw [walkV_leaf (by unfold leafB;rw [show (lastP ⟨[(s:Int)],[],h⟩).toNat=s from Int.toNat_natCast s];show ((movesV n s h).isEmpty || _)=true;rw [hm];rfl)] at hq;simpa using hq
 ·cases hq
end Sp
end Go.Proofs.YtedfppbnkgffcaaGreatDoor
