/-
 What step.Reach answers, in plain terms, and what follows: a nearest path; none with one hop less; the same with just its hops (chapter 10; no program in sight).
-/
import Derived.Test.YtedfppbnkgffcaaGreatDoorBc
import Derived.Test.YtedfppbnkgffcaaGreatDoorBa
set_option linter.unusedVariables false
set_option linter.unusedSimpArgs false
namespace Go.Proofs.YtedfppbnkgffcaaGreatDoor
open Go.RowKit
namespace Sp
def TellR (r:RRes) (p:Path) (ok:Bool) (e:Int):Prop:=
 match r with
 | .found q=>p=q∧ok=true∧e=0
 | .budget=>p=⟨[],[],⟨#[]⟩⟩∧ok=false∧e=3
 | .none=>p=⟨[],[],⟨#[]⟩⟩∧ok=false∧e=0
def ReR (n:Net) (s:Int) (h:ByteArray) (tp hops:Int) (p:Path) (ok:Bool) (e:Int):Prop:=
 (boundsE n s h tp hops≠0∧p=⟨[],[],⟨#[]⟩⟩∧ok=false∧e=boundsE n s h tp hops) ∨
 (boundsE n s h tp hops=0∧∃ k:Nat,s=k ∧
  ((s=tp∧p=⟨[tp],[],h⟩∧ok=true∧e=0) ∨
   (s≠tp∧∃ b okb,BegR n k h b okb ∧
    ((okb=false∧p=⟨[],[],⟨#[]⟩⟩∧ok=false∧e=0) ∨
    (okb=true∧lastP b=tp∧p=b∧ok=true∧e=0) ∨
    (okb=true∧lastP b≠tp∧∃ r,Bfs n tp hops ⟨[b],0,Option.none⟩ r∧TellR r p ok e)))))
theorem BegR.det {n:Net} {s:Nat} {h:ByteArray} {b b':Path} {ok ok':Bool} (h1:BegR n s h b ok) (h2:BegR n s h b' ok'):b=b'∧ok=ok':=by
 rcases h1 with⟨a1,rfl,rfl⟩ | ⟨a1,m,r,a2,rfl,rfl⟩ | ⟨a1,a2,rfl,rfl⟩ <;> rcases h2 with⟨c1,rfl,rfl⟩ | ⟨c1,m',r',c2,rfl,rfl⟩ | ⟨c1,c2,rfl,rfl⟩
 ·exact⟨rfl,rfl⟩
 ·rw [a1] at c1;cases c1
 ·rw [a1] at c1;cases c1
 ·rw [a1] at c1;cases c1
 ·rw [a2] at c2;injection c2 with e1 e2
  rw [e1];exact⟨rfl,rfl⟩
 ·rw [a2] at c2;cases c2
 ·rw [a1] at c1;cases c1
 ·rw [a2] at c2;cases c2
 ·exact⟨rfl,rfl⟩
theorem bounds_less {n:Net} {s:Int} {h:ByteArray} {tp hops hops':Int} (hb:boundsE n s h tp hops=0) (h0:0≤hops') (h1:hops'≤hops):boundsE n s h tp hops'=0:=by
 unfold boundsE at hb ⊢;split at hb
 ·rename_i h9;rw [hb] at h9;exact absurd rfl h9
 ·rename_i h9;rw [if_neg h9];split at hb
  ·cases hb
  ·rename_i h8;rw [if_neg h8];split at hb
   ·cases hb
   ·rename_i h7;rw [if_neg h7];split at hb
    ·cases hb
    ·split at hb
     ·cases hb
     ·rw [if_neg (by omega),if_neg (by omega)]
theorem bounds_to {n:Net} {s:Int} {h:ByteArray} {tp hops:Int} (hb:boundsE n s h tp hops=0):0≤tp∧tp<(n.ports.length:Int):=by
 unfold boundsE at hb;split at hb
 ·rename_i h9;rw [hb] at h9;exact absurd rfl h9
 ·split at hb
  ·cases hb
  ·split at hb
   ·cases hb
   ·omega
theorem beg_link {n:Net} {s:Nat} {h:ByteArray} {hops:Int} (hc:checkE n (s:Int) h=0) (hi:portIn n s=false) {m:Mv} {r:List Mv} (hm:movesV n s h=m :: r):0≤m.inn∧onP ⟨[(s:Int)],[],h⟩ m=⟨[(s:Int),m.inn],[],h⟩:=by
 obtain⟨hn,hs⟩:=checkE_zero hc;obtain⟨q,hq⟩:=port_at hs;rw [Int.toNat_natCast] at hq;have hin:q.inn=false:=by unfold portIn at hi;rw [hq] at hi;exact hi
 rw [movesV_link hq hin] at hm;split at hm
 ·rename_i hd;injection hm with e1 e2
  subst e1;refine⟨hd,?_⟩;show Path.mk ([(s:Int)] ++ ifL (-1) ++ ifL q.dst) ([] ++ ifL (-1)) h=_;rw [ifL_yes hd];rfl
 ·cases hm
theorem beg_nok {n:Net} {s:Nat} {h:ByteArray} {tp hops:Int} (hc:checkE n (s:Int) h=0∧0≤hops∧hops≤64) {b:Path} (hB:BegR n s h b true) (h1:(s:Int)≠tp) (h2:lastP b≠tp):NOk n s h tp hops b∧∃ f,pathsV n (s:Int) h hops=walkV n hops f b:=by
 obtain⟨hG,hf⟩:=beg_ok hc hB;refine⟨⟨hG.ok,hG.reached,hG.inn,?_,hG.cnt⟩,hf⟩;rcases hB with⟨a1,_,rfl⟩ | ⟨a1,m,r,a2,_,rfl⟩ | ⟨_,_,a3,_⟩
 ·simpa using fun e=>h1 e.symm
 ·obtain⟨a3,a4⟩:=beg_link (hops:=hops) hc.1 a1 a2;rw [a4] at h2 ⊢;have h2':m.inn≠tp:=h2;simp only [List.mem_cons,List.not_mem_nil,or_false,not_or];exact⟨fun e=>h1 e.symm,fun e=>h2' e.symm⟩
 ·cases a3
theorem bRun_end {n:Net} (hn:NetOk n) {s:Nat} {h:ByteArray} {tp hops:Int} (hc:checkE n (s:Int) h=0) (h64:hops≤64) (ht0:0≤tp) {b:Path} {f0:Nat} (hp0:pathsV n (s:Int) h hops=walkV n hops f0 b):∀ (f:Nat) (t:BSt) (r:RRes),StI n s h tp hops b t→bRun n tp hops f t=some r→(∀ p,r=.found p→NearEnd n s h tp hops p)∧(r=.none→∀ q ∈ pathsV n (s:Int) h hops,∀ k:Nat,q.ports[k]?≠some tp)
 | 0,t,r,_,hf=>by rw [bRun] at hf;cases hf
 | f+1,t,r,hs,hf=>by
  rw [bRun] at hf;rcases bstep_cases hn hs with⟨hms,hg,e⟩ | ⟨y,_,hy,_,e,hs'⟩ | ⟨y,_,hy,_,e,hs'⟩ | ⟨hms,e,hs'⟩ | ⟨y,m,r',p',hms,hy,hp,hlt,e⟩ | ⟨y,m,r',_,hy,e,hs'⟩ | e | ⟨y,m,r',_,hy,_,e,hs'⟩
  ·rw [e] at hf;(obtain rfl:RRes.none=r:=by simpa using hf);refine⟨fun p h9=>(by cases h9),fun _ q hq=>?_⟩;exact hs.here.none hn (List.getElem?_eq_none_iff.1 hg) f0 q (by rw [← hp0];exact hq)
  ·rw [e] at hf;exact bRun_end hn hc h64 ht0 hp0 f _ r hs' hf
  ·rw [e _ (by omega)] at hf;exact bRun_end hn hc h64 ht0 hp0 f _ r hs' hf
  ·rw [e] at hf;exact bRun_end hn hc h64 ht0 hp0 f _ r hs' hf
  ·rw [e] at hf;(obtain rfl:RRes.found p'=r:=by simpa using hf);refine⟨fun p h9=>?_,fun h9=>(by cases h9)⟩;(obtain rfl:p'=p:=by simpa using h9);obtain⟨g,cur,ms⟩:=t;simp only at hms hy;subst hms;obtain⟨y2,pre,hR,hM⟩:=hs;have hy2:=hR.here;simp only at hy2;rw [hy] at hy2;(obtain rfl:y=y2:=by simpa using hy2);(have hmm:m ∈ movesV n (lastP y).toNat y.header:=by rw [hM];simp);have e1:=e hops;by_cases h1:m.out=tp
   ·rw [bstep_short hy h1] at e1;(obtain rfl:shortP y m=p':=by simpa using e1);exact hR.inv.short hn hc h64 hp0 hy hR.lt hmm h1
   ·by_cases h2:m.inn=tp
    ·rw [bstep_whole hy h1 h2] at e1;(obtain rfl:onP y m=p':=by simpa using e1);exact hR.inv.whole hn hc h64 ht0 hp0 hy hR.lt hmm h1 h2
    ·exfalso;by_cases h3:m.inn<0∨Came g (onP y m)
     ·rw [bstep_skip hy h1 h2 h3] at e1;cases e1
     ·by_cases h4:g.length=4096
      ·rw [bstep_budget hy h1 h2 h3 h4] at e1;cases e1
      ·rw [bstep_push hy h1 h2 h3 h4] at e1;cases e1
  ·rw [e] at hf;exact bRun_end hn hc h64 ht0 hp0 f _ r hs' hf
  ·rw [e] at hf;(obtain rfl:RRes.budget=r:=by simpa using hf);exact⟨fun p h9=>(by cases h9),fun h9=>(by cases h9)⟩
  ·rw [e] at hf;exact bRun_end hn hc h64 ht0 hp0 f _ r hs' hf
theorem reach_law {n:Net} {s:Int} {h:ByteArray} {tp hops:Int} {p:Path} {ok:Bool} {e:Int} (hR:ReR n s h tp hops p ok e):
  (e≠0∧ok=false∧p=⟨[],[],⟨#[]⟩⟩) ∨
  (e=0∧∃ k:Nat,s=k∧(checkE n s h=0∧0≤hops∧hops≤64) ∧
   ((ok=false∧p=⟨[],[],⟨#[]⟩⟩∧∀ q ∈ pathsV n s h hops,∀ j:Nat,q.ports[j]?≠some tp) ∨
    (ok=true∧NearEnd n k h tp hops p∧(∀ p' ok' e',ReR n s h tp (p.entries.length:Int) p' ok' e'→p'=p∧ok'=true∧e'=0) ∧
     (∀ E:Nat,p.entries.length=E+1→∀ p' ok' e',ReR n s h tp (E:Int) p' ok' e'→ok'=false∧e'=0)))):=by
 rcases hR with⟨h1,rfl,rfl,rfl⟩ | ⟨h1,k,rfl,hR⟩
 ·exact .inl ⟨h1,rfl,rfl⟩
 have hc:=bounds_ok h1;obtain⟨hn,hs⟩:=checkE_zero hc.1;have ht:=bounds_to h1;rcases hR with⟨rfl,rfl,rfl,rfl⟩ | ⟨hst,b,okb,hB,hR⟩
 ·refine .inr ⟨rfl,k,rfl,hc,.inr ⟨rfl,⟨?_,by simpa using hc.2.1,⟨[],rfl,by simp⟩,by simp,fun q _ j _=>Nat.zero_le _⟩,fun p' ok' e' h9=>?_,fun E hE=>by simp at hE⟩⟩
  ·rw [followT_at hc.1 (by simp)];simp [followV]
  ·rcases h9 with⟨h8,_⟩ | ⟨_,k',_,⟨_,rfl,rfl,rfl⟩ | ⟨h8,_⟩⟩
   ·exact absurd (bounds_less h1 (by simp) (by simpa using hc.2.1)) h8
   ·exact⟨rfl,rfl,rfl⟩
   ·exact absurd rfl h8
 rcases hR with⟨rfl,rfl,rfl,rfl⟩ | ⟨rfl,hl,rfl,rfl,rfl⟩ | ⟨rfl,hl,r,hbf,hT⟩
 ·refine .inr ⟨rfl,k,rfl,hc,.inl ⟨rfl,rfl,fun q hq j hj=>?_⟩⟩;rcases hB with⟨_,h3,_⟩ | ⟨_,_,_,_,h3,_⟩ | ⟨_,h2,_,_⟩
  ·cases h3
  ·cases h3
  ·obtain rfl:=begin_none h2 q hq;have:=List.mem_of_getElem? hj;exact hst (List.mem_singleton.1 this).symm
 ·have hpp:p=⟨[(k:Int),tp],[],h⟩:=by
   rcases hB with⟨_,_,rfl⟩ | ⟨a1,m,r,a2,_,rfl⟩ | ⟨_,_,a3,_⟩
   ·exact absurd hl hst
   ·obtain⟨a3,a4⟩:=beg_link (hops:=hops) hc.1 a1 a2;rw [a4] at hl ⊢;have hl':m.inn=tp:=hl;rw [hl']
   ·cases a3
  have hr:Reached n k h p:=(beg_ok hc hB).1.reached;refine .inr ⟨rfl,k,rfl,hc,.inr ⟨rfl,⟨?_,?_,⟨[(k:Int)],by rw [hpp];rfl,by simpa using fun e=>hst e.symm⟩,by rw [hpp];simp,fun q _ j _=>by rw [hpp];exact Nat.zero_le _⟩,fun p' ok' e' h9=>?_,fun E hE=>by rw [hpp] at hE;simp at hE⟩⟩
  ·exact reached_followed hc.1 hr (by rw [hpp];simp)
  ·rw [hpp];simpa using hc.2.1
  ·have he0:(p.entries.length:Int)=0:=by rw [hpp];rfl
   rw [he0] at h9;rcases h9 with⟨h8,_⟩ | ⟨_,k',hk',⟨h7,_⟩ | ⟨_,b',okb',hB',h7⟩⟩
   ·exact absurd (bounds_less h1 (by simp) hc.2.1) h8
   ·exact absurd h7 hst
   ·obtain rfl:k=k':=by omega
    obtain⟨rfl,rfl⟩:=hB.det hB';rcases h7 with⟨h6,_⟩ | ⟨_,_,rfl,rfl,rfl⟩ | ⟨_,h6,_⟩
    ·cases h6
    ·exact⟨rfl,rfl,rfl⟩
    ·exact absurd hl h6
 ·obtain⟨hN,f0,hp0⟩:=beg_nok hc hB hst hl;have hI:StI n k h tp hops b ⟨[b],0,Option.none⟩:=NInv.first hN
  obtain⟨f,hf⟩:=hbf;have hend:=bRun_end hn hc.1 hc.2.2 ht.1 hp0 f _ r hI hf
  have hmore:∀ (E:Nat) (p':Path) (ok':Bool) (e':Int),(E:Int)≤hops→ReR n (k:Int) h tp (E:Int) p' ok' e'→∃ r',Bfs n tp (E:Int) ⟨[b],0,Option.none⟩ r'∧TellR r' p' ok' e':=fun E p' ok' e' hE h9=>by
   rcases h9 with⟨h8,_⟩ | ⟨_,k',hk',⟨h7,_⟩ | ⟨_,b',okb',hB',h7⟩⟩
   ·exact absurd (bounds_less h1 (by omega) hE) h8
   ·exact absurd h7 hst
   ·obtain rfl:k=k':=by omega
    obtain⟨rfl,rfl⟩:=hB.det hB';rcases h7 with⟨h6,_⟩ | ⟨_,h6,_⟩ | ⟨_,_,h6⟩
    ·cases h6
    ·exact absurd h6 hl
    ·exact h6
  cases r with
  | budget=>
   obtain⟨rfl,rfl,rfl⟩:=hT;exact .inl ⟨by decide,rfl,rfl⟩
  | none=>
   obtain⟨rfl,rfl,rfl⟩:=hT;exact .inr ⟨rfl,k,rfl,hc,.inl ⟨rfl,rfl,hend.2 rfl⟩⟩
  | found q=>
   obtain⟨rfl,rfl,rfl⟩:=hT;have hN2:=hend.1 p rfl;obtain⟨y,hy,hge,hle⟩:=bRun_ge hn f _ hI hf;refine .inr ⟨rfl,k,rfl,hc,.inr ⟨rfl,hN2,fun p' ok' e' h9=>?_,fun E hE p' ok' e' h9=>?_⟩⟩
   ·obtain⟨r',hr',hT'⟩:=hmore _ _ _ _ hle h9;obtain rfl:=(bRun_same hn f _ hI hf).det hr';exact hT'
   ·obtain⟨r',hr',hT'⟩:=hmore _ _ _ _ (by omega) h9
    have hb0:b.entries.length=0:=by
     rcases hB with⟨_,_,rfl⟩ | ⟨a1,m,r,a2,_,rfl⟩ | ⟨_,_,a3,_⟩
     ·rfl
     ·rw [(beg_link (hops:=hops) hc.1 a1 a2).2];rfl
     ·cases a3
    obtain rfl:=(bRun_less hn hE f _ hI (fun x hx=>by obtain rfl:=List.mem_singleton.1 hx;omega) (fun h9=>absurd rfl h9) hf).det hr';exact hT'.2
structure NJ (n:Net) (s:Nat) (h:ByteArray) (tp hops:Int) (b:Path) (g:List Path) (cur:Nat):Prop where
 inv:NInv n s h tp hops b g cur
 cont:∀ r,Bfs n tp hops ⟨g,cur,Option.none⟩ r→Bfs n tp hops ⟨[b],0,Option.none⟩ r
structure RJ (n:Net) (s:Nat) (h:ByteArray) (tp hops:Int) (b:Path) (g0 g:List Path) (cur:Nat) (y:Path) (pre:List Mv):Prop where
 rn:RN n s h tp hops b g cur y pre
 cont:∀ rest r,Bfs n tp hops ⟨g,cur,some rest⟩ r→Bfs n tp hops ⟨g0,cur,some (pre ++ rest)⟩ r
theorem NJ.first {n:Net} {s:Nat} {h:ByteArray} {tp hops:Int} {b:Path} (hb:NOk n s h tp hops b):NJ n s h tp hops b [b] 0:=⟨NInv.first hb,fun _ k=>k⟩
theorem NJ.full {n:Net} {s:Nat} {h:ByteArray} {tp hops:Int} {b:Path} {g:List Path} {cur:Nat} (hJ:NJ n s h tp hops b g cur) {y:Path} (hy:g[cur]?=some y) (he:(y.entries.length:Int)=hops):NJ n s h tp hops b g (cur+1):=
 ⟨hJ.inv.full hy he,fun r k=>hJ.cont r (k.on (bstep_full hy he))⟩
theorem NJ.stop {n:Net} {s:Nat} {h:ByteArray} {tp hops:Int} {b:Path} {g:List Path} {cur:Nat} (hJ:NJ n s h tp hops b g cur) (hy:g[cur]?=Option.none):Bfs n tp hops ⟨[b],0,Option.none⟩ .none:=hJ.cont _ (Bfs.stop (bstep_end hy))
theorem RJ.first {n:Net} {s:Nat} {h:ByteArray} {tp hops:Int} {b:Path} {g:List Path} {cur:Nat} {y:Path} (hI:NInv n s h tp hops b g cur) (hy:g[cur]?=some y) (hne:(y.entries.length:Int)≠hops):RJ n s h tp hops b g g cur y []:=
 ⟨RN.first hI hy hne,fun _ _ k=>k⟩
theorem RJ.skip {n:Net} {s:Nat} {h:ByteArray} {tp hops:Int} {b:Path} {g0 g:List Path} {cur:Nat} {y:Path} {pre:List Mv} (hR:RJ n s h tp hops b g0 g cur y pre) {m:Mv} (h1:m.out≠tp) (h2:m.inn≠tp) (h0:m.inn<0∨Came g (onP y m)):RJ n s h tp hops b g0 g cur y (pre ++ [m]):=
 ⟨hR.rn.skip h1 h2 h0,fun rest r k=>by
  rw [List.append_assoc]
  exact hR.cont _ r (k.on (bstep_skip hR.rn.here h1 h2 h0))⟩
theorem RJ.push {n:Net} (hn:NetOk n) {s:Nat} {h:ByteArray} {tp hops:Int} {b:Path} {g0 g:List Path} {cur:Nat} {y:Path} {pre:List Mv} (hR:RJ n s h tp hops b g0 g cur y pre) {m:Mv} (hm:m ∈ movesV n (lastP y).toNat y.header) (h1:m.out≠tp) (h2:m.inn≠tp) (h3:¬ (m.inn<0∨Came g (onP y m))) (hl:g.length≠4096):RJ n s h tp hops b g0 (g ++ [onP y m]) cur y (pre ++ [m]):=
 ⟨hR.rn.push hn hm h1 (by omega) h2 hl,fun rest r k=>by
  rw [List.append_assoc]
  exact hR.cont _ r (k.on (bstep_push hR.rn.here h1 h2 h3 hl))⟩
def StopsAt (n:Net) (tp hops:Int) (g0:List Path) (cur:Nat) (pre:List Mv) (r:RRes):Prop:=∀ rest,Bfs n tp hops ⟨g0,cur,some (pre ++ rest)⟩ r
theorem RJ.stops {n:Net} {s:Nat} {h:ByteArray} {tp hops:Int} {b:Path} {g0 g:List Path} {cur:Nat} {y:Path} {pre:List Mv} (hR:RJ n s h tp hops b g0 g cur y pre) {m:Mv} {r:RRes} (hs:∀ rest,bstep n tp hops ⟨g,cur,some (m :: rest)⟩=.inl r):StopsAt n tp hops g0 cur (pre ++ [m]) r:=fun rest=>by
 rw [List.append_assoc];exact hR.cont _ r (Bfs.stop (hs rest))
theorem NJ.round {n:Net} {s:Nat} {h:ByteArray} {tp hops:Int} {b:Path} {g0 g:List Path} {cur:Nat} {y:Path} (hJ:NJ n s h tp hops b g0 cur) (hy:g0[cur]?=some y) (hne:(y.entries.length:Int)≠hops) (hR:RJ n s h tp hops b g0 g cur y (movesV n (lastP y).toNat y.header)):NJ n s h tp hops b g (cur+1):=
 ⟨hR.rn.done,fun r k=>hJ.cont r (Bfs.on (bstep_go hy hne) (by
  have:=hR.cont [] r (k.on bstep_next);rw [List.append_nil] at this
  exact this))⟩
theorem NJ.found {n:Net} {s:Nat} {h:ByteArray} {tp hops:Int} {b:Path} {g0:List Path} {cur:Nat} {y:Path} (hJ:NJ n s h tp hops b g0 cur) (hy:g0[cur]?=some y) (hne:(y.entries.length:Int)≠hops) {pre:List Mv} (hp:pre <+: movesV n (lastP y).toNat y.header) {r:RRes} (hs:StopsAt n tp hops g0 cur pre r):Bfs n tp hops ⟨[b],0,Option.none⟩ r:=by
 obtain⟨rest,hrest⟩:=hp;exact hJ.cont r (Bfs.on (bstep_go hy hne) (by rw [← hrest];exact hs rest))
end Sp
def ReRes (n:Sp.Net) (s:Int) (h:ByteArray) (tp hops:Int) (w:World) (r:Ending) (w':World):Prop:=
 ∃ v1 v2 p ok e,r=.returned (.tuple #[.agg #[v1,v2,.string p.header],.bool ok,.int .i64 e])∧InR w' w.heap.size v1 p.ports∧InR w' w.heap.size v2 p.entries∧Below w.heap.size w w'∧Sp.ReR n s h tp hops p ok e
end Go.Proofs.YtedfppbnkgffcaaGreatDoor
