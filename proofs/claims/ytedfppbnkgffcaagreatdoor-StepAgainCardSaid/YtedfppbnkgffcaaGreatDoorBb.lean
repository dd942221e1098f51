/-
 THE LAW StepAgain (chapter 10).
-/
import Derived.Test.YtedfppbnkgffcaaGreatDoorAk
import Derived.Test.YtedfppbnkgffcaaGreatDoorBa
set_option linter.unusedVariables false
set_option linter.unusedSimpArgs false
set_option maxRecDepth 100000
set_option maxHeartbeats 8000000
namespace Go.Proofs.YtedfppbnkgffcaaGreatDoor
open Go.RowKit
open Go.Lib (hid)
theorem pts_any {B:Nat} {v:Value} {xs:List PathV} {w:World} (h:PtsAt B v xs w):∃ A c,v=.slice A xs.length c∧∀ W,Below w.heap.size w W→∀ (i:Nat) (x:PathV),xs[i]?=some x→∃ g o,A=some ⟨g,o,none⟩∧∃ A1 k1 A2 k2,W.cell? ⟨g,o+i * 3,none⟩=some (.slice A1 x.path.ports.length k1)∧W.cell? ⟨g,o+i * 3+1,none⟩=some (.slice A2 x.path.entries.length k2)∧W.cell? ⟨g,o+i * 3+2,none⟩=some (.string x.path.header)∧IV W A1 x.path.ports∧x.path.ports.length≤k1:=by
 by_cases hne:xs=[]
 ·obtain⟨A,c,e⟩:=pts_slice h;exact⟨A,c,e,fun W _ i x hx=>by rw [hne] at hx;simp at hx⟩
 ·obtain⟨g,o,c,e,hat⟩:=pts_at h hne;exact⟨_,c,e,fun W hW i x hx=>⟨g,o,rfl,hat W hW i x hx⟩⟩
namespace Sp
theorem walk_pos {n:Net} {hops:Int}:∀ (f:Nat) (p:Path),(∀ x ∈ p.ports,0≤x)→∀ q ∈ walkV n hops f p,∀ x ∈ q.ports,0≤x
 | 0,p,hp,q,hq=>by
  rw [walkV] at hq;obtain rfl:q=p:=by simpa using hq
  exact hp
 | f+1,p,hp,q,hq=>by
  cases hl:leafB n hops p with
  | true=>
   rw [walkV_leaf hl] at hq;(obtain rfl:q=p:=by simpa using hq);exact hp
  | false=>
   rw [walkV_on hl] at hq;obtain⟨m,_,hq⟩:=List.mem_flatMap.1 hq;refine walk_pos f (onP p m) (fun x hx=>?_) q hq
   have hi:∀ y:Int,x ∈ ifL y→0≤x:=fun y hy=>by
    unfold ifL at hy;split at hy
    ·obtain rfl:=List.mem_singleton.1 hy;assumption
    ·cases hy
   rcases List.mem_append.1 hx with h9 | h9
   ·rcases List.mem_append.1 h9 with h8 | h8
    ·exact hp x h8
    ·exact hi _ h8
   ·exact hi _ h9
theorem paths_pos {n:Net} {s:Nat} {h:ByteArray} {hops:Int} {q:Path} (hq:q ∈ pathsV n (s:Int) h hops):∀ x ∈ q.ports,0≤x:=by
 unfold pathsV at hq;split at hq
 ·exact walk_pos _ _ (fun x hx=>by obtain rfl:=List.mem_singleton.1 hx;omega) q hq
 ·cases hq
theorem followT_short {n:Net} {p:Int} {h:ByteArray} {l:List Int} {H:ByteArray} {c:Int} (hf:followT n p h l=(H,c,0)):l.length≤130:=by
 rcases Nat.lt_or_ge 130 l.length with h9 | h9
 ·unfold followT at hf;rw [if_pos (by omega)] at hf;simp at hf
 ·exact h9
def BestI (n:Net) (l:List Path) (best:Int):Prop:=0≤best∧best≤1048576∧(∀ E:Int,E≤1048576→(∀ q ∈ l,∀ k,Twice q.ports k→E≤(cntIn n (q.ports.take k):Int))→E≤best)∧((∀ q ∈ l,∀ k,¬ Twice q.ports k)→best=1048576)
theorem BestI.first (n:Net) (l:List Path):BestI n l 1048576:=⟨by omega,by omega,fun E h _=>h,fun _=>rfl⟩
theorem BestI.less {n:Net} {l:List Path} {best:Int} (h:BestI n l best) {q:Path} (hq:q ∈ l) {k:Nat} (ht:Twice q.ports k) (hlt:(cntIn n (q.ports.take k):Int)<best):BestI n l (cntIn n (q.ports.take k):Int):=
 ⟨by omega,by have:=h.2.1;omega,fun E _ hE=>hE q hq k ht,fun hn=>absurd ht (hn q hq k)⟩
theorem Twice.at {l:List Int} {k k':Nat} (h:Twice l k) (h':Twice l k'):k=k':=by
 have h1:=h.beyond h'.first (List.take_prefix _ _)
 have h2:=h'.beyond h.first (List.take_prefix _ _)
 obtain⟨x,hx,_⟩:=h.here;obtain⟨x',hx',_⟩:=h'.here;have l1:=(List.getElem?_eq_some_iff.1 hx).1;have l2:=(List.getElem?_eq_some_iff.1 hx').1;rw [List.length_take] at h1 h2;omega
theorem Twice.lt {l:List Int} {k:Nat} (h:Twice l k):k<l.length:=by
 obtain⟨x,hx,_⟩:=h.here;exact (List.getElem?_eq_some_iff.1 hx).1
end Sp
theorem wpAnyK_takeM {P:Program} {md:Region.Mode} {ops:Array Oper} {S:World→Prop} {L:Nat} {Q:Exit→Act→World→Prop} (m:Nat) {i:Nat} {oi:Oper} {v:Value} {fuel:Nat} {listed:Array Bool} {a:Act} {w:World} (hc:ClosedL md ops listed) (hS:S w) (hi:ops[i]?=some oi)
  (hs:(Region.noSelect ops && Region.free md ops listed i && (Region.ready md ops listed).contains i && waitsB md ops i m L && (L != i))=true)
  (hQ:∀ c a w,Q (.panic c) (a.put oi.dst v) w→Q (.panic c) a w) (hw:Region.wanted oi (yielded ops a.tmps)=true) (hy:∀ w,S w→(execOp a.eval oi).run P w=.ok (.value v) w)
  (h:ClosedL md ops (listed.setIfInBounds i true)→wpAnyK P md ops Q S L fuel (listed.setIfInBounds i true) (a.put oi.dst v) w):wpAnyK P md ops Q S L (fuel+1) listed a w:=by
 simp only [Bool.and_eq_true] at hs;obtain⟨⟨⟨⟨h1,h2⟩,h3⟩,h4⟩,h5⟩:=hs;have hr:i ∈ Region.ready md ops listed:=by simpa using h3
 exact wpAnyK_first hi (Region.noSelect_spec h1) (by simpa using h5) h4 hQ fuel listed a w hc (Region.free_spec hi h2) hr (Or.inl ⟨hw,hy⟩) hS (h (closedL_set hc hr))
theorem law_again (n:Sp.Net) (A1 A2 A3:Option Addr) (c1 c2 c3:Nat) (p:Int) (h:ByteArray) (hops k:Int) (w:World) (hG:Gn w) (hnr:NetR w n [.int .i64 n.bits,.slice A1 n.ports.length c1,.slice A2 n.tables.length c2,.slice A3 n.guards.length c3]) (hsz:Sp.Szd n) (hh:h.size≤9223372036854775807):
  Calls Tryz.prog 3 #[.agg #[.int .i64 n.bits,.slice A1 n.ports.length c1,.slice A2 n.tables.length c2,.slice A3 n.guards.length c3],.agg #[.int .i64 p,.string h],.int .i64 hops,.int .i64 k] w fun e w'=>e=.returned (.bool true)∧Below w.heap.size w w':=by
 obtain⟨N,hN⟩:=nM w.heap.size;obtain⟨W2,hW2⟩:=nM ((w.alloc (.cells #[.int .i64 n.bits,.slice A1 n.ports.length c1,.slice A2 n.tables.length c2,.slice A3 n.guards.length c3] 26)).alloc (.cells #[.int .i64 p,.string h] 28));have hb2:Below N w W2:=by rw [← hW2,← hN];exact ((Below.refl _ _).alloc (Nat.le_refl _) _).alloc (by simp) _
 have hs2:W2.heap.size=N+2:=by rw [← hW2,← hN];simp
 have hk1:Blk W2 N 26 #[.int .i64 n.bits,.slice A1 n.ports.length c1,.slice A2 n.tables.length c2,.slice A3 n.guards.length c3]:=by rw [← hW2,← hN];exact (Blk.new w _ _).alloc _
 have hk2:Blk W2 (N+1) 28 #[.int .i64 p,.string h]:=by rw [← hW2];exact blk_at (by rw [World.size_alloc];omega)
 have HLOO:=hid (fun (W:World) (hb:Below N w W)=>step_Loop n A1 A2 A3 c1 c2 c3 p h hops W (hG.below (by rw [hN];exact hb)) (hnr.more (by rw [hN];exact hb)) hsz hh)
 have HFOL:=hid (fun (W:World) (hb:Below N w W) (Ap:Option Addr) (kp:Nat) (l:List Int) (hv:IV W Ap l) (hlk:l.length≤kp) (hl:l.length≤1000000)=>
  step_Follow n A1 A2 A3 c1 c2 c3 p h Ap kp l W (hG.below (by rw [hN];exact hb)) (hnr.more (by rw [hN];exact hb)) hsz hh hv hlk (by omega))
 have HKN:=hid (fun (W:World) (hb:Below N w W)=>law10_known W (hG.below (by rw [hN];exact hb)))
 obtain⟨kn,hkn⟩:∃ kn:Nat,Sp.withinV k 60=kn:=⟨(Sp.withinV k 60).toNat,by unfold Sp.withinV;split <;> (try split) <;> omega⟩
 have hkn60:kn≤60:=by unfold Sp.withinV at hkn;split at hkn <;> (try split at hkn) <;> omega
 have HSO:=hid (fun (W:World) (hb:Below N w W)=>law10_some n A1 A2 A3 c1 c2 c3 p h hops kn W (hG.below (by rw [hN];exact hb)) (hnr.more (by rw [hN];exact hb)) hsz hh (by omega));obtain⟨b1,d1,b2,d2,b3,d3,hcse,hpv,_⟩:=hnr;obtain⟨rfl,rfl⟩:A1=b1∧c1=d1:=by injection hcse with _ hc;injection hc with hc _;injection hc with q1 q2 q3;exact⟨q1,q3⟩
 have HCOM:=hid (fun (W:World) (hb:Below N w W) (Ap B2:Option Addr) (kp k2 e2:Nat) (l:List Int) (hd:ByteArray) (hv:IV W Ap l) (hl:l.length≤1000000)=>
  law10_comes n A1 A2 A3 c1 c2 c3 Ap B2 kp k2 e2 l hd (-1) W (hpv.more (by rw [hN];exact hb)) hv hl)
 obtain⟨np,hnp⟩:=nM n.ports.length;obtain⟨nt,hnt⟩:=nM n.tables.length;obtain⟨ng,hng⟩:=nM n.guards.length;obtain⟨b,hbi⟩:=nM n.bits;rw [hbi,hnp,hnt,hng] at hk1 HSO hW2 HFOL HLOO HCOM ⊢;have HN:=hid hN;have HB2:=hid hb2;have HS2:=hid hs2;have HK1:=hid hk1;have HK2:=hid hk2;have HKN60:=hid hkn60;have HKNE:=hid hkn;clear hG hsz hh hb2 hs2 hk1 hk2 hbi hnp hnt hng hkn60 hkn hcse hpv;have x0:W2.cell? ⟨N,0,none⟩=some (.int .i64 b):=HK1.out.cell 0;have x1:W2.cell? ⟨N,1,none⟩=some (.slice A1 np c1):=HK1.out.cell 1;have x2:W2.cell? ⟨N,2,none⟩=some (.slice A2 nt c2):=HK1.out.cell 2;have x3:W2.cell? ⟨N,3,none⟩=some (.slice A3 ng c3):=HK1.out.cell 3;have x4:W2.cell? ⟨N+1,0,none⟩=some (.int .i64 p):=HK2.out.cell 0;have x5:W2.cell? ⟨N+1,1,none⟩=some (.string h):=HK2.out.cell 1;go_enter Tryz.func3,Tryz.ntmps3;go_wp2_with fail;go_at_call 7;refine (HLOO.out W2 HB2.out).mono ?_;rintro e W3 ⟨v1,v2,⟨PP,EE,hd⟩,ok,e9,rfl,hq1,hq2,hb3,hR⟩;obtain⟨Ap,kp,rfl,hkp,hvp⟩:=in_view hq1;obtain⟨Ae,ke,rfl,hke,hve⟩:=in_view hq2;simp only [] at hkp hvp hke hve;obtain⟨lp,hlp⟩:=nM PP.length;obtain⟨le,hle⟩:=nM EE.length;simp only [hlp,hle];obtain⟨Nb,hNb⟩:=nM W3.heap.size;obtain⟨W5,hW5⟩:=nM (W3.alloc (.cells #[.slice Ap lp kp,.slice Ae le ke,.string hd] 31));have hb35:Below W3.heap.size W3 W5:=by rw [← hW5];exact (Below.refl _ _).alloc (Nat.le_refl _) _
 have hb25:Below W2.heap.size W2 W5:=hb3.trans (hb35.mono hb3.size);have hkb:Blk W5 Nb 31 #[.slice Ap lp kp,.slice Ae le ke,.string hd]:=by rw [← hW5,← hNb];exact Blk.new W3 _ _
 have HB5:=hid (HB2.out.trans (hb25.mono (by have:=HS2.out;omega)));have HS5:=hid (Nat.le_trans (show N+2≤W2.heap.size by have:=HS2.out;omega) hb25.size);have HK15:=hid (HK1.out.below hb25 HK1.out.lt);have HK25:=hid (HK2.out.below hb25 HK2.out.lt);have HKB:=hid hkb;have HVP:=hid (hvp.more hb35);have HKP:=hid (show lp≤kp by rw [← hlp];exact hkp);have HR:=hid hR;have HLP:=hid hlp;have HLE:=hid hle;clear hq1 hq2 hb3 hR hvp hkp hke hve x0 x1 x2 x3 x4 x5 hW2 hb35 hb25 hkb hlp hle;have x0:W5.cell? ⟨N,0,none⟩=some (.int .i64 b):=HK15.out.cell 0;have x1:W5.cell? ⟨N,1,none⟩=some (.slice A1 np c1):=HK15.out.cell 1;have x2:W5.cell? ⟨N,2,none⟩=some (.slice A2 nt c2):=HK15.out.cell 2;have x3:W5.cell? ⟨N,3,none⟩=some (.slice A3 ng c3):=HK15.out.cell 3;have x4:W5.cell? ⟨N+1,0,none⟩=some (.int .i64 p):=HK25.out.cell 0;have x5:W5.cell? ⟨N+1,1,none⟩=some (.string h):=HK25.out.cell 1;have y0:W5.cell? ⟨Nb,0,none⟩=some (.slice Ap lp kp):=HKB.out.cell 0;rcases HR.out with⟨h1,rfl,h2⟩ | ⟨rfl,s,rfl,hck,hR2⟩
 ·have t1:(e9 != 0)=true:=bne_iff_ne.2 h1;have hl0:lp=0:=by rw [← HLP.out];injection h2 with h3;rw [h3];rfl
  subst hl0;clear h1 h2
  go_wp2_with (first
   | (go_at_call 8;refine (law10_num _ _).mono ?_;rintro e wq ⟨rfl,hw⟩;have hw2:=Eq.symm hw;subst hw2;clear hw)
   | (go_at_call 9;refine (HKN.out _ HB5.out).mono ?_;rintro e W8 ⟨rfl,hb8⟩))
  go_ret;exact⟨rfl,by rw [HN.out];exact HB5.out.trans (hb8.mono (by have:=HB5.out.size;have:=HN.out;omega))⟩
 have H64:=hid hck.2.2;have HR2:=hid hR2;clear hck hR2
 go_wp2_with (go_at_call 8;refine (law10_num _ _).mono ?_;rintro e wq ⟨rfl,hw⟩;have hw2:=Eq.symm hw;subst hw2;clear hw)
 refine wp_region_K 6 (fun w'=>w'.cell? ⟨N,0,none⟩=some (.int .i64 b)∧w'.cell? ⟨N,1,none⟩=some (.slice A1 np c1)∧w'.cell? ⟨N,2,none⟩=some (.slice A2 nt c2)∧w'.cell? ⟨N,3,none⟩=some (.slice A3 ng c3)∧w'.cell? ⟨N+1,0,none⟩=some (.int .i64 (s:Int))∧w'.cell? ⟨N+1,1,none⟩=some (.string h)) (by kernel_rfl) (fun hcl=>?_);refine mS (⟨HK15.out.cell 0,HK15.out.cell 1,HK15.out.cell 2,HK15.out.cell 3,HK25.out.cell 0,HK25.out.cell 1⟩) (fun hS=>?_);clear x0 x1 x2 x3 x4 x5 y0;refine tk 0 hcl hS ?_;clear hcl;intro hcl;simp only [tkl];refine tk 1 hcl hS ?_;clear hcl;intro hcl;simp only [tkl];refine tk 2 hcl hS ?_;clear hcl;intro hcl;simp only [tkl];refine tk 3 hcl hS ?_;clear hcl;intro hcl;simp only [tkl];refine on1 4 hcl (fun K hK=>?_);go_simp;refine (law10_within k 60 _).mono ?_;rintro r w' ⟨rfl,rfl⟩;rw [HKNE.out];refine hK.out _ _ (Or.inr hS) (fun hcl2=>?_);clear hK K hcl;have hcl:=hcl2;clear hcl2;refine on1 5 hcl (fun K hK=>?_);go_simp;refine (HSO.out W5.drew HB5.out.drew).mono ?_;rintro r W6 ⟨v,xs,rfl,hpts,hmap,hb6⟩;have hb56:Below W5.heap.size W5 W6:=((Below.refl W5.heap.size W5).drew).trans hb6;obtain⟨Av,cv,rfl,hat⟩:=pts_any hpts;obtain⟨L,hL⟩:=nM xs.length;simp only [hL]
 have hL60:L≤60:=by
  have:=congrArg List.length hmap;rw [List.length_map,List.length_take,hL] at this;have:=HKN60.out;omega
 have HAT:=hid hat;have HMAP:=hid hmap;have HL:=hid hL;have HL60:=hid hL60;have HB6:=hid (HB5.out.trans (hb56.mono (by have:=HS5.out;omega)));have HS6:=hid (show N+2≤W6.heap.size by have:=HS5.out;have:=hb56.size;omega);have HK16:=hid (HK15.out.below hb56 HK15.out.lt);have HK26:=hid (HK25.out.below hb56 HK25.out.lt);have HKB6:=hid (HKB.out.below hb56 HKB.out.lt);have HVP6:=hid (HVP.out.more hb56);clear hS hpts hmap hb6 hb56 hat hL hL60 HK15 HK25 HKB HVP HK1 HK2;refine hK.out _ _ (Or.inr ⟨HK16.out.cell 0,HK16.out.cell 1,HK16.out.cell 2,HK16.out.cell 3,HK26.out.cell 0,HK26.out.cell 1⟩) (fun hcl2=>?_);clear hK K hcl;have hcl:=hcl2;clear hcl2;refine on1 6 hcl (fun K hK=>?_);go_simp;refine hK.out _ _ (Or.inl (by kernel_rfl)) (fun hcl2=>?_);clear hK K hcl hcl2;refine wpAnyK_done (by kernel_rfl) ?_ _;(try simp only [Act.put,pu]);go_wp2_with fail;go_loopw [13,14,15,16,17] (fun v13 v14 v15 v16 v17 wr=>∃ (i:Nat) (best:Int),v14=.int .i64 (i:Int)∧v13=.int .i64 best∧i≤L∧Sp.BestI n ((Sp.pathsV n (s:Int) h hops).take kn) best∧Below W6.heap.size W6 wr) (fun _ v14 _ _ _ _=>L - (intOf v14).toNat)
 case atStart=>exact⟨0,1048576,rfl,rfl,Nat.zero_le _,Sp.BestI.first _ _,Below.refl _ _⟩
 case round=>
  obtain⟨i,best,rfl,rfl,hi,hbest,hb⟩:=hrel;have HB:=hid hb;have HBE:=hid hbest;have HK1r:=hid (HK16.out.below hb HK16.out.lt);have HK2r:=hid (HK26.out.below hb HK26.out.lt);have HKBr:=hid (HKB6.out.below hb HKB6.out.lt);have j0:(0:Int)≤(i:Int):=by omega
  by_cases hlt:i<L
  ·have p1:decide ((i:Int)<(L:Int))=true:=dT;have p2:decide (i<L)=true:=decide_eq_true hlt;(have p3:(i:Int)<(L:Int):=by omega);have z0:IntKind.i64.wrap ((i:Int)+1)=(i:Int)+1:=by have:=HL60.out;rw [IntKind.wrap_i64];omega
   obtain⟨⟨v1,v2,⟨P,Es,hd2⟩⟩,hx⟩:∃ x,xs[i]?=some x:=⟨_,List.getElem?_eq_getElem (by rw [HL.out];exact hlt)⟩
   (have hpi:((Sp.pathsV n (s:Int) h hops).take kn)[i]?=some ⟨P,Es,hd2⟩:=by rw [← HMAP.out,List.getElem?_map,hx];rfl);have hqm:=List.mem_of_getElem? hpi;have hq:(⟨P,Es,hd2⟩:Sp.Path) ∈ Sp.pathsV n (s:Int) h hops:=List.mem_of_mem_take hqm;obtain⟨g,o,rfl,B1,k1,B2,k2,a0,a1,a2,hiv,hk1c⟩:=HAT.out wr hb i _ hx;simp only [] at a0 a1 a2 hiv hk1c;have hlen:=(Sp.paths_whole hq).ports_len H64.out;have hpos:=Sp.paths_pos hq;simp only [] at hlen hpos;obtain⟨m,hm⟩:=nM P.length;have htw:=law10_twice B1 k1 P wr hiv hk1c (by omega);rw [hm] at a0 hlen hk1c htw;have HTW:=hid htw;have HIV:=hid hiv;have HPOS:=hid hpos;have HQM:=hid hqm;have HM:=hid hm;have HLEN:=hid hlen;have HA0:=hid a0;have HK1C:=hid hk1c;have HLT:=hid hlt;clear hi hb hbest hlt hx hpi hqm hq a1 a2 hiv hk1c hlen hpos hm htw;go_wp2_with fail;go_at_call 12;refine HTW.out.mono ?_;rintro e W8 ⟨⟨r,rfl,hr⟩,hb8⟩;have HB8:=hid (HB.out.trans (hb8.mono HB.out.size))
   have HA8:=hid (show W8.cell? ⟨g,o+i * 3,none⟩=some (.slice B1 m k1) by
    obtain⟨ob,hob,_⟩:=cells_of_cell HA0.out
    exact (hb8.cell (p:=⟨g,o+i * 3,none⟩) (heap_lt hob)).trans HA0.out)
   have HK18:=hid (HK1r.out.below hb8 HK1r.out.lt);have HIV8:=hid (HIV.out.more hb8);clear hb8 a0;rcases hr with⟨kk,rfl,htk⟩ | ⟨rfl,_⟩
   ·have y1:decide ((kk:Int)<0)=false:=dF;have hkl:=htk.lt;rw [HM.out] at hkl;have HKL:=hid hkl;have HTK:=hid htk;clear hkl htk;go_wp2_with fail;(have z1:IntKind.i64.wrap ((kk:Int)+1)=(kk:Int)+1:=by have:=HLEN.out;have:=HKL.out;rw [IntKind.wrap_i64];omega);(have hcc:kk+1≤k1:=by have:=HKL.out;have:=HK1C.out;omega);(have hcc2:(kk:Int)+1≤(k1:Int):=by omega);(have hcc3:(0:Int)≤(kk:Int)+1:=by omega);(have z3:((kk:Int)+1).toNat=kk+1:=by omega);(have htl:(P.take (kk+1)).length=kk+1:=by rw [List.length_take,HM.out];have:=HKL.out;omega);refine wp_region_K 15 (fun W=>W.cell? ⟨N,0,none⟩=some (.int .i64 b)∧W.cell? ⟨N,1,none⟩=some (.slice A1 np c1)∧W.cell? ⟨N,2,none⟩=some (.slice A2 nt c2)∧W.cell? ⟨N,3,none⟩=some (.slice A3 ng c3)∧W.cell? ⟨g,o+i * 3,none⟩=some (.slice B1 m k1)) (by kernel_rfl) (fun hcl=>?_)
    have hS:(fun W:World=>W.cell? ⟨N,0,none⟩=some (.int .i64 b)∧W.cell? ⟨N,1,none⟩=some (.slice A1 np c1)∧W.cell? ⟨N,2,none⟩=some (.slice A2 nt c2)∧W.cell? ⟨N,3,none⟩=some (.slice A3 ng c3)∧W.cell? ⟨g,o+i * 3,none⟩=some (.slice B1 m k1)) W8.drew:=⟨HK18.out.cell 0,HK18.out.cell 1,HK18.out.cell 2,HK18.out.cell 3,HA8.out⟩
    have hco:=HCOM.out W8.drew (HB6.out.trans (HB8.out.drew.mono (by have:=HS6.out;omega))) B1 none k1 0 0 (P.take (kk+1)) ⟨#[]⟩ (iv_take (HIV8.out.more (Below.refl _ _).drew) _) (by rw [htl];have:=HLEN.out;have:=HKL.out;omega);rw [htl] at hco;have HCO:=hid hco;clear htl hco;refine tk 0 hcl hS ?_;clear hcl;intro hcl;simp only [tkl];refine tk 1 hcl hS ?_;clear hcl;intro hcl;simp only [tkl];refine tk 2 hcl hS ?_;clear hcl;intro hcl;simp only [tkl];refine tk 3 hcl hS ?_;clear hcl;intro hcl;simp only [tkl];refine tk 4 hcl hS ?_;clear hcl;intro hcl;simp only [tkl];refine tk 5 hcl hS ?_;clear hcl;intro hcl;simp only [tkl];refine tk 6 hcl hS ?_;clear hcl;intro hcl;simp only [tkl];refine tk 7 hcl hS ?_;clear hcl;intro hcl;simp only [tkl];refine tk 8 hcl hS ?_;clear hcl;intro hcl;simp only [tkl];refine tk 9 hcl hS ?_;clear hcl;intro hcl;simp only [tkl];refine on1 10 hcl (fun K hK=>?_);go_simp;refine HCO.out.mono ?_;rintro r W9 ⟨hce,hb9⟩;have hb89:Below W8.heap.size W8 W9:=((Below.refl W8.heap.size W8).drew).trans hb9
    have hS9:(fun W:World=>W.cell? ⟨N,0,none⟩=some (.int .i64 b)∧W.cell? ⟨N,1,none⟩=some (.slice A1 np c1)∧W.cell? ⟨N,2,none⟩=some (.slice A2 nt c2)∧W.cell? ⟨N,3,none⟩=some (.slice A3 ng c3)∧W.cell? ⟨g,o+i * 3,none⟩=some (.slice B1 m k1)) W9:=by
     have hk:=HK18.out.below hb89 HK18.out.lt;refine⟨hk.cell 0,hk.cell 1,hk.cell 2,hk.cell 3,?_⟩;obtain⟨ob,hob,_⟩:=cells_of_cell HA8.out;exact (hb89.cell (p:=⟨g,o+i * 3,none⟩) (heap_lt hob)).trans HA8.out
    have HB9:=hid (HB8.out.trans (hb89.mono HB8.out.size));clear hS hb9 hb89;have hS:=hS9;clear hS9;rcases hce with⟨i2,_,hi2,_⟩ | ⟨rfl,_⟩
    ·exfalso;have h9:=HPOS.out (-1) (List.mem_of_mem_take (List.mem_of_getElem? hi2));omega
    rw [show (P.take (kk+1)).dropLast=P.take kk by rw [List.dropLast_eq_take,List.length_take,HM.out,List.take_take];congr 1;have:=HKL.out;omega];obtain⟨c,hc⟩:=nM (Sp.cntIn n (P.take kk));rw [hc];have HC:=hid hc;clear hc;refine hK.out _ _ (Or.inr hS) (fun hcl2=>?_);clear hK K hcl;have hcl:=hcl2;clear hcl2;refine tk 11 hcl hS ?_;clear hcl;intro hcl;simp only [tkl];refine tk 12 hcl hS ?_;clear hcl;intro hcl;simp only [tkl];refine tk 13 hcl hS ?_;clear hcl;intro hcl;simp only [tkl];refine tk 14 hcl hS ?_;clear hcl;intro hcl;simp only [tkl];refine on1 15 hcl (fun K hK=>?_);go_simp;refine hK.out _ _ (Or.inl (by kernel_rfl)) (fun hcl2=>?_);clear hK K hcl hcl2 hS;refine wpAnyK_done (by kernel_rfl) ?_ _;(try simp only [Act.put,pu]);by_cases hcb:(c:Int)<best
    ·have y2:decide ((c:Int)<best)=true:=decide_eq_true hcb;have HBN:=hid (HBE.out.less HQM.out HTK.out (by rw [HC.out];exact hcb));clear hcb;go_wp2_with fail;go_roundw
     case rel=>exact⟨i+1,(c:Int),by rfl,by rfl,HLT.out,by have h9:=HBN.out;rw [HC.out] at h9;exact h9,HB9.out⟩
     case measure=>have:=HLT.out;simp [intOf];omega
    ·have y2:decide ((c:Int)<best)=false:=decide_eq_false hcb;clear hcb;go_wp2_with fail;go_roundw
     case rel=>exact⟨i+1,best,by rfl,by rfl,HLT.out,HBE.out,HB9.out⟩
     case measure=>have:=HLT.out;simp [intOf];omega
   ·go_wp2_with fail;go_roundw
    case rel=>exact⟨i+1,best,by rfl,by rfl,HLT.out,HBE.out,HB8.out⟩
    case measure=>have:=HLT.out;simp [intOf];omega
  ·have p1:decide ((i:Int)<(L:Int))=false:=dF;have p2:decide (i<L)=false:=decide_eq_false hlt;have HBN8:=hid (HB6.out.trans (hb.mono (by have:=HS6.out;omega)));have y0:wr.cell? ⟨Nb,0,none⟩=some (.slice Ap lp kp):=HKBr.out.cell 0;rcases HR2.out with⟨rfl,hend⟩ | ⟨rfl,hpe,hnone⟩
   rotate_left
   ·have hbe:best=1048576:=hbest.2.2.2 (fun q hq=>hnone q (List.mem_of_mem_take hq));(have hl0:lp=0:=by rw [← HLP.out];injection hpe with h3;rw [h3];rfl);subst hl0;subst hbe;clear hpe hnone hb hi hlt hbest
    go_wp2_with (go_at_call 9;refine (HKN.out _ HBN8.out).mono ?_;rintro e W8 ⟨rfl,hb8⟩)
    go_ret;exact⟨rfl,by rw [HN.out];exact HBN8.out.trans (hb8.mono (by have:=HBN8.out.size;have:=HN.out;omega))⟩
   have hfo:=hend.follow;have hsh:=Sp.followT_short hfo;simp only [] at hfo hsh;have hle1:(le:Int)≤hops:=by have:=hend.within;simp only [HLE.out] at this;exact this
   have hle2:(le:Int)≤best:=hbest.2.2.1 _ (by have:=H64.out;omega) (fun q hq kk ht=>by
    have h9:=hend.best q (List.mem_of_mem_take hq) kk ht;simp only [HLE.out] at h9
    omega)
   have htw:=hend.twice;have hlong:=hend.long;simp only [HLP.out] at htw hlong;have hf:=HFOL.out wr HBN8.out Ap kp PP (HVP6.out.more hb) (by rw [HLP.out];exact HKP.out) (by omega);unfold FollowEnd at hf;rw [hfo,HLP.out,HLE.out] at hf;have HF:=hid hf;have HTWI:=hid htw;have HSH:=hid hsh;have HIVP:=hid (HVP6.out.more hb);have x0:wr.cell? ⟨N,0,none⟩=some (.int .i64 b):=HK1r.out.cell 0;have x1:wr.cell? ⟨N,1,none⟩=some (.slice A1 np c1):=HK1r.out.cell 1;have x2:wr.cell? ⟨N,2,none⟩=some (.slice A2 nt c2):=HK1r.out.cell 2;have x3:wr.cell? ⟨N,3,none⟩=some (.slice A3 ng c3):=HK1r.out.cell 3;have x4:wr.cell? ⟨N+1,0,none⟩=some (.int .i64 (s:Int)):=HK2r.out.cell 0;have x5:wr.cell? ⟨N+1,1,none⟩=some (.string h):=HK2r.out.cell 1;clear hb hi hlt hbest hend hfo hsh htw hf;go_wp2_with fail;go_at_call 14;refine HF.out.mono ?_;rintro e W8 ⟨rfl,hb8⟩;have HB8:=hid (HBN8.out.trans (hb8.mono (by have:=HBN8.out.size;have:=HN.out;omega)));have HKB8:=hid (HKBr.out.below hb8 HKBr.out.lt);have HIV8:=hid (HIVP.out.more hb8);clear hb8 x0 x1 x2 x3 x4 x5 y0;have y0:W8.cell? ⟨Nb,0,none⟩=some (.slice Ap lp kp):=HKB8.out.cell 0;have y1:W8.cell? ⟨Nb,1,none⟩=some (.slice Ae le ke):=HKB8.out.cell 1;have y2:W8.cell? ⟨Nb,2,none⟩=some (.string hd):=HKB8.out.cell 2;go_wp2_with fail;(have z1:(hd.toList == hd.toList)=true:=by simp);(have z2:((le:Int) == (le:Int))=true:=by simp);have z3:decide ((le:Int)≤hops)=true:=decide_eq_true hle1;have z4:decide ((le:Int)≤best)=true:=decide_eq_true hle2;(have z5:IntKind.i64.wrap ((lp:Int) - 1)=(lp:Int) - 1:=by have:=HSH.out;have:=HLP.out;rw [IntKind.wrap_i64];omega);(have z6:((lp:Int) - 1 == (lp:Int) - 1)=true:=by simp);have z7:decide ((lp:Int) > 1)=true:=dT;refine wp_region_K 45 (fun W=>W.cell? ⟨Nb,0,none⟩=some (.slice Ap lp kp)∧W.cell? ⟨Nb,1,none⟩=some (.slice Ae le ke)∧W.cell? ⟨Nb,2,none⟩=some (.string hd)) (by kernel_rfl) (fun hcl=>?_)
   have hS:(fun W:World=>W.cell? ⟨Nb,0,none⟩=some (.slice Ap lp kp)∧W.cell? ⟨Nb,1,none⟩=some (.slice Ae le ke)∧W.cell? ⟨Nb,2,none⟩=some (.string hd)) W8.drew:=⟨HKB8.out.cell 0,HKB8.out.cell 1,HKB8.out.cell 2⟩
   have hB8d:=HB8.out.drew;have htwc:=law10_twice Ap kp PP W8.drew (HIV8.out.more (Below.refl _ _).drew) (by rw [HLP.out];exact HKP.out) (by have:=HSH.out;omega);rw [HLP.out] at htwc;have HTWC:=hid htwc;have HB8D:=hid hB8d;have HHL:=hid hlong;clear hB8d htwc y0 y1 y2 hle1 hle2 hlong;refine tk 0 hcl hS ?_;clear hcl;intro hcl;simp only [tkl];refine on1 1 hcl (fun K hK=>?_);go_simp;refine (law10_num _ _).mono ?_;rintro e w' ⟨rfl,rfl⟩;refine hK.out _ _ (Or.inr hS) (fun hcl2=>?_);clear hK K hcl;have hcl:=hcl2;clear hcl2;refine tkM 40 2 hcl hS ?_;clear hcl;intro hcl;simp only [tkl];refine tkM 40 3 hcl hS ?_;clear hcl;intro hcl;simp only [tkl];refine tkM 40 4 hcl hS ?_;clear hcl;intro hcl;simp only [tkl];refine tkM 40 5 hcl hS ?_;clear hcl;intro hcl;simp only [tkl];refine tkM 40 6 hcl hS ?_;clear hcl;intro hcl;simp only [tkl];refine tkM 40 7 hcl hS ?_;clear hcl;intro hcl;simp only [tkl];refine tkM 40 8 hcl hS ?_;clear hcl;intro hcl;simp only [tkl];refine tkM 40 9 hcl hS ?_;clear hcl;intro hcl;simp only [tkl];refine tkM 40 10 hcl hS ?_;clear hcl;intro hcl;simp only [tkl];refine tkM 40 11 hcl hS ?_;clear hcl;intro hcl;simp only [tkl];refine tkM 40 12 hcl hS ?_;clear hcl;intro hcl;simp only [tkl];refine tkM 40 13 hcl hS ?_;clear hcl;intro hcl;simp only [tkl];refine tkM 40 14 hcl hS ?_;clear hcl;intro hcl;simp only [tkl];refine tkM 40 15 hcl hS ?_;clear hcl;intro hcl;simp only [tkl];refine tkM 12 16 hcl hS ?_;clear hcl;intro hcl;simp only [tkl];refine tkM 12 17 hcl hS ?_;clear hcl;intro hcl;simp only [tkl];refine tkM 12 18 hcl hS ?_;clear hcl;intro hcl;simp only [tkl];refine tkM 12 19 hcl hS ?_;clear hcl;intro hcl;simp only [tkl];refine tkM 12 20 hcl hS ?_;clear hcl;intro hcl;simp only [tkl];refine tkM 12 21 hcl hS ?_;clear hcl;intro hcl;simp only [tkl];refine tkM 12 22 hcl hS ?_;clear hcl;intro hcl;simp only [tkl];refine tkM 12 23 hcl hS ?_;clear hcl;intro hcl;simp only [tkl];refine tkM 12 24 hcl hS ?_;clear hcl;intro hcl;simp only [tkl];refine tkM 12 25 hcl hS ?_;clear hcl;intro hcl;simp only [tkl];refine tkM 12 26 hcl hS ?_;clear hcl;intro hcl;simp only [tkl];refine tkM 12 27 hcl hS ?_;clear hcl;intro hcl;simp only [tkl];refine tkM 12 28 hcl hS ?_;clear hcl;intro hcl;simp only [tkl];refine tkM 8 30 hcl hS ?_;clear hcl;intro hcl;simp only [tkl];refine tkM 8 31 hcl hS ?_;clear hcl;intro hcl;simp only [tkl];refine tkM 8 32 hcl hS ?_;clear hcl;intro hcl;simp only [tkl];refine tkM 8 33 hcl hS ?_;clear hcl;intro hcl;simp only [tkl];refine on1 29 hcl (fun K hK=>?_);go_simp;refine HTWC.out.mono ?_;rintro e W9 ⟨⟨r,rfl,hr⟩,hb9⟩
   have hre:r=(lp:Int) - 1:=by
    rcases hr with⟨kk,rfl,ht⟩ | ⟨_,hnd⟩
    ·have h9:=HTWI.out.at ht;have:=HHL.out;omega
    ·exact absurd hnd HTWI.out.not_nodup
   subst hre;have hb89:Below W8.heap.size W8 W9:=((Below.refl W8.heap.size W8).drew).trans hb9;have HB9:=hid (HB8.out.trans (hb89.mono (by have:=HB8.out.size;have:=HN.out;omega)));have hk9:=HKB8.out.below hb89 HKB8.out.lt;clear hS
   have hS:(fun W:World=>W.cell? ⟨Nb,0,none⟩=some (.slice Ap lp kp)∧W.cell? ⟨Nb,1,none⟩=some (.slice Ae le ke)∧W.cell? ⟨Nb,2,none⟩=some (.string hd)) W9:=⟨hk9.cell 0,hk9.cell 1,hk9.cell 2⟩
   have HK9:=hid hk9;clear hr hb9 hb89 hk9;refine hK.out _ _ (Or.inr hS) (fun hcl2=>?_);clear hK K hcl;have hcl:=hcl2;clear hcl2;refine tkM 8 34 hcl hS ?_;clear hcl;intro hcl;simp only [tkl];refine tkM 8 35 hcl hS ?_;clear hcl;intro hcl;simp only [tkl];refine tkM 8 36 hcl hS ?_;clear hcl;intro hcl;simp only [tkl];refine tkM 8 37 hcl hS ?_;clear hcl;intro hcl;simp only [tkl];refine tkM 8 38 hcl hS ?_;clear hcl;intro hcl;simp only [tkl];refine tkM 8 39 hcl hS ?_;clear hcl;intro hcl;simp only [tkl];refine tkM 8 40 hcl hS ?_;clear hcl;intro hcl;simp only [tkl];refine tkM 8 41 hcl hS ?_;clear hcl;intro hcl;simp only [tkl];refine tkM 8 42 hcl hS ?_;clear hcl;intro hcl;simp only [tkl];refine on1 43 hcl (fun K hK=>?_);go_simp;refine (HKN.out W9 HB9.out).mono ?_;rintro e W10 ⟨rfl,hb10⟩;have HB10:=hid (HB9.out.trans (hb10.mono (by have:=HB9.out.size;have:=HN.out;omega)));have hk10:=HK9.out.below hb10 HK9.out.lt;clear hS
   have hS:(fun W:World=>W.cell? ⟨Nb,0,none⟩=some (.slice Ap lp kp)∧W.cell? ⟨Nb,1,none⟩=some (.slice Ae le ke)∧W.cell? ⟨Nb,2,none⟩=some (.string hd)) W10:=⟨hk10.cell 0,hk10.cell 1,hk10.cell 2⟩
   clear hb10 hk10;refine hK.out _ _ (Or.inr hS) (fun hcl2=>?_);clear hK K hcl;have hcl:=hcl2;clear hcl2;refine tkM 8 44 hcl hS ?_;clear hcl;intro hcl;simp only [tkl];refine on1 45 hcl (fun K hK=>?_);go_simp;refine hK.out _ _ (Or.inl (by kernel_rfl)) (fun hcl2=>?_);clear hK K hcl hcl2 hS;refine wpAnyK_done (by kernel_rfl) ?_ _;(try simp only [Act.put,pu]);go_wp2_with fail;go_ret;exact⟨rfl,by rw [HN.out];exact HB10.out⟩
end Go.Proofs.YtedfppbnkgffcaaGreatDoor
