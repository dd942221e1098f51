/-
  Texts joined: Cn Co Cf Cp.
-/
import Derived.Test.YthnamoedpnknmaaGreatDoorCm
import Derived.Test.YthnamoedpnknmaaGreatDoorAi
import Derived.Test.YthnamoedpnknmaaGreatDoorCb
import Derived.Test.YthnamoedpnknmaaGreatDoorCe
import Derived.Test.YthnamoedpnknmaaGreatDoorBu
import Derived.Test.YthnamoedpnknmaaGreatDoorUc
set_option linter.unusedVariables false
set_option linter.unusedSimpArgs false
set_option maxRecDepth 100000
set_option maxHeartbeats 8000000
namespace Go.Proofs.YthnamoedpnknmaaGreatDoor
open Go.RowKit
open Go.Lib (hid)
namespace Sp
theorem refFirst_ok {n:Net} {s:Nat} {h:ByteArray} {hops:Int} (hn:NetOk n) (hs:StateOk n (s:Int) h) (h0:0≤hops):POk n hops (refFirst n (s:Int) h)∧needP n hops (refFirst n (s:Int) h)≤hops.toNat+2:=by
 have hf:=POk.first hs h0
 obtain⟨q,hq,hqi⟩:=hf.port;have hl1:(lastP ⟨[(s:Int)],[],h⟩).toNat=s:=Int.toNat_natCast s;rw [hl1] at hq hqi;have h2:=needP_first n (s:Int) h hops
 cases hin:q.inn with
 | true=>
  rw [refFirst_in hn hq hin];exact⟨hf,h2⟩
 | false=>
  by_cases hd:0≤q.dst
  ·have hmv:movesV n s h=[⟨-1,-1,q.dst,h⟩]:=by rw [movesV_link hq hin,if_pos hd]
   have hmm:(⟨-1,-1,q.dst,h⟩:Mv) ∈ movesV n (lastP ⟨[(s:Int)],[],h⟩).toNat h:=by rw [hl1,hmv];exact List.mem_cons_self
   have hlf:leafB n hops ⟨[(s:Int)],[],h⟩=false:=by
    unfold leafB;rw [hl1,hmv,hqi,hin];rfl
   have hnx:=hf.next hn hlf hmm
   have hfirst:refFirst n (s:Int) h=onP ⟨[(s:Int)],[],h⟩ ⟨-1,-1,q.dst,h⟩:=by
    unfold refFirst dstOf onP;rw [Int.toNat_natCast,hq];simp only [ifL_no (show ¬ (0:Int)≤-1 by decide),ifL_yes hd,List.append_nil,List.nil_append]
   rw [hfirst];exact⟨hnx.1,by have:=hnx.2;omega⟩
  ·have hd1:q.dst=-1:=by
    rcases (hn.ports _ q hq).dst with e | ⟨_,e,_⟩
    ·exact e
    ·exact absurd e hd
   have hfirst:refFirst n (s:Int) h=⟨[(s:Int)],[],h⟩:=by
    unfold refFirst dstOf;rw [Int.toNat_natCast,hq];simp only [hd1];rfl
   rw [hfirst];exact⟨hf,h2⟩
end Sp
def PathsEnd (n:Sp.Net) (p:Int) (h:ByteArray) (hops most:Int) (w:World) (r:Ending) (w':World):Prop:=∃ v,r=.returned v∧PthL w.heap.size w' v ((Sp.pathsV n p h hops).take most.toNat)∧Below w.heap.size w w'
theorem PathsEnd.none {n:Sp.Net} {p:Int} {h:ByteArray} {hops most:Int} {w w':World} (he:(Sp.pathsV n p h hops).take most.toNat=[]) (hb:Below w.heap.size w w'):PathsEnd n p h hops most w (.returned (.slice none 0 0)) w':=
 ⟨_,rfl,⟨[],OwnL.nil _ _ _ _,by rw [he];rfl,fun i q cs hq=>by rw [he] at hq;simp at hq⟩,hb⟩
theorem ref10_Paths (n:Sp.Net) (A1 A2 A3:Option Addr) (c1 c2 c3:Nat) (p:Int) (h:ByteArray) (hops most:Int) (w:World) (hpv:PV w A1 n.ports) (htv:TTV w A2 n.tables) (hgv:GGV w A3 n.guards) (hsz:Sp.Szd n) (hst:Sp.Szt n) (hh:h.size≤9223372036854775807) (hmo:most≤5000):
  Calls Tryz.prog 23 #[.agg #[.int .i64 n.bits,.slice A1 n.ports.length c1,.slice A2 n.tables.length c2,.slice A3 n.guards.length c3],.agg #[.int .i64 p,.string h],.int .i64 hops,.int .i64 most] w (PathsEnd n p h hops most w):=by
 have hck:=fun W (hW:Below w.heap.size w W)=>ref10_check n A1 A2 A3 c1 c2 c3 p h W (hpv.more hW) (htv.more hW) (hgv.more hW) hsz hst hh
 have hgood:Sp.checkE n p h=0→0≤hops→hops≤64→∃ k:Nat,p=k∧(∀ W,Below w.heap.size w W→∃ q:Sp.Port,Sp.refFirst n (k:Int) h=⟨[(k:Int)] ++ Sp.ifL q.dst,[],h⟩∧Calls Tryz.prog 48 #[.agg #[.int .i64 n.bits,.slice A1 n.ports.length c1,.slice A2 n.tables.length c2,.slice A3 n.guards.length c3],.agg #[.int .i64 (k:Int),.string h]] W fun r w'=>∃ v,r=.returned (.agg #[v,.slice none 0 0,.string h])∧InR w' W.heap.size v ([(k:Int)] ++ Sp.ifL q.dst)∧Below W.heap.size W w') ∧
   (∀ (v1 v2:Value) (W:World),Below w.heap.size w W→PathO W (Sp.refFirst n (k:Int) h) [v1,v2,.string h]→Calls Tryz.prog 47 #[.agg #[.int .i64 n.bits,.slice A1 n.ports.length c1,.slice A2 n.tables.length c2,.slice A3 n.guards.length c3],.agg #[v1,v2,.string h],.int .i64 hops,.int .i64 most,.slice none 0 0] W (WholeEnd w.heap.size most (Sp.pathsV n p h hops) (.slice none 0 0) [] W)):=fun he h0 h64=>by
  obtain⟨hok,hso⟩:=Sp.checkE_zero he
  obtain⟨k,rfl⟩:∃ k:Nat,p=k:=⟨p.toNat,by have:=hso.port.1;omega⟩
  refine⟨k,rfl,fun W hW=>?_,fun v1 v2 W hW hO=>?_⟩
  ·obtain⟨q,hq⟩:=Sp.port_at hso;rw [Int.toNat_natCast] at hq;refine⟨q,?_,ref10_first n A1 A2 A3 c1 c2 c3 k h q W (hpv.more hW) hq⟩;unfold Sp.refFirst Sp.dstOf;rw [Int.toNat_natCast,hq]
  ·have hf:=Sp.refFirst_ok (hops:=hops) hok hso h0;have:=ref10_whole n A1 A2 A3 c1 c2 c3 hops most w hpv htv hgv hok h64 hmo (hops.toNat+2) (Sp.refFirst n (k:Int) h) hf.1 hf.2 v1 v2 (.slice none 0 0) [] W hW hO ⟨[],OwnL.nil _ _ _ _,rfl,fun i q cs hq=>by simp at hq⟩ (by simp);rw [Sp.ref_paths ⟨he,h0,h64⟩] at this;exact this
 have hbad:¬ (Sp.checkE n p h=0∧0≤hops∧hops≤64)→Sp.pathsV n p h hops=[]:=fun hn=>by unfold Sp.pathsV;rw [if_neg hn]
 obtain⟨np,hnp⟩:=nM n.ports.length;obtain⟨nt,hnt⟩:=nM n.tables.length;obtain⟨ng,hng⟩:=nM n.guards.length;obtain⟨bt,hbt⟩:=nM n.bits;obtain⟨N,hN⟩:=nM w.heap.size;obtain⟨E,hE⟩:=nM (Sp.checkE n p h);rw [hnp,hnt,hng,hbt,hN] at hck hgood;rw [hE] at hck hgood hbad;rw [hnp,hnt,hng,hbt];obtain⟨W2,hW2⟩:=nM ((w.alloc (.cells #[.int .i64 bt,.slice A1 np c1,.slice A2 nt c2,.slice A3 ng c3] 26)).alloc (.cells #[.int .i64 p,.string h] 28));have hb2:Below N w W2:=by rw [← hW2,← hN];exact ((Below.refl _ _).alloc (Nat.le_refl _) _).alloc (by simp) _
 have hk0:Blk W2 N 26 #[.int .i64 bt,.slice A1 np c1,.slice A2 nt c2,.slice A3 ng c3]:=by rw [← hW2,← hN];exact (Blk.new _ _ _).alloc _
 have hk1:Blk W2 (N+1) 28 #[.int .i64 p,.string h]:=by rw [← hW2,← hN];exact blk_at9 (by simp)
 have n0:W2.cell? ⟨N,0,none⟩=some (.int .i64 bt):=hk0.cell 0;have n1:W2.cell? ⟨N,1,none⟩=some (.slice A1 np c1):=hk0.cell 1;have n2:W2.cell? ⟨N,2,none⟩=some (.slice A2 nt c2):=hk0.cell 2;have n3:W2.cell? ⟨N,3,none⟩=some (.slice A3 ng c3):=hk0.cell 3;have s0:W2.cell? ⟨N+1,0,none⟩=some (.int .i64 p):=hk1.cell 0;have s1:W2.cell? ⟨N+1,1,none⟩=some (.string h):=hk1.cell 1;have HN:=hid hN;have HCK:=hid (hck W2 hb2);have HGOOD:=hid hgood;have HBAD:=hid hbad;have HB:=hid hb2;have HK0:=hid hk0;have HK1:=hid hk1;clear hck hgood hbad hnp hnt hng hbt hE hpv htv hgv hsz hst hh hmo hb2 hk0 hk1;go_enter Tryz.func23,Tryz.ntmps23;go_wp2_with fail;refine HCK.out.mono ?_;rintro e W3 ⟨rfl,hb3⟩;have HB3:=hid (show Below N w W3 from HB.out.trans (hb3.mono (Nat.le_of_lt HK0.out.lt)));have HK30:=hid (HK0.out.below hb3 HK0.out.lt);have HK31:=hid (HK1.out.below hb3 HK1.out.lt);clear hb3 n0 n1 n2 n3 s0 s1 HB HK0 HK1 HCK hW2;by_cases hz:E=0
 rotate_left
 ·have te:(E != 0)=true:=bne_iff_ne.2 hz;have HE:=hid (show (Sp.pathsV n p h hops).take most.toNat=[] by rw [HBAD.out (fun hc=>hz hc.1)];simp);clear hz;go_wp2_with fail;go_ret;exact PathsEnd.none HE.out (by rw [HN.out];exact HB3.out)
 have te:(E != 0)=false:=by rw [hz];rfl
 by_cases h0:0≤hops
 rotate_left
 ·have t1:decide (hops<0)=true:=dT;have HE:=hid (show (Sp.pathsV n p h hops).take most.toNat=[] by rw [HBAD.out (fun hc=>h0 hc.2.1)];simp);clear hz h0;go_wp2_with fail;go_ret;exact PathsEnd.none HE.out (by rw [HN.out];exact HB3.out)
 have t1:decide (hops<0)=false:=dF;by_cases h64:hops≤64
 rotate_left
 ·have t2:decide (hops > 64)=true:=dT;have HE:=hid (show (Sp.pathsV n p h hops).take most.toNat=[] by rw [HBAD.out (fun hc=>h64 hc.2.2)];simp);clear hz h0 h64;go_wp2_with fail;go_ret;exact PathsEnd.none HE.out (by rw [HN.out];exact HB3.out)
 have t2:decide (hops > 64)=false:=dF;by_cases hm:1≤most
 rotate_left
 ·have t3:decide (most<1)=true:=dT;have HE:=hid (show (Sp.pathsV n p h hops).take most.toNat=[] by rw [show most.toNat=0 by omega];simp);clear hz h0 h64 hm;go_wp2_with fail;go_ret;exact PathsEnd.none HE.out (by rw [HN.out];exact HB3.out)
 have t3:decide (most<1)=false:=dF;obtain⟨k,rfl,hfi,hwh⟩:=HGOOD.out hz h0 h64;obtain⟨q,hrf,hfc⟩:=hfi W3.drew HB3.out.drew;have HM:=hid hm;have HRF:=hid hrf;have HFC:=hid hfc;have HWH:=hid hwh;clear hz h0 h64 hm hfi hwh hrf hfc HGOOD HBAD
 have hS0:(fun w':World=>w'.cell? ⟨N,0,none⟩=some (.int .i64 bt)∧w'.cell? ⟨N,1,none⟩=some (.slice A1 np c1)∧w'.cell? ⟨N,2,none⟩=some (.slice A2 nt c2)∧w'.cell? ⟨N,3,none⟩=some (.slice A3 ng c3)∧w'.cell? ⟨N+1,0,none⟩=some (.int .i64 (k:Int))∧w'.cell? ⟨N+1,1,none⟩=some (.string h)) W3.drew:=⟨HK30.out.cell 0,HK30.out.cell 1,HK30.out.cell 2,HK30.out.cell 3,HK31.out.cell 0,HK31.out.cell 1⟩
 go_wp2_with fail;refine wp_region_K 6 (fun w':World=>w'.cell? ⟨N,0,none⟩=some (.int .i64 bt)∧w'.cell? ⟨N,1,none⟩=some (.slice A1 np c1)∧w'.cell? ⟨N,2,none⟩=some (.slice A2 nt c2)∧w'.cell? ⟨N,3,none⟩=some (.slice A3 ng c3)∧w'.cell? ⟨N+1,0,none⟩=some (.int .i64 (k:Int))∧w'.cell? ⟨N+1,1,none⟩=some (.string h)) (by kernel_rfl) (fun hcl=>?_);have hS:=hS0;clear hS0;refine tk 0 hcl hS ?_;clear hcl;intro hcl;simp only [tkl];refine tk 1 hcl hS ?_;clear hcl;intro hcl;simp only [tkl];refine tk 2 hcl hS ?_;clear hcl;intro hcl;simp only [tkl];refine tk 4 hcl hS ?_;clear hcl;intro hcl;simp only [tkl];refine tk 5 hcl hS ?_;clear hcl;intro hcl;simp only [tkl];refine on1 3 hcl (fun K hK=>?_);go_simp;refine HFC.out.mono ?_;rintro e w5 ⟨v1,rfl,hv1,hb5⟩;obtain⟨Y1,y1,u1,rfl⟩:=in_slice hv1;have hw5:Below W3.heap.size W3 w5:=(Below.refl W3.heap.size W3).drew.trans hb5;have hb5N:Below N w w5:=HB3.out.trans (hw5.mono (Nat.le_of_lt HK30.out.lt))
 have hpo:PathO w5 (Sp.refFirst n (k:Int) h) [.slice Y1 y1 u1,.slice none 0 0,.string h]:=by
  rw [HRF.out];exact⟨_,_,rfl,in_mono hv1 (Nat.zero_le _),World.ownsRow_nil _ _ _ _⟩
 have HC:=hid (HWH.out _ _ w5 (by exact hb5N) hpo);have HB5:=hid hb5N
 have hS:(fun w':World=>w'.cell? ⟨N,0,none⟩=some (.int .i64 bt)∧w'.cell? ⟨N,1,none⟩=some (.slice A1 np c1)∧w'.cell? ⟨N,2,none⟩=some (.slice A2 nt c2)∧w'.cell? ⟨N,3,none⟩=some (.slice A3 ng c3)∧w'.cell? ⟨N+1,0,none⟩=some (.int .i64 (k:Int))∧w'.cell? ⟨N+1,1,none⟩=some (.string h)) w5:=⟨(hw5.cell (p:=⟨N,0,none⟩) HK30.out.lt).trans (HK30.out.cell 0),(hw5.cell (p:=⟨N,1,none⟩) HK30.out.lt).trans (HK30.out.cell 1),(hw5.cell (p:=⟨N,2,none⟩) HK30.out.lt).trans (HK30.out.cell 2),(hw5.cell (p:=⟨N,3,none⟩) HK30.out.lt).trans (HK30.out.cell 3),(hw5.cell (p:=⟨N+1,0,none⟩) HK31.out.lt).trans (HK31.out.cell 0),(hw5.cell (p:=⟨N+1,1,none⟩) HK31.out.lt).trans (HK31.out.cell 1)⟩
 refine hK.out _ _ (Or.inr hS) (fun hcl2=>?_);clear hK K hcl hv1 hb5 hw5 hb5N hpo hS;have hcl:=hcl2;clear hcl2;(try simp only [Act.put,pu]);refine on1 6 hcl (fun K hK=>?_);go_simp;refine HC.out.mono ?_;rintro e w7 ⟨v',rfl,hps,hgr,_⟩
 have hfin:PathsEnd n (k:Int) h hops most w (.returned v') w7:=by
  refine⟨v',rfl,?_,?_⟩
  ·have e1:Sp.takeL most ([]:List Sp.Path) (Sp.pathsV n (k:Int) h hops)=(Sp.pathsV n (k:Int) h hops).take most.toNat:=by
    unfold Sp.takeL;rw [if_neg (by have:=HM.out;simp;omega),List.nil_append]
   rw [← e1,HN.out];exact hps
  ·rw [HN.out];exact Below.grown HB5.out hgr (by have:=HB5.out.size;rw [HN.out] at this;exact this) (fun g hg=>by simp [Value.ownBlock] at hg)
 have HFIN:=hid hfin;obtain⟨A9,c9,rfl⟩:=hps.slice;refine hK.out _ _ (Or.inl (by kernel_rfl)) (fun hcl2=>?_);clear hK K hcl hps hgr hfin;have hcl:=hcl2;clear hcl2;(try simp only [Act.put,pu]);refine on1 7 hcl (fun K hK=>?_);go_simp;refine hK.out _ _ (Or.inl (by kernel_rfl)) (fun hcl2=>?_);clear hK K hcl hcl2;refine wpAnyK_done (by kernel_rfl) ?_ _;(try simp only [Act.put,pu]);go_wp2_with fail;go_ret;exact HFIN.out
def Sp.withinP (k most:Int):Int:=if k<0 then 0 else if most<k then most else k
theorem law10_withinP (k most:Int) (w:World):Calls Tryz.prog 20 #[.int .i64 k,.int .i64 most] w fun e w'=>e=.returned (.int .i64 (Sp.withinP k most))∧w'=w:=by
 by_cases h1:k<0
 ·have t1:decide (k<0)=true:=decide_eq_true h1;have HV:=hid (show Sp.withinP k most=0 by unfold Sp.withinP;rw [if_pos h1]);clear h1;go_enter Tryz.func20,Tryz.ntmps20;go_wp2;go_ret;exact⟨by rw [HV.out];rfl,rfl⟩
 ·have t1:decide (k<0)=false:=decide_eq_false h1;by_cases h2:most<k
  ·have t2:decide (k > most)=true:=decide_eq_true h2;have HV:=hid (show Sp.withinP k most=most by unfold Sp.withinP;rw [if_neg h1,if_pos h2]);clear h1 h2;go_enter Tryz.func20,Tryz.ntmps20;go_wp2;go_ret;exact⟨by rw [HV.out];rfl,rfl⟩
  ·have t2:decide (k > most)=false:=decide_eq_false h2;have HV:=hid (show Sp.withinP k most=k by unfold Sp.withinP;rw [if_neg h1,if_neg h2]);clear h1 h2;go_enter Tryz.func20,Tryz.ntmps20;go_wp2;go_ret;exact⟨by rw [HV.out];rfl,rfl⟩
theorem ptl_flat:∀ (xs:List PathV) (i:Nat) (x:PathV),xs[i]?=some x→∀ j,j<3→(xs.flatMap ptC)[i * 3+j]?=(ptC x)[j]?
 | [],i,x,h,j,hj=>by simp at h
 | y :: r,0,x,h,j,hj=>by
  obtain rfl:y=x:=by simpa using h
  rw [List.flatMap_cons,List.getElem?_append_left (by show 0 * 3+j<3;omega),Nat.zero_mul,Nat.zero_add]
 | y :: r,i+1,x,h,j,hj=>by
  rw [List.flatMap_cons,List.getElem?_append_right (by show 3≤(i+1) * 3+j;omega)];rw [show (i+1) * 3+j - (ptC y).length=i * 3+j by show (i+1) * 3+j - 3=_;omega];exact ptl_flat r i x (by simpa using h) j hj
theorem ptl_slice {B:Nat} {v:Value} {xs:List PathV} {w:World} (h:PtsAt B v xs w):∃ A c,v=.slice A xs.length c:=by
 rcases h.row.2 with⟨rfl,h0⟩ | ⟨g,cap,cur,rfl,_⟩
 ·exact⟨none,0,by rw [h0]⟩
 ·exact⟨_,_,rfl⟩
theorem Sp.paths_short {n:Sp.Net} {p:Int} {h:ByteArray} {hops:Int} {q:Sp.Path} (hq:q ∈ Sp.pathsV n p h hops):q.ports.length≤1000000∧q.entries.length≤1000000:=by
 obtain⟨hc,h0,h64⟩:=Sp.paths_check hq;obtain⟨hn,hs⟩:=Sp.checkE_zero hc
 obtain⟨s,rfl⟩:∃ k:Nat,p=k:=⟨p.toNat,by have:=hs.port;omega⟩
 have hw:=(Sp.paths_whole hq).ok;have h1:=hw.ents;have h2:=hw.len;omega
theorem Sp.withinP_nat (k:Int) (m:Nat):∃ j:Nat,Sp.withinP k (m:Int)=j∧j≤m:=by
 refine⟨(Sp.withinP k (m:Int)).toNat,?_,?_⟩ <;> (unfold Sp.withinP;split <;> (try split) <;> omega)
theorem pts_view {B:Nat} {v:Value} {xs:List PathV} {w:World} (h:PtsAt B v xs w):∃ A c,v=.slice A (xs.map PathV.path).length c∧LView 3 PthV w A (xs.map PathV.path):=by
 obtain⟨A,c,rfl⟩:=ptl_slice h;refine⟨A,c,by rw [List.length_map],?_⟩;intro i a ha;rw [List.getElem?_map] at ha;obtain⟨x,hx,rfl⟩:=Option.map_eq_some_iff.1 ha;have hrow:=h.row;unfold PtR at hrow;have hi:i<xs.length:=(List.getElem?_eq_some_iff.1 hx).1;rcases hrow.2 with⟨_,h0⟩ | ⟨g,cv,cur,e,hg2,hg3,_,_,_,_⟩
 ·rw [List.length_eq_zero_iff.1 h0] at hi;simp at hi
 ·injection e with e1 e2 e3
  subst e1;have hg:=(Array.getElem?_eq_some_iff.1 hg3).1;obtain⟨hp,he⟩:=h.each x (List.mem_of_getElem? hx)
  have hO:PathO w x.path (ptC x):=⟨x.v1,x.v2,rfl,in_mono hp (Nat.zero_le _),in_mono he (Nat.zero_le _)⟩
  refine⟨g,0,ptC x,rfl,hg,rfl,hO.view,fun f u hu=>?_⟩;have hf:f<3:=(List.getElem?_eq_some_iff.1 hu).1;rw [Nat.zero_add,hrow.cellAt (i * 3+f) (by omega),ptl_flat xs i x hx f hf,hu]
theorem pthl_view {B:Nat} {W:World} {v:Value} {ps:List Sp.Path} (h:PthL B W v ps):∃ A c,v=.slice A ps.length c∧LView 3 PthV W A ps:=by
 obtain⟨L,hL,hl,hr⟩:=h;obtain⟨A,c,e,hv,_,_⟩:=hL.lview (R:=PthV) hl.symm (fun i a cs ha hc=>(hr i a cs ha hc).view);exact⟨A,c,e,hv⟩
theorem lview_path_more {W W':World} {A:Option Addr} {l:List Sp.Path} (h:LView 3 PthV W A l) (hb:Below W.heap.size W W'):LView 3 PthV W' A l:=by
 intro i a ha;obtain⟨g,o,cs,e,hg,hc,hr,hf⟩:=h i a ha;exact⟨g,o,cs,e,Nat.lt_of_lt_of_le hg hb.size,hc,hr.more hb,fun f u hu=>by rw [hb.cell hg];exact hf f u hu⟩
theorem net_views {w:World} {n:Sp.Net} {A1 A2 A3:Option Addr} {c1 c2 c3:Nat} (hnr:NetR w n [.int .i64 n.bits,.slice A1 n.ports.length c1,.slice A2 n.tables.length c2,.slice A3 n.guards.length c3]):PV w A1 n.ports∧TTV w A2 n.tables∧GGV w A3 n.guards:=by
 obtain⟨B1,d1,B2,d2,B3,d3,hx,hv1,hv2,hv3,_⟩:=hnr;injection hx with _ hx
 injection hx with e1 hx
 injection hx with e2 hx
 injection hx with e3 hx
 injection e1 with e1 _ _
 injection e2 with e2 _ _
 injection e3 with e3 _ _
 subst e1 e2 e3;exact⟨hv1,hv2,hv3⟩
theorem hnet_views {lo:Nat} {w:World} {n:Sp.Net} {A1 A2 A3:Option Addr} {c1 c2 c3:Nat} (hnr:HNet lo w n [.int .i64 n.bits,.slice A1 n.ports.length c1,.slice A2 n.tables.length c2,.slice A3 n.guards.length c3]):PV w A1 n.ports∧LView 1 (HTab lo) w A2 n.tables∧LView 1 (HGrd lo) w A3 n.guards:=by
 obtain⟨B1,d1,B2,d2,B3,d3,hx,hv1,hv2,hv3,_⟩:=hnr;injection hx with _ hx
 injection hx with e1 hx
 injection hx with e2 hx
 injection hx with e3 hx
 injection e1 with e1 _ _
 injection e2 with e2 _ _
 injection e3 with e3 _ _
 subst e1 e2 e3;exact⟨hv1,hv2,hv3⟩
theorem law_paths (n:Sp.Net) (A1 A2 A3:Option Addr) (c1 c2 c3:Nat) (p:Int) (h:ByteArray) (hops k m:Int) (w:World) (hG:Gn w)
  (hnr:NetR w n [.int .i64 n.bits,.slice A1 n.ports.length c1,.slice A2 n.tables.length c2,.slice A3 n.guards.length c3]) (hsz:Sp.SzdT n) (hh:h.size≤9223372036854775807):
  Calls Tryz.prog 5 #[.agg #[.int .i64 n.bits,.slice A1 n.ports.length c1,.slice A2 n.tables.length c2,.slice A3 n.guards.length c3],.agg #[.int .i64 p,.string h],.int .i64 hops,.int .i64 k,.int .i64 m] w fun e w'=>e=.returned (.bool true)∧Below w.heap.size w w':=by
 obtain⟨hp1,ht1,hg1⟩:=net_views hnr;have hps:=fun (q:Sp.Path) (hq:q ∈ Sp.pathsV n p h hops)=>Sp.paths_short hq
 obtain⟨kk,hkk,hk5⟩:=Sp.withinP_nat k 5000;obtain⟨mm,hmm,hm5⟩:=Sp.withinP_nat m 5000;have hwk:∀ W,Calls Tryz.prog 20 #[.int .i64 k,.int .i64 5000] W fun e w'=>e=.returned (.int .i64 (kk:Int))∧w'=W:=fun W=>by rw [← hkk];exact law10_withinP k 5000 W
 have hwm:∀ W,Calls Tryz.prog 20 #[.int .i64 m,.int .i64 5000] W fun e w'=>e=.returned (.int .i64 (mm:Int))∧w'=W:=fun W=>by rw [← hmm];exact law10_withinP m 5000 W
 have hrm:=fun W (hW:Below w.heap.size w W)=>ref9_Roomy n A1 A2 A3 c1 c2 c3 W hsz (hp1.more hW) (ht1.more hW) (hg1.more hW)
 have hrp:=fun W (x:Nat) (hx:x≤5000) (hW:Below w.heap.size w W)=>ref10_Paths n A1 A2 A3 c1 c2 c3 p h hops x W (hp1.more hW) (ht1.more hW) (hg1.more hW) hsz.szd hsz.szt hh (by omega)
 have hst:=fun (W:World) g1 g2 g3 lo (x:Nat) (hx:x≤5000) (hW:Below w.heap.size w W) (hN:RNetAt lo W n g1 g2 g3)=>law10_some n (some ⟨g1,0,none⟩) (some ⟨g2,0,none⟩) (some ⟨g3,0,none⟩) (n.ports.length+1) (n.tables.length+1) (n.guards.length+1) p h hops x W (hG.below hW) hN.held.plain hsz.szd hh (by omega)
 have hmk:=fun (W:World) g1 g2 g3 lo B1 B2 B3 d1 d2 d3 (hW:Below w.heap.size w W) (hN:RNetAt lo W n g1 g2 g3) (hK:HNet lo W n [.int .i64 n.bits,.slice B1 n.ports.length d1,.slice B2 n.tables.length d2,.slice B3 n.guards.length d3])=>ref9_Marked lo n g1 g2 g3 B1 B2 B3 d1 d2 d3 A1 A2 A3 c1 c2 c3 W hsz hN (hnet_views hK).1 (hnet_views hK).2.1 (hnet_views hK).2.2 (hp1.more hW) (ht1.more hW) (hg1.more hW)
 have hkn:=fun (W:World) (hW:Below w.heap.size w W)=>law10_known W (hG.below hW)
 unfold RoomyEnd at hrm;obtain⟨np,hnp⟩:=nM n.ports.length;obtain⟨nt,hnt⟩:=nM n.tables.length;obtain⟨ng,hng⟩:=nM n.guards.length;obtain⟨bt,hbt⟩:=nM n.bits;obtain⟨N,hN⟩:=nM w.heap.size;rw [hnp,hnt,hng,hbt,hN] at hrm hrp hst hmk;rw [hN] at hkn;obtain⟨W2,hW2⟩:=nM ((w.alloc (.cells #[.int .i64 bt,.slice A1 np c1,.slice A2 nt c2,.slice A3 ng c3] 26)).alloc (.cells #[.int .i64 p,.string h] 28));have hb2:Below N w W2:=by rw [← hW2,← hN];exact ((Below.refl _ _).alloc (Nat.le_refl _) _).alloc (by simp) _
 have hk0:Blk W2 N 26 #[.int .i64 bt,.slice A1 np c1,.slice A2 nt c2,.slice A3 ng c3]:=by rw [← hW2,← hN];exact (Blk.new _ _ _).alloc _
 have hk1:Blk W2 (N+1) 28 #[.int .i64 p,.string h]:=by rw [← hW2,← hN];exact blk_at9 (by simp)
 have m0:W2.cell? ⟨N,0,none⟩=some (.int .i64 bt):=hk0.cell 0;have m1:W2.cell? ⟨N,1,none⟩=some (.slice A1 np c1):=hk0.cell 1;have m2:W2.cell? ⟨N,2,none⟩=some (.slice A2 nt c2):=hk0.cell 2;have m3:W2.cell? ⟨N,3,none⟩=some (.slice A3 ng c3):=hk0.cell 3
 obtain⟨lk,hlk⟩:∃ z,((Sp.pathsV n p h hops).take kk).length=z:=⟨_,rfl⟩
 obtain⟨lm,hlm⟩:∃ z,((Sp.pathsV n p h hops).take mm).length=z:=⟨_,rfl⟩
 have HLK:=hid hlk;have HLM:=hid hlm;clear hlk hlm;have HN:=hid hN;have HWK:=hid hwk;have HWM:=hid hwm;have HK5:=hid hk5;have HM5:=hid hm5;have HPS:=hid hps;have HRM:=hid (hrm W2 hb2);have HRP:=hid hrp;have HST:=hid hst;have HMK:=hid hmk;have HKN:=hid hkn;have HB:=hid hb2;have HK0:=hid hk0;have HK1:=hid hk1;rw [hnp,hnt,hng,hbt];clear hnp hnt hng hbt hp1 ht1 hg1 hG hnr hsz hh hps hkk hk5 hmm hm5 hwk hwm hrm hrp hst hmk hkn hb2 hk0 hk1;go_enter Tryz.func5,Tryz.ntmps5;go_wp2_with fail;refine (HWK.out _).mono ?_;rintro e w3 ⟨rfl,hw⟩;rw [hw];clear hw;go_wp2_with fail;refine (HWM.out _).mono ?_;rintro e w3 ⟨rfl,hw⟩;rw [hw];clear hw;go_wp2_with fail;refine HRM.out.mono ?_;rintro e W3 ⟨lo,g1,g2,g3,B1,d1,B2,d2,B3,d3,_,rfl,hnet,hkept,hb3⟩;obtain⟨M,hM⟩:=nM W3.heap.size;obtain⟨W4,hW4⟩:=nM ((W3.alloc (.cells #[.int .i64 bt,.slice (some ⟨g1,0,none⟩) np (np+1),.slice (some ⟨g2,0,none⟩) nt (nt+1),.slice (some ⟨g3,0,none⟩) ng (ng+1)] 26)).alloc (.cells #[.int .i64 bt,.slice B1 np d1,.slice B2 nt d2,.slice B3 ng d3] 26));have hb34:Below M W3 W4:=by rw [← hW4,← hM];exact ((Below.refl _ _).alloc (Nat.le_refl _) _).alloc (by simp) _
 have hk4M:Blk W4 M 26 #[.int .i64 bt,.slice (some ⟨g1,0,none⟩) np (np+1),.slice (some ⟨g2,0,none⟩) nt (nt+1),.slice (some ⟨g3,0,none⟩) ng (ng+1)]:=by rw [← hW4,← hM];exact (Blk.new _ _ _).alloc _
 have hk4K:Blk W4 (M+1) 26 #[.int .i64 bt,.slice B1 np d1,.slice B2 nt d2,.slice B3 ng d3]:=by rw [← hW4,← hM];exact blk_at9 (by simp)
 have hb4:Below W2.heap.size W2 W4:=hb3.trans (by rw [← hM] at hb34;exact hb34.mono hb3.size);have hk40:=HK0.out.below hb4 HK0.out.lt;have hk41:=HK1.out.below hb4 HK1.out.lt;have hn4:=hnet.more (by rw [hM];exact hb34);have hkp4:=hkept.more (by rw [hM];exact hb34);have x0:W4.cell? ⟨M,0,none⟩=some (.int .i64 bt):=hk4M.cell 0;have x1:W4.cell? ⟨M,1,none⟩=some (.slice (some ⟨g1,0,none⟩) np (np+1)):=hk4M.cell 1;have x2:W4.cell? ⟨M,2,none⟩=some (.slice (some ⟨g2,0,none⟩) nt (nt+1)):=hk4M.cell 2;have x3:W4.cell? ⟨M,3,none⟩=some (.slice (some ⟨g3,0,none⟩) ng (ng+1)):=hk4M.cell 3;have y0:W4.cell? ⟨N+1,0,none⟩=some (.int .i64 p):=hk41.cell 0;have y1:W4.cell? ⟨N+1,1,none⟩=some (.string h):=hk41.cell 1;have HB4:=hid (show Below N w W4 from HB.out.trans (hb4.mono (Nat.le_of_lt HK0.out.lt)));have HN4:=hid hn4;have HP4:=hid hkp4;have HC4:=hid (HST.out W4 g1 g2 g3 lo kk HK5.out HB4.out hn4);have HK40:=hid hk40;have HK41:=hid hk41;have HK4M:=hid hk4M;have HK4K:=hid hk4K;clear hb3 hnet hkept hb34 hk4M hk4K hb4 hk40 hk41 hn4 hkp4 HRM HB HK0 HK1 m0 m1 m2 m3;go_wp2_with fail;refine HC4.out.mono ?_;rintro e W5 ⟨v5,xs5,rfl,hpt5,hmap5,hb5⟩;obtain⟨P5,u5,rfl,hlv5⟩:=pts_view hpt5;rw [hmap5] at hlv5 ⊢;rw [HLK.out];have HB5:=hid (show Below N w W5 from HB4.out.trans (hb5.mono (Nat.le_of_lt HK40.out.lt)));have HN5:=hid (HN4.out.more hb5);have HP5:=hid (HP4.out.more hb5);have hk50:=HK40.out.below hb5 HK40.out.lt;have hk51:=HK41.out.below hb5 HK41.out.lt;have hk5M:=HK4M.out.below hb5 HK4M.out.lt;have hk5K:=HK4K.out.below hb5 HK4K.out.lt;have u0:W5.cell? ⟨M,0,none⟩=some (.int .i64 bt):=hk5M.cell 0;have u1:W5.cell? ⟨M,1,none⟩=some (.slice (some ⟨g1,0,none⟩) np (np+1)):=hk5M.cell 1;have u2:W5.cell? ⟨M,2,none⟩=some (.slice (some ⟨g2,0,none⟩) nt (nt+1)):=hk5M.cell 2;have u3:W5.cell? ⟨M,3,none⟩=some (.slice (some ⟨g3,0,none⟩) ng (ng+1)):=hk5M.cell 3;have z0:W5.cell? ⟨N+1,0,none⟩=some (.int .i64 p):=hk51.cell 0;have z1:W5.cell? ⟨N+1,1,none⟩=some (.string h):=hk51.cell 1;have HV5:=hid hlv5;have HC5:=hid (HST.out W5 g1 g2 g3 lo mm HM5.out HB5.out HN5.out);have HK50:=hid hk50;have HK51:=hid hk51;have HK5M:=hid hk5M;have HK5K:=hid hk5K;clear hpt5 hmap5 hb5 hlv5 hk50 hk51 hk5M hk5K x0 x1 x2 x3 y0 y1 hM hW4 HB4 HN4 HP4 HK40 HK41 HK4M HK4K HC4;go_wp2_with fail;refine HC5.out.mono ?_;rintro e W6 ⟨v6,xs6,rfl,hpt6,hmap6,hb6⟩;obtain⟨P6,u6,rfl,hlv6⟩:=pts_view hpt6;rw [hmap6] at hlv6 ⊢;rw [HLM.out];have HV6a:=hid (lview_path_more HV5.out hb6);have HB6:=hid (show Below N w W6 from HB5.out.trans (hb6.mono (Nat.le_of_lt HK50.out.lt)));have HN6:=hid (HN5.out.more hb6);have HP6:=hid (HP5.out.more hb6);have hk60:=HK50.out.below hb6 HK50.out.lt;have hk61:=HK51.out.below hb6 HK51.out.lt;have hk6M:=HK5M.out.below hb6 HK5M.out.lt;have hk6K:=HK5K.out.below hb6 HK5K.out.lt;have x0:W6.cell? ⟨N,0,none⟩=some (.int .i64 bt):=hk60.cell 0;have x1:W6.cell? ⟨N,1,none⟩=some (.slice A1 np c1):=hk60.cell 1;have x2:W6.cell? ⟨N,2,none⟩=some (.slice A2 nt c2):=hk60.cell 2;have x3:W6.cell? ⟨N,3,none⟩=some (.slice A3 ng c3):=hk60.cell 3;have y0:W6.cell? ⟨N+1,0,none⟩=some (.int .i64 p):=hk61.cell 0;have y1:W6.cell? ⟨N+1,1,none⟩=some (.string h):=hk61.cell 1;have HV6b:=hid hlv6;have HC6:=hid (HRP.out W6 kk HK5.out HB6.out);have HK60:=hid hk60;have HK61:=hid hk61;have HK6M:=hid hk6M;have HK6K:=hid hk6K;clear hpt6 hmap6 hb6 hlv6 hk60 hk61 hk6M hk6K u0 u1 u2 u3 z0 z1 HB5 HN5 HP5 HK50 HK51 HK5M HK5K HC5 HV5;go_wp2_with fail;refine HC6.out.mono ?_;rintro e W7 ⟨v7,rfl,hpl7,hb7⟩;rw [Int.toNat_natCast] at hpl7;obtain⟨P7,u7,rfl,hlv7⟩:=pthl_view hpl7
 have hc7:=(law10_paths P5 P7 u5 u7 ((Sp.pathsV n p h hops).take kk) W7 (lview_path_more HV6a.out hb7) hlv7 (by rw [List.length_take];have:=HK5.out;omega) (fun q hq=>HPS.out q (List.mem_of_mem_take hq)))
 rw [HLK.out] at hc7 ⊢;have HC7:=hid hc7;clear hc7;have HB7:=hid (show Below N w W7 from HB6.out.trans (hb7.mono (Nat.le_of_lt HK60.out.lt)));have HN7:=hid (HN6.out.more hb7);have HP7:=hid (HP6.out.more hb7);have hk70:=HK60.out.below hb7 HK60.out.lt;have hk71:=HK61.out.below hb7 HK61.out.lt;have hk7M:=HK6M.out.below hb7 HK6M.out.lt;have hk7K:=HK6K.out.below hb7 HK6K.out.lt;have HV7b:=hid (lview_path_more HV6b.out hb7);have HK70:=hid hk70;have HK71:=hid hk71;have HK7M:=hid hk7M;have HK7K:=hid hk7K;clear hpl7 hlv7 hb7 hk70 hk71 hk7M hk7K x0 x1 x2 x3 y0 y1 HB6 HN6 HP6 HK60 HK61 HK6M HK6K HC6 HV6a HV6b;go_wp2_with fail;refine HC7.out.mono ?_;rintro e W8 ⟨rfl,hb8⟩;have HB8:=hid (show Below N w W8 from HB7.out.trans (hb8.mono (Nat.le_of_lt HK70.out.lt)));have HN8:=hid (HN7.out.more hb8);have HP8:=hid (HP7.out.more hb8);have hk80:=HK70.out.below hb8 HK70.out.lt;have hk81:=HK71.out.below hb8 HK71.out.lt;have hk8M:=HK7M.out.below hb8 HK7M.out.lt;have hk8K:=HK7K.out.below hb8 HK7K.out.lt;have x0:W8.cell? ⟨N,0,none⟩=some (.int .i64 bt):=hk80.cell 0;have x1:W8.cell? ⟨N,1,none⟩=some (.slice A1 np c1):=hk80.cell 1;have x2:W8.cell? ⟨N,2,none⟩=some (.slice A2 nt c2):=hk80.cell 2;have x3:W8.cell? ⟨N,3,none⟩=some (.slice A3 ng c3):=hk80.cell 3;have y0:W8.cell? ⟨N+1,0,none⟩=some (.int .i64 p):=hk81.cell 0;have y1:W8.cell? ⟨N+1,1,none⟩=some (.string h):=hk81.cell 1;have HV8b:=hid (lview_path_more HV7b.out hb8);have HC8:=hid (HRP.out W8 mm HM5.out HB8.out);have HK80:=hid hk80;have HK81:=hid hk81;have HK8M:=hid hk8M;have HK8K:=hid hk8K;clear hb8 hk80 hk81 hk8M hk8K HB7 HN7 HP7 HK70 HK71 HK7M HK7K HC7 HV7b;go_wp2_with fail;refine HC8.out.mono ?_;rintro e W9 ⟨v9,rfl,hpl9,hb9⟩;rw [Int.toNat_natCast] at hpl9;obtain⟨P9,u9,rfl,hlv9⟩:=pthl_view hpl9
 have hc9:=(law10_paths P6 P9 u6 u9 ((Sp.pathsV n p h hops).take mm) W9 (lview_path_more HV8b.out hb9) hlv9 (by rw [List.length_take];have:=HM5.out;omega) (fun q hq=>HPS.out q (List.mem_of_mem_take hq)))
 rw [HLM.out] at hc9 ⊢;have HC9:=hid hc9;clear hc9;have HB9:=hid (show Below N w W9 from HB8.out.trans (hb9.mono (Nat.le_of_lt HK80.out.lt)));have HN9:=hid (HN8.out.more hb9);have HP9:=hid (HP8.out.more hb9);have hk90:=HK80.out.below hb9 HK80.out.lt;have hk91:=HK81.out.below hb9 HK81.out.lt;have hk9M:=HK8M.out.below hb9 HK8M.out.lt;have hk9K:=HK8K.out.below hb9 HK8K.out.lt;have HK90:=hid hk90;have HK91:=hid hk91;have HK9M:=hid hk9M;have HK9K:=hid hk9K;clear hpl9 hlv9 hb9 hk90 hk91 hk9M hk9K x0 x1 x2 x3 y0 y1 HB8 HN8 HP8 HK80 HK81 HK8M HK8K HC8 HV8b HRP HST;go_wp2_with fail;refine HC9.out.mono ?_;rintro e WA ⟨rfl,hbA⟩;have HBA:=hid (show Below N w WA from HB9.out.trans (hbA.mono (Nat.le_of_lt HK90.out.lt)));have HNA:=hid (HN9.out.more hbA);have HPA:=hid (HP9.out.more hbA);have hkA0:=HK90.out.below hbA HK90.out.lt;have hkA1:=HK91.out.below hbA HK91.out.lt;have hkAM:=HK9M.out.below hbA HK9M.out.lt;have hkAK:=HK9K.out.below hbA HK9K.out.lt;have x0:WA.cell? ⟨N,0,none⟩=some (.int .i64 bt):=hkA0.cell 0;have x1:WA.cell? ⟨N,1,none⟩=some (.slice A1 np c1):=hkA0.cell 1;have x2:WA.cell? ⟨N,2,none⟩=some (.slice A2 nt c2):=hkA0.cell 2;have x3:WA.cell? ⟨N,3,none⟩=some (.slice A3 ng c3):=hkA0.cell 3;have u0:WA.cell? ⟨M,0,none⟩=some (.int .i64 bt):=hkAM.cell 0;have u1:WA.cell? ⟨M,1,none⟩=some (.slice (some ⟨g1,0,none⟩) np (np+1)):=hkAM.cell 1;have u2:WA.cell? ⟨M,2,none⟩=some (.slice (some ⟨g2,0,none⟩) nt (nt+1)):=hkAM.cell 2;have u3:WA.cell? ⟨M,3,none⟩=some (.slice (some ⟨g3,0,none⟩) ng (ng+1)):=hkAM.cell 3;have v0:WA.cell? ⟨M+1,0,none⟩=some (.int .i64 bt):=hkAK.cell 0;have v1:WA.cell? ⟨M+1,1,none⟩=some (.slice B1 np d1):=hkAK.cell 1;have v2:WA.cell? ⟨M+1,2,none⟩=some (.slice B2 nt d2):=hkAK.cell 2;have v3:WA.cell? ⟨M+1,3,none⟩=some (.slice B3 ng d3):=hkAK.cell 3;have HCA:=hid (HMK.out WA g1 g2 g3 lo B1 B2 B3 d1 d2 d3 HBA.out HNA.out HPA.out);have HLA:=hid hkA0.lt;clear hbA hkA0 hkA1 hkAM hkAK HB9 HN9 HP9 HK90 HK91 HK9M HK9K HC9 HMK;go_wp2_with fail;refine HCA.out.mono ?_;rintro e WB ⟨rfl,hbB⟩;have HBB:=hid (show Below N w WB from HBA.out.trans (hbB.mono (Nat.le_of_lt HLA.out)));clear hbB x0 x1 x2 x3 u0 u1 u2 u3 v0 v1 v2 v3;go_wp2_with fail;refine (HKN.out WB HBB.out).mono ?_;rintro e WC ⟨rfl,hbC⟩;have HBC:=hid (show Below N w WC from HBB.out.trans (hbC.mono (by have:=HBB.out.size;rw [HN.out] at this;exact this)));clear hbC;go_wp2_with fail;go_ret;exact⟨rfl,by rw [HN.out];exact HBC.out⟩
end Go.Proofs.YthnamoedpnknmaaGreatDoor
