/-
 THE WALK of reachref10.Paths (chapter 10): the first most of the whole paths.
-/
import Derived.Test.YthnamoedpnknmaaGreatDoorCm
set_option linter.unusedVariables false
set_option linter.unusedSimpArgs false
set_option maxRecDepth 100000
set_option maxHeartbeats 8000000
namespace Go.Proofs.YthnamoedpnknmaaGreatDoor
open Go.RowKit
open Go.Lib (hid)
namespace Sp
theorem refFirst_ok {n:Net} {s:Nat} {h:ByteArray} {hops:Int} (hn:NetOk n) (hs:StateOk n (s:Int) h) (h0:0≤hops):POk n hops (refFirst n (s:Int) h)∧needP n hops (refFirst n (s:Int) h)≤hops.toNat+2:=by
 have hf:=POk.first hs h0
 obtain⟨q,hq,hqi⟩:=hf.port;have hl1:(lastP ⟨[(s:Int)],[],h⟩).toNat=s:=Int.toNat_natCast s;rw [hl1] at hq hqi;have h2:=needP_first n (s:Int) h hops
 cases hin:q.inn with
 | true=>
  rw [refFirst_in hn hq hin];exact⟨hf,h2⟩
 | false=>
  by_cases hd:0≤q.dst
  ·have hmv:movesV n s h=[⟨-1,-1,q.dst,h⟩]:=by rw [movesV_link hq hin,if_pos hd]
   have hmm:(⟨-1,-1,q.dst,h⟩:Mv) ∈ movesV n (lastP ⟨[(s:Int)],[],h⟩).toNat h:=by rw [hl1,hmv];exact List.mem_cons_self
   have hlf:leafB n hops ⟨[(s:Int)],[],h⟩=false:=by
    unfold leafB;rw [hl1,hmv,hqi,hin];rfl
   have hnx:=hf.next hn hlf hmm
   have hfirst:refFirst n (s:Int) h=onP ⟨[(s:Int)],[],h⟩ ⟨-1,-1,q.dst,h⟩:=by
    unfold refFirst dstOf onP;rw [Int.toNat_natCast,hq];simp only [ifL_no (show ¬ (0:Int)≤-1 by decide),ifL_yes hd,List.append_nil,List.nil_append]
   rw [hfirst];exact⟨hnx.1,by have:=hnx.2;omega⟩
  ·have hd1:q.dst=-1:=by
    rcases (hn.ports _ q hq).dst with e | ⟨_,e,_⟩
    ·exact e
    ·exact absurd e hd
   have hfirst:refFirst n (s:Int) h=⟨[(s:Int)],[],h⟩:=by
    unfold refFirst dstOf;rw [Int.toNat_natCast,hq];simp only [hd1];rfl
   rw [hfirst];exact⟨hf,h2⟩
end Sp
def PathsEnd (n:Sp.Net) (p:Int) (h:ByteArray) (hops most:Int) (w:World) (r:Ending) (w':World):Prop:=∃ v,r=.returned v∧PthL w.heap.size w' v ((Sp.pathsV n p h hops).take most.toNat)∧Below w.heap.size w w'
theorem PathsEnd.none {n:Sp.Net} {p:Int} {h:ByteArray} {hops most:Int} {w w':World} (he:(Sp.pathsV n p h hops).take most.toNat=[]) (hb:Below w.heap.size w w'):PathsEnd n p h hops most w (.returned (.slice none 0 0)) w':=
 ⟨_,rfl,⟨[],OwnL.nil _ _ _ _,by rw [he];rfl,fun i q cs hq=>by rw [he] at hq;simp at hq⟩,hb⟩
theorem ref10_Paths (n:Sp.Net) (A1 A2 A3:Option Addr) (c1 c2 c3:Nat) (p:Int) (h:ByteArray) (hops most:Int) (w:World) (hpv:PV w A1 n.ports) (htv:TTV w A2 n.tables) (hgv:GGV w A3 n.guards) (hsz:Sp.Szd n) (hst:Sp.Szt n) (hh:h.size≤9223372036854775807) (hmo:most≤5000):
  Calls Tryz.prog 23 #[.agg #[.int .i64 n.bits,.slice A1 n.ports.length c1,.slice A2 n.tables.length c2,.slice A3 n.guards.length c3],.agg #[.int .i64 p,.string h],.int .i64 hops,.int .i64 most] w (PathsEnd n p h hops most w):=by
 have hck:=fun W (hW:Below w.heap.size w W)=>ref10_check n A1 A2 A3 c1 c2 c3 p h W (hpv.more hW) (htv.more hW) (hgv.more hW) hsz hst hh
 have hgood:Sp.checkE n p h=0→0≤hops→hops≤64→∃ k:Nat,p=k∧(∀ W,Below w.heap.size w W→∃ q:Sp.Port,Sp.refFirst n (k:Int) h=⟨[(k:Int)] ++ Sp.ifL q.dst,[],h⟩∧Calls Tryz.prog 48 #[.agg #[.int .i64 n.bits,.slice A1 n.ports.length c1,.slice A2 n.tables.length c2,.slice A3 n.guards.length c3],.agg #[.int .i64 (k:Int),.string h]] W fun r w'=>∃ v,r=.returned (.agg #[v,.slice none 0 0,.string h])∧InR w' W.heap.size v ([(k:Int)] ++ Sp.ifL q.dst)∧Below W.heap.size W w') ∧
   (∀ (v1 v2:Value) (W:World),Below w.heap.size w W→PathO W (Sp.refFirst n (k:Int) h) [v1,v2,.string h]→Calls Tryz.prog 47 #[.agg #[.int .i64 n.bits,.slice A1 n.ports.length c1,.slice A2 n.tables.length c2,.slice A3 n.guards.length c3],.agg #[v1,v2,.string h],.int .i64 hops,.int .i64 most,.slice none 0 0] W (WholeEnd w.heap.size most (Sp.pathsV n p h hops) (.slice none 0 0) [] W)):=fun he h0 h64=>by
  obtain⟨hok,hso⟩:=Sp.checkE_zero he
  obtain⟨k,rfl⟩:∃ k:Nat,p=k:=⟨p.toNat,by have:=hso.port.1;omega⟩
  refine⟨k,rfl,fun W hW=>?_,fun v1 v2 W hW hO=>?_⟩
  ·obtain⟨q,hq⟩:=Sp.port_at hso;rw [Int.toNat_natCast] at hq;refine⟨q,?_,ref10_first n A1 A2 A3 c1 c2 c3 k h q W (hpv.more hW) hq⟩;unfold Sp.refFirst Sp.dstOf;rw [Int.toNat_natCast,hq]
  ·have hf:=Sp.refFirst_ok (hops:=hops) hok hso h0;have:=ref10_whole n A1 A2 A3 c1 c2 c3 hops most w hpv htv hgv hok h64 hmo (hops.toNat+2) (Sp.refFirst n (k:Int) h) hf.1 hf.2 v1 v2 (.slice none 0 0) [] W hW hO ⟨[],OwnL.nil _ _ _ _,rfl,fun i q cs hq=>by simp at hq⟩ (by simp);rw [Sp.ref_paths ⟨he,h0,h64⟩] at this;exact this
 have hbad:¬ (Sp.checkE n p h=0∧0≤hops∧hops≤64)→Sp.pathsV n p h hops=[]:=fun hn=>by unfold Sp.pathsV;rw [if_neg hn]
 obtain⟨np,hnp⟩:=nM n.ports.length;obtain⟨nt,hnt⟩:=nM n.tables.length;obtain⟨ng,hng⟩:=nM n.guards.length;obtain⟨bt,hbt⟩:=nM n.bits;obtain⟨N,hN⟩:=nM w.heap.size;obtain⟨E,hE⟩:=nM (Sp.checkE n p h);rw [hnp,hnt,hng,hbt,hN] at hck hgood;rw [hE] at hck hgood hbad;rw [hnp,hnt,hng,hbt];obtain⟨W2,hW2⟩:=nM ((w.alloc (.cells #[.int .i64 bt,.slice A1 np c1,.slice A2 nt c2,.slice A3 ng c3] 26)).alloc (.cells #[.int .i64 p,.string h] 28));have hb2:Below N w W2:=by rw [← hW2,← hN];exact ((Below.refl _ _).alloc (Nat.le_refl _) _).alloc (by simp) _
 have hk0:Blk W2 N 26 #[.int .i64 bt,.slice A1 np c1,.slice A2 nt c2,.slice A3 ng c3]:=by rw [← hW2,← hN];exact (Blk.new _ _ _).alloc _
 have hk1:Blk W2 (N+1) 28 #[.int .i64 p,.string h]:=by rw [← hW2,← hN];exact blk_at9 (by simp)
 have n0:W2.cell? ⟨N,0,none⟩=some (.int .i64 bt):=hk0.cell 0;have n1:W2.cell? ⟨N,1,none⟩=some (.slice A1 np c1):=hk0.cell 1;have n2:W2.cell? ⟨N,2,none⟩=some (.slice A2 nt c2):=hk0.cell 2;have n3:W2.cell? ⟨N,3,none⟩=some (.slice A3 ng c3):=hk0.cell 3;have s0:W2.cell? ⟨N+1,0,none⟩=some (.int .i64 p):=hk1.cell 0;have s1:W2.cell? ⟨N+1,1,none⟩=some (.string h):=hk1.cell 1;have HN:=hid hN;have HCK:=hid (hck W2 hb2);have HGOOD:=hid hgood;have HBAD:=hid hbad;have HB:=hid hb2;have HK0:=hid hk0;have HK1:=hid hk1;clear hck hgood hbad hnp hnt hng hbt hE hpv htv hgv hsz hst hh hmo hb2 hk0 hk1;go_enter Tryz.func23,Tryz.ntmps23;go_wp2_with fail;refine HCK.out.mono ?_;rintro e W3 ⟨rfl,hb3⟩;have HB3:=hid (show Below N w W3 from HB.out.trans (hb3.mono (Nat.le_of_lt HK0.out.lt)));have HK30:=hid (HK0.out.below hb3 HK0.out.lt);have HK31:=hid (HK1.out.below hb3 HK1.out.lt);clear hb3 n0 n1 n2 n3 s0 s1 HB HK0 HK1 HCK hW2;by_cases hz:E=0
 rotate_left
 ·have te:(E != 0)=true:=bne_iff_ne.2 hz;have HE:=hid (show (Sp.pathsV n p h hops).take most.toNat=[] by rw [HBAD.out (fun hc=>hz hc.1)];simp);clear hz;go_wp2_with fail;go_ret;exact PathsEnd.none HE.out (by rw [HN.out];exact HB3.out)
 have te:(E != 0)=false:=by rw [hz];rfl
 by_cases h0:0≤hops
 rotate_left
 ·have t1:decide (hops<0)=true:=dT;have HE:=hid (show (Sp.pathsV n p h hops).take most.toNat=[] by rw [HBAD.out (fun hc=>h0 hc.2.1)];simp);clear hz h0;go_wp2_with fail;go_ret;exact PathsEnd.none HE.out (by rw [HN.out];exact HB3.out)
 have t1:decide (hops<0)=false:=dF;by_cases h64:hops≤64
 rotate_left
 ·have t2:decide (hops > 64)=true:=dT;have HE:=hid (show (Sp.pathsV n p h hops).take most.toNat=[] by rw [HBAD.out (fun hc=>h64 hc.2.2)];simp);clear hz h0 h64;go_wp2_with fail;go_ret;exact PathsEnd.none HE.out (by rw [HN.out];exact HB3.out)
 have t2:decide (hops > 64)=false:=dF;by_cases hm:1≤most
 rotate_left
 ·have t3:decide (most<1)=true:=dT;have HE:=hid (show (Sp.pathsV n p h hops).take most.toNat=[] by rw [show most.toNat=0 by omega];simp);clear hz h0 h64 hm;go_wp2_with fail;go_ret;exact PathsEnd.none HE.out (by rw [HN.out];exact HB3.out)
 have t3:decide (most<1)=false:=dF;obtain⟨k,rfl,hfi,hwh⟩:=HGOOD.out hz h0 h64;obtain⟨q,hrf,hfc⟩:=hfi W3.drew HB3.out.drew;have HM:=hid hm;have HRF:=hid hrf;have HFC:=hid hfc;have HWH:=hid hwh;clear hz h0 h64 hm hfi hwh hrf hfc HGOOD HBAD
 have hS0:(fun w':World=>w'.cell? ⟨N,0,none⟩=some (.int .i64 bt)∧w'.cell? ⟨N,1,none⟩=some (.slice A1 np c1)∧w'.cell? ⟨N,2,none⟩=some (.slice A2 nt c2)∧w'.cell? ⟨N,3,none⟩=some (.slice A3 ng c3)∧w'.cell? ⟨N+1,0,none⟩=some (.int .i64 (k:Int))∧w'.cell? ⟨N+1,1,none⟩=some (.string h)) W3.drew:=⟨HK30.out.cell 0,HK30.out.cell 1,HK30.out.cell 2,HK30.out.cell 3,HK31.out.cell 0,HK31.out.cell 1⟩
 go_wp2_with fail;refine wp_region_K 6 (fun w':World=>w'.cell? ⟨N,0,none⟩=some (.int .i64 bt)∧w'.cell? ⟨N,1,none⟩=some (.slice A1 np c1)∧w'.cell? ⟨N,2,none⟩=some (.slice A2 nt c2)∧w'.cell? ⟨N,3,none⟩=some (.slice A3 ng c3)∧w'.cell? ⟨N+1,0,none⟩=some (.int .i64 (k:Int))∧w'.cell? ⟨N+1,1,none⟩=some (.string h)) (by kernel_rfl) (fun hcl=>?_);have hS:=hS0;clear hS0;refine tk 0 hcl hS ?_;clear hcl;intro hcl;simp only [tkl];refine tk 1 hcl hS ?_;clear hcl;intro hcl;simp only [tkl];refine tk 2 hcl hS ?_;clear hcl;intro hcl;simp only [tkl];refine tk 4 hcl hS ?_;clear hcl;intro hcl;simp only [tkl];refine tk 5 hcl hS ?_;clear hcl;intro hcl;simp only [tkl];refine on1 3 hcl (fun K hK=>?_);go_simp;refine HFC.out.mono ?_;rintro e w5 ⟨v1,rfl,hv1,hb5⟩;obtain⟨Y1,y1,u1,rfl⟩:=in_slice hv1;have hw5:Below W3.heap.size W3 w5:=(Below.refl W3.heap.size W3).drew.trans hb5;have hb5N:Below N w w5:=HB3.out.trans (hw5.mono (Nat.le_of_lt HK30.out.lt))
 have hpo:PathO w5 (Sp.refFirst n (k:Int) h) [.slice Y1 y1 u1,.slice none 0 0,.string h]:=by
  rw [HRF.out];exact⟨_,_,rfl,in_mono hv1 (Nat.zero_le _),World.ownsRow_nil _ _ _ _⟩
 have HC:=hid (HWH.out _ _ w5 (by exact hb5N) hpo);have HB5:=hid hb5N
 have hS:(fun w':World=>w'.cell? ⟨N,0,none⟩=some (.int .i64 bt)∧w'.cell? ⟨N,1,none⟩=some (.slice A1 np c1)∧w'.cell? ⟨N,2,none⟩=some (.slice A2 nt c2)∧w'.cell? ⟨N,3,none⟩=some (.slice A3 ng c3)∧w'.cell? ⟨N+1,0,none⟩=some (.int .i64 (k:Int))∧w'.cell? ⟨N+1,1,none⟩=some (.string h)) w5:=⟨(hw5.cell (p:=⟨N,0,none⟩) HK30.out.lt).trans (HK30.out.cell 0),(hw5.cell (p:=⟨N,1,none⟩) HK30.out.lt).trans (HK30.out.cell 1),(hw5.cell (p:=⟨N,2,none⟩) HK30.out.lt).trans (HK30.out.cell 2),(hw5.cell (p:=⟨N,3,none⟩) HK30.out.lt).trans (HK30.out.cell 3),(hw5.cell (p:=⟨N+1,0,none⟩) HK31.out.lt).trans (HK31.out.cell 0),(hw5.cell (p:=⟨N+1,1,none⟩) HK31.out.lt).trans (HK31.out.cell 1)⟩
 refine hK.out _ _ (Or.inr hS) (fun hcl2=>?_);clear hK K hcl hv1 hb5 hw5 hb5N hpo hS;have hcl:=hcl2;clear hcl2;(try simp only [Act.put,pu]);refine on1 6 hcl (fun K hK=>?_);go_simp;refine HC.out.mono ?_;rintro e w7 ⟨v',rfl,hps,hgr,_⟩
 have hfin:PathsEnd n (k:Int) h hops most w (.returned v') w7:=by
  refine⟨v',rfl,?_,?_⟩
  ·have e1:Sp.takeL most ([]:List Sp.Path) (Sp.pathsV n (k:Int) h hops)=(Sp.pathsV n (k:Int) h hops).take most.toNat:=by
    unfold Sp.takeL;rw [if_neg (by have:=HM.out;simp;omega),List.nil_append]
   rw [← e1,HN.out];exact hps
  ·rw [HN.out];exact Below.grown HB5.out hgr (by have:=HB5.out.size;rw [HN.out] at this;exact this) (fun g hg=>by simp [Value.ownBlock] at hg)
 have HFIN:=hid hfin;obtain⟨A9,c9,rfl⟩:=hps.slice;refine hK.out _ _ (Or.inl (by kernel_rfl)) (fun hcl2=>?_);clear hK K hcl hps hgr hfin;have hcl:=hcl2;clear hcl2;(try simp only [Act.put,pu]);refine on1 7 hcl (fun K hK=>?_);go_simp;refine hK.out _ _ (Or.inl (by kernel_rfl)) (fun hcl2=>?_);clear hK K hcl hcl2;refine wpAnyK_done (by kernel_rfl) ?_ _;(try simp only [Act.put,pu]);go_wp2_with fail;go_ret;exact HFIN.out
end Go.Proofs.YthnamoedpnknmaaGreatDoor
