/-
 THE WALKS of reachref9's guardsRight, tablesRight (chapter 9).
-/
import Derived.Test.YthnamoedpnknmaaGreatDoorBm
import Derived.Test.YthnamoedpnknmaaGreatDoorMj
set_option linter.unusedVariables false
set_option linter.unusedSimpArgs false
set_option maxRecDepth 100000
set_option maxHeartbeats 8000000
namespace Go.Proofs.YthnamoedpnknmaaGreatDoor
open Go.RowKit
open Go.Lib (hid)
structure Sp.Szt (n:Sp.Net):Prop where
 guards:∀ g ∈ n.guards,g.length≤17592186044416∧∀ l ∈ g,l.cubes.length≤17592186044416
 tables:∀ t ∈ n.tables,t.length≤17592186044416∧∀ e ∈ t,e.ins.length≤17592186044416∧e.cubes.length≤17592186044416
theorem ref9_guardsRight (n:Sp.Net) (A1 A2 A3:Option Addr) (c1 c2 c3:Nat) (w:World) (hpv:PV w A1 n.ports) (htv:TTV w A2 n.tables) (hgv:GGV w A3 n.guards) (hsz:Sp.Szt n) (hmx:n.guards.length≤48):
  Calls Tryz.prog 83 #[.agg #[.int .i64 n.bits,.slice A1 n.ports.length c1,.slice A2 n.tables.length c2,.slice A3 n.guards.length c3]] w fun r w'=>r=.returned (.bool (Sp.tb (Sp.GuardsOk n)))∧Below w.heap.size w w':=by
 obtain⟨np,hnp⟩:=nM n.ports.length;obtain⟨nt,hnt⟩:=nM n.tables.length;obtain⟨ng,hng⟩:=nM n.guards.length;obtain⟨b,hbb⟩:=nM n.bits;obtain⟨P,hP⟩:=nM (Sp.tb (Sp.GuardsOk n));have hmm:ng≤48:=by rw [← hng];exact hmx
 rw [hP,hnp,hnt,hng,hbb];obtain⟨N,hN⟩:=nM w.heap.size;obtain⟨W1,hW1⟩:=nM (w.alloc (.cells #[.int .i64 b,.slice A1 np c1,.slice A2 nt c2,.slice A3 ng c3] 26));have hal:Below w.heap.size w W1:=by rw [← hW1];exact (Below.refl _ _).alloc (Nat.le_refl _) _
 have hk1:Blk W1 w.heap.size 26 #[.int .i64 b,.slice A1 np c1,.slice A2 nt c2,.slice A3 ng c3]:=by rw [← hW1];exact Blk.new w _ _
 have hsz1:N+1=W1.heap.size:=by rw [← hW1,World.size_alloc,hN]
 rw [hN] at hal hk1 ⊢;have HP:=hid hP;have HAL:=hid hal;have HK1:=hid hk1;have HPV:=hid hpv;have HTV:=hid htv;have HGV:=hid hgv;have HNP:=hid hnp;have HNT:=hid hnt;have HNG:=hid hng;have HBI:=hid hbb;have HN:=hid hN;have HNL:=hid (show n.guards.length=ng from hng);have HSZ:=hid hsz;have HS1:=hid hsz1;have HMM:=hid hmm;clear hpv htv hgv hsz hnp hnt hng hP hal hk1 hmx hbb hsz1;go_enter Tryz.func83,Tryz.ntmps83;go_wp2_with fail;clear hW1;go_loopw [3,4] (fun v3 v4 wr=>Below (N+1) W1 wr∧∃ i q:Nat,v4=.int .i64 (i:Int)∧v3=.int .i64 (q:Int)∧i≤ng∧q≤i * 17592186044416∧Hid (q=((n.guards.take i).map List.length).sum∧∀ (j:Nat) (g:List Sp.Guard),j<i→n.guards[j]?=some g→Sp.GuardOk n.bits g)) (fun _ v4 _=>ng - (intOf v4).toNat)
 case atStart=>exact⟨Below.refl _ _,0,0,rfl,rfl,Nat.zero_le _,by omega,hid ⟨by simp,fun j g hj=>by omega⟩⟩
 case round=>
  obtain⟨hb,i,q,rfl,rfl,hi,hq,hok⟩:=hrel;have hbw:Below N w wr:=HAL.out.trans (hb.mono (by omega));have HB:=hid hb;have HBW:=hid hbw;have i0:(0:Int)≤(i:Int):=by omega
  have n3:wr.cell? ⟨N,3,none⟩=some (.slice A3 ng c3):=(HK1.out.below hb (by omega)).cell 3;by_cases hlt:i<ng
  ·have q1:decide ((i:Int)<(ng:Int))=true:=dT;have q2:decide (i<ng)=true:=decide_eq_true hlt;have q3:(i:Int)<(ng:Int):=by omega
   obtain⟨g,hg0⟩:∃ g,n.guards[i]?=some g:=⟨_,List.getElem?_eq_getElem (by rw [HNL.out];exact hlt)⟩
   obtain⟨gb,go,Ag,cg,rfl,hgl,k0w,hgv2,_⟩:=HGV.out.at hg0;have hsg:=HSZ.out.guards g (List.mem_of_getElem? hg0);obtain⟨m,hm⟩:=nM g.length;rw [hm] at k0w hsg;rw [HN.out] at hgl;have hst:=Sp.sum_step (f:=List.length) hg0;rw [hm,← hok.out.1] at hst;(have z1:IntKind.i64.wrap ((i:Int)+1)=(i:Int)+1:=by have:=HMM.out;rw [IntKind.wrap_i64];omega);have HLT:=hid hlt;have HI:=hid (show i+1≤ng by omega);have HST:=hid hst;have HSG:=hid hsg;have HM:=hid hm;have HG0:=hid hg0;have HGV2:=hid hgv2;have HK0:=hid k0w;have HGL:=hid hgl;have HQ:=hid (show q≤844424930131968 by have:=HMM.out;omega);have HQI:=hid hq;clear hb hbw hi hlt hg0 hgv2 hsg hm hst hq k0w hgl;go_wp2_with fail;clear n3;go_loopw [3,5,6] (fun v3 v5 v6 wr=>Below (N+1) W1 wr∧∃ k s t:Nat,v6=.int .i64 (k:Int)∧v5=.int .i64 (s:Int)∧v3=.int .i64 (t:Int)∧t=q+k∧k≤m∧s≤64 * k∧Hid (s=((g.take k).map (fun l:Sp.Guard=>l.cubes.length)).sum∧∀ (j:Nat) (l:Sp.Guard),j<k→g[j]?=some l→Sp.CubesOk n.bits l.cubes)) (fun _ _ v6 _=>m - (intOf v6).toNat)
   case atStart=>exact⟨HB.out,0,0,q,rfl,rfl,rfl,rfl,Nat.zero_le _,by omega,hid ⟨by simp,fun j g hj=>by omega⟩⟩
   case round=>
    clear HB HBW;obtain⟨hb,k,s,t,rfl,rfl,rfl,htq,hk,hs,hall⟩:=hrel;have hbw:Below N w wr:=HAL.out.trans (hb.mono (by omega));have HB:=hid hb;have HBW:=hid hbw;(have kk0:(0:Int)≤(k:Int):=by omega);have n3:wr.cell? ⟨N,3,none⟩=some (.slice (some ⟨gb,go,none⟩) ng c3):=(HK1.out.below hb (by omega)).cell 3;have k0:wr.cell? ⟨gb,go+i,none⟩=some (.slice Ag m cg):=(hbw.cell (p:=⟨gb,go+i,none⟩) HGL.out).trans HK0.out;by_cases hkm:k<m
    ·have s1:decide ((k:Int)<(m:Int))=true:=dT;have s2:decide (k<m)=true:=decide_eq_true hkm;have s3:(k:Int)<(m:Int):=by omega
     obtain⟨l,hl⟩:∃ l,g[k]?=some l:=⟨_,List.getElem?_eq_getElem (by rw [HM.out];exact hkm)⟩
     obtain⟨gx,ox,Ax,cx,rfl,hgx,q0,q1,hsv,hlc⟩:=HGV2.out.at hl;rw [HN.out] at hgx;have hsl:=HSG.out.2 l (List.mem_of_getElem? hl);have hst:=Sp.sum_step (f:=fun l:Sp.Guard=>l.cubes.length) hl;rw [← hall.out.1] at hst;(have z3:IntKind.i64.wrap ((k:Int)+1)=(k:Int)+1:=by have:=HSG.out.1;rw [IntKind.wrap_i64];omega);(have z5:IntKind.i64.wrap ((t:Int)+1)=(t:Int)+1:=by have:=HSG.out.1;have:=HQ.out;rw [IntKind.wrap_i64];omega);have HKM:=hid (show k+1≤m by omega);have HTQ:=hid htq;obtain⟨nc,hnc⟩:=nM l.cubes.length;rw [hnc] at q1 hsl hlc;have q0:wr.cell? ⟨gx,ox+k * 2,none⟩=some (.bool l.permit):=(hbw.cell (p:=⟨gx,ox+k * 2,none⟩) hgx).trans q0;have q1:wr.cell? ⟨gx,ox+k * 2+1,none⟩=some (.slice Ax nc cx):=(hbw.cell (p:=⟨gx,ox+k * 2+1,none⟩) hgx).trans q1;have m0:wr.cell? ⟨N,0,none⟩=some (.int .i64 b):=(HK1.out.below hb (by omega)).cell 0;have hal2:Below (N+1) W1 (wr.alloc (.cells #[.bool l.permit,.slice Ax nc cx] 81)):=hb.alloc (by have:=hb.size;have:=HS1.out;omega) _;have HAL2:=hid hal2;have HALW:=hid (show Below N w (wr.alloc (.cells #[.bool l.permit,.slice Ax nc cx] 81)) from HAL.out.trans (hal2.mono (by omega)));have hln:N<wr.heap.size:=by have:=hb.size;have:=HS1.out;omega
     have hcall:∀ W,Below N w W→Calls Tryz.prog 95 #[.int .i64 b,.slice Ax nc cx,.int .i64 64] W fun r w'=>r=.returned (.bool (Sp.cubesT b l.cubes 64))∧w'=W:=fun W hW=>by
      rw [← hnc];exact ref9_cubesRight Ax cx b 64 l.cubes W (hsv.more (by rw [HN.out];exact hW)) (by rw [hnc];omega)
     (have hTy:Sp.cubesT b l.cubes 64=true↔Sp.CubesOk n.bits l.cubes:=by rw [cubesT_iff,HBI.out];exact and_congr (by omega) Iff.rfl);clear hal2 hsv;by_cases hy:Sp.CubesOk n.bits l.cubes
     ·rw [hTy.2 hy] at hcall;have HCALL:=hid hcall;(have hcb:nc≤64:=by rw [← hnc];exact hy.1);have z4:IntKind.i64.wrap ((s:Int)+(nc:Int))=(s:Int)+(nc:Int):=by have:=HSG.out.1;rw [IntKind.wrap_i64];omega
      have HALL:Hid (s+nc=((g.take (k+1)).map (fun l:Sp.Guard=>l.cubes.length)).sum∧∀ (j:Nat) (l:Sp.Guard),j<k+1→g[j]?=some l→Sp.CubesOk n.bits l.cubes):=hid ⟨by rw [← hnc];exact hst.symm,by
       intro j x hj hx;by_cases hjk:j=k
       ·subst hjk;rw [hl] at hx;(injection hx with hx);rw [← hx];exact hy
       ·exact hall.out.2 j x (by omega) hx⟩
      have HS5:=hid (show s+nc≤64 * (k+1) by omega);clear hb hbw hk hkm hl hsl hst hall hs htq hnc hy hlc hgx hcall hTy;go_wp2_with fail;refine (HCALL.out _ HALW.out).mono ?_;rintro e wb ⟨rfl,hwe⟩;rw [hwe];clear hwe wb;go_wp2_with fail;go_roundw
      case rel=>exact⟨HAL2.out,k+1,s+nc,t+1,by rfl,by go_num,by rfl,by have:=HTQ.out;omega,HKM.out,HS5.out,HALL⟩
      case measure=>have:=HKM.out;simp [intOf];omega
     ·rw [show Sp.cubesT b l.cubes 64=false by cases hc:Sp.cubesT b l.cubes 64 with | false=>rfl | true=>exact absurd (hTy.1 hc) hy] at hcall;have HCALL:=hid hcall
      have HF:Hid (P=false):=hid (by
       rw [← HP.out];refine Sp.tb_no (fun h=>hy ?_);have h0:Sp.GuardOk n.bits g:=h.2 g (List.mem_of_getElem? HG0.out)
       exact h0.2 l (List.mem_of_getElem? hl))
      clear hb hbw hk hkm hl hsl hst hall hs htq hnc hy hlc hgx hcall hTy;go_wp2_with fail;refine (HCALL.out _ HALW.out).mono ?_;rintro e wb ⟨rfl,hwe⟩;rw [hwe];clear hwe wb;go_wp2_with fail;go_ret;exact⟨by rw [HF.out];rfl,HALW.out⟩
    ·have s1:decide ((k:Int)<(m:Int))=false:=dF;have s2:decide (k<m)=false:=decide_eq_false hkm;(have hkm2:k=m:=by omega);by_cases hbig:512<s
     ·have u1:decide ((s:Int) > 512)=true:=dT
      have HF:Hid (P=false):=hid (by
       rw [← HP.out];refine Sp.tb_no (fun h=>?_);have h0:Sp.GuardOk n.bits g:=h.2 g (List.mem_of_getElem? HG0.out);have h1:=h0.1;have h2:=hall.out.1;rw [hkm2,← HM.out,List.take_length] at h2
       omega)
      clear hb hbw hk hkm hall hkm2 hs hbig htq;go_wp2_with fail;go_ret;exact⟨by rw [HF.out];rfl,HBW.out⟩
     have u1:decide ((s:Int) > 512)=false:=dF
     have HOK:Hid (t=((n.guards.take (i+1)).map List.length).sum∧∀ (j:Nat) (g:List Sp.Guard),j<i+1→n.guards[j]?=some g→Sp.GuardOk n.bits g):=hid ⟨by rw [HST.out];omega,by
      intro j x hj hx;by_cases hji:j=i
      ·subst hji;rw [HG0.out] at hx;(injection hx with hx);subst hx;refine⟨?_,fun l hl=>?_⟩
       ·have h1:=hall.out.1;rw [hkm2,← HM.out,List.take_length] at h1;rw [← h1];omega
       ·obtain⟨y,hy⟩:=List.mem_iff_getElem?.1 hl;exact hall.out.2 y l (by have:=(List.getElem?_eq_some_iff.1 hy).1;rw [HM.out] at this;omega) hy
      ·exact hok.out.2 j x (by omega) hx⟩
     have HTI:=hid (show t≤(i+1) * 17592186044416 by have:=HSG.out.1;have:=HQI.out;omega);clear hb hbw hk hkm hall hkm2 hs hbig htq;go_wp2_with fail;go_roundw
     case rel=>exact⟨HB.out,i+1,t,by rfl,by rfl,HI.out,HTI.out,HOK⟩
     case measure=>have:=HI.out;simp [intOf];omega
  ·have q1:decide ((i:Int)<(ng:Int))=false:=dF;have q2:decide (i<ng)=false:=decide_eq_false hlt;by_cases hql:q≤64
   ·have r1:decide ((q:Int)≤64)=true:=dT
    have HT:Hid (P=true):=hid (by
     rw [← HP.out];refine Sp.tb_yes ⟨?_,fun g hg=>by obtain⟨j,hj⟩:=List.mem_iff_getElem?.1 hg;exact hok.out.2 j g (by have:=(List.getElem?_eq_some_iff.1 hj).1;rw [HNL.out] at this;omega) hj⟩;have h1:=hok.out.1;(have h2:i=n.guards.length:=by rw [HNL.out];omega);rw [h2,List.take_length] at h1;rw [← h1]
     exact hql)
    clear hb hbw hi hlt hok hql hq;go_wp2_with fail;go_ret;exact⟨by rw [HT.out];rfl,HBW.out⟩
   ·have r1:decide ((q:Int)≤64)=false:=dF
    have HT:Hid (P=false):=hid (by
     rw [← HP.out];refine Sp.tb_no (fun h=>hql ?_);have h1:=hok.out.1;(have h2:i=n.guards.length:=by rw [HNL.out];omega);rw [h2,List.take_length] at h1;rw [h1]
     exact h.1)
    clear hb hbw hi hlt hok hql hq;go_wp2_with fail;go_ret;exact⟨by rw [HT.out];rfl,HBW.out⟩
theorem ref9_tablesRight (n:Sp.Net) (A1 A2 A3:Option Addr) (c1 c2 c3:Nat) (w:World) (hpv:PV w A1 n.ports) (htv:TTV w A2 n.tables) (hgv:GGV w A3 n.guards) (hsz:Sp.Szt n) (hmx:n.tables.length≤16):
  Calls Tryz.prog 84 #[.agg #[.int .i64 n.bits,.slice A1 n.ports.length c1,.slice A2 n.tables.length c2,.slice A3 n.guards.length c3]] w fun r w'=>r=.returned (.bool (Sp.tb (Sp.TablesOk n)))∧Below w.heap.size w w':=by
 obtain⟨np,hnp⟩:=nM n.ports.length;obtain⟨nt,hnt⟩:=nM n.tables.length;obtain⟨ng,hng⟩:=nM n.guards.length;obtain⟨b,hbb⟩:=nM n.bits;obtain⟨P,hP⟩:=nM (Sp.tb (Sp.TablesOk n));have hmm:nt≤16:=by rw [← hnt];exact hmx
 rw [hP,hnp,hnt,hng,hbb];obtain⟨N,hN⟩:=nM w.heap.size;obtain⟨W1,hW1⟩:=nM (w.alloc (.cells #[.int .i64 b,.slice A1 np c1,.slice A2 nt c2,.slice A3 ng c3] 26));have hal:Below w.heap.size w W1:=by rw [← hW1];exact (Below.refl _ _).alloc (Nat.le_refl _) _
 have hk1:Blk W1 w.heap.size 26 #[.int .i64 b,.slice A1 np c1,.slice A2 nt c2,.slice A3 ng c3]:=by rw [← hW1];exact Blk.new w _ _
 have hsz1:N+1=W1.heap.size:=by rw [← hW1,World.size_alloc,hN]
 rw [hN] at hal hk1 ⊢;have HP:=hid hP;have HAL:=hid hal;have HK1:=hid hk1;have HPV:=hid hpv;have HTV:=hid htv;have HGV:=hid hgv;have HNP:=hid hnp;have HNT:=hid hnt;have HNG:=hid hng;have HBI:=hid hbb;have HN:=hid hN;have HNL:=hid (show n.tables.length=nt from hnt);have HSZ:=hid hsz;have HS1:=hid hsz1;have HMM:=hid hmm;clear hpv htv hgv hsz hnp hnt hng hP hal hk1 hmx hbb hsz1;go_enter Tryz.func84,Tryz.ntmps84;go_wp2_with fail;clear hW1;go_loopw [3,4] (fun v3 v4 wr=>Below (N+1) W1 wr∧∃ i q:Nat,v4=.int .i64 (i:Int)∧v3=.int .i64 (q:Int)∧i≤nt∧q≤i * 17592186044416∧Hid (q=((n.tables.take i).map List.length).sum∧∀ (j:Nat) (g:List Sp.Entry),j<i→n.tables[j]?=some g→Sp.TableOk n (j:Int) g)) (fun _ v4 _=>nt - (intOf v4).toNat)
 case atStart=>exact⟨Below.refl _ _,0,0,rfl,rfl,Nat.zero_le _,by omega,hid ⟨by simp,fun j g hj=>by omega⟩⟩
 case round=>
  obtain⟨hb,i,q,rfl,rfl,hi,hq,hok⟩:=hrel;have hbw:Below N w wr:=HAL.out.trans (hb.mono (by omega));have HB:=hid hb;have HBW:=hid hbw;have i0:(0:Int)≤(i:Int):=by omega
  have n3:wr.cell? ⟨N,2,none⟩=some (.slice A2 nt c2):=(HK1.out.below hb (by omega)).cell 2;by_cases hlt:i<nt
  ·have q1:decide ((i:Int)<(nt:Int))=true:=dT;have q2:decide (i<nt)=true:=decide_eq_true hlt;have q3:(i:Int)<(nt:Int):=by omega
   obtain⟨g,hg0⟩:∃ g,n.tables[i]?=some g:=⟨_,List.getElem?_eq_getElem (by rw [HNL.out];exact hlt)⟩
   obtain⟨gb,go,Ag,cg,rfl,hgl,k0w,hgv2,_⟩:=HTV.out.at hg0;have hsg:=HSZ.out.tables g (List.mem_of_getElem? hg0);obtain⟨m,hm⟩:=nM g.length;rw [hm] at k0w hsg;rw [HN.out] at hgl;have hst:=Sp.sum_step (f:=List.length) hg0;rw [hm,← hok.out.1] at hst;(have z1:IntKind.i64.wrap ((i:Int)+1)=(i:Int)+1:=by have:=HMM.out;rw [IntKind.wrap_i64];omega);have HLT:=hid hlt;have HI:=hid (show i+1≤nt by omega);have HST:=hid hst;have HSG:=hid hsg;have HM:=hid hm;have HG0:=hid hg0;have HGV2:=hid hgv2;have HK0:=hid k0w;have HGL:=hid hgl;have HQ:=hid (show q≤844424930131968 by have:=HMM.out;omega);have HQI:=hid hq;clear hb hbw hi hlt hg0 hgv2 hsg hm hst hq k0w hgl;go_wp2_with fail;clear n3;go_loopw [3,5,6] (fun v3 v5 v6 wr=>Below (N+1) W1 wr∧∃ k s t:Nat,v6=.int .i64 (k:Int)∧v5=.int .i64 (s:Int)∧v3=.int .i64 (t:Int)∧t=q+k∧k≤m∧s≤64 * k∧Hid (s=((g.take k).map (fun l:Sp.Entry=>l.cubes.length)).sum∧∀ (j:Nat) (l:Sp.Entry),j<k→g[j]?=some l→Sp.EntryOk n (i:Int) l)) (fun _ _ v6 _=>m - (intOf v6).toNat)
   case atStart=>exact⟨HB.out,0,0,q,rfl,rfl,rfl,rfl,Nat.zero_le _,by omega,hid ⟨by simp,fun j g hj=>by omega⟩⟩
   case round=>
    clear HB HBW;obtain⟨hb,k,s,t,rfl,rfl,rfl,htq,hk,hs,hall⟩:=hrel;have hbw:Below N w wr:=HAL.out.trans (hb.mono (by omega));have HB:=hid hb;have HBW:=hid hbw;(have kk0:(0:Int)≤(k:Int):=by omega);have n3:wr.cell? ⟨N,2,none⟩=some (.slice (some ⟨gb,go,none⟩) nt c2):=(HK1.out.below hb (by omega)).cell 2;have k0:wr.cell? ⟨gb,go+i,none⟩=some (.slice Ag m cg):=(hbw.cell (p:=⟨gb,go+i,none⟩) HGL.out).trans HK0.out;by_cases hkm:k<m
    ·have s1:decide ((k:Int)<(m:Int))=true:=dT;have s2:decide (k<m)=true:=decide_eq_true hkm;have s3:(k:Int)<(m:Int):=by omega
     obtain⟨l,hl⟩:∃ l,g[k]?=some l:=⟨_,List.getElem?_eq_getElem (by rw [HM.out];exact hkm)⟩
     obtain⟨gx,ox,X1,x1,Ax,cx,X3,x3,rfl,hgx,q0,q1,q2,q3,q4,hiv,hsv,hov,hx1,hlc,hx3⟩:=HGV2.out.at hl;rw [HN.out] at hgx;have hsl:=HSG.out.2 l (List.mem_of_getElem? hl);have hst:=Sp.sum_step (f:=fun l:Sp.Entry=>l.cubes.length) hl;rw [← hall.out.1] at hst;(have z3:IntKind.i64.wrap ((k:Int)+1)=(k:Int)+1:=by have:=HSG.out.1;rw [IntKind.wrap_i64];omega);(have z5:IntKind.i64.wrap ((t:Int)+1)=(t:Int)+1:=by have:=HSG.out.1;have:=HQ.out;rw [IntKind.wrap_i64];omega);have HKM:=hid (show k+1≤m by omega);have HTQ:=hid htq;obtain⟨nc,hnc⟩:=nM l.cubes.length;have HSK:=hid hs;rw [hnc] at q2 hlc
     have hall4:∀ W',Below (N+1) W1 W'→(fun w':World=>w'.cell? ⟨N,0,none⟩=some (.int .i64 b)∧w'.cell? ⟨N,1,none⟩=some (.slice A1 np c1)∧w'.cell? ⟨N,2,none⟩=some (.slice (some ⟨gb,go,none⟩) nt c2)∧w'.cell? ⟨N,3,none⟩=some (.slice A3 ng c3)∧w'.cell? ⟨gb,go+i,none⟩=some (.slice (some ⟨gx,ox,none⟩) m cg)∧w'.cell? ⟨gx,ox+k * 5,none⟩=some (.string l.name)∧w'.cell? ⟨gx,ox+k * 5+1,none⟩=some (.slice X1 l.ins.length x1)∧w'.cell? ⟨gx,ox+k * 5+2,none⟩=some (.slice Ax nc cx)∧w'.cell? ⟨gx,ox+k * 5+3,none⟩=some (.string l.write)∧w'.cell? ⟨gx,ox+k * 5+4,none⟩=some (.slice X3 l.outs.length x3)) W':=fun W' hb=>by
      have hbw:Below N w W':=HAL.out.trans (hb.mono (by omega));exact⟨(HK1.out.below hb (by omega)).cell 0,(HK1.out.below hb (by omega)).cell 1,(HK1.out.below hb (by omega)).cell 2,(HK1.out.below hb (by omega)).cell 3,(hbw.cell (p:=⟨gb,go+i,none⟩) HGL.out).trans HK0.out,(hbw.cell (p:=⟨gx,ox+k * 5,none⟩) hgx).trans q0,(hbw.cell (p:=⟨gx,ox+k * 5+1,none⟩) hgx).trans q1,(hbw.cell (p:=⟨gx,ox+k * 5+2,none⟩) hgx).trans q2,(hbw.cell (p:=⟨gx,ox+k * 5+3,none⟩) hgx).trans q3,(hbw.cell (p:=⟨gx,ox+k * 5+4,none⟩) hgx).trans q4⟩
     have HS4:=hid hall4
     have hcall:∀ W,Below N w W→Calls Tryz.prog 96 #[.agg #[.int .i64 b,.slice A1 np c1,.slice (some ⟨gb,go,none⟩) nt c2,.slice A3 ng c3],.int .i64 (i:Int),.agg #[.string l.name,.slice X1 l.ins.length x1,.slice Ax nc cx,.string l.write,.slice X3 l.outs.length x3]] W fun r w'=>r=.returned (.bool (Sp.tb (Sp.EntryOk n (i:Int) l)))∧Below W.heap.size W w':=fun W hW=>by
      rw [← HN.out] at hW;have hx:=ref9_entryRight n A1 (some ⟨gb,go,none⟩) A3 c1 c2 c3 i l X1 Ax X3 x1 cx x3 W (HPV.out.more hW) (hiv.more hW) (hsv.more hW) (hov.more hW) (by have:=hsl.1;omega) (by have:=hsl.2;omega);rw [HNP.out,HNT.out,HNG.out,HBI.out,hnc] at hx;exact hx
     obtain⟨T,hT⟩:=nM (Sp.tb (Sp.EntryOk n (i:Int) l));simp only [hT] at hcall;have HCALL:=hid hcall;have HT:=hid hT;have HL:=hid hl;have HSTI:=hid hst;have HNC:=hid hnc;clear hall4 hcall hiv hsv hov hT hb hbw hk hkm hsl hs htq hx1 hlc hx3 q0 q1 q2 q3 q4 hgx n3 k0 hl hst hnc;have hS0:=HS4.out _ HB.out;have n3:=hS0.2.2.1;have k0:=hS0.2.2.2.2.1;clear hS0;go_wp2_with fail;clear n3 k0;refine wp_region_K 11 (fun w'=>w'.cell? ⟨N,0,none⟩=some (.int .i64 b)∧w'.cell? ⟨N,1,none⟩=some (.slice A1 np c1)∧w'.cell? ⟨N,2,none⟩=some (.slice (some ⟨gb,go,none⟩) nt c2)∧w'.cell? ⟨N,3,none⟩=some (.slice A3 ng c3)∧w'.cell? ⟨gb,go+i,none⟩=some (.slice (some ⟨gx,ox,none⟩) m cg)∧w'.cell? ⟨gx,ox+k * 5,none⟩=some (.string l.name)∧w'.cell? ⟨gx,ox+k * 5+1,none⟩=some (.slice X1 l.ins.length x1)∧w'.cell? ⟨gx,ox+k * 5+2,none⟩=some (.slice Ax nc cx)∧w'.cell? ⟨gx,ox+k * 5+3,none⟩=some (.string l.write)∧w'.cell? ⟨gx,ox+k * 5+4,none⟩=some (.slice X3 l.outs.length x3)) (by kernel_rfl) (fun hcl=>?_);refine mS (HS4.out _ HB.out.drew) (fun hS=>?_);refine tk 0 hcl hS ?_;clear hcl;intro hcl;simp only [tkl];refine tk 1 hcl hS ?_;clear hcl;intro hcl;simp only [tkl];refine tk 2 hcl hS ?_;clear hcl;intro hcl;simp only [tkl];refine tk 3 hcl hS ?_;clear hcl;intro hcl;simp only [tkl];refine tk 4 hcl hS ?_;clear hcl;intro hcl;simp only [tkl];refine tk 5 hcl hS ?_;clear hcl;intro hcl;simp only [tkl];refine tk 6 hcl hS ?_;clear hcl;intro hcl;simp only [tkl];refine tk 7 hcl hS ?_;clear hcl;intro hcl;simp only [tkl];refine tk 8 hcl hS ?_;clear hcl;intro hcl;simp only [tkl];refine tk 9 hcl hS ?_;clear hcl;intro hcl;simp only [tkl];refine on1 10 hcl (fun K hK=>?_);go_simp;refine (HCALL.out _ HBW.out.drew).mono ?_;rintro r w3 ⟨rfl,hb3⟩;have hb3':Below (N+1) W1 w3:=HB.out.drew.trans (hb3.mono (by have:=HB.out.size;have:=HS1.out;simp only [World.drew] at *;omega));clear hS;have hS:(fun w':World=>w'.cell? ⟨N,0,none⟩=some (.int .i64 b)∧w'.cell? ⟨N,1,none⟩=some (.slice A1 np c1)∧w'.cell? ⟨N,2,none⟩=some (.slice (some ⟨gb,go,none⟩) nt c2)∧w'.cell? ⟨N,3,none⟩=some (.slice A3 ng c3)∧w'.cell? ⟨gb,go+i,none⟩=some (.slice (some ⟨gx,ox,none⟩) m cg)∧w'.cell? ⟨gx,ox+k * 5,none⟩=some (.string l.name)∧w'.cell? ⟨gx,ox+k * 5+1,none⟩=some (.slice X1 l.ins.length x1)∧w'.cell? ⟨gx,ox+k * 5+2,none⟩=some (.slice Ax nc cx)∧w'.cell? ⟨gx,ox+k * 5+3,none⟩=some (.string l.write)∧w'.cell? ⟨gx,ox+k * 5+4,none⟩=some (.slice X3 l.outs.length x3)) w3:=HS4.out _ hb3';refine hK.out _ _ (Or.inr hS) (fun hcl2=>?_);have HB3:=hid hb3';clear hK K hcl hS hb3 hb3';have hcl:=hcl2;clear hcl2;refine on1 11 hcl (fun K hK=>?_);go_simp;refine hK.out _ _ (Or.inl (by kernel_rfl)) (fun hcl2=>?_);clear hK K hcl hcl2;refine wpAnyK_done (by kernel_rfl) ?_ _;(try simp only [Act.put,pu]);have hS0:=HS4.out _ HB3.out;have n3:=hS0.2.2.1;have k0:=hS0.2.2.2.2.1;have q2:=hS0.2.2.2.2.2.2.2.1;clear hS0;have hl:=HL.out;have hst:=HSTI.out;have hnc:=HNC.out;have hkm:k<m:=HKM.out
     cases T with
     | true=>
      have hy:Sp.EntryOk n (i:Int) l:=Classical.byContradiction (fun h=>by have:=HT.out;rw [Sp.tb_no h] at this;cases this);have hs:s≤64 * k:=HSK.out;(have hcb:nc≤64:=by rw [← hnc];exact hy.cubes.1);have z4:IntKind.i64.wrap ((s:Int)+(nc:Int))=(s:Int)+(nc:Int):=by have:=HSG.out.1;rw [IntKind.wrap_i64];omega
      have HALL:Hid (s+nc=((g.take (k+1)).map (fun l:Sp.Entry=>l.cubes.length)).sum∧∀ (j:Nat) (l:Sp.Entry),j<k+1→g[j]?=some l→Sp.EntryOk n (i:Int) l):=hid ⟨by rw [← hnc];exact hst.symm,by
       intro j x hj hx;by_cases hjk:j=k
       ·subst hjk;rw [hl] at hx;(injection hx with hx);rw [← hx];exact hy
       ·exact hall.out.2 j x (by omega) hx⟩
      have HS5:=hid (show s+nc≤64 * (k+1) by omega);clear hall hst hl hnc hy hs hkm;go_wp2_with fail;go_roundw
      case rel=>exact⟨HB3.out,k+1,s+nc,t+1,by rfl,by go_num,by rfl,by have:=HTQ.out;omega,HKM.out,HS5.out,HALL⟩
      case measure=>have:=HKM.out;simp [intOf];omega
     | false=>
      have hy:¬ Sp.EntryOk n (i:Int) l:=fun h=>by have:=HT.out;rw [Sp.tb_yes h] at this;cases this
      have HF:Hid (P=false):=hid (by
       rw [← HP.out];refine Sp.tb_no (fun h=>hy ?_);have h0:Sp.TableOk n (i:Int) g:=h.2 i g HG0.out
       exact h0.2 l (List.mem_of_getElem? hl))
      clear hall hst hl hnc hy hkm;go_wp2_with fail;go_ret;exact⟨by rw [HF.out];rfl,HAL.out.trans (HB3.out.mono (by omega))⟩
    ·have s1:decide ((k:Int)<(m:Int))=false:=dF;have s2:decide (k<m)=false:=decide_eq_false hkm;(have hkm2:k=m:=by omega);by_cases hbig:512<s
     ·have u1:decide ((s:Int) > 512)=true:=dT
      have HF:Hid (P=false):=hid (by
       rw [← HP.out];refine Sp.tb_no (fun h=>?_);have h0:Sp.TableOk n (i:Int) g:=h.2 i g HG0.out;have h1:=h0.1;have h2:=hall.out.1;rw [hkm2,← HM.out,List.take_length] at h2
       omega)
      clear hb hbw hk hkm hall hkm2 hs hbig htq;go_wp2_with fail;go_ret;exact⟨by rw [HF.out];rfl,HBW.out⟩
     have u1:decide ((s:Int) > 512)=false:=dF
     have HOK:Hid (t=((n.tables.take (i+1)).map List.length).sum∧∀ (j:Nat) (g:List Sp.Entry),j<i+1→n.tables[j]?=some g→Sp.TableOk n (j:Int) g):=hid ⟨by rw [HST.out];omega,by
      intro j x hj hx;by_cases hji:j=i
      ·subst hji;rw [HG0.out] at hx;(injection hx with hx);subst hx;refine⟨?_,fun l hl=>?_⟩
       ·have h1:=hall.out.1;rw [hkm2,← HM.out,List.take_length] at h1;rw [← h1];omega
       ·obtain⟨y,hy⟩:=List.mem_iff_getElem?.1 hl;exact hall.out.2 y l (by have:=(List.getElem?_eq_some_iff.1 hy).1;rw [HM.out] at this;omega) hy
      ·exact hok.out.2 j x (by omega) hx⟩
     have HTI:=hid (show t≤(i+1) * 17592186044416 by have:=HSG.out.1;have:=HQI.out;omega);clear hb hbw hk hkm hall hkm2 hs hbig htq;go_wp2_with fail;go_roundw
     case rel=>exact⟨HB.out,i+1,t,by rfl,by rfl,HI.out,HTI.out,HOK⟩
     case measure=>have:=HI.out;simp [intOf];omega
  ·have q1:decide ((i:Int)<(nt:Int))=false:=dF;have q2:decide (i<nt)=false:=decide_eq_false hlt;by_cases hql:q≤256
   ·have r1:decide ((q:Int)≤256)=true:=dT
    have HT:Hid (P=true):=hid (by
     rw [← HP.out];refine Sp.tb_yes ⟨?_,fun j g hj=>hok.out.2 j g (by have:=(List.getElem?_eq_some_iff.1 hj).1;rw [HNL.out] at this;omega) hj⟩;have h1:=hok.out.1;(have h2:i=n.tables.length:=by rw [HNL.out];omega);rw [h2,List.take_length] at h1;rw [← h1]
     exact hql)
    clear hb hbw hi hlt hok hql hq;go_wp2_with fail;go_ret;exact⟨by rw [HT.out];rfl,HBW.out⟩
   ·have r1:decide ((q:Int)≤256)=false:=dF
    have HT:Hid (P=false):=hid (by
     rw [← HP.out];refine Sp.tb_no (fun h=>hql ?_);have h1:=hok.out.1;(have h2:i=n.tables.length:=by rw [HNL.out];omega);rw [h2,List.take_length] at h1;rw [h1]
     exact h.1)
    clear hb hbw hi hlt hok hql hq;go_wp2_with fail;go_ret;exact⟨by rw [HT.out];rfl,HBW.out⟩
end Go.Proofs.YthnamoedpnknmaaGreatDoor
