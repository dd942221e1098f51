/-
 THE WALK of reachref9's portsRight (chapter 9).
-/
import Derived.Test.YthnamoedpnknmaaGreatDoorBh
import Derived.Test.YthnamoedpnknmaaGreatDoorBm
set_option linter.unusedVariables false
set_option linter.unusedSimpArgs false
set_option maxRecDepth 100000
set_option maxHeartbeats 8000000
namespace Go.Proofs.YthnamoedpnknmaaGreatDoor
open Go.RowKit
open Go.Lib (hid)
theorem ref9_portsRight (n:Sp.Net) (A1 A2 A3:Option Addr) (c1 c2 c3:Nat) (w:World) (hpv:PV w A1 n.ports) (hsz:∀ p ∈ n.ports,p.name.size≤9223372036854775807) (hmx:n.ports.length≤48):
  Calls Tryz.prog 82 #[.agg #[.int .i64 n.bits,.slice A1 n.ports.length c1,.slice A2 n.tables.length c2,.slice A3 n.guards.length c3]] w fun r w'=>r=.returned (.bool (Sp.tb (Sp.PortsOk n)))∧Below w.heap.size w w':=by
 obtain⟨np,hnp⟩:=nM n.ports.length;obtain⟨nt,hnt⟩:=nM n.tables.length;obtain⟨ng,hng⟩:=nM n.guards.length;obtain⟨b,hbb⟩:=nM n.bits;obtain⟨P,hP⟩:=nM (Sp.tb (Sp.PortsOk n));rw [hP,hnp,hnt,hng,hbb];rw [hnp] at hmx;obtain⟨N,hN⟩:=nM w.heap.size;obtain⟨W1,hW1⟩:=nM (w.alloc (.cells #[.int .i64 b,.slice A1 np c1,.slice A2 nt c2,.slice A3 ng c3] 26));have hal:Below w.heap.size w W1:=by rw [← hW1];exact (Below.refl _ _).alloc (Nat.le_refl _) _
 have hk1:Blk W1 w.heap.size 26 #[.int .i64 b,.slice A1 np c1,.slice A2 nt c2,.slice A3 ng c3]:=by rw [← hW1];exact Blk.new w _ _
 have hsz1:N+1=W1.heap.size:=by rw [← hW1,World.size_alloc,hN]
 rw [hN] at hal hk1 ⊢;have HP:=hid hP;have HAL:=hid hal;have HK1:=hid hk1;have HPV:=hid hpv;have HNP:=hid hnp;have HNT:=hid hnt;have HN:=hid hN;have HSZ:=hid hsz;have HS1:=hid hsz1;have HMX:=hid hmx;clear hpv hsz hnp hnt hng hP hal hk1 hmx hbb hsz1;go_enter Tryz.func82,Tryz.ntmps82;go_wp2_with fail;clear hW1;go_loopw [3] (fun v3 wr=>Below (N+1) W1 wr∧∃ i:Nat,v3=.int .i64 (i:Int)∧i≤np∧Hid (∀ (j:Nat) (p:Sp.Port),j<i→n.ports[j]?=some p→Sp.PortOk n j p)) (fun v3 _=>np - (intOf v3).toNat)
 case atStart=>exact⟨Below.refl _ _,0,rfl,Nat.zero_le _,hid (fun j p hj=>by omega)⟩
 case round=>
  obtain⟨hb,i,rfl,hi,hok⟩:=hrel;have hbw:Below N w wr:=HAL.out.trans (hb.mono (by omega));have HB:=hid hb;have HBW:=hid hbw;have i0:(0:Int)≤(i:Int):=by omega
  have m1:wr.cell? ⟨N,1,none⟩=some (.slice A1 np c1):=(HK1.out.below hb (by omega)).cell 1;have m2:wr.cell? ⟨N,2,none⟩=some (.slice A2 nt c2):=(HK1.out.below hb (by omega)).cell 2;by_cases hlt:i<np
  ·have q1:decide ((i:Int)<(np:Int))=true:=dT;have q2:decide (i<np)=true:=decide_eq_true hlt;(have q3:(i:Int)<(np:Int):=by omega);have z1:IntKind.i64.wrap ((i:Int)+1)=(i:Int)+1:=by have:=HMX.out;rw [IntKind.wrap_i64];omega
   obtain⟨p,hp⟩:∃ p,n.ports[i]?=some p:=⟨_,List.getElem?_eq_getElem (by rw [HNP.out];exact hlt)⟩
   obtain⟨g,o,rfl,hg,k0,k1,k2,k3⟩:=HPV.out.at hp;rw [HN.out] at hg;have hnms:=HSZ.out p (List.mem_of_getElem? hp);obtain⟨nm,hnm⟩:=nM p.name;obtain⟨bx,hbx⟩:=nM p.box;obtain⟨inn,hinn⟩:=nM p.inn;obtain⟨ds,hds⟩:=nM p.dst;rw [hnm] at k0 hnms;rw [hbx] at k1;rw [hinn] at k2;rw [hds] at k3;have k0:wr.cell? ⟨g,o+i * 4,none⟩=some (.string nm):=(hbw.cell (p:=⟨g,o+i * 4,none⟩) hg).trans k0;have k1:wr.cell? ⟨g,o+i * 4+1,none⟩=some (.int .i64 bx):=(hbw.cell (p:=⟨g,o+i * 4+1,none⟩) hg).trans k1;have k2:wr.cell? ⟨g,o+i * 4+2,none⟩=some (.bool inn):=(hbw.cell (p:=⟨g,o+i * 4+2,none⟩) hg).trans k2;have k3:wr.cell? ⟨g,o+i * 4+3,none⟩=some (.int .i64 ds):=(hbw.cell (p:=⟨g,o+i * 4+3,none⟩) hg).trans k3;obtain⟨Z,hZ⟩:=nM wr.heap.size;(have hsz2:N+1≤Z:=by have:=hb.size;have:=HS1.out;omega);obtain⟨W2,hW2⟩:=nM (wr.alloc (.cells #[.string nm,.int .i64 bx,.bool inn,.int .i64 ds] 74));(have hb2:Below (N+1) W1 W2:=by rw [← hW2];exact hb.alloc (by omega) _);(have hkz:Blk W2 Z 74 #[.string nm,.int .i64 bx,.bool inn,.int .i64 ds]:=by rw [← hW2,← hZ];exact Blk.new _ _ _);have n1:W2.cell? ⟨N,1,none⟩=some (.slice (some ⟨g,o,none⟩) np c1):=(HK1.out.below hb2 (by omega)).cell 1;have n2:W2.cell? ⟨N,2,none⟩=some (.slice A2 nt c2):=(HK1.out.below hb2 (by omega)).cell 2;have w0:W2.cell? ⟨Z,0,none⟩=some (.string nm):=hkz.cell 0;have w1:W2.cell? ⟨Z,1,none⟩=some (.int .i64 bx):=hkz.cell 1;have w2:W2.cell? ⟨Z,2,none⟩=some (.bool inn):=hkz.cell 2;have w3:W2.cell? ⟨Z,3,none⟩=some (.int .i64 ds):=hkz.cell 3;have HB2:=hid hb2;have HKZ:=hid hkz;have HBW2:=hid (show Below N w W2 from HAL.out.trans (hb2.mono (by omega)));clear hb2 hkz;have HCALL:=hid (fun W=>ref9_fullName nm W hnms);obtain⟨T,hT⟩:=nM (Sp.fullB nm.data.toList);have hcall:=HCALL.out;simp only [hT] at hcall;have HCALL2:=hid hcall;have HTK:=hid (show Sp.TokenOk p.name↔T=true by rw [hnm,Sp.tokenOk_iff,hT]);have HX:=hid hp;have HNM:=hid hnm;have HBX:=hid hbx;have HIN:=hid hinn;have HDS:=hid hds;have HLT:=hid hlt;have HGL:=hid hg;have HI:=hid (show i+1≤np by omega);have HSZ2:=hid hsz2;clear hb hbw hi hlt hp hg hnms hnm hbx hinn hds hcall HCALL hT
   cases T with
   | false=>
    have HF:=hid (show P=false by
     rw [← HP.out];refine Sp.tb_no (fun h=>?_);have h1:=h i p HX.out;have h2:=HTK.out.1 h1.name
     cases h2)
    clear hok;go_wp2_with fail;refine (HCALL2.out _).mono ?_;rintro e wb ⟨rfl,hwe⟩;rw [hwe];clear hwe wb;go_wp2_with fail;go_ret;exact⟨by rw [HF.out];rfl,HBW2.out⟩
   | true=>
    by_cases h1:bx<0
    ·have a1:decide (bx<0)=true:=decide_eq_true h1
     have HF:=hid (show P=false by
      rw [← HP.out];refine Sp.tb_no (fun h=>?_);have h1:=h i p HX.out;have h2:=h1.box.1;rw [HBX.out] at h2
      omega)
     clear hok;go_wp2_with fail;refine (HCALL2.out _).mono ?_;rintro e wb ⟨rfl,hwe⟩;rw [hwe];clear hwe wb;go_wp2_with fail;go_ret;exact⟨by rw [HF.out];rfl,HBW2.out⟩
    have a1:decide (bx<0)=false:=decide_eq_false h1;by_cases h2:(nt:Int)≤bx
    ·have a2:decide (bx ≥ (nt:Int))=true:=decide_eq_true h2
     have HF:=hid (show P=false by
      rw [← HP.out];refine Sp.tb_no (fun h=>?_);have h1:=h i p HX.out;have h2:=h1.box.2;rw [HBX.out,HNT.out] at h2
      omega)
     clear hok;go_wp2_with fail;refine (HCALL2.out _).mono ?_;rintro e wb ⟨rfl,hwe⟩;rw [hwe];clear hwe wb;go_wp2_with fail;go_ret;exact⟨by rw [HF.out];rfl,HBW2.out⟩
    have a2:decide (bx ≥ (nt:Int))=false:=decide_eq_false h2;have HBOX:=hid (show 0≤p.box∧p.box<(n.tables.length:Int) by rw [HBX.out,HNT.out];omega);clear h1 h2;by_cases h3:0≤ds
    rotate_left
    ·have a4:decide (ds ≥ (np:Int))=false:=dF;have a5:decide (ds ≥ 0)=false:=decide_eq_false h3;by_cases h4:ds < -1
     ·have a3:decide (ds < -1)=true:=decide_eq_true h4
      have HF:=hid (show P=false by
       rw [← HP.out];refine Sp.tb_no (fun h=>?_);have h1:=h i p HX.out;have h2:=h1.dst;rw [HDS.out] at h2
       omega)
      clear hok;go_wp2_with fail;refine (HCALL2.out _).mono ?_;rintro e wb ⟨rfl,hwe⟩;rw [hwe];clear hwe wb;go_wp2_with fail;go_ret;exact⟨by rw [HF.out];rfl,HBW2.out⟩
     have a3:decide (ds < -1)=false:=decide_eq_false h4;have HDST:=hid (show p.dst=-1∨(p.inn=false∧0≤p.dst∧∃ r,n.ports[p.dst.toNat]?=some r∧r.inn=true) from Or.inl (by rw [HDS.out];omega));clear h3 h4;go_wp2_with fail;refine (HCALL2.out _).mono ?_;rintro e wb ⟨rfl,hwe⟩;rw [hwe];clear hwe wb;go_wp2_with fail;clear k0 k1 k2 k3 m1 m2 n1 n2 w0 w1 w2 w3 hW2;go_loopw [6] (fun v6 wr=>Below (N+1) W1 wr∧Blk wr Z 74 #[.string nm,.int .i64 bx,.bool inn,.int .i64 ds]∧∃ k:Nat,v6=.int .i64 (k:Int)∧k≤i∧Hid (∀ (j:Nat) (r:Sp.Port),j<k→n.ports[j]?=some r→r.name≠p.name)) (fun v6 _=>i - (intOf v6).toNat)
     case atStart=>exact⟨HB2.out,HKZ.out,0,rfl,Nat.zero_le _,hid (fun j r hj=>by omega)⟩
     case round=>
      clear HB HBW HB2 HKZ HBW2;obtain⟨hb,hkz,k,rfl,hk,hno⟩:=hrel;have hbw:Below N w wr:=HAL.out.trans (hb.mono (by omega));have HB:=hid hb;have HKZ:=hid hkz;have HBW:=hid hbw;(have kk0:(0:Int)≤(k:Int):=by omega);by_cases hkl:k<i
      ·have t1:decide ((k:Int)<(i:Int))=true:=dT;have t2:decide (k<i)=true:=decide_eq_true hkl;(have t3:(k:Int)<(np:Int):=by have:=HLT.out;omega);have t4:decide (k<np)=true:=decide_eq_true (by have:=HLT.out;omega);have t5:decide ((k:Int)<(np:Int))=true:=decide_eq_true t3;have z2:IntKind.i64.wrap ((k:Int)+1)=(k:Int)+1:=by have:=HLT.out;have:=HMX.out;rw [IntKind.wrap_i64];omega
       obtain⟨r,hr⟩:∃ r,n.ports[k]?=some r:=⟨_,List.getElem?_eq_getElem (by rw [HNP.out];have:=HLT.out;omega)⟩
       obtain⟨g',o',eA,_,r0,_,_,_⟩:=HPV.out.at hr;(injection eA with eA);(injection eA with e1 e2);subst e1 e2;obtain⟨rn,hrn⟩:=nM r.name;rw [hrn] at r0;have r0:wr.cell? ⟨g,o+k * 4,none⟩=some (.string rn):=(hbw.cell (p:=⟨g,o+k * 4,none⟩) HGL.out).trans r0;have x1:wr.cell? ⟨N,1,none⟩=some (.slice (some ⟨g,o,none⟩) np c1):=(HK1.out.below hb (by omega)).cell 1;have x2:wr.cell? ⟨Z,0,none⟩=some (.string nm):=hkz.cell 0;have HKI:=hid hkl;by_cases hrq:rn=nm
       ·have y1:(rn.toList == nm.toList)=true:=by rw [hrq];simp
        have HF:=hid (show P=false by
         rw [← HP.out];refine Sp.tb_no (fun h=>?_)
         exact (h i p HX.out).other k r hkl hr (by rw [hrn,hrq,HNM.out]))
        clear hok hno hb hbw hkz hk hkl hr hrn;subst hrq;go_wp2_with fail;go_quiet (fail);go_wp2_with fail;go_ret;exact⟨by rw [HF.out];rfl,below_drewN HBW.out _⟩
       ·have y1:(rn.toList == nm.toList)=false:=by
         rw [Lib.toList_data,Lib.toList_data];exact beq_eq_false_iff_ne.2 (fun e=>hrq (ByteArray.ext (Array.toList_inj.1 e)))
        have HNX:=hid (show ∀ (j:Nat) (r:Sp.Port),j<k+1→n.ports[j]?=some r→r.name≠p.name by
         intro j r2 hj hr2;by_cases hjk:j=k
         ·subst hjk;rw [hr] at hr2;(injection hr2 with hr2);rw [← hr2,hrn,HNM.out];exact hrq
         ·exact hno.out j r2 (by omega) hr2)
        clear hno hb hbw hkz hk hkl hr hrn;go_wp2_with fail;go_quiet (fail);go_wp2_with fail;go_roundw
        case rel=>exact⟨below_drewN HB.out _,HKZ.out.drewN _,k+1,by rfl,HKI.out,HNX⟩
        case measure=>have:=HKI.out;simp [intOf];omega
      ·have t1:decide ((k:Int)<(i:Int))=false:=dF;have t2:decide (k<i)=false:=decide_eq_false hkl
       have HNX:=hid (show ∀ (j:Nat) (p:Sp.Port),j<i+1→n.ports[j]?=some p→Sp.PortOk n j p by
        intro j p2 hj hp2;by_cases hji:j=i
        ·subst hji;rw [HX.out] at hp2;(injection hp2 with hp2);rw [← hp2];exact⟨HTK.out.2 (by first | rfl | trivial),HBOX.out,HDST.out,fun j r hj hr=>hno.out j r (by omega) hr⟩
        ·exact hok.out j p2 (by omega) hp2)
       clear hok hno hb hbw hkz hk hkl;go_wp2_with fail;go_roundw
       case rel=>exact⟨HB.out,i+1,by rfl,HI.out,HNX⟩
       case measure=>have:=HI.out;simp [intOf];omega
    obtain⟨d,rfl⟩:∃ d:Nat,ds=d:=⟨ds.toNat,by omega⟩
    have a3:decide ((d:Int) < -1)=false:=dF;have a5:decide ((d:Int) ≥ 0)=true:=dT;clear h3;by_cases h5:np≤d
    ·have a4:decide ((d:Int) ≥ (np:Int))=true:=dT;have a4':decide (np≤d)=true:=decide_eq_true h5
     have HF:=hid (show P=false by
      rw [← HP.out];refine Sp.tb_no (fun h=>?_);have h1:=h i p HX.out;have h2:=h1.dst;rw [HDS.out] at h2;rcases h2 with h2 | ⟨_,_,r,hr,_⟩
      ·omega
      ·have h3:=(List.getElem?_eq_some_iff.1 hr).1;rw [HNP.out,Int.toNat_natCast] at h3
       omega)
     clear hok;go_wp2_with fail;refine (HCALL2.out _).mono ?_;rintro e wb ⟨rfl,hwe⟩;rw [hwe];clear hwe wb;go_wp2_with fail;go_ret;exact⟨by rw [HF.out];rfl,HBW2.out⟩
    have a4:decide ((d:Int) ≥ (np:Int))=false:=dF;have a4':decide (np≤d)=false:=decide_eq_false h5;have b1:decide ((d:Int)<(np:Int))=true:=dT;have b2:decide (d<np)=true:=dT;(have b3:(d:Int)<(np:Int):=by omega);have b4:(0:Int)≤(d:Int):=by omega
    obtain⟨rd,hrd⟩:∃ rd,n.ports[d]?=some rd:=⟨_,List.getElem?_eq_getElem (by rw [HNP.out];omega)⟩
    obtain⟨g',o',eA,_,_,_,r2,_⟩:=HPV.out.at hrd;(injection eA with eA);(injection eA with e1 e2);subst e1 e2;obtain⟨ri,hri⟩:=nM rd.inn;rw [hri] at r2;have r2:W2.cell? ⟨g,o+d * 4+2,none⟩=some (.bool ri):=(HBW2.out.cell (p:=⟨g,o+d * 4+2,none⟩) HGL.out).trans r2;have HRD:=hid hrd;have HRI:=hid hri;clear hrd hri h5
    cases inn with
    | true=>
     have HF:=hid (show P=false by
      rw [← HP.out];refine Sp.tb_no (fun h=>?_);have h1:=h i p HX.out;have h2:=h1.dst;rw [HDS.out] at h2;rcases h2 with h2 | ⟨h2,_⟩
      ·omega
      ·rw [HIN.out] at h2
       cases h2)
     clear hok;go_wp2_with fail;refine (HCALL2.out _).mono ?_;rintro e wb ⟨rfl,hwe⟩;rw [hwe];clear hwe wb;go_wp2_with fail;go_ret;exact⟨by rw [HF.out];rfl,HBW2.out⟩
    | false=>
     cases ri with
     | false=>
      have HF:=hid (show P=false by
       rw [← HP.out];refine Sp.tb_no (fun h=>?_);have h1:=h i p HX.out;have h2:=h1.dst;rw [HDS.out] at h2;rcases h2 with h2 | ⟨_,_,r,hr,h3⟩
       ·omega
       ·rw [Int.toNat_natCast,HRD.out] at hr;(injection hr with hr);rw [← hr,HRI.out] at h3
        cases h3)
      clear hok;go_wp2_with fail;refine (HCALL2.out _).mono ?_;rintro e wb ⟨rfl,hwe⟩;rw [hwe];clear hwe wb;go_wp2_with fail;go_ret;exact⟨by rw [HF.out];rfl,HBW2.out⟩
     | true=>
      have HDST:=hid (show p.dst=-1∨(p.inn=false∧0≤p.dst∧∃ r,n.ports[p.dst.toNat]?=some r∧r.inn=true) from Or.inr ⟨HIN.out,by rw [HDS.out];omega,rd,by rw [HDS.out,Int.toNat_natCast];exact HRD.out,HRI.out⟩);go_wp2_with fail;refine (HCALL2.out _).mono ?_;rintro e wb ⟨rfl,hwe⟩;rw [hwe];clear hwe wb;go_wp2_with fail;clear k0 k1 k2 k3 m1 m2 n1 n2 w0 w1 w2 w3 hW2;go_loopw [6] (fun v6 wr=>Below (N+1) W1 wr∧Blk wr Z 74 #[.string nm,.int .i64 bx,.bool false,.int .i64 (d:Int)]∧∃ k:Nat,v6=.int .i64 (k:Int)∧k≤i∧Hid (∀ (j:Nat) (r:Sp.Port),j<k→n.ports[j]?=some r→r.name≠p.name)) (fun v6 _=>i - (intOf v6).toNat)
      case atStart=>exact⟨HB2.out,HKZ.out,0,rfl,Nat.zero_le _,hid (fun j r hj=>by omega)⟩
      case round=>
       clear HB HBW HB2 HKZ HBW2;obtain⟨hb,hkz,k,rfl,hk,hno⟩:=hrel;have hbw:Below N w wr:=HAL.out.trans (hb.mono (by omega));have HB:=hid hb;have HKZ:=hid hkz;have HBW:=hid hbw;(have kk0:(0:Int)≤(k:Int):=by omega);by_cases hkl:k<i
       ·have t1:decide ((k:Int)<(i:Int))=true:=dT;have t2:decide (k<i)=true:=decide_eq_true hkl;(have t3:(k:Int)<(np:Int):=by have:=HLT.out;omega);have t4:decide (k<np)=true:=decide_eq_true (by have:=HLT.out;omega);have t5:decide ((k:Int)<(np:Int))=true:=decide_eq_true t3;have z2:IntKind.i64.wrap ((k:Int)+1)=(k:Int)+1:=by have:=HLT.out;have:=HMX.out;rw [IntKind.wrap_i64];omega
        obtain⟨r,hr⟩:∃ r,n.ports[k]?=some r:=⟨_,List.getElem?_eq_getElem (by rw [HNP.out];have:=HLT.out;omega)⟩
        obtain⟨g',o',eA,_,r0,_,_,_⟩:=HPV.out.at hr;(injection eA with eA);(injection eA with e1 e2);subst e1 e2;obtain⟨rn,hrn⟩:=nM r.name;rw [hrn] at r0;have r0:wr.cell? ⟨g,o+k * 4,none⟩=some (.string rn):=(hbw.cell (p:=⟨g,o+k * 4,none⟩) HGL.out).trans r0;have x1:wr.cell? ⟨N,1,none⟩=some (.slice (some ⟨g,o,none⟩) np c1):=(HK1.out.below hb (by omega)).cell 1;have x2:wr.cell? ⟨Z,0,none⟩=some (.string nm):=hkz.cell 0;have HKI:=hid hkl;by_cases hrq:rn=nm
        ·have y1:(rn.toList == nm.toList)=true:=by rw [hrq];simp
         have HF:=hid (show P=false by
          rw [← HP.out];refine Sp.tb_no (fun h=>?_)
          exact (h i p HX.out).other k r hkl hr (by rw [hrn,hrq,HNM.out]))
         clear hok hno hb hbw hkz hk hkl hr hrn;subst hrq;go_wp2_with fail;go_quiet (fail);go_wp2_with fail;go_ret;exact⟨by rw [HF.out];rfl,below_drewN HBW.out _⟩
        ·have y1:(rn.toList == nm.toList)=false:=by
          rw [Lib.toList_data,Lib.toList_data];exact beq_eq_false_iff_ne.2 (fun e=>hrq (ByteArray.ext (Array.toList_inj.1 e)))
         have HNX:=hid (show ∀ (j:Nat) (r:Sp.Port),j<k+1→n.ports[j]?=some r→r.name≠p.name by
          intro j r2 hj hr2;by_cases hjk:j=k
          ·subst hjk;rw [hr] at hr2;(injection hr2 with hr2);rw [← hr2,hrn,HNM.out];exact hrq
          ·exact hno.out j r2 (by omega) hr2)
         clear hno hb hbw hkz hk hkl hr hrn;go_wp2_with fail;go_quiet (fail);go_wp2_with fail;go_roundw
         case rel=>exact⟨below_drewN HB.out _,HKZ.out.drewN _,k+1,by rfl,HKI.out,HNX⟩
         case measure=>have:=HKI.out;simp [intOf];omega
       ·have t1:decide ((k:Int)<(i:Int))=false:=dF;have t2:decide (k<i)=false:=decide_eq_false hkl
        have HNX:=hid (show ∀ (j:Nat) (p:Sp.Port),j<i+1→n.ports[j]?=some p→Sp.PortOk n j p by
         intro j p2 hj hp2;by_cases hji:j=i
         ·subst hji;rw [HX.out] at hp2;(injection hp2 with hp2);rw [← hp2];exact⟨HTK.out.2 (by first | rfl | trivial),HBOX.out,HDST.out,fun j r hj hr=>hno.out j r (by omega) hr⟩
         ·exact hok.out j p2 (by omega) hp2)
        clear hok hno hb hbw hkz hk hkl;go_wp2_with fail;go_roundw
        case rel=>exact⟨HB.out,i+1,by rfl,HI.out,HNX⟩
        case measure=>have:=HI.out;simp [intOf];omega
  ·have q1:decide ((i:Int)<(np:Int))=false:=dF;have q2:decide (i<np)=false:=decide_eq_false hlt
   have HT:Hid (P=true):=hid (by
    rw [← HP.out]
    exact Sp.tb_yes (fun j p hp=>hok.out j p (by have:=(List.getElem?_eq_some_iff.1 hp).1;rw [HNP.out] at this;omega) hp))
   clear hb hbw hi hlt hok;go_wp2_with fail;go_ret;exact⟨by rw [HT.out];rfl,HBW.out⟩
end Go.Proofs.YthnamoedpnknmaaGreatDoor
