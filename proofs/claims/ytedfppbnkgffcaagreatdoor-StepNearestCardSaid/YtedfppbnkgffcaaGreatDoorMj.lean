/-
  Texts joined: Mi Mj.
-/
import Derived.Test.YtedfppbnkgffcaaGreatDoorMh
import Derived.Shelf.Strings.TrimSpaceAny
import Derived.Lib.AppendIntMem
set_option linter.unusedVariables false
set_option linter.unusedSimpArgs false
set_option maxRecDepth 100000
set_option maxHeartbeats 4000000
namespace Go.Proofs.YtedfppbnkgffcaaGreatDoor
open Go.RowKit
open Go.Lib (hid)
namespace Sp
theorem sum_step {α:Type} {f:α→Nat} {l:List α} {i:Nat} {x:α} (h:l[i]?=some x):((l.take (i+1)).map f).sum=((l.take i).map f).sum+f x:=by
 have hi:=(List.getElem?_eq_some_iff.1 h).1;rw [List.take_succ_eq_append_getElem hi,List.map_append,List.sum_append];have e:=(List.getElem?_eq_some_iff.1 h).2;rw [e];simp
theorem sum_take {α:Type} {f:α→Nat} {l:List α} (i:Nat):((l.take i).map f).sum≤(l.map f).sum:=by
 conv=>rhs;rw [← List.take_append_drop i l]
 rw [List.map_append,List.sum_append];omega
structure Szd (n:Net):Prop where
 np:n.ports.length≤4611686018427387904
 nt:n.tables.length≤4611686018427387904
 ng:n.guards.length≤4611686018427387904
 ports:∀ p ∈ n.ports,p.name.size≤9223372036854775807
 guards:∀ g ∈ n.guards,g.length≤4611686018427387904∧∀ l ∈ g,l.cubes.length≤4611686018427387904∧∀ s ∈ l.cubes,s.size≤9223372036854775807
 tables:∀ t ∈ n.tables,t.length≤4611686018427387904∧∀ e ∈ t,e.name.size≤9223372036854775807∧e.write.size≤9223372036854775807∧e.ins.length≤4611686018427387904∧e.cubes.length≤4611686018427387904∧e.outs.length≤4611686018427387904∧∀ s ∈ e.cubes,s.size≤9223372036854775807
end Sp
theorem lower_validGuards (n:Sp.Net) (A1 A2 A3:Option Addr) (c1 c2 c3:Nat) (w:World) (hpv:PV w A1 n.ports) (htv:TTV w A2 n.tables) (hgv:GGV w A3 n.guards) (hsz:Sp.Szd n):
  Calls Tryz.prog 69 #[.agg #[.int .i64 n.bits,.slice A1 n.ports.length c1,.slice A2 n.tables.length c2,.slice A3 n.guards.length c3]] w fun r w'=>r=.returned (.bool (Sp.tb (Sp.GuardsOk n)))∧Below w.heap.size w w':=by
 obtain⟨np,hnp⟩:=nM n.ports.length;obtain⟨nt,hnt⟩:=nM n.tables.length;obtain⟨ng,hng⟩:=nM n.guards.length;obtain⟨P,hP⟩:=nM (Sp.tb (Sp.GuardsOk n));rw [hP,hnp,hnt,hng];obtain⟨W1,hW1⟩:=nM (w.alloc (.cells #[.int .i64 n.bits,.slice A1 np c1,.slice A2 nt c2,.slice A3 ng c3] 26));have hal:Below w.heap.size w W1:=by rw [← hW1];exact (Below.refl _ _).alloc (Nat.le_refl _) _
 have hk1:Blk W1 w.heap.size 26 #[.int .i64 n.bits,.slice A1 np c1,.slice A2 nt c2,.slice A3 ng c3]:=by rw [← hW1];exact Blk.new w _ _
 have HP:=hid hP;have HAL:=hid hal;have HK1:=hid hk1;have HPV:=hid hpv;have HTV:=hid htv;have HGV:=hid hgv;have HNP:=hid hnp;have HNT:=hid hnt;have HNG:=hid hng;have HNL:=hid (show n.guards.length=ng from hng);have HSZ:=hid hsz;have hnl:ng≤4611686018427387904:=by rw [← hng];exact hsz.ng
 have m0:W1.cell? ⟨w.heap.size,0,none⟩=some (.int .i64 n.bits):=hk1.cell 0;have m1:W1.cell? ⟨w.heap.size,1,none⟩=some (.slice A1 np c1):=hk1.cell 1;have m2:W1.cell? ⟨w.heap.size,2,none⟩=some (.slice A2 nt c2):=hk1.cell 2;have m3:W1.cell? ⟨w.heap.size,3,none⟩=some (.slice A3 ng c3):=hk1.cell 3;clear hpv htv hgv hsz hnp hnt hng hP hal hk1;go_enter Tryz.func69,Tryz.ntmps69;go_wp2;clear hW1 m0 m1 m2 m3;go_loopw [3,12] (fun v3 v12 wr=>∃ i q:Nat,v12=.int .i64 (i:Int)∧v3=.int .i64 (q:Int)∧i≤ng∧q≤64∧Below w.heap.size w wr∧Blk wr w.heap.size 26 #[.int .i64 n.bits,.slice A1 np c1,.slice A2 nt c2,.slice A3 ng c3]∧Hid (q=((n.guards.take i).map List.length).sum∧∀ (j:Nat) (g:List Sp.Guard),j<i→n.guards[j]?=some g→Sp.GuardOk n.bits g)) (fun _ v12 _=>ng - (intOf v12).toNat)
 case atStart=>exact⟨0,0,rfl,rfl,Nat.zero_le _,by omega,HAL.out,HK1.out,hid ⟨by simp,fun j g hj=>by omega⟩⟩
 case round=>
  obtain⟨i,q,rfl,rfl,hi,hq,hb,hk,hok⟩:=hrel;have HB:=hid hb;have HK:=hid hk;have i0:(0:Int)≤(i:Int):=by omega
  have n0:wr.cell? ⟨w.heap.size,0,none⟩=some (.int .i64 n.bits):=hk.cell 0;have n1:wr.cell? ⟨w.heap.size,1,none⟩=some (.slice A1 np c1):=hk.cell 1;have n2:wr.cell? ⟨w.heap.size,2,none⟩=some (.slice A2 nt c2):=hk.cell 2;have n3:wr.cell? ⟨w.heap.size,3,none⟩=some (.slice A3 ng c3):=hk.cell 3;by_cases hlt:i<ng
  ·have q1:decide ((i:Int)<(ng:Int))=true:=dT;have q2:decide (i<ng)=true:=decide_eq_true hlt;have q3:(i:Int)<(ng:Int):=by omega
   obtain⟨g,hg0⟩:∃ g,n.guards[i]?=some g:=⟨_,List.getElem?_eq_getElem (by rw [HNL.out];exact hlt)⟩
   obtain⟨gb,go,Ag,cg,rfl,hgl,k0,hgv2,_⟩:=(HGV.out.more hb).at hg0;have hsg:=HSZ.out.guards g (List.mem_of_getElem? hg0);obtain⟨m,hm⟩:=nM g.length;rw [hm] at k0 hsg;have hst:=Sp.sum_step (f:=List.length) hg0;rw [hm,← hok.out.1] at hst;(have z1:IntKind.i64.wrap ((i:Int)+1)=(i:Int)+1:=by rw [IntKind.wrap_i64];omega);(have z2:IntKind.i64.wrap ((q:Int)+(m:Int))=(q:Int)+(m:Int):=by have:=hsg.1;rw [IntKind.wrap_i64];omega);have HLT:=hid hlt;have HI:=hid (show i+1≤ng by omega);by_cases hbig:64<q+m
   ·have r1:decide ((q:Int)+(m:Int) > 64)=true:=dT
    have HF:Hid (P=false):=hid (by
     rw [← HP.out];refine Sp.tb_no (fun h=>?_);have h1:=h.1;have h2:=Sp.sum_take (f:=List.length) (l:=n.guards) (i+1)
     omega)
    clear hb hk hi hlt hg0 hgv2 hsg hm hst hok hbig n0 n1 n2 n3;go_wp2;go_ret;exact⟨by rw [HF.out];rfl,HB.out⟩
   have r1:decide ((q:Int)+(m:Int) > 64)=false:=dF;have HQM:=hid (show q+m≤64 by omega);have HST:=hid hst;have HSG:=hid hsg;have HM:=hid hm;have HG0:=hid hg0;have HGV2:=hid hgv2;(have hm64:m≤64:=by omega);clear hb hk hi hlt hg0 hgv2 hsg hm hst hbig;go_wp2_with fail;clear n0 n1 n2 n3 k0;go_loopw [6,24] (fun v6 vk wr2=>∃ k s:Nat,vk=.int .i64 (k:Int)∧v6=.int .i64 (s:Int)∧k≤m∧s≤512∧Below wr.heap.size wr wr2∧Blk wr2 w.heap.size 26 #[.int .i64 n.bits,.slice A1 np c1,.slice A2 nt c2,.slice (some ⟨gb,go,none⟩) ng c3]∧Hid (s=((g.take k).map (fun l:Sp.Guard=>l.cubes.length)).sum∧∀ (j:Nat) (l:Sp.Guard),j<k→g[j]?=some l→Sp.CubesOk n.bits l.cubes)) (fun _ vk _=>m - (intOf vk).toNat)
   case atStart=>exact⟨0,0,rfl,rfl,Nat.zero_le _,by omega,Below.refl _ _,HK.out,hid ⟨by simp,fun j g hj=>by omega⟩⟩
   case round=>
    obtain⟨k,s,rfl,rfl,hk,hs,hb2,hkk,hall⟩:=hrel;have HB2:=hid hb2;have HKK:=hid hkk;(have kk0:(0:Int)≤(k:Int):=by omega);by_cases hkm:k<m
    ·have s1:decide ((k:Int)<(m:Int))=true:=dT;have s2:decide (k<m)=true:=decide_eq_true hkm;have s3:(k:Int)<(m:Int):=by omega
     obtain⟨l,hl⟩:∃ l,g[k]?=some l:=⟨_,List.getElem?_eq_getElem (by rw [HM.out];exact hkm)⟩
     obtain⟨gx,ox,Ax,cx,rfl,hgx,q0,q1,hsv,hlc⟩:=(HGV2.out.more hb2).at hl;have hsl:=HSG.out.2 l (List.mem_of_getElem? hl);have hst:=Sp.sum_step (f:=fun l:Sp.Guard=>l.cubes.length) hl;rw [← hall.out.1] at hst;have t1:wr.cell? ⟨w.heap.size,0,none⟩=wr.cell? ⟨w.heap.size,0,none⟩:=rfl;have n0:wr.cell? ⟨w.heap.size,0,none⟩=some (.int .i64 n.bits):=hkk.cell 0;have n1:wr.cell? ⟨w.heap.size,1,none⟩=some (.slice A1 np c1):=hkk.cell 1;have n2:wr.cell? ⟨w.heap.size,2,none⟩=some (.slice A2 nt c2):=hkk.cell 2;have n3:wr.cell? ⟨w.heap.size,3,none⟩=some (.slice (some ⟨gb,go,none⟩) ng c3):=hkk.cell 3;clear t1;have HLN:=hid hkk.lt;have hln:=hkk.lt;have HBW:Hid (Below w.heap.size w wr):=hid (HB.out.trans (hb2.mono HB.out.size));have hal2:Below wr.heap.size wr (wr.alloc (.cells #[.bool l.permit,.slice Ax l.cubes.length cx] 96)):=(Below.refl _ _).alloc (Nat.le_refl _) _;have HAL2:=hid hal2;(have z3:IntKind.i64.wrap ((k:Int)+1)=(k:Int)+1:=by rw [IntKind.wrap_i64];omega);(have hcall:∀ W,Below wr.heap.size wr W→Calls Tryz.prog 77 #[.agg #[.int .i64 n.bits,.slice A1 np c1,.slice A2 nt c2,.slice (some ⟨gb,go,none⟩) ng c3],.slice Ax l.cubes.length cx] W fun r w'=>r=.returned (.bool (Sp.tb (Sp.CubesOk n.bits l.cubes)))∧Below W.heap.size W w':=fun W hW=>lower_validCubes n.bits A1 A2 (some ⟨gb,go,none⟩) Ax np c1 nt c2 ng c3 cx l.cubes W (hsv.more hW) hsl.2 hsl.1);obtain⟨nc,hnc⟩:=nM l.cubes.length;have hsl1:l.cubes.length≤4611686018427387904:=hsl.1;simp only [hnc] at *;(have z4:IntKind.i64.wrap ((s:Int)+(nc:Int))=(s:Int)+(nc:Int):=by rw [IntKind.wrap_i64];omega);have HKM:=hid (show k+1≤m by omega);by_cases hbig:512<s+nc
     ·have u1:decide ((s:Int)+(nc:Int) > 512)=true:=dT
      have HF:Hid (P=false):=hid (by
       rw [← HP.out];refine Sp.tb_no (fun h=>?_);have h0:Sp.GuardOk n.bits g:=h.2 g (List.mem_of_getElem? HG0.out);have h1:=h0.1;have h2:=Sp.sum_take (f:=fun l:Sp.Guard=>l.cubes.length) (l:=g) (k+1)
       omega)
      clear hb2 hkk hk hkm hl hsl hst hall hbig hcall hal2 hnc hsl1;go_wp2;go_ret;exact⟨by rw [HF.out];rfl,HBW.out.trans (HAL2.out.mono HBW.out.size)⟩
     have u1:decide ((s:Int)+(nc:Int) > 512)=false:=dF;have HS5:=hid (show s+nc≤512 by omega);by_cases hy:Sp.CubesOk n.bits l.cubes
     ·rw [Sp.tb_yes hy] at hcall;have HCALL:=hid hcall
      have HALL:Hid (s+nc=((g.take (k+1)).map (fun l:Sp.Guard=>l.cubes.length)).sum∧∀ (j:Nat) (l:Sp.Guard),j<k+1→g[j]?=some l→Sp.CubesOk n.bits l.cubes):=hid ⟨hst.symm,by
       intro j x hj hx;by_cases hjk:j=k
       ·subst hjk;rw [hl] at hx;(injection hx with hx);rw [← hx];exact hy
       ·exact hall.out.2 j x (by omega) hx⟩
      clear hb2 hkk hk hkm hl hsl hst hall hbig hcall hal2 hnc hsl1 hy;go_wp2_with fail;refine (HCALL.out _ HAL2.out).mono ?_;rintro e wb ⟨rfl,hbb⟩;have HBB:=hid (HAL2.out.trans (hbb.mono HAL2.out.size));have HKB:=hid (HKK.out.below HBB.out HLN.out);clear hbb;go_wp2_with fail;go_roundw
      case rel=>exact⟨k+1,s+nc,by rfl,by go_num,HKM.out,HS5.out,HB2.out.trans (HBB.out.mono HB2.out.size),HKB.out,HALL⟩
      case measure=>have:=HKM.out;simp [intOf];omega
     ·rw [Sp.tb_no hy] at hcall;have HCALL:=hid hcall
      have HF:Hid (P=false):=hid (by
       rw [← HP.out];refine Sp.tb_no (fun h=>hy ?_);have h0:Sp.GuardOk n.bits g:=h.2 g (List.mem_of_getElem? HG0.out)
       exact h0.2 l (List.mem_of_getElem? hl))
      clear hb2 hkk hk hkm hl hsl hst hall hbig hcall hal2 hnc hsl1 hy;go_wp2_with fail;refine (HCALL.out _ HAL2.out).mono ?_;rintro e wb ⟨rfl,hbb⟩;have HBB:=hid (HAL2.out.trans (hbb.mono HAL2.out.size));clear hbb;go_wp2_with fail;go_ret;exact⟨by rw [HF.out];rfl,HBW.out.trans (HBB.out.mono HBW.out.size)⟩
    ·have s1:decide ((k:Int)<(m:Int))=false:=dF;have s2:decide (k<m)=false:=decide_eq_false hkm;have hkm2:k=m:=by omega
     have HOK:Hid (q+m=((n.guards.take (i+1)).map List.length).sum∧∀ (j:Nat) (g:List Sp.Guard),j<i+1→n.guards[j]?=some g→Sp.GuardOk n.bits g):=hid ⟨HST.out.symm,by
      intro j x hj hx;by_cases hji:j=i
      ·subst hji;rw [HG0.out] at hx;(injection hx with hx);subst hx;refine⟨?_,fun l hl=>?_⟩
       ·have h1:=hall.out.1;rw [hkm2,← HM.out,List.take_length] at h1;rw [← h1];exact hs
       ·obtain⟨y,hy⟩:=List.mem_iff_getElem?.1 hl;exact hall.out.2 y l (by have:=(List.getElem?_eq_some_iff.1 hy).1;rw [HM.out] at this;omega) hy
      ·exact hok.out.2 j x (by omega) hx⟩
     have HBW:Hid (Below w.heap.size w wr):=hid (HB.out.trans (hb2.mono HB.out.size));clear hb2 hkk hk hkm hall hkm2;go_wp2_with fail;go_roundw
     case rel=>exact⟨i+1,q+m,by rfl,by go_num,HI.out,HQM.out,HBW.out,HKK.out,HOK⟩
     case measure=>have:=HI.out;simp [intOf];omega
  ·have q1:decide ((i:Int)<(ng:Int))=false:=dF;have q2:decide (i<ng)=false:=decide_eq_false hlt
   have HT:Hid (P=true):=hid (by
    rw [← HP.out];refine Sp.tb_yes ⟨?_,fun g hg=>by obtain⟨j,hj⟩:=List.mem_iff_getElem?.1 hg;exact hok.out.2 j g (by have:=(List.getElem?_eq_some_iff.1 hj).1;rw [HNL.out] at this;omega) hj⟩;have h1:=hok.out.1;(have h2:i=n.guards.length:=by rw [HNL.out];omega);rw [h2,List.take_length] at h1;rw [← h1]
    exact hq)
   clear hb hk hi hlt hok n0 n1 n2 n3;go_wp2;go_ret;exact⟨by rw [HT.out];rfl,HB.out⟩
theorem lower_validTables (n:Sp.Net) (A1 A2 A3:Option Addr) (c1 c2 c3:Nat) (w:World) (hpv:PV w A1 n.ports) (htv:TTV w A2 n.tables) (hgv:GGV w A3 n.guards) (hsz:Sp.Szd n) (hsm:n.tables.length≤1000000):
  Calls Tryz.prog 70 #[.agg #[.int .i64 n.bits,.slice A1 n.ports.length c1,.slice A2 n.tables.length c2,.slice A3 n.guards.length c3]] w fun r w'=>r=.returned (.bool (Sp.tb (Sp.TablesOk n)))∧Below w.heap.size w w':=by
 obtain⟨np,hnp⟩:=nM n.ports.length;obtain⟨nt,hnt⟩:=nM n.tables.length;obtain⟨ng,hng⟩:=nM n.guards.length;obtain⟨P,hP⟩:=nM (Sp.tb (Sp.TablesOk n));rw [hP,hnp,hnt,hng];obtain⟨W1,hW1⟩:=nM (w.alloc (.cells #[.int .i64 n.bits,.slice A1 np c1,.slice A2 nt c2,.slice A3 ng c3] 26));have hal:Below w.heap.size w W1:=by rw [← hW1];exact (Below.refl _ _).alloc (Nat.le_refl _) _
 have hk1:Blk W1 w.heap.size 26 #[.int .i64 n.bits,.slice A1 np c1,.slice A2 nt c2,.slice A3 ng c3]:=by rw [← hW1];exact Blk.new w _ _
 have HP:=hid hP;have HAL:=hid hal;have HK1:=hid hk1;have HPV:=hid hpv;have HTV:=hid htv;have HGV:=hid hgv;have HNP:=hid hnp;have HNT:=hid hnt;have HNG:=hid hng;have HNL:=hid (show n.tables.length=nt from hnt);have HSZ:=hid hsz;have hnl:nt≤4611686018427387904:=by rw [← hnt];exact hsz.nt
 have HNN:=hid (show nt≤1000000 by rw [← hnt];exact hsm);have m0:W1.cell? ⟨w.heap.size,0,none⟩=some (.int .i64 n.bits):=hk1.cell 0;have m1:W1.cell? ⟨w.heap.size,1,none⟩=some (.slice A1 np c1):=hk1.cell 1;have m2:W1.cell? ⟨w.heap.size,2,none⟩=some (.slice A2 nt c2):=hk1.cell 2;have m3:W1.cell? ⟨w.heap.size,3,none⟩=some (.slice A3 ng c3):=hk1.cell 3;clear hpv htv hgv hsz hnp hnt hng hP hal hk1;go_enter Tryz.func70,Tryz.ntmps70;go_wp2;clear hW1 m0 m1 m2 m3;go_loopw [3,12] (fun v3 v12 wr=>∃ i q:Nat,v12=.int .i64 (i:Int)∧v3=.int .i64 (q:Int)∧i≤nt∧q≤256∧Below w.heap.size w wr∧Blk wr w.heap.size 26 #[.int .i64 n.bits,.slice A1 np c1,.slice A2 nt c2,.slice A3 ng c3]∧Hid (q=((n.tables.take i).map List.length).sum∧∀ (j:Nat) (g:List Sp.Entry),j<i→n.tables[j]?=some g→Sp.TableOk n (j:Int) g)) (fun _ v12 _=>nt - (intOf v12).toNat)
 case atStart=>exact⟨0,0,rfl,rfl,Nat.zero_le _,by omega,HAL.out,HK1.out,hid ⟨by simp,fun j g hj=>by omega⟩⟩
 case round=>
  obtain⟨i,q,rfl,rfl,hi,hq,hb,hk,hok⟩:=hrel;have HB:=hid hb;have HK:=hid hk;have i0:(0:Int)≤(i:Int):=by omega
  have n0:wr.cell? ⟨w.heap.size,0,none⟩=some (.int .i64 n.bits):=hk.cell 0;have n1:wr.cell? ⟨w.heap.size,1,none⟩=some (.slice A1 np c1):=hk.cell 1;have n2:wr.cell? ⟨w.heap.size,2,none⟩=some (.slice A2 nt c2):=hk.cell 2;have n3:wr.cell? ⟨w.heap.size,3,none⟩=some (.slice A3 ng c3):=hk.cell 3;by_cases hlt:i<nt
  ·have q1:decide ((i:Int)<(nt:Int))=true:=dT;have q2:decide (i<nt)=true:=decide_eq_true hlt;have q3:(i:Int)<(nt:Int):=by omega
   obtain⟨g,hg0⟩:∃ g,n.tables[i]?=some g:=⟨_,List.getElem?_eq_getElem (by rw [HNL.out];exact hlt)⟩
   obtain⟨gb,go,Ag,cg,rfl,hgl,k0,hgv2,_⟩:=(HTV.out.more hb).at hg0;have hsg:=HSZ.out.tables g (List.mem_of_getElem? hg0);obtain⟨m,hm⟩:=nM g.length;rw [hm] at k0 hsg;have hst:=Sp.sum_step (f:=List.length) hg0;rw [hm,← hok.out.1] at hst;(have z1:IntKind.i64.wrap ((i:Int)+1)=(i:Int)+1:=by rw [IntKind.wrap_i64];omega);(have z2:IntKind.i64.wrap ((q:Int)+(m:Int))=(q:Int)+(m:Int):=by have:=hsg.1;rw [IntKind.wrap_i64];omega);have HLT:=hid hlt;have HI:=hid (show i+1≤nt by omega);by_cases hbig:256<q+m
   ·have r1:decide ((q:Int)+(m:Int) > 256)=true:=dT
    have HF:Hid (P=false):=hid (by
     rw [← HP.out];refine Sp.tb_no (fun h=>?_);have h1:=h.1;have h2:=Sp.sum_take (f:=List.length) (l:=n.tables) (i+1)
     omega)
    clear hb hk hi hlt hg0 hgv2 hsg hm hst hok hbig n0 n1 n2 n3;go_wp2;go_ret;exact⟨by rw [HF.out];rfl,HB.out⟩
   have r1:decide ((q:Int)+(m:Int) > 256)=false:=dF;have HQM:=hid (show q+m≤256 by omega);have HST:=hid hst;have HSG:=hid hsg;have HM:=hid hm;have HG0:=hid hg0;have HGV2:=hid hgv2;(have hm64:m≤256:=by omega);clear hb hk hi hlt hg0 hgv2 hsg hm hst hbig;go_wp2_with fail;clear n0 n1 n2 n3 k0;go_loopw [6,25] (fun v6 vk wr2=>∃ k s:Nat,vk=.int .i64 (k:Int)∧v6=.int .i64 (s:Int)∧k≤m∧s≤512∧Below wr.heap.size wr wr2∧Blk wr2 w.heap.size 26 #[.int .i64 n.bits,.slice A1 np c1,.slice (some ⟨gb,go,none⟩) nt c2,.slice A3 ng c3]∧Hid (s=((g.take k).map (fun l:Sp.Entry=>l.cubes.length)).sum∧∀ (j:Nat) (l:Sp.Entry),j<k→g[j]?=some l→Sp.EntryOk n (i:Int) l)) (fun _ vk _=>m - (intOf vk).toNat)
   case atStart=>exact⟨0,0,rfl,rfl,Nat.zero_le _,by omega,Below.refl _ _,HK.out,hid ⟨by simp,fun j g hj=>by omega⟩⟩
   case round=>
    obtain⟨k,s,rfl,rfl,hk,hs,hb2,hkk,hall⟩:=hrel;have HB2:=hid hb2;have HKK:=hid hkk;(have kk0:(0:Int)≤(k:Int):=by omega);by_cases hkm:k<m
    ·have s1:decide ((k:Int)<(m:Int))=true:=dT;have s2:decide (k<m)=true:=decide_eq_true hkm;have s3:(k:Int)<(m:Int):=by omega
     obtain⟨l,hl⟩:∃ l,g[k]?=some l:=⟨_,List.getElem?_eq_getElem (by rw [HM.out];exact hkm)⟩
     obtain⟨gx,ox,X1,x1,Ax,cx,X3,x3,rfl,hgx,q0,q1,q2',q3',q4',hiv,hsv,hov,hx1,hlc,hx3⟩:=(HGV2.out.more hb2).at hl;have hsl:=HSG.out.2 l (List.mem_of_getElem? hl);have hst:=Sp.sum_step (f:=fun l:Sp.Entry=>l.cubes.length) hl;rw [← hall.out.1] at hst;have t1:wr.cell? ⟨w.heap.size,0,none⟩=wr.cell? ⟨w.heap.size,0,none⟩:=rfl;have n0:wr.cell? ⟨w.heap.size,0,none⟩=some (.int .i64 n.bits):=hkk.cell 0;have n1:wr.cell? ⟨w.heap.size,1,none⟩=some (.slice A1 np c1):=hkk.cell 1;have n2:wr.cell? ⟨w.heap.size,2,none⟩=some (.slice (some ⟨gb,go,none⟩) nt c2):=hkk.cell 2;have n3:wr.cell? ⟨w.heap.size,3,none⟩=some (.slice A3 ng c3):=hkk.cell 3;clear t1;have HLN:=hid hkk.lt;have hln:=hkk.lt;have HBW:Hid (Below w.heap.size w wr):=hid (HB.out.trans (hb2.mono HB.out.size));have hal2:Below wr.heap.size wr (wr.alloc (.cells #[.string l.name,.slice X1 l.ins.length x1,.slice Ax l.cubes.length cx,.string l.write,.slice X3 l.outs.length x3] 94)):=(Below.refl _ _).alloc (Nat.le_refl _) _;have HAL2:=hid hal2;(have z3:IntKind.i64.wrap ((k:Int)+1)=(k:Int)+1:=by rw [IntKind.wrap_i64];omega);(have hcall:∀ W,Below wr.heap.size wr W→Calls Tryz.prog 78 #[.agg #[.int .i64 n.bits,.slice A1 np c1,.slice (some ⟨gb,go,none⟩) nt c2,.slice A3 ng c3],.int .i64 (i:Int),.agg #[.string l.name,.slice X1 l.ins.length x1,.slice Ax l.cubes.length cx,.string l.write,.slice X3 l.outs.length x3]] W fun r w'=>r=.returned (.bool (Sp.tb (Sp.EntryOk n (i:Int) l)))∧Below W.heap.size W w':=fun W hW=>by have hx:=lower_validEntry n i l A1 (some ⟨gb,go,none⟩) A3 X1 Ax X3 c1 c2 c3 x1 cx x3 W (HPV.out.more (HBW.out.trans (hW.mono HBW.out.size))) (hiv.more hW) (hsv.more hW) (hov.more hW) hx3 hsl.1 hsl.2.1 hsl.2.2.2.2.2 hsl.2.2.1 hsl.2.2.2.1 hsl.2.2.2.2.1 HSZ.out.np (by have:=HLT.out;have:=HNN.out;omega);rw [HNP.out,HNT.out,HNG.out] at hx;exact hx);obtain⟨nc,hnc⟩:=nM l.cubes.length;have hsl1:l.cubes.length≤4611686018427387904:=hsl.2.2.2.1;simp only [hnc] at *;(have z4:IntKind.i64.wrap ((s:Int)+(nc:Int))=(s:Int)+(nc:Int):=by rw [IntKind.wrap_i64];omega);have HKM:=hid (show k+1≤m by omega);by_cases hbig:512<s+nc
     ·have u1:decide ((s:Int)+(nc:Int) > 512)=true:=dT
      have HF:Hid (P=false):=hid (by
       rw [← HP.out];refine Sp.tb_no (fun h=>?_);have h0:Sp.TableOk n (i:Int) g:=h.2 i g HG0.out;have h1:=h0.1;have h2:=Sp.sum_take (f:=fun l:Sp.Entry=>l.cubes.length) (l:=g) (k+1)
       omega)
      clear hb2 hkk hk hkm hl hsl hst hall hbig hcall hal2 hnc hsl1;go_wp2;go_ret;exact⟨by rw [HF.out];rfl,HBW.out.trans (HAL2.out.mono HBW.out.size)⟩
     have u1:decide ((s:Int)+(nc:Int) > 512)=false:=dF;have HS5:=hid (show s+nc≤512 by omega);by_cases hy:Sp.EntryOk n (i:Int) l
     ·rw [Sp.tb_yes hy] at hcall;have HCALL:=hid hcall
      have HALL:Hid (s+nc=((g.take (k+1)).map (fun l:Sp.Entry=>l.cubes.length)).sum∧∀ (j:Nat) (l:Sp.Entry),j<k+1→g[j]?=some l→Sp.EntryOk n (i:Int) l):=hid ⟨hst.symm,by
       intro j x hj hx;by_cases hjk:j=k
       ·subst hjk;rw [hl] at hx;(injection hx with hx);rw [← hx];exact hy
       ·exact hall.out.2 j x (by omega) hx⟩
      clear hb2 hkk hk hkm hl hsl hst hall hbig hcall hal2 hnc hsl1 hy;go_wp2_with fail;refine (HCALL.out _ HAL2.out).mono ?_;rintro e wb ⟨rfl,hbb⟩;have HBB:=hid (HAL2.out.trans (hbb.mono HAL2.out.size));have HKB:=hid (HKK.out.below HBB.out HLN.out);clear hbb;go_wp2_with fail;go_roundw
      case rel=>exact⟨k+1,s+nc,by rfl,by go_num,HKM.out,HS5.out,HB2.out.trans (HBB.out.mono HB2.out.size),HKB.out,HALL⟩
      case measure=>have:=HKM.out;simp [intOf];omega
     ·rw [Sp.tb_no hy] at hcall;have HCALL:=hid hcall
      have HF:Hid (P=false):=hid (by
       rw [← HP.out];refine Sp.tb_no (fun h=>hy ?_);have h0:Sp.TableOk n (i:Int) g:=h.2 i g HG0.out
       exact h0.2 l (List.mem_of_getElem? hl))
      clear hb2 hkk hk hkm hl hsl hst hall hbig hcall hal2 hnc hsl1 hy;go_wp2_with fail;refine (HCALL.out _ HAL2.out).mono ?_;rintro e wb ⟨rfl,hbb⟩;have HBB:=hid (HAL2.out.trans (hbb.mono HAL2.out.size));clear hbb;go_wp2_with fail;go_ret;exact⟨by rw [HF.out];rfl,HBW.out.trans (HBB.out.mono HBW.out.size)⟩
    ·have s1:decide ((k:Int)<(m:Int))=false:=dF;have s2:decide (k<m)=false:=decide_eq_false hkm;have hkm2:k=m:=by omega
     have HOK:Hid (q+m=((n.tables.take (i+1)).map List.length).sum∧∀ (j:Nat) (g:List Sp.Entry),j<i+1→n.tables[j]?=some g→Sp.TableOk n (j:Int) g):=hid ⟨HST.out.symm,by
      intro j x hj hx;by_cases hji:j=i
      ·subst hji;rw [HG0.out] at hx;(injection hx with hx);subst hx;refine⟨?_,fun l hl=>?_⟩
       ·have h1:=hall.out.1;rw [hkm2,← HM.out,List.take_length] at h1;rw [← h1];exact hs
       ·obtain⟨y,hy⟩:=List.mem_iff_getElem?.1 hl;exact hall.out.2 y l (by have:=(List.getElem?_eq_some_iff.1 hy).1;rw [HM.out] at this;omega) hy
      ·exact hok.out.2 j x (by omega) hx⟩
     have HBW:Hid (Below w.heap.size w wr):=hid (HB.out.trans (hb2.mono HB.out.size));clear hb2 hkk hk hkm hall hkm2;go_wp2_with fail;go_roundw
     case rel=>exact⟨i+1,q+m,by rfl,by go_num,HI.out,HQM.out,HBW.out,HKK.out,HOK⟩
     case measure=>have:=HI.out;simp [intOf];omega
  ·have q1:decide ((i:Int)<(nt:Int))=false:=dF;have q2:decide (i<nt)=false:=decide_eq_false hlt
   have HT:Hid (P=true):=hid (by
    rw [← HP.out];refine Sp.tb_yes ⟨?_,fun j g hj=>hok.out.2 j g (by have:=(List.getElem?_eq_some_iff.1 hj).1;rw [HNL.out] at this;omega) hj⟩;have h1:=hok.out.1;(have h2:i=n.tables.length:=by rw [HNL.out];omega);rw [h2,List.take_length] at h1;rw [← h1]
    exact hq)
   clear hb hk hi hlt hok n0 n1 n2 n3;go_wp2;go_ret;exact⟨by rw [HT.out];rfl,HB.out⟩
structure Gn (w:World):Prop extends Gs w where
 space : Lib.TabIs Tryz.prog w "strings.asciiSpace" .u8 Lib.asciiSpaceTab
 white:Lib.WhiteTab 1 w
theorem Gn.below {w w':World} (h:Gn w) (hb:Below w.heap.size w w'):Gn w' where
 toGs:=h.toGs.below hb
 space:=Lib.tabBelow_of_tabIs h.space w' hb
 white:=by
  obtain⟨T,oT,R,oR,h1,h2,h3,h4,h5⟩:=h.white;exact⟨T,oT,R,oR,cell_below hb h1,cell_below hb h2,cell_below hb h3,cell_below hb h4,fun i hi=>cell_below hb (h5 i hi)⟩
theorem ba_ext {a b:ByteArray} (h:a.data.toList=b.data.toList):a=b:=by
 cases a with | mk a=>cases b with | mk b=>cases a;cases b;simp at h;rw [h]
theorem lower_token (s:ByteArray) (w:World) (hG:Gn w) (hs:s.size≤9223372036854775807):
  Calls Tryz.prog 76 #[.string s] w fun r w'=>r=.returned (.bool (Sp.tb (Sp.TokenOk s)))∧Below w.heap.size w w':=by
 obtain⟨n,hn⟩:=nM s.size;obtain⟨P,hP⟩:=nM (Sp.tb (Sp.TokenOk s));rw [hP];have HP:=hid hP;have HN:=hid hn;have HG:=hid hG;have HTR:=hid (Tryz.strings_TrimSpace_any s w hs hG.space hG.tabs hG.white);have HCO:=hid (fun W=>Tryz.strings_Contains_one s 35 W);have HSC:=hid (fun (ts:List Sp.Tok) (c n m:Nat) (h:Sp.scanV s.data.toList=(ts,c,n,m))=>scan_says s hs h);clear hP hG hs;by_cases h1:49<n
 ·have p1:decide ((n:Int) > 49)=true:=dT;have p2:decide (49<n)=true:=decide_eq_true h1;have hf:=HP.out;rw [Sp.tb_no (fun h=>by have:=h.1;have:=HN.out;omega)] at hf;subst hf;clear h1 HP;go_enter Tryz.func76,Tryz.ntmps76;go_wp2;go_ret;exact⟨rfl,Below.refl _ _⟩
 have p1:decide ((n:Int) > 49)=false:=dF;have p2:decide (49<n)=false:=decide_eq_false h1;have H49:=hid (show s.size≤49 by omega);by_cases h2:Lib.trimSpaceD s.data.toList=s.data.toList
 case neg=>
  obtain⟨t,ht⟩:∃ t:ByteArray,(⟨(Lib.trimSpaceD s.data.toList).toArray⟩:ByteArray)=t:=⟨_,rfl⟩
  have htr:=HTR.out;rw [ht] at htr;have HT:=hid htr
  have x1:(t.toList != s.toList)=true:=by
   rw [Lib.toList_data,Lib.toList_data,← ht,bne_iff_ne];intro e;exact h2 (by simpa using e)
  have x2:(t.toList == s.toList)=false:=by
   rw [Lib.toList_data,Lib.toList_data,← ht,beq_eq_false_iff_ne];intro e;exact h2 (by simpa using e)
  have hf:=HP.out;rw [Sp.tb_no (fun h=>h2 h.2.1)] at hf;subst hf;clear h1 h2 HP ht htr HTR;go_enter Tryz.func76,Tryz.ntmps76
  go_wp2_with (go_at_call 85;refine HT.out.mono ?_;rintro r w1 ⟨rfl,hb1⟩;have HB1:=hid hb1;clear hb1)
  go_ret;exact⟨rfl,HB1.out⟩
 have htr:=HTR.out;rw [h2,show (⟨s.data.toList.toArray⟩:ByteArray)=s from ba_ext (by simp)] at htr;have HT:=hid htr;have x1:(s.toList != s.toList)=false:=by simp
 clear htr HTR;by_cases h3:0≤Lib.indexByte s.data.toList 35
 ·have hco:=HCO.out;rw [decide_eq_true h3] at hco;have HC:=hid hco;have hf:=HP.out;rw [Sp.tb_no (fun h=>h.2.2.1 h3)] at hf;subst hf;clear h1 h2 h3 HP hco HCO;go_enter Tryz.func76,Tryz.ntmps76
  go_wp2_with (first | (go_at_call 85;refine HT.out.mono ?_;rintro r w1 ⟨rfl,hb1⟩;have HB1:=hid hb1;clear hb1) | (go_at_call 86;refine (HC.out _).mono ?_;rintro r w2 ⟨rfl,rfl⟩))
  go_ret;exact⟨rfl,HB1.out⟩
 have hco:=HCO.out;rw [decide_eq_false h3] at hco;have HC:=hid hco;have H2:=hid h2;have H3:=hid h3;clear hco HCO h1 h2 h3
 obtain⟨ts,c,nn,mm,hv⟩:∃ ts c nn mm,Sp.scanV s.data.toList=(ts,c,nn,mm):=⟨_,_,_,_,rfl⟩
 have HS:=hid (HSC.out _ _ _ _ hv);have HV:=hid hv;clear HSC hv;by_cases h4:c=0
 case neg=>
  have y1:((c:Int) == 0)=false:=beq_eq_false_iff_ne.2 (by omega);have hf:=HP.out;rw [Sp.tb_no (fun h=>h4 (by have:=h.2.2.2.1;rw [HV.out] at this;exact this))] at hf;subst hf;clear h4 HP;go_enter Tryz.func76,Tryz.ntmps76
  go_wp2_with (first | (go_at_call 85;refine HT.out.mono ?_;rintro r w1 ⟨rfl,hb1⟩;have HB1:=hid hb1;clear hb1) | (go_at_call 86;refine (HC.out _).mono ?_;rintro r w2 ⟨rfl,rfl⟩) | (go_at_call 87;refine (HS.out _ (HG.out.below HB1.out).toGs).mono ?_;rintro r w3 ⟨A,cap,rfl,hv3,hb3⟩;have HB3:=hid (HB1.out.trans (hb3.mono HB1.out.size));clear hv3 hb3))
  go_ret;exact⟨rfl,HB3.out⟩
 subst h4;have y1:(((0:Nat):Int) == 0)=true:=rfl;obtain⟨lt,hlt⟩:=nM ts.length;have HLT:=hid hlt;by_cases h5:lt=2
 case neg=>
  have y2:((lt:Int) == 2)=false:=beq_eq_false_iff_ne.2 (by omega);have hf:=HP.out;rw [Sp.tb_no (fun h=>h5 (by obtain⟨t,ln,cl,he⟩:=h.2.2.2.2;rw [HV.out] at he;rw [← HLT.out];show ts.length=2;rw [show ts=_ from he];rfl))] at hf;subst hf;clear h5 HP;go_enter Tryz.func76,Tryz.ntmps76
  go_wp2_with (first | (go_at_call 85;refine HT.out.mono ?_;rintro r w1 ⟨rfl,hb1⟩;have HB1:=hid hb1;clear hb1) | (go_at_call 86;refine (HC.out _).mono ?_;rintro r w2 ⟨rfl,rfl⟩) | (go_at_call 87;refine (HS.out _ (HG.out.below HB1.out).toGs).mono ?_;rintro r w3 ⟨A,cap,rfl,hv3,hb3⟩;have HB3:=hid (HB1.out.trans (hb3.mono HB1.out.size));clear hv3 hb3))
  go_ret;exact⟨rfl,HB3.out⟩
 subst h5
 obtain⟨⟨k,X,ln,cl⟩,t1,rfl⟩:∃ a b,ts=[a,b]:=by
  match ts,hlt with
  | [a,b],_=>exact⟨a,b,rfl⟩
 have y2:(((2:Nat):Int) == 2)=true:=rfl;clear hlt HLT
 obtain⟨x,hx⟩:∃ x:ByteArray,(⟨X.toArray⟩:ByteArray)=x:=⟨_,rfl⟩
 have HX:=hid hx;clear hx
 have hpost:(Sp.TokenOk s↔k=3∧x.toList=s.toList):=by
  rw [Lib.toList_data,Lib.toList_data,← HX.out];constructor
  ·intro h;obtain⟨t,ln',cl',he⟩:=h.2.2.2.2;rw [HV.out] at he;(injection he with he _);(injection he with h1 h2);(injection h2 with h2 _);exact⟨h1,by rw [h2]⟩
  ·rintro⟨rfl,he⟩;refine⟨H49.out,H2.out,H3.out,by rw [HV.out],t1,ln,cl,?_⟩;rw [HV.out];(have:X=s.data.toList:=by simpa using he);rw [this]
 have HPO:=hid hpost;clear hpost;by_cases h6:k=3
 case neg=>
  have y3:((k:Int) == 3)=false:=beq_eq_false_iff_ne.2 (by omega);have hf:=HP.out;rw [Sp.tb_no (fun h=>h6 (HPO.out.1 h).1)] at hf;subst hf;clear h6 HP;go_enter Tryz.func76,Tryz.ntmps76
  go_wp2_with (first | (go_at_call 85;refine HT.out.mono ?_;rintro r w1 ⟨rfl,hb1⟩;have HB1:=hid hb1;clear hb1) | (go_at_call 86;refine (HC.out _).mono ?_;rintro r w2 ⟨rfl,rfl⟩) | (go_at_call 87;refine (HS.out _ (HG.out.below HB1.out).toGs).mono ?_;rintro r w3 ⟨A,cap,rfl,hv3,hb3⟩;obtain⟨g,rfl,hg,k0,k1,k2,k3⟩:=hv3 0 _ rfl;simp only [Nat.zero_mul,Nat.zero_add] at k0 k1 k2 k3;have HB3:=hid (HB1.out.trans (hb3.mono HB1.out.size));clear hv3 hb3))
  go_ret;exact⟨rfl,HB3.out⟩
 subst h6;have y3:(((3:Nat):Int) == 3)=true:=rfl;by_cases h7:x.toList=s.toList
 ·have y4:(x.toList == s.toList)=true:=beq_iff_eq.2 h7;have hf:=HP.out;rw [Sp.tb_yes (HPO.out.2 ⟨rfl,h7⟩)] at hf;subst hf;clear h7 HP HPO;go_enter Tryz.func76,Tryz.ntmps76
  go_wp2_with (first | (go_at_call 85;refine HT.out.mono ?_;rintro r w1 ⟨rfl,hb1⟩;have HB1:=hid hb1;clear hb1) | (go_at_call 86;refine (HC.out _).mono ?_;rintro r w2 ⟨rfl,rfl⟩) | (go_at_call 87;refine (HS.out _ (HG.out.below HB1.out).toGs).mono ?_;rintro r w3 ⟨A,cap,rfl,hv3,hb3⟩;obtain⟨g,rfl,hg,k0,k1,k2,k3⟩:=hv3 0 _ rfl;simp only [Nat.zero_mul,Nat.zero_add] at k0 k1 k2 k3;rw [show (⟨X.toArray⟩:ByteArray)=x from HX.out] at k1;have HB3:=hid (HB1.out.trans (hb3.mono HB1.out.size));clear hv3 hb3))
  go_ret;exact⟨rfl,HB3.out⟩
 ·have y4:(x.toList == s.toList)=false:=beq_eq_false_iff_ne.2 h7;have hf:=HP.out;rw [Sp.tb_no (fun h=>h7 (HPO.out.1 h).2)] at hf;subst hf;clear h7 HP HPO;go_enter Tryz.func76,Tryz.ntmps76
  go_wp2_with (first | (go_at_call 85;refine HT.out.mono ?_;rintro r w1 ⟨rfl,hb1⟩;have HB1:=hid hb1;clear hb1) | (go_at_call 86;refine (HC.out _).mono ?_;rintro r w2 ⟨rfl,rfl⟩) | (go_at_call 87;refine (HS.out _ (HG.out.below HB1.out).toGs).mono ?_;rintro r w3 ⟨A,cap,rfl,hv3,hb3⟩;obtain⟨g,rfl,hg,k0,k1,k2,k3⟩:=hv3 0 _ rfl;simp only [Nat.zero_mul,Nat.zero_add] at k0 k1 k2 k3;rw [show (⟨X.toArray⟩:ByteArray)=x from HX.out] at k1;have HB3:=hid (HB1.out.trans (hb3.mono HB1.out.size));clear hv3 hb3))
  go_ret;exact⟨rfl,HB3.out⟩
end Go.Proofs.YtedfppbnkgffcaaGreatDoor
