/-
  Texts joined: Mb Mc Md Me.
-/
import Derived.Test.YtedfppbnkgffcaaGreatDoorMa
import Derived.Test.YtedfppbnkgffcaaGreatDoorWg
import Derived.Scope
import Derived.Deep.AppendLies
import Derived.Deep.CutRange
import Derived.Deep.DeepCutAuto
import Derived.Deep.QuietTactic
import Derived.BigQuiet
import Derived.Laws.IdiomStrings
import Derived.Deep.RegionHeld3
set_option linter.unusedVariables false
set_option linter.unusedSimpArgs false
set_option maxRecDepth 100000
set_option maxHeartbeats 4000000
namespace Go.Proofs.YtedfppbnkgffcaaGreatDoor
open Go.RowKit
open Go.Lib (hid)
namespace Sp
def covs:List UInt8→List UInt8→Bool
 | [],_=>true
 | c :: cs,h :: hs=>(c == 120 || c == h) && covs cs hs
 | _ :: _,[]=>false
def hasB (cubes:List ByteArray) (h:ByteArray):Bool:=cubes.any fun c=>covs c.data.toList h.data.toList
theorem covs_step {c h:ByteArray} {k:Nat} (hk:k<c.size) (hh:k<h.size) (hx:c[k]=120∨c[k]=h[k]):covs (c.data.toList.drop k) (h.data.toList.drop k)=covs (c.data.toList.drop (k+1)) (h.data.toList.drop (k+1)):=by
 have e1:c.data.toList.drop k=c[k] :: c.data.toList.drop (k+1):=List.drop_eq_getElem_cons (by simpa using hk);have e2:h.data.toList.drop k=h[k] :: h.data.toList.drop (k+1):=List.drop_eq_getElem_cons (by simpa using hh);rw [e1,e2];show ((c[k] == 120 || c[k] == h[k]) && _)=_;rcases hx with hx | hx
 ·rw [hx];rfl
 ·rw [hx,beq_self_eq_true,Bool.or_true];rfl
theorem covs_no {c h:ByteArray} {k:Nat} (hk:k<c.size) (hh:k<h.size) (h1:c[k]≠120) (h2:c[k]≠h[k]):covs (c.data.toList.drop k) (h.data.toList.drop k)=false:=by
 have e1:c.data.toList.drop k=c[k] :: c.data.toList.drop (k+1):=List.drop_eq_getElem_cons (by simpa using hk);have e2:h.data.toList.drop k=h[k] :: h.data.toList.drop (k+1):=List.drop_eq_getElem_cons (by simpa using hh);rw [e1,e2];show ((c[k] == 120 || c[k] == h[k]) && _)=_;rw [beq_eq_false_iff_ne.2 h1,beq_eq_false_iff_ne.2 h2];rfl
theorem covs_end {c h:ByteArray} {k:Nat} (hk:c.size≤k):covs (c.data.toList.drop k) (h.data.toList.drop k)=true:=by
 rw [List.drop_eq_nil_of_le (by simpa using hk)]
 cases h.data.toList.drop k <;> rfl
theorem hasB_yes {cubes:List ByteArray} {h c:ByteArray} {i:Nat} (hc:cubes[i]?=some c) (hy:covs c.data.toList h.data.toList=true):hasB cubes h=true:=
 List.any_eq_true.2 ⟨c,List.mem_of_getElem? hc,hy⟩
theorem hasB_no {cubes:List ByteArray} {h:ByteArray} (hn:∀ (i:Nat) (c:ByteArray),cubes[i]?=some c→covs c.data.toList h.data.toList=false):hasB cubes h=false:=by
 rw [hasB,List.any_eq_false];intro c hc;obtain⟨i,hi⟩:=List.mem_iff_getElem?.1 hc;rw [hn i c hi];decide
end Sp
theorem below_drewN {B:Nat} {a w:World} (h:Below B a w) (n:Nat):Below B a (w.drewN n):=⟨h.os,h.tape,h.output,h.size,h.block⟩
theorem step_has (A:Option Addr) (cap:Nat) (cubes:List ByteArray) (h:ByteArray) (w:World) (hv:SV w A cubes) (hc:∀ c ∈ cubes,c.size≤h.size) (hh:h.size≤1000000) (hl:cubes.length≤1000000):
  Calls Tryz.prog 67 #[.slice A cubes.length cap,.string h] w fun e w'=>e=.returned (.bool (Sp.hasB cubes h))∧Below w.heap.size w w':=by
 obtain⟨n,hn⟩:=nM cubes.length;rw [hn] at hl ⊢;have HN:=hid hn;have HV:=hid hv;have HC:=hid hc;clear hn hv hc;go_enter Tryz.func67,Tryz.ntmps67;go_wp2;refine wp_scope_straight ?_;go_wp2;refine wp_label ?_;go_wp2;go_loopw [10] (fun v10 wr=>∃ i:Nat,v10=.int .i64 (i:Int)∧i≤n∧Below w.heap.size w wr∧Hid (∀ (j:Nat) (c:ByteArray),j<i→cubes[j]?=some c→Sp.covs c.data.toList h.data.toList=false)) (fun v10 _=>n - (intOf v10).toNat)
 case atStart=>exact⟨0,rfl,Nat.zero_le _,Below.refl _ _,hid (fun j c hj=>by omega)⟩
 case round=>
  obtain⟨i,rfl,hi,hb,hno⟩:=hrel;have HB:=hid hb;have i0:(0:Int)≤(i:Int):=by omega
  by_cases hlt:i<n
  ·have p1:decide ((i:Int)<(n:Int))=true:=dT;have p2:decide (i<n)=true:=decide_eq_true hlt;have p3:(i:Int)<(n:Int):=by omega
   obtain⟨c,hcs⟩:∃ c,cubes[i]?=some c:=⟨_,List.getElem?_eq_getElem (by rw [HN.out];exact hlt)⟩
   obtain⟨g,o,rfl,hg,c0⟩:=(HV.out.more hb).at hcs;have hcz:=HC.out c (List.mem_of_getElem? hcs);have HI:=hid (show i+1≤n by omega);have HCS:=hid hcs;(have z1:IntKind.i64.wrap ((i:Int)+1)=(i:Int)+1:=by rw [IntKind.wrap_i64];omega);clear hb hi hlt hcs;go_wp2;go_loopw [16] (fun v16 wr2=>∃ k:Nat,v16=.int .i64 (k:Int)∧k≤c.size∧Below wr.heap.size wr wr2∧Hid (Sp.covs (c.data.toList.drop k) (h.data.toList.drop k)=Sp.covs c.data.toList h.data.toList)) (fun v16 _=>c.size - (intOf v16).toNat)
   case atStart=>exact⟨0,rfl,Nat.zero_le _,Below.refl _ _,hid rfl⟩
   case round=>
    obtain⟨k,rfl,hk,hb2,hcv⟩:=hrel;have HB2:=hid hb2;(have k0:(0:Int)≤(k:Int):=by omega);by_cases hkl:k<c.size
    ·have q1:decide ((k:Int)<(c.size:Int))=true:=dT;have q2:decide (k<c.size)=true:=decide_eq_true hkl;(have q3:(k:Int)<(c.size:Int):=by omega);(have hkh:k<h.size:=by omega);(have q4:(k:Int)<(h.size:Int):=by omega);(have z2:IntKind.i64.wrap ((k:Int)+1)=(k:Int)+1:=by rw [IntKind.wrap_i64];omega);have b1:=UInt8.toNat_lt (c[k]'hkl);have b2:=UInt8.toNat_lt (h[k]'hkh);have HKC:=hid (show k+1≤c.size by omega);by_cases hx:(c[k]'hkl)=120
     ·have x1:(((c[k]'hkl).toNat:Int) != 120)=false:=by rw [hx];rfl
      have hst:=Sp.covs_step hkl hkh (Or.inl hx);rw [hcv.out] at hst;have HST:=hid hst.symm;clear hb2 hst hx hk;go_wp2;go_quiet (fail);go_wp2;go_roundw
      case rel=>exact⟨k+1,by rfl,HKC.out,below_drewN HB2.out _,HST⟩
      case measure=>have:=HKC.out;simp [intOf];omega
     ·have x1:(((c[k]'hkl).toNat:Int) != 120)=true:=by rw [bne_iff_ne];intro e;exact hx (UInt8.toNat_inj.1 (by rw [show (120:UInt8).toNat=120 from rfl];omega))
      by_cases hy:(c[k]'hkl)=(h[k]'hkh)
      ·have x2:(((c[k]'hkl).toNat:Int) != ((h[k]'hkh).toNat:Int))=false:=by rw [hy];simp
       have hst:=Sp.covs_step hkl hkh (Or.inr hy);rw [hcv.out] at hst;have HST:=hid hst.symm;clear hb2 hst hx hk hy;go_wp2;go_quiet (fail);go_wp2;go_roundw
       case rel=>exact⟨k+1,by rfl,HKC.out,below_drewN HB2.out _,HST⟩
       case measure=>have:=HKC.out;simp [intOf];omega
      ·have x2:(((c[k]'hkl).toNat:Int) != ((h[k]'hkh).toNat:Int))=true:=by rw [bne_iff_ne];intro e;exact hy (UInt8.toNat_inj.1 (by omega))
       have hst:=Sp.covs_no hkl hkh hx hy;rw [hcv.out] at hst;have HST:=hid hst;clear hb2 hst hx hk hy;go_wp2;go_quiet (fail);go_wp2;have hbz:=below_drewN (HB.out.trans (HB2.out.mono HB.out.size)) nq
       have hno2:∀ (j:Nat) (c:ByteArray),j<i+1→cubes[j]?=some c→Sp.covs c.data.toList h.data.toList=false:=by
        intro j c2 hj hc2;by_cases hji:j=i
        ·subst hji;rw [HCS.out] at hc2;(injection hc2 with hc2);rw [← hc2];exact HST.out
        ·exact hno.out j c2 (by omega) hc2
       go_roundw
       case rel=>exact⟨i+1,by rfl,HI.out,hbz,hid hno2⟩
       case measure=>have:=HI.out;simp [intOf];omega
    ·have q1:decide ((k:Int)<(c.size:Int))=false:=dF;have q2:decide (k<c.size)=false:=decide_eq_false hkl;have hyes:=Sp.hasB_yes HCS.out (by rw [← hcv.out];exact Sp.covs_end (k:=k) (by omega));have HY:=hid hyes;clear hb2 hk hkl hyes;go_wp2
     dsimp (config:={ zetaDelta:=true }) only [Exit.noGoto,Exit.inBlock,Exit.then]
     go_ret;exact⟨by rw [HY.out];rfl,HB.out.trans (HB2.out.mono HB.out.size)⟩
  ·have p1:decide ((i:Int)<(n:Int))=false:=dF;have p2:decide (i<n)=false:=decide_eq_false hlt;have hnn:=Sp.hasB_no (cubes:=cubes) (h:=h) (fun j c hj=>hno.out j c (by have:=(List.getElem?_eq_some_iff.1 hj).1;rw [HN.out] at this;omega) hj);have HY:=hid hnn;clear hb hi hlt hnn;go_wp2
   dsimp (config:={ zetaDelta:=true }) only [Exit.noGoto,Exit.inBlock,Exit.then]
   go_ret;exact⟨by rw [HY.out];rfl,HB.out⟩
namespace Sp
def letsB (g:List Guard) (h:ByteArray):Bool:=match g.find? (fun l=>hasB l.cubes h) with | some l=>l.permit | none=>g.isEmpty
theorem lets_yes {g:List Guard} {h:ByteArray} {i:Nat} {l:Guard} (hl:g[i]?=some l) (hno:∀ j m,j<i→g[j]?=some m→hasB m.cubes h=false) (hy:hasB l.cubes h=true):letsB g h=l.permit:=by
 unfold letsB
 have:g.find? (fun l=>hasB l.cubes h)=some l:=by
  rw [List.find?_eq_some_iff_getElem];refine⟨hy,i,(List.getElem?_eq_some_iff.1 hl).1,(List.getElem?_eq_some_iff.1 hl).2,fun j hj=>?_⟩;rw [hno j _ hj (List.getElem?_eq_getElem _)];rfl
 rw [this]
theorem lets_no {g:List Guard} {h:ByteArray} (hno:∀ (j:Nat) (m:Guard),g[j]?=some m→hasB m.cubes h=false):letsB g h=decide (g.length=0):=by
 unfold letsB
 have:g.find? (fun l=>hasB l.cubes h)=none:=by
  rw [List.find?_eq_none];intro m hm;obtain⟨i,hi⟩:=List.mem_iff_getElem?.1 hm;rw [hno i m hi];decide
 rw [this]
 cases g <;> rfl
def fitsG (g:List Guard) (h:ByteArray):Prop:=(∀ l ∈ g,l.cubes.length≤1000000∧∀ c ∈ l.cubes,c.size≤h.size)∧g.length≤1000000
end Sp
def NetAt (w:World) (N:Nat) (n:Sp.Net):Prop:=∃ cs,NetR w n cs∧N<w.heap.size∧(∀ f u,cs[f]?=some u→w.cell? ⟨N,f,none⟩=some u)
theorem NetAt.more {w w':World} {N:Nat} {n:Sp.Net} (h:NetAt w N n) (hb:Below w.heap.size w w'):NetAt w' N n:=by
 obtain⟨cs,h1,h2,h3⟩:=h;exact⟨cs,h1.more hb,Nat.lt_of_lt_of_le h2 hb.size,fun f u hf=>(hb.cell (p:=⟨N,f,none⟩) h2).trans (h3 f u hf)⟩
theorem NetAt.at {w:World} {N:Nat} {n:Sp.Net} (h:NetAt w N n):∃ A1 c1 A2 c2 A3 c3,N<w.heap.size∧w.cell? ⟨N,0,none⟩=some (.int .i64 n.bits)∧w.cell? ⟨N,1,none⟩=some (.slice A1 n.ports.length c1)∧w.cell? ⟨N,2,none⟩=some (.slice A2 n.tables.length c2)∧w.cell? ⟨N,3,none⟩=some (.slice A3 n.guards.length c3)∧PV w A1 n.ports∧TTV w A2 n.tables∧GGV w A3 n.guards∧n.ports.length≤c1∧n.tables.length≤c2∧n.guards.length≤c3:=by
 obtain⟨cs,⟨A1,c1,A2,c2,A3,c3,rfl,h1,h2,h3⟩,hN,hc⟩:=h;exact⟨A1,c1,A2,c2,A3,c3,hN,hc 0 _ rfl,hc 1 _ rfl,hc 2 _ rfl,hc 3 _ rfl,h1,h2,h3⟩
theorem step_lets (N:Nat) (n:Sp.Net) (p:Nat) (g:List Sp.Guard) (h:ByteArray) (w:World) (hn:NetAt w N n) (hg:n.guards[p]?=some g) (hf:Sp.fitsG g h) (hp:n.guards.length≤1000000) (hh:h.size≤1000000):
  Calls Tryz.prog 50 #[.pointer (some ⟨N,0,none⟩),.int .i64 (p:Int),.string h] w fun e w'=>e=.returned (.bool (Sp.letsB g h))∧Below w.heap.size w w':=by
 obtain⟨A1,c1,A2,c2,A3,c3,hN,n0,n1,n2,n3,_,_,hgv,_⟩:=hn.at;obtain⟨gb,go,Ag,cg,rfl,hgl,k0,hgv2,_⟩:=hgv.at hg;have hpl:p<n.guards.length:=(List.getElem?_eq_some_iff.1 hg).1;have x0:(0:Int)≤(p:Int):=by omega
 have x1:(p:Int)<(n.guards.length:Int):=by omega
 obtain⟨m,hm⟩:=nM g.length;obtain⟨ng,hng⟩:=nM n.guards.length;rw [hng] at n3 x1 hp;rw [hm] at k0;have hml:m≤1000000:=by rw [← hm];exact hf.2
 have HM:=hid hm;have HF:=hid hf;have HG:=hid hgv2;clear hn hgv hg hf hm hng hgv2 hpl n0 n1 n2;go_enter Tryz.func50,Tryz.ntmps50;go_wp2;clear n3 k0;go_loopw [19] (fun v19 wr=>∃ i:Nat,v19=.int .i64 (i:Int)∧i≤m∧Below w.heap.size w wr∧Hid (∀ (j:Nat) (l:Sp.Guard),j<i→g[j]?=some l→Sp.hasB l.cubes h=false)) (fun v19 _=>m - (intOf v19).toNat)
 case atStart=>exact⟨0,rfl,Nat.zero_le _,Below.refl _ _,hid (fun j l hj=>by omega)⟩
 case round=>
  obtain⟨i,rfl,hi,hb,hno⟩:=hrel;have HB:=hid hb;have i0:(0:Int)≤(i:Int):=by omega
  by_cases hlt:i<m
  ·have p1:decide ((i:Int)<(m:Int))=true:=dT;have p2:decide (i<m)=true:=decide_eq_true hlt;have p3:(i:Int)<(m:Int):=by omega
   obtain⟨l,hl⟩:∃ l,g[i]?=some l:=⟨_,List.getElem?_eq_getElem (by rw [HM.out];exact hlt)⟩
   obtain⟨gx,ox,Ax,cx,rfl,hgx,q0,q1,hsv,_⟩:=(HG.out.more hb).at hl;have hfl:=HF.out.1 l (List.mem_of_getElem? hl);(have z1:IntKind.i64.wrap ((i:Int)+1)=(i:Int)+1:=by rw [IntKind.wrap_i64];omega);have HI:=hid (show i+1≤m by omega);have HL:=hid hl;(have hcall:∀ W,Below wr.heap.size wr W→Calls Tryz.prog 67 #[.slice Ax l.cubes.length cx,.string h] W fun e w'=>e=.returned (.bool (Sp.hasB l.cubes h))∧Below W.heap.size W w':=fun W hW=>step_has Ax cx l.cubes h W (hsv.more hW) hfl.2 hh hfl.1);have hal:Below wr.heap.size wr (wr.alloc (.cells #[.bool l.permit,.slice Ax l.cubes.length cx] 96)):=(Below.refl _ _).alloc (Nat.le_refl _) _;have HAL:=hid hal;have hnew:=World.news_of_block (cs:=#[.bool l.permit,.slice Ax l.cubes.length cx]) (t:=96) (fr:=(0,0)) (heap_alloc_new wr _);have hc0:(wr.alloc (.cells #[.bool l.permit,.slice Ax l.cubes.length cx] 96)).cell? ⟨wr.heap.size,0,none⟩=some (.bool l.permit):=hnew 0 _ rfl;have HC0:=hid hc0;(have hsz:wr.heap.size<(wr.alloc (.cells #[.bool l.permit,.slice Ax l.cubes.length cx] 96)).heap.size:=by simp);have HSZ:=hid hsz;by_cases hy:Sp.hasB l.cubes h=true
   ·rw [hy] at hcall;have HCALL:=hid hcall;have HY:=hid (Sp.lets_yes hl hno.out hy);clear hb hi hlt hl hcall hal hnew hc0 hsz hsv hfl hy;go_wp2_with fail;refine (HCALL.out _ HAL.out).mono ?_;rintro e wb ⟨rfl,hbb⟩;have c0:=(hbb.cell (p:=⟨wr.heap.size,0,none⟩) HSZ.out).trans HC0.out;have hbz:=HB.out.trans ((HAL.out.trans (hbb.mono HAL.out.size)).mono HB.out.size);have HBZ:=hid hbz;clear hbb hbz;go_wp2;go_ret;exact⟨by rw [HY.out];rfl,HBZ.out⟩
   ·rw [Bool.eq_false_iff.2 hy] at hcall;have HCALL:=hid hcall
    have hno2:∀ (j:Nat) (l:Sp.Guard),j<i+1→g[j]?=some l→Sp.hasB l.cubes h=false:=by
     intro j l2 hj hl2;by_cases hji:j=i
     ·subst hji;rw [hl] at hl2;(injection hl2 with hl2);rw [← hl2];exact Bool.eq_false_iff.2 hy
     ·exact hno.out j l2 (by omega) hl2
    have HNO:=hid hno2;clear hb hi hlt hl hcall hal hnew hc0 hsz hsv hfl hy hno2 hno;go_wp2_with fail;refine (HCALL.out _ HAL.out).mono ?_;rintro e wb ⟨rfl,hbb⟩;have hbz:=HB.out.trans ((HAL.out.trans (hbb.mono HAL.out.size)).mono HB.out.size);have HBZ:=hid hbz;clear hbb hbz;go_wp2;go_roundw
    case rel=>exact⟨i+1,by rfl,HI.out,HBZ.out,HNO⟩
    case measure=>have:=HI.out;simp [intOf];omega
  ·have p1:decide ((i:Int)<(m:Int))=false:=dF;have p2:decide (i<m)=false:=decide_eq_false hlt;have hnn:=Sp.lets_no (g:=g) (h:=h) (fun j l hj=>hno.out j l (by have:=(List.getElem?_eq_some_iff.1 hj).1;rw [HM.out] at this;omega) hj);rw [HM.out] at hnn;have HY:=hid hnn;by_cases hm0:m=0
   ·have r1:((m:Int) == 0)=true:=beq_iff_eq.2 (by omega);have r2:decide (m=0)=true:=decide_eq_true hm0;rw [r2] at HY;have HY2:=HY;clear hb hi hlt hnn hm0 hno HY r2;go_wp2;go_ret;exact⟨by rw [HY2.out];rfl,HB.out⟩
   ·have r1:((m:Int) == 0)=false:=beq_eq_false_iff_ne.2 (by omega);have r2:decide (m=0)=false:=decide_eq_false hm0;rw [r2] at HY;have HY2:=HY;clear hb hi hlt hnn hm0 hno HY r2;go_wp2;go_ret;exact⟨by rw [HY2.out];rfl,HB.out⟩
namespace Sp
def numB (n:Net) (box place:Nat):Nat:=place+((n.tables.take box).map List.length).sum
theorem numB_step {l:List (List Entry)} {i:Nat} {t:List Entry} (h:l[i]?=some t):((l.take (i+1)).map List.length).sum=((l.take i).map List.length).sum+t.length:=by
 have hi:=(List.getElem?_eq_some_iff.1 h).1;rw [List.take_succ_eq_append_getElem hi,List.map_append,List.sum_append];have e:=(List.getElem?_eq_some_iff.1 h).2;rw [e];simp
theorem take_sum_le {l:List (List Entry)} (i:Nat):((l.take i).map List.length).sum≤(l.map List.length).sum:=by
 conv=>rhs;rw [← List.take_append_drop i l]
 rw [List.map_append,List.sum_append];omega
end Sp
theorem step_number (N:Nat) (n:Sp.Net) (b p:Nat) (w:World) (hn:NetAt w N n) (hb:b≤n.tables.length) (ht:(n.tables.map List.length).sum≤1000000) (hp:p≤1000000) (hc:n.tables.length≤1000000):
  Calls Tryz.prog 51 #[.pointer (some ⟨N,0,none⟩),.int .i64 (b:Int),.int .i64 (p:Int)] w fun e w'=>e=.returned (.int .i64 (Sp.numB n b p:Int))∧Below w.heap.size w w':=by
 obtain⟨A1,c1,A2,c2,A3,c3,hN,n0,n1,n2,n3,_,htv,_,_,htc,_⟩:=hn.at;obtain⟨nt,hnt⟩:=nM n.tables.length;rw [hnt] at n2 hb hc htc;have HT:=hid htv;have HS:=hid ht;have HNT:=hid hnt;clear hn htv ht hnt n0 n1 n3;have x0:(0:Int)≤(b:Int):=by omega
 have x1:(b:Int)≤(nt:Int):=by omega
 have x2:(b:Int)≤(c2:Int):=by omega
 go_enter Tryz.func51,Tryz.ntmps51;go_wp2;go_loopw [2,16] (fun v2 v16 wr=>∃ i q:Nat,v16=.int .i64 (i:Int)∧v2=.int .i64 (q:Int)∧i≤b∧wr=w∧Hid (q=p+((n.tables.take i).map List.length).sum)) (fun _ v16 _=>b - (intOf v16).toNat)
 case atStart=>exact⟨0,p,rfl,rfl,Nat.zero_le _,rfl,hid (by simp)⟩
 case round=>
  obtain⟨i,q,rfl,rfl,hi,rfl,hq⟩:=hrel;have i0:(0:Int)≤(i:Int):=by omega
  by_cases hlt:i<b
  ·have p1:decide ((i:Int)<(b:Int))=true:=dT;have p2:decide (i<b)=true:=decide_eq_true hlt;have p3:(i:Int)<(b:Int):=by omega
   obtain⟨t,hl⟩:∃ t,n.tables[i]?=some t:=⟨_,List.getElem?_eq_getElem (by rw [HNT.out];omega)⟩
   obtain⟨gx,ox,Ax,cx,rfl,hgx,q0,_,_⟩:=HT.out.at hl;(have z1:IntKind.i64.wrap ((i:Int)+1)=(i:Int)+1:=by rw [IntKind.wrap_i64];omega);have hst:=Sp.numB_step hl;have hle:=Sp.take_sum_le (l:=n.tables) (i+1);have hS:=HS.out;obtain⟨m,hm⟩:=nM t.length;rw [hm] at q0 hst;have hq1:=hq.out;(have z2:IntKind.i64.wrap ((q:Int)+(m:Int))=(q:Int)+(m:Int):=by rw [IntKind.wrap_i64];omega);have HI:=hid (show i+1≤b by omega);have HQ:=hid (show q+m=p+((n.tables.take (i+1)).map List.length).sum by omega);clear hi hlt hl hst hle hS hm hq1 hq;go_wp2;go_roundw
   case rel=>exact⟨i+1,q+m,by rfl,by go_num,HI.out,by trivial,HQ⟩
   case measure=>have:=HI.out;simp [intOf];omega
  ·have p1:decide ((i:Int)<(b:Int))=false:=dF;have p2:decide (i<b)=false:=decide_eq_false hlt;(obtain rfl:i=b:=by omega);have HQ:=hq;clear hi hlt hq;go_wp2;go_ret;exact⟨by rw [Sp.numB,← HQ.out];rfl,Below.refl _ _⟩
namespace Sp
def wrB (a b:UInt8):UInt8:=if a=120 then b else a
def wrL:List UInt8→List UInt8→List UInt8
 | a :: r,b :: s=>wrB a b :: wrL r s
 | _,s=>s
def wordV (word h:ByteArray):ByteArray:=⟨(wrL word.data.toList h.data.toList).toArray⟩
theorem wrL_len:∀ a b:List UInt8,(wrL a b).length=b.length
 | [],b=>by cases b <;> rfl
 | _ :: _,[]=>rfl
 | a :: r,b :: s=>by rw [wrL,List.length_cons,List.length_cons,wrL_len r s]
theorem wrL_at:∀ (a b:List UInt8) (i:Nat) (x y:UInt8),a[i]?=some x→b[i]?=some y→(wrL a b)[i]?=some (wrB x y)
 | [],b,i,x,y,h,_=>by simp at h
 | _ :: _,[],i,x,y,_,h=>by simp at h
 | a :: r,b :: s,0,x,y,h1,h2=>by
  simp at h1 h2;subst h1 h2;rfl
 | a :: r,b :: s,i+1,x,y,h1,h2=>by
  rw [wrL,List.getElem?_cons_succ];exact wrL_at r s i x y (by simpa using h1) (by simpa using h2)
end Sp
def BV (w:World) (B n:Nat) (f:Nat→UInt8):Prop:=B<w.heap.size∧∀ j,j<n→w.cell? ⟨B,j,none⟩=some (.int .u8 ((f j).toNat:Int))∧w.frozen? ⟨B,j,none⟩=false
theorem BV.set {w:World} {B n i:Nat} {f:Nat→UInt8} (h:BV w B n f) (hi:i<n) (c:UInt8):BV (w.setCell ⟨B,i,none⟩ (.int .u8 (c.toNat:Int))) B n (fun j=>if j=i then c else f j):=by
 refine⟨by rw [World.size_setCell];exact h.1,fun j hj=>⟨?_,by rw [World.frozen?_setCell];exact (h.2 j hj).2⟩⟩;by_cases hji:j=i
 ·subst hji;show _=some (Value.int .u8 (((if j=j then c else f j).toNat:Nat):Int));rw [if_pos rfl];exact World.cell?_setCell_same' _ _ _ (by rw [(h.2 j hj).1];rfl)
 ·show _=some (Value.int .u8 (((if j=i then c else f j).toNat:Nat):Int));rw [if_neg hji,World.cell?_setCell_other _ _ _ _ (show (⟨B,i,none⟩:Addr)≠⟨B,j,none⟩ from fun e=>hji (by injection e with _ e _;exact e.symm))];exact (h.2 j hj).1
theorem bv_new (w:World) (s:ByteArray) (cap:Nat) (hc:s.size≤cap) (hs:s.size≤1000000):
  BV (w.alloc (.cells (bytesRow s cap) 5 ((bytesRow s cap).size,(bytesRow s cap).size+1))).drew w.heap.size s.size (fun j=>s.data.toList.getD j 0):=by
 have hsz:(bytesRow s cap).size=cap:=by
  unfold bytesRow;rw [Array.size_append,Array.size_map,Array.size_replicate];show s.data.size+_=_;have:s.data.size=s.size:=rfl;omega
 have hh:=heap_alloc_new w (.cells (bytesRow s cap) 5 ((bytesRow s cap).size,(bytesRow s cap).size+1));refine⟨by show w.heap.size<(w.alloc _).heap.size;rw [World.size_alloc];omega,fun j hj=>⟨?_,?_⟩⟩
 ·have hjs:j<s.data.size:=hj
  have:=World.news_of_block hh j (.int .u8 ((s.data.toList.getD j 0).toNat:Int)) (by
   rw [Array.getElem?_toList];unfold bytesRow;rw [Array.getElem?_append_left (by rw [Array.size_map];exact hjs),Array.getElem?_map,Array.getElem?_eq_getElem hjs,List.getD_eq_getElem?_getD,Array.getElem?_toList,Array.getElem?_eq_getElem hjs]
   rfl)
  rw [xadd_plain,Nat.zero_add] at this;exact this
 ·have:=World.frozen?_alloc_mark w (bytesRow s cap) 5 (bytesRow s cap).size ((bytesRow s cap).size+1) j;show World.frozen? (w.alloc _) ⟨w.heap.size,j,none⟩=false;rw [this,hsz,decide_eq_false (by omega)];rfl
theorem bv_string {w:World} {B n cap:Nat} {f:Nat→UInt8} (h:BV w B n f) (l:List UInt8) (hl:l.length=n) (hf:∀ j x,l[j]?=some x→f j=x):
  (convert 125 9 (.slice (some ⟨B,0,none⟩) n cap)).run Tryz.prog w=.ok (.string ⟨l.toArray⟩) w:=by
 subst hl;refine run_convert_bytes_back w 125 9 5 ⟨B,0,none⟩ cap l Tryz.underlying125 Tryz.underlying5 Tryz.underlying9 ?_;intro j hj;rw [xadd_plain,Nat.zero_add,(h.2 j hj).1,hf j _ (List.getElem?_eq_getElem hj)]
theorem step_write (word h:ByteArray) (w:World) (hw:word.size=h.size) (hh:h.size≤1000000):
  Calls Tryz.prog 49 #[.string word,.string h] w fun e w'=>e=.returned (.string (Sp.wordV word h))∧Below w.heap.size w w':=by
 have hcv:=run_bytes_of_string (P:=Tryz.prog) w 9 125 5 h Tryz.underlying9 Tryz.underlying125 Tryz.underlying5;obtain⟨cap,hcap⟩:=nM (grownCap w h.size 0 5);rw [hcap] at hcv;have hge:h.size≤cap:=by rw [← hcap];exact grownCap_ge w _ _ _
 clear hcap;have hbv:=bv_new w h cap hge hh;have hbl:Below w.heap.size w (w.alloc (.cells (bytesRow h cap) 5 ((bytesRow h cap).size,(bytesRow h cap).size+1))).drew:=((Below.refl _ _).alloc (Nat.le_refl _) _).drew;have HBV:=hid hbv;have HBL:=hid hbl;obtain⟨n,hn⟩:=nM h.size;rw [hn] at hw hh;have HN:=hid hn;have HW:=hid hw;have n0:(0:Int)≤(n:Int):=by omega
 clear hbv hbl hge hw;go_enter Tryz.func49,Tryz.ntmps49;go_wp2;clear hcv;clear hn;go_loopw [11] (fun v11 wr=>∃ i:Nat,v11=.int .i64 (i:Int)∧i≤n∧Below w.heap.size w wr∧∃ f,BV wr w.heap.size n f∧Hid (∀ j,j<n→f j=if j<i then Sp.wrB (word.data.toList.getD j 0) (h.data.toList.getD j 0) else h.data.toList.getD j 0)) (fun v11 _=>n - (intOf v11).toNat)
 case atStart=>exact⟨0,rfl,Nat.zero_le _,HBL.out,_,by have:=HBV.out;rw [HN.out] at this;exact this,hid (fun j hj=>by rw [if_neg (by omega)])⟩
 case round=>
  obtain⟨i,rfl,hi,hb,f,hbv,hf⟩:=hrel;have HB:=hid hb;have i0:(0:Int)≤(i:Int):=by omega
  have hwz:=HW.out;have hnz:=HN.out;by_cases hlt:i<n
  ·have p1:decide ((i:Int)<(n:Int))=true:=dT;have p2:decide (i<n)=true:=decide_eq_true hlt;(have p3:(i:Int)<(n:Int):=by omega);(have hiw:i<word.size:=by omega);(have hih:i<h.size:=by omega);(have p4:(i:Int)<(word.size:Int):=by omega);(have z1:IntKind.i64.wrap ((i:Int)+1)=(i:Int)+1:=by rw [IntKind.wrap_i64];omega);(have gw:word.data.toList.getD i 0=word[i]'hiw:=by rw [List.getD_eq_getElem?_getD,List.getElem?_eq_getElem (by simpa using hiw)];rfl);(have gh:h.data.toList.getD i 0=h[i]'hih:=by rw [List.getD_eq_getElem?_getD,List.getElem?_eq_getElem (by simpa using hih)];rfl);obtain⟨q0,q1⟩:=hbv.2 i hlt;have HBV3:=hid hbv;have b1:=UInt8.toNat_lt (word[i]'hiw);by_cases hx:word[i]'hiw=120
   ·have x1:(((word[i]'hiw).toNat:Int) != 120)=false:=by rw [hx];rfl
    have hnx:∀ j,j<n→f j=if j<i+1 then Sp.wrB (word.data.toList.getD j 0) (h.data.toList.getD j 0) else h.data.toList.getD j 0:=by
     intro j hj;rw [hf.out j hj];by_cases hji:j=i
     ·subst hji;rw [if_neg (by omega),if_pos (by omega),gw,hx];rfl
     ·by_cases hj2:j<i
      ·rw [if_pos hj2,if_pos (by omega)]
      ·rw [if_neg hj2,if_neg (by omega)]
    have HNX:=hid hnx;have HI:=hid (show i+1≤n by omega);clear hb hi hlt hbv hf hnx gw gh hx hwz hnz;go_wp2;go_roundw
    case rel=>exact⟨i+1,by rfl,HI.out,HB.out,f,HBV3.out,HNX⟩
    case measure=>have:=HI.out;simp [intOf];omega
   ·have x1:(((word[i]'hiw).toNat:Int) != 120)=true:=by rw [bne_iff_ne];intro e;exact hx (UInt8.toNat_inj.1 (by rw [show (120:UInt8).toNat=120 from rfl];omega))
    have hnx:∀ j,j<n→(fun j=>if j=i then word[i]'hiw else f j) j=if j<i+1 then Sp.wrB (word.data.toList.getD j 0) (h.data.toList.getD j 0) else h.data.toList.getD j 0:=by
     intro j hj;show (if j=i then word[i]'hiw else f j)=_;by_cases hji:j=i
     ·subst hji;rw [if_pos rfl,if_pos (by omega),gw,Sp.wrB,if_neg hx]
     ·rw [if_neg hji,hf.out j hj];by_cases hj2:j<i
      ·rw [if_pos hj2,if_pos (by omega)]
      ·rw [if_neg hj2,if_neg (by omega)]
    have HNX:=hid hnx;have HI:=hid (show i+1≤n by omega);have HIL:=hid hlt;clear hb hi hlt hbv hf hnx gw gh hx hwz hnz;go_wp2;go_roundw
    case rel=>exact⟨i+1,by rfl,HI.out,HB.out.setCell (p:=⟨w.heap.size,i,none⟩) (Nat.le_refl _) _,_,HBV3.out.set HIL.out _,HNX⟩
    case measure=>have:=HI.out;simp [intOf];omega
  ·have p1:decide ((i:Int)<(n:Int))=false:=dF;have p2:decide (i<n)=false:=decide_eq_false hlt
   have hst:=bv_string (cap:=cap) hbv (Sp.wrL word.data.toList h.data.toList) (by rw [Sp.wrL_len];exact hnz) (by
    intro j x hx
    have hj:j<n:=by
     have:=(List.getElem?_eq_some_iff.1 hx).1;rw [Sp.wrL_len] at this;have e:h.data.toList.length=h.size:=rfl;omega
    (have hjw:j<word.data.toList.length:=by show j<word.size;omega);(have hjh:j<h.data.toList.length:=by show j<h.size;omega);rw [Sp.wrL_at _ _ j _ _ (List.getElem?_eq_getElem hjw) (List.getElem?_eq_getElem hjh)] at hx;(injection hx with hx);rw [hf.out j hj,if_pos (by omega),List.getD_eq_getElem?_getD,List.getElem?_eq_getElem hjw,List.getD_eq_getElem?_getD,List.getElem?_eq_getElem hjh,← hx]
    rfl)
   clear hb hi hlt hbv hf hwz hnz;go_wp2;go_ret;exact⟨by rfl,HB.out⟩
namespace Sp
def idxF {α:Type} (f:α→Bool):List α→Int
 | []=>-1
 | x :: r=>if f x=true then 0 else if idxF f r<0 then -1 else idxF f r+1
theorem idxF_range {α:Type} (f:α→Bool):∀ l:List α,-1≤idxF f l∧idxF f l<(l.length:Int)
 | []=>by unfold idxF;simp
 | x :: r=>by
  have ih:=idxF_range f r;unfold idxF;rw [List.length_cons];split
  ·omega
  ·split <;> omega
theorem idxF_no {α:Type} {f:α→Bool}:∀ {l:List α},(∀ (i:Nat) (x:α),l[i]?=some x→f x=false)→idxF f l=-1
 | [],_=>rfl
 | x :: r,h=>by
  have h0:=h 0 x rfl;have ih:=idxF_no (f:=f) (l:=r) (fun i y hy=>h (i+1) y (by simpa using hy));unfold idxF;rw [if_neg (by rw [h0];decide),ih];rfl
theorem idxF_yes {α:Type} {f:α→Bool}:∀ {l:List α} {i:Nat} {x:α},l[i]?=some x→f x=true→(∀ (j:Nat) (y:α),j<i→l[j]?=some y→f y=false)→idxF f l=(i:Int)
 | [],i,x,h,_,_=>by simp at h
 | x :: r,0,y,h,hy,_=>by
  simp at h;subst h;unfold idxF;rw [if_pos hy];rfl
 | x :: r,i+1,y,h,hy,hno=>by
  have h0:=hno 0 x (by omega) rfl;have ih:=idxF_yes (f:=f) (l:=r) (i:=i) (x:=y) (by simpa using h) hy (fun j z hj hz=>hno (j+1) z (by omega) (by simpa using hz));unfold idxF;rw [if_neg (by rw [h0];decide),ih,if_neg (by omega)];omega
theorem idxF_find {α:Type} {f:α→Bool} {l:List α} (h:0≤idxF f l):∃ x,l[(idxF f l).toNat]?=some x∧f x=true∧∀ (j:Nat) (y:α),(j:Int)<idxF f l→l[j]?=some y→f y=false:=by
 induction l with
 | nil=>unfold idxF at h;omega
 | cons a r ih=>
  unfold idxF at h ⊢;by_cases ha:f a=true
  ·rw [if_pos ha];exact⟨a,rfl,ha,fun j y hj=>by omega⟩
  ·rw [if_neg ha] at h ⊢;by_cases hr:idxF f r<0
   ·rw [if_pos hr] at h;omega
   ·rw [if_neg hr] at h ⊢;obtain⟨x,hx,hf,hno⟩:=ih (by omega);refine⟨x,?_,hf,fun j y hj hy=>?_⟩
    ·rw [show (idxF f r+1).toNat=(idxF f r).toNat+1 by omega];simpa using hx
    ·cases j with
     | zero=>
      simp at hy;rw [← hy];exact Bool.eq_false_iff.2 ha
     | succ j=>exact hno j y (by omega) (by simpa using hy)
def idxI (l:List Int) (x:Int):Int:=idxF (fun y=>x == y) l
def memB (l:List Int) (x:Int):Bool:=decide (0≤idxI l x)
end Sp
theorem slices_index (A:Option Addr) (cap:Nat) (l:List Int) (x:Int) (w:World) (hv:IV w A l) (hl:l.length≤4611686018427387904):
  Calls Tryz.prog 53 #[.slice A l.length cap,.int .i64 x] w fun e w'=>e=.returned (.int .i64 (Sp.idxI l x))∧w'=w:=by
 obtain⟨n,hn⟩:=nM l.length;rw [hn] at hl ⊢;have HN:=hid hn;have HV:=hid hv;clear hn hv;go_enter Tryz.func53,Tryz.ntmps53;go_wp2;go_loop [8] (fun v8=>∃ i:Nat,v8=.int .i64 (i:Int)∧i≤n∧Hid (∀ (j:Nat) (y:Int),j<i→l[j]?=some y→(x == y)=false)) (fun v8=>n - (intOf v8).toNat)
 case atStart=>exact⟨0,rfl,Nat.zero_le _,hid (fun j y hj=>by omega)⟩
 case round=>
  obtain⟨i,rfl,hi,hno⟩:=hrel;have i0:(0:Int)≤(i:Int):=by omega
  by_cases hlt:i<n
  ·have p1:decide ((i:Int)<(n:Int))=true:=dT;have p2:decide (i<n)=true:=decide_eq_true hlt;have p3:(i:Int)<(n:Int):=by omega
   obtain⟨y,hy⟩:∃ y,l[i]?=some y:=⟨_,List.getElem?_eq_getElem (by rw [HN.out];exact hlt)⟩
   obtain⟨g,o,rfl,hg,c0⟩:=HV.out.at hy;(have z1:IntKind.i64.wrap ((i:Int)+1)=(i:Int)+1:=by rw [IntKind.wrap_i64];omega);have HI:=hid (show i+1≤n by omega);by_cases hxy:(x == y)=true
   ·have HY:=hid (Sp.idxF_yes (f:=fun y=>x == y) hy hxy hno.out);clear hi hlt hy hno;go_wp2;go_ret;exact⟨by rw [Sp.idxI,HY.out];rfl,rfl⟩
   ·have hxf:(x == y)=false:=Bool.eq_false_iff.2 hxy
    have hno2:∀ (j:Nat) (z:Int),j<i+1→l[j]?=some z→(x == z)=false:=by
     intro j z hj hz;by_cases hji:j=i
     ·subst hji;rw [hy] at hz;(injection hz with hz);rw [← hz];exact hxf
     ·exact hno.out j z (by omega) hz
    have HNO:=hid hno2;clear hi hlt hy hno hxy hno2;go_wp2;go_round
    case rel=>exact⟨i+1,by rfl,HI.out,HNO⟩
    case measure=>have:=HI.out;simp [intOf];omega
  ·have p1:decide ((i:Int)<(n:Int))=false:=dF;have p2:decide (i<n)=false:=decide_eq_false hlt;have HY:=hid (Sp.idxF_no (f:=fun y=>x == y) (l:=l) (fun j y hj=>hno.out j y (by have:=(List.getElem?_eq_some_iff.1 hj).1;rw [HN.out] at this;omega) hj));clear hi hlt hno;go_wp2;go_ret;exact⟨by rw [Sp.idxI,HY.out];rfl,rfl⟩
theorem slices_contains (A:Option Addr) (cap:Nat) (l:List Int) (x:Int) (w:World) (hv:IV w A l) (hl:l.length≤4611686018427387904):
  Calls Tryz.prog 33 #[.slice A l.length cap,.int .i64 x] w fun e w'=>e=.returned (.bool (Sp.memB l x))∧w'=w:=by
 have H:=hid (slices_index A cap l x w hv hl);obtain⟨r,hr⟩:=nM (Sp.idxI l x);have hm:Sp.memB l x=decide (r ≥ 0):=by unfold Sp.memB;rw [hr]
 rw [hr] at H;rw [hm];clear hr hm;go_enter Tryz.func33,Tryz.ntmps33
 go_wp2_with (go_at_call 53;refine H.out.mono ?_;rintro e w' ⟨rfl,rfl⟩)
 go_ret;exact⟨rfl,rfl⟩
namespace Sp
def fitsE (e:Entry) (p:Int) (h:ByteArray):Bool:=memB e.ins p && hasB e.cubes h
end Sp
theorem step_fit1 (e:Sp.Entry) (A1 A2 A3:Option Addr) (c1 c2 c3:Nat) (p:Int) (h:ByteArray) (Bp Bh:Nat) (w:World) (hi:IV w A1 e.ins) (hs:SV w A2 e.cubes) (hp:w.cell? ⟨Bp,0,none⟩=some (.int .i64 p)) (hh:w.cell? ⟨Bh,0,none⟩=some (.string h)) (hbp:Bp<w.heap.size) (hbh:Bh<w.heap.size)
  (hil:e.ins.length≤1000000) (hcl:e.cubes.length≤1000000) (hc:∀ c ∈ e.cubes,c.size≤h.size) (hhs:h.size≤1000000):
  Calls Tryz.prog 66 #[.agg #[.string e.name,.slice A1 e.ins.length c1,.slice A2 e.cubes.length c2,.string e.write,.slice A3 e.outs.length c3],.pointer (some ⟨Bp,0,none⟩),.pointer (some ⟨Bh,0,none⟩)] w fun r w'=>r=.returned (.bool (Sp.fitsE e p h))∧Below w.heap.size w w':=by
 have hcon:∀ W,Below w.heap.size w W→Calls Tryz.prog 33 #[.slice A1 e.ins.length c1,.int .i64 p] W fun r w'=>r=.returned (.bool (Sp.memB e.ins p))∧w'=W:=fun W hb=>slices_contains A1 c1 e.ins p W (hi.more hb) (by omega)
 have hhas:∀ W,Below w.heap.size w W→Calls Tryz.prog 67 #[.slice A2 e.cubes.length c2,.string h] W fun r w'=>r=.returned (.bool (Sp.hasB e.cubes h))∧Below W.heap.size W w':=fun W hb=>step_has A2 c2 e.cubes h W (hs.more hb) hc hhs hcl
 have hal:Below w.heap.size w (w.alloc (.cells #[.string e.name,.slice A1 e.ins.length c1,.slice A2 e.cubes.length c2,.string e.write,.slice A3 e.outs.length c3] 94)):=(Below.refl _ _).alloc (Nat.le_refl _) _;have HAL:=hid hal;clear hi hs hal hc hil hcl hhs;by_cases hm:Sp.memB e.ins p=true
 ·rw [hm] at hcon;have hf:Sp.fitsE e p h=Sp.hasB e.cubes h:=by unfold Sp.fitsE;rw [hm];rfl
  rw [hf];have HCON:=hid hcon;have HHAS:=hid hhas;clear hcon hhas hm hf;go_enter Tryz.func66,Tryz.ntmps66
  go_wp2_with (first | (go_at_call 33;refine (HCON.out _ HAL.out).mono ?_;rintro r w1 ⟨rfl,rfl⟩) | (go_at_call 67;refine (HHAS.out _ HAL.out).mono ?_;rintro r w2 ⟨rfl,hb2⟩))
  go_ret;exact⟨rfl,HAL.out.trans (hb2.mono HAL.out.size)⟩
 ·rw [Bool.eq_false_iff.2 hm] at hcon;have hf:Sp.fitsE e p h=false:=by unfold Sp.fitsE;rw [Bool.eq_false_iff.2 hm];rfl
  rw [hf];have HCON:=hid hcon;clear hcon hhas hm hf;go_enter Tryz.func66,Tryz.ntmps66
  go_wp2_with (go_at_call 33;refine (HCON.out _ HAL.out).mono ?_;rintro r w1 ⟨rfl,rfl⟩)
  go_ret;exact⟨rfl,HAL.out⟩
namespace Sp
def fitsT (t:List Entry) (h:ByteArray):Prop:=∀ e ∈ t,e.ins.length≤1000000∧e.cubes.length≤1000000∧∀ c ∈ e.cubes,c.size≤h.size
def fitI (t:List Entry) (p:Int) (h:ByteArray):Int:=idxF (fun e=>fitsE e p h) t
end Sp
theorem step_index (A:Option Addr) (cap:Nat) (t:List Sp.Entry) (p:Int) (h:ByteArray) (Bp Bh:Nat) (w:World) (hv:EV w A t) (hp:w.cell? ⟨Bp,0,none⟩=some (.int .i64 p)) (hh:w.cell? ⟨Bh,0,none⟩=some (.string h)) (hbp:Bp<w.heap.size) (hbh:Bh<w.heap.size)
  (hl:t.length≤1000000) (hf:Sp.fitsT t h) (hhs:h.size≤1000000):
  Calls Tryz.prog 65 #[.slice A t.length cap,.func (.func 66) #[] #[.pointer (some ⟨Bp,0,none⟩),.pointer (some ⟨Bh,0,none⟩)]] w fun r w'=>r=.returned (.int .i64 (Sp.fitI t p h))∧Below w.heap.size w w':=by
 obtain⟨n,hn⟩:=nM t.length;rw [hn] at hl ⊢;have HN:=hid hn;have HV:=hid hv;have HF:=hid hf;have HP:=hid hp;have HH:=hid hh;have eg:=enters_of (P:=Tryz.prog) Tryz.func66 (by kernel_rfl) rfl;clear hn hv hf hp hh;go_enter Tryz.func65,Tryz.ntmps65;go_wp2;go_loopw [8] (fun v8 wr=>∃ i:Nat,v8=.int .i64 (i:Int)∧i≤n∧Below w.heap.size w wr∧Hid (∀ (j:Nat) (e:Sp.Entry),j<i→t[j]?=some e→Sp.fitsE e p h=false)) (fun v8 _=>n - (intOf v8).toNat)
 case atStart=>exact⟨0,rfl,Nat.zero_le _,Below.refl _ _,hid (fun j y hj=>by omega)⟩
 case round=>
  obtain⟨i,rfl,hi,hb,hno⟩:=hrel;have HB:=hid hb;have i0:(0:Int)≤(i:Int):=by omega
  by_cases hlt:i<n
  ·have p1:decide ((i:Int)<(n:Int))=true:=dT;have p2:decide (i<n)=true:=decide_eq_true hlt;have p3:(i:Int)<(n:Int):=by omega
   obtain⟨x,hx⟩:∃ x,t[i]?=some x:=⟨_,List.getElem?_eq_getElem (by rw [HN.out];exact hlt)⟩
   obtain⟨g,o,A1,c1,A2,c2,A3,c3,rfl,hg,q0,q1,q2,q3,q4,v1,v2,v3,_⟩:=(HV.out.more hb).at hx;obtain⟨f1,f2,f3⟩:=HF.out x (List.mem_of_getElem? hx);(have z1:IntKind.i64.wrap ((i:Int)+1)=(i:Int)+1:=by rw [IntKind.wrap_i64];omega);have HI:=hid (show i+1≤n by omega);have hcall:=step_fit1 x A1 A2 A3 c1 c2 c3 p h Bp Bh wr v1 v2 ((hb.cell (p:=⟨Bp,0,none⟩) hbp).trans HP.out) ((hb.cell (p:=⟨Bh,0,none⟩) hbh).trans HH.out) (by have:=hb.size;omega) (by have:=hb.size;omega) f1 f2 f3 hhs;by_cases hy:Sp.fitsE x p h=true
   ·rw [hy] at hcall;have HCALL:=hid hcall;have HY:=hid (Sp.idxF_yes (f:=fun e=>Sp.fitsE e p h) hx hy hno.out);clear hb hi hlt hx hcall v1 v2 v3 f1 f2 f3 hy hno
    go_wp2_with (go_at_call 66;refine HCALL.out.mono ?_;rintro e wb ⟨rfl,hbb⟩;have HBB:=hid (HB.out.trans (hbb.mono HB.out.size));clear hbb)
    go_ret;exact⟨by rw [Sp.fitI,HY.out];rfl,HBB.out⟩
   ·rw [Bool.eq_false_iff.2 hy] at hcall;have HCALL:=hid hcall
    have hno2:∀ (j:Nat) (e:Sp.Entry),j<i+1→t[j]?=some e→Sp.fitsE e p h=false:=by
     intro j z hj hz;by_cases hji:j=i
     ·subst hji;rw [hx] at hz;(injection hz with hz);rw [← hz];exact Bool.eq_false_iff.2 hy
     ·exact hno.out j z (by omega) hz
    have HNO:=hid hno2;clear hb hi hlt hx hcall v1 v2 v3 f1 f2 f3 hy hno hno2
    go_wp2_with (go_at_call 66;refine HCALL.out.mono ?_;rintro e wb ⟨rfl,hbb⟩;have HBB:=hid (HB.out.trans (hbb.mono HB.out.size));clear hbb)
    go_roundw
    case rel=>exact⟨i+1,by rfl,HI.out,HBB.out,HNO⟩
    case measure=>have:=HI.out;simp [intOf];omega
  ·have p1:decide ((i:Int)<(n:Int))=false:=dF;have p2:decide (i<n)=false:=decide_eq_false hlt;have HY:=hid (Sp.idxF_no (f:=fun e=>Sp.fitsE e p h) (l:=t) (fun j y hj=>hno.out j y (by have:=(List.getElem?_eq_some_iff.1 hj).1;rw [HN.out] at this;omega) hj));clear hb hi hlt hno;go_wp2;go_ret;exact⟨by rw [Sp.fitI,HY.out];rfl,HB.out⟩
namespace Sp
def fitN (n:Net) (p:Nat) (h:ByteArray):Int:=match n.guards[p]?,n.ports[p]? with
 | some g,some q=>if letsB g h=true then fitI (n.tables.getD q.box.toNat []) p h else -1
 | _,_=>-1
end Sp
theorem step_fit (N:Nat) (n:Sp.Net) (p:Nat) (q:Sp.Port) (g:List Sp.Guard) (t:List Sp.Entry) (h:ByteArray) (w:World) (hn:NetAt w N n) (hg:n.guards[p]?=some g) (hq:n.ports[p]?=some q) (hb:0≤q.box) (ht:n.tables[q.box.toNat]?=some t)
  (hf:Sp.fitsG g h) (hft:Sp.fitsT t h) (htl:t.length≤1000000) (hp:n.guards.length≤1000000) (hpp:n.ports.length≤1000000) (htt:n.tables.length≤1000000) (hh:h.size≤1000000):
  Calls Tryz.prog 48 #[.pointer (some ⟨N,0,none⟩),.int .i64 (p:Int),.string h] w fun r w'=>r=.returned (.int .i64 (Sp.fitN n p h))∧Below w.heap.size w w':=by
 have hb1:Below w.heap.size w (w.alloc (.cells #[.int .i64 (p:Int)] 3)):=(Below.refl _ _).alloc (Nat.le_refl _) _;have hb2:Below w.heap.size w ((w.alloc (.cells #[.int .i64 (p:Int)] 3)).alloc (.cells #[.string h] 9)):=hb1.alloc (by simp) _
 have hfit:Sp.fitN n p h=if Sp.letsB g h=true then Sp.fitI t p h else -1:=by
  unfold Sp.fitN;rw [hg,hq];simp only [List.getD_eq_getElem?_getD,ht];rfl
 rw [hfit];obtain⟨W2,hW2⟩:=nM ((w.alloc (.cells #[.int .i64 (p:Int)] 3)).alloc (.cells #[.string h] 9));obtain⟨B,hB⟩:=nM w.heap.size;have hsz:W2.heap.size=B+2:=by rw [← hW2,← hB];simp
 rw [hW2,hB] at hb2
 have hx0:W2.cell? ⟨B,0,none⟩=some (.int .i64 (p:Int)):=by
  rw [← hW2,← hB,World.cell?_alloc_past _ _ _ (by simp)];exact World.news_of_block (heap_alloc_new w (.cells #[.int .i64 (p:Int)] 3)) 0 _ rfl
 have hx1:W2.cell? ⟨B+1,0,none⟩=some (.string h):=by
  have:=World.news_of_block (heap_alloc_new (w.alloc (.cells #[.int .i64 (p:Int)] 3)) (.cells #[.string h] 9)) 0 _ rfl;rw [World.size_alloc,hB] at this;rw [← hW2];exact this
 have hlets:=step_lets N n p g h W2 (hn.more (by rw [hB];exact hb2)) hg hf hp hh
 obtain⟨b,hbb⟩:∃ b:Nat,q.box.toNat=b:=⟨_,rfl⟩
 have hqb:q.box=(b:Int):=by omega
 rw [hbb] at ht;have HN:=hid hn;have HB2:=hid hb2;have HW2:=hid hW2;have HB:=hid hB;have HQ:=hid hq;have HT:=hid ht;have HFT:=hid hft;have HQB:=hid hqb;have HSZ:=hid hsz;have HX0:=hid hx0;have HX1:=hid hx1;clear hn hg hq ht hf hft hb1 hb2 hfit hbb hqb hb hp;by_cases hl:Sp.letsB g h=true
 ·rw [hl] at hlets;rw [if_pos hl];have HL:=hid hlets;clear hlets hl hsz;go_enter Tryz.func48,Tryz.ntmps48
  go_wp2_with (go_at_call 50;refine HL.out.mono ?_;rintro e W3 ⟨rfl,hb3⟩;have HB3:=hid hb3;clear hb3)
  have hn3:=HN.out.more (w':=W3) (by rw [HB.out];exact HB2.out.trans (HB3.out.mono (by have:=HSZ.out;omega)));obtain⟨A1,c1,A2,c2,A3,c3,hN,n0,n1,n2,n3,pv,tv,_⟩:=hn3.at;obtain⟨gq,oq,rfl,hgq,_,k1,_,_⟩:=pv.at HQ.out;obtain⟨gt,ot,At,ct,rfl,hgt,k2,ev,_⟩:=tv.at HT.out;rw [HQB.out] at k1;have pl:p<n.ports.length:=(List.getElem?_eq_some_iff.1 HQ.out).1;have bl:b<n.tables.length:=(List.getElem?_eq_some_iff.1 HT.out).1;obtain⟨np,hnp⟩:=nM n.ports.length;obtain⟨nt,hnt⟩:=nM n.tables.length;obtain⟨m,hm⟩:=nM t.length;rw [hnp] at n1 pl;rw [hnt] at n2 bl;rw [hm] at k2 htl;have b0:(0:Int)≤(b:Int):=by omega
  have b1:(b:Int)<(nt:Int):=by omega
  have p0:(0:Int)≤(p:Int):=by omega
  have p1:(p:Int)<(np:Int):=by omega
  have k3:W3.cell? ⟨B,0,none⟩=some (.int .i64 (p:Int)):=(HB3.out.cell (p:=⟨B,0,none⟩) (by have:=HSZ.out;show B<_;omega)).trans HX0.out;have k4:W3.cell? ⟨B+1,0,none⟩=some (.string h):=(HB3.out.cell (p:=⟨B+1,0,none⟩) (by have:=HSZ.out;show B+1<_;omega)).trans HX1.out;have lB:B+1<W3.heap.size:=by have:=HSZ.out;have:=HB3.out.size;omega
  have hS5:W3.cell? ⟨N,2,none⟩=some (.slice (some ⟨gt,ot,none⟩) nt c2)∧W3.cell? ⟨N,1,none⟩=some (.slice (some ⟨gq,oq,none⟩) np c1)∧W3.cell? ⟨B,0,none⟩=some (.int .i64 (p:Int))∧W3.cell? ⟨gq,oq+p * 4+1,none⟩=some (.int .i64 (b:Int))∧W3.cell? ⟨gt,ot+b,none⟩=some (.slice At m ct):=⟨n2,n1,k3,k1,k2⟩
  have hkeep:∀ W,Below W3.drew.heap.size W3.drew W→W.cell? ⟨N,2,none⟩=some (.slice (some ⟨gt,ot,none⟩) nt c2)∧W.cell? ⟨N,1,none⟩=some (.slice (some ⟨gq,oq,none⟩) np c1)∧W.cell? ⟨B,0,none⟩=some (.int .i64 (p:Int))∧W.cell? ⟨gq,oq+p * 4+1,none⟩=some (.int .i64 (b:Int))∧W.cell? ⟨gt,ot+b,none⟩=some (.slice At m ct):=fun W hb=>⟨(hb.cell (p:=⟨N,2,none⟩) hN).trans n2,(hb.cell (p:=⟨N,1,none⟩) hN).trans n1,(hb.cell (p:=⟨B,0,none⟩) (by show B<W3.heap.size;omega)).trans k3,(hb.cell (p:=⟨gq,oq+p * 4+1,none⟩) hgq).trans k1,(hb.cell (p:=⟨gt,ot+b,none⟩) hgt).trans k2⟩
  have hix:∀ W,Below W3.heap.size W3 W→Calls Tryz.prog 65 #[.slice At m ct,.func (.func 66) #[] #[.pointer (some ⟨B,0,none⟩),.pointer (some ⟨B+1,0,none⟩)]] W fun r w'=>r=.returned (.int .i64 (Sp.fitI t p h))∧Below W.heap.size W w':=fun W hW=>by
   rw [← hm];exact step_index At ct t p h B (B+1) W (ev.more hW) ((hW.cell (p:=⟨B,0,none⟩) (by show B<W3.heap.size;omega)).trans k3) ((hW.cell (p:=⟨B+1,0,none⟩) lB).trans k4) (by have:=hW.size;omega) (by have:=hW.size;omega) (by omega) HFT.out hh
  have HIX:=hid hix;have HK:=hid hkeep;have hdr:Below W3.heap.size W3 W3.drew:=(Below.refl _ _).drew;have HDR:=hid hdr;have hB3:=HB2.out.trans (HB3.out.mono (by have:=HSZ.out;omega));have HB4:=hid hB3;clear hn3 n0 n1 n2 n3 pv tv k1 k2 k3 k4 ev hkeep hix hnp hnt hm hdr hB3 hx0 hx1 hW2 lB
  go_region_held3 (fun w'=>w'.cell? ⟨N,2,none⟩=some (.slice (some ⟨gt,ot,none⟩) nt c2)∧w'.cell? ⟨N,1,none⟩=some (.slice (some ⟨gq,oq,none⟩) np c1)∧w'.cell? ⟨B,0,none⟩=some (.int .i64 (p:Int))∧w'.cell? ⟨gq,oq+p * 4+1,none⟩=some (.int .i64 (b:Int))∧w'.cell? ⟨gt,ot+b,none⟩=some (.slice At m ct))
   (first | go_keep | exact hS5 | exact ks)
   ((go_at_call 65;refine (HIX.out _ HDR.out).mono ?_;rintro e wd ⟨rfl,hbd⟩;have ks:=HK.out wd hbd))
  go_wp2;go_ret;have hW3:B≤W3.heap.size:=by rw [← HB.out];exact HB4.out.size
  exact⟨rfl,by rw [HB.out];exact HB4.out.trans ((HDR.out.trans (hbd.mono HDR.out.size)).mono hW3)⟩
 ·rw [Bool.eq_false_iff.2 hl] at hlets;rw [if_neg hl];have HL:=hid hlets;clear hlets hl hsz;go_enter Tryz.func48,Tryz.ntmps48
  go_wp2_with (go_at_call 50;refine HL.out.mono ?_;rintro e W3 ⟨rfl,hb3⟩;have HB3:=hid hb3;clear hb3)
  go_ret;exact⟨rfl,by rw [HB.out];exact HB2.out.trans (HB3.out.mono (by have:=HSZ.out;omega))⟩
end Go.Proofs.YtedfppbnkgffcaaGreatDoor
