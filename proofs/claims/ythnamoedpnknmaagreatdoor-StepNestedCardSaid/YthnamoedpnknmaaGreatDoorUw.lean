/-
  Texts joined: Us Uv Uw.
-/
import Derived.Test.YthnamoedpnknmaaGreatDoorUb
set_option linter.unusedVariables false
set_option linter.unusedSimpArgs false
set_option maxRecDepth 100000
set_option maxHeartbeats 4000000
namespace Go.Proofs.YthnamoedpnknmaaGreatDoor
open Go.RowKit
open Go.Lib (hid)
theorem ref1_Has (c h:ByteArray) (w:World) (hz:c.size=h.size) (hp:0<h.size) (hh:h.size≤1000000) (hbit:∀ k (hk:k<h.size),h[k]=48∨h[k]=49):
  Calls Tryz.prog 97 #[.string c,.string h] w fun e w'=>e=.returned (.bool (Sp.covs c.data.toList h.data.toList))∧Below w.heap.size w w':=by
 have HB0:=hid hbit
 have e0:c.toList.isEmpty=false:=by
  rw [ByteArray.toList_eq,List.isEmpty_eq_false_iff];intro e;have h1:c.data.toList.length=0:=by rw [e];rfl
  have h2:c.data.toList.length=c.size:=by simp
  omega
 have e1:((c.size:Int) != (h.size:Int))=false:=by rw [bne_eq_false_iff_eq];omega
 have e2:(c.size != h.size)=false:=by rw [bne_eq_false_iff_eq];omega
 clear hbit;go_enter Tryz.func97,Tryz.ntmps97;go_wp2;go_loopw [5] (fun v5 wr=>∃ k:Nat,v5=.int .i64 (k:Int)∧k≤h.size∧Below w.heap.size w wr∧Hid (Sp.covs (c.data.toList.drop k) (h.data.toList.drop k)=Sp.covs c.data.toList h.data.toList)) (fun v5 _=>h.size - (intOf v5).toNat)
 case atStart=>exact⟨0,rfl,Nat.zero_le _,Below.refl _ _,hid rfl⟩
 case round=>
  obtain⟨k,rfl,hk,hb,hcv⟩:=hrel;have HB:=hid hb;have k0:(0:Int)≤(k:Int):=by omega
  have hk2:k≤c.size:=by omega
  by_cases hkl:k<h.size
  ·have q1:decide ((k:Int)<(c.size:Int))=true:=dT;(have hkc:k<c.size:=by omega);have q2:decide (k<c.size)=true:=decide_eq_true hkc;have q1h:decide ((k:Int)<(h.size:Int))=true:=dT;have q2h:decide (k<h.size)=true:=decide_eq_true hkl;(have q3:(k:Int)<(h.size:Int):=by omega);(have q4:(k:Int)<(c.size:Int):=by omega);(have z2:IntKind.i64.wrap ((k:Int)+1)=(k:Int)+1:=by rw [IntKind.wrap_i64];omega);have b1:=UInt8.toNat_lt (c[k]'hkc);have b2:=UInt8.toNat_lt (h[k]'hkl);have HKC:=hid (show k+1≤h.size by omega);rcases HB0.out k hkl with hbt | hbt
   ·have y1:(((h[k]'hkl).toNat:Int) != 48)=false:=by rw [hbt];rfl
    (have y1':(((h[k]'hkl).toNat:Int) == 48)=true:=by rw [hbt];rfl);by_cases hx:(c[k]'hkc)=120
    ·have x1:(((c[k]'hkc).toNat:Int) != 120)=false:=by rw [hx];rfl
     (have x1':(((c[k]'hkc).toNat:Int) == 120)=true:=by rw [hx];rfl);have hst:=Sp.covs_step hkc hkl (Or.inl hx);rw [hcv.out] at hst;have HST:=hid hst.symm;clear hb hst hk hcv hbt;go_wp2
     try go_quiet (fail)
     try go_wp2
     go_roundw
     case rel=>exact⟨k+1,by rfl,HKC.out,by first | exact below_drewN HB.out _ | exact HB.out,hid HST.out⟩
     case measure=>have:=HKC.out;simp [intOf];omega
    ·have x1':(((c[k]'hkc).toNat:Int) == 120)=false:=by rw [beq_eq_false_iff_ne];intro e;exact hx (UInt8.toNat_inj.1 (by rw [show (120:UInt8).toNat=120 from rfl];omega))
     have x1:(((c[k]'hkc).toNat:Int) != 120)=true:=by unfold bne;rw [x1'];rfl
     by_cases hy:(c[k]'hkc)=(h[k]'hkl)
     ·have x2:(((c[k]'hkc).toNat:Int) != ((h[k]'hkl).toNat:Int))=false:=by rw [hy];simp
      have hst:=Sp.covs_step hkc hkl (Or.inr hy);clear hy hx;rw [hcv.out] at hst;have HST:=hid hst.symm;clear hb hst hk hcv hbt;go_wp2
      try go_quiet (fail)
      try go_wp2
      go_roundw
      case rel=>exact⟨k+1,by rfl,HKC.out,by first | exact below_drewN HB.out _ | exact HB.out,hid HST.out⟩
      case measure=>have:=HKC.out;simp [intOf];omega
     ·have x2:(((c[k]'hkc).toNat:Int) != ((h[k]'hkl).toNat:Int))=true:=by rw [bne_iff_ne];intro e;exact hy (UInt8.toNat_inj.1 (by omega))
      have hst:=Sp.covs_no hkc hkl hx hy;rw [hcv.out] at hst;have HST:=hid hst;clear hb hst hk hcv hbt;go_wp2
      try go_quiet (fail)
      try go_wp2
      go_ret;exact⟨by rw [HST.out];rfl,by first | exact below_drewN HB.out _ | exact HB.out⟩
   ·have y1:(((h[k]'hkl).toNat:Int) != 48)=true:=by rw [hbt];rfl
    (have y1':(((h[k]'hkl).toNat:Int) == 48)=false:=by rw [hbt];rfl);(have y2:(((h[k]'hkl).toNat:Int) != 49)=false:=by rw [hbt];rfl);(have y2':(((h[k]'hkl).toNat:Int) == 49)=true:=by rw [hbt];rfl);by_cases hx:(c[k]'hkc)=120
    ·have x1:(((c[k]'hkc).toNat:Int) != 120)=false:=by rw [hx];rfl
     (have x1':(((c[k]'hkc).toNat:Int) == 120)=true:=by rw [hx];rfl);have hst:=Sp.covs_step hkc hkl (Or.inl hx);rw [hcv.out] at hst;have HST:=hid hst.symm;clear hb hst hk hcv hbt;go_wp2
     try go_quiet (fail)
     try go_wp2
     go_roundw
     case rel=>exact⟨k+1,by rfl,HKC.out,by first | exact below_drewN HB.out _ | exact HB.out,hid HST.out⟩
     case measure=>have:=HKC.out;simp [intOf];omega
    ·have x1':(((c[k]'hkc).toNat:Int) == 120)=false:=by rw [beq_eq_false_iff_ne];intro e;exact hx (UInt8.toNat_inj.1 (by rw [show (120:UInt8).toNat=120 from rfl];omega))
     have x1:(((c[k]'hkc).toNat:Int) != 120)=true:=by unfold bne;rw [x1'];rfl
     by_cases hy:(c[k]'hkc)=(h[k]'hkl)
     ·have x2:(((c[k]'hkc).toNat:Int) != ((h[k]'hkl).toNat:Int))=false:=by rw [hy];simp
      have hst:=Sp.covs_step hkc hkl (Or.inr hy);clear hy hx;rw [hcv.out] at hst;have HST:=hid hst.symm;clear hb hst hk hcv hbt;go_wp2
      try go_quiet (fail)
      try go_wp2
      go_roundw
      case rel=>exact⟨k+1,by rfl,HKC.out,by first | exact below_drewN HB.out _ | exact HB.out,hid HST.out⟩
      case measure=>have:=HKC.out;simp [intOf];omega
     ·have x2:(((c[k]'hkc).toNat:Int) != ((h[k]'hkl).toNat:Int))=true:=by rw [bne_iff_ne];intro e;exact hy (UInt8.toNat_inj.1 (by omega))
      have hst:=Sp.covs_no hkc hkl hx hy;rw [hcv.out] at hst;have HST:=hid hst;clear hb hst hk hcv hbt;go_wp2
      try go_quiet (fail)
      try go_wp2
      go_ret;exact⟨by rw [HST.out];rfl,by first | exact below_drewN HB.out _ | exact HB.out⟩
  ·have q1:decide ((k:Int)<(c.size:Int))=false:=dF;have q2:decide (k<c.size)=false:=dF;have q1h:decide ((k:Int)<(h.size:Int))=false:=dF;have q2h:decide (k<h.size)=false:=dF
   have HC:Hid (Sp.covs c.data.toList h.data.toList=true):=hid (by
    rw [← hcv.out,List.drop_eq_nil_of_le (by simp;omega)];rfl)
   clear hb hk hkl hcv;go_wp2;go_ret;exact⟨by rw [HC.out];rfl,HB.out⟩
theorem ref10_has (A:Option Addr) (cap:Nat) (cubes:List ByteArray) (h:ByteArray) (w:World) (hv:SV w A cubes) (hc:∀ c ∈ cubes,c.size=h.size) (hh:h.size≤1000000) (hl:cubes.length≤1000000) (hp:0<h.size) (hbit:∀ k (hk:k<h.size),h[k]=48∨h[k]=49):
  Calls Tryz.prog 86 #[.slice A cubes.length cap,.string h] w fun e w'=>e=.returned (.bool (Sp.hasB cubes h))∧Below w.heap.size w w':=by
 obtain⟨n,hn⟩:=nM cubes.length;rw [hn] at hl ⊢;have HN:=hid hn;have HV:=hid hv;have HC:=hid hc;have HBIT:=hid hbit;clear hn hv hc hbit;go_enter Tryz.func86,Tryz.ntmps86;go_wp2;go_loopw [5] (fun v5 wr=>∃ i:Nat,v5=.int .i64 (i:Int)∧i≤n∧Below w.heap.size w wr∧Hid (∀ (j:Nat) (c:ByteArray),j<i→cubes[j]?=some c→Sp.covs c.data.toList h.data.toList=false)) (fun v5 _=>n - (intOf v5).toNat)
 case atStart=>exact⟨0,rfl,Nat.zero_le _,Below.refl _ _,hid (fun j c hj=>by omega)⟩
 case round=>
  obtain⟨i,rfl,hi,hb,hno⟩:=hrel;have HB:=hid hb;have i0:(0:Int)≤(i:Int):=by omega
  by_cases hlt:i<n
  ·have p1:decide ((i:Int)<(n:Int))=true:=dT;have p2:decide (i<n)=true:=decide_eq_true hlt;have p3:(i:Int)<(n:Int):=by omega
   obtain⟨c,hcs⟩:∃ c,cubes[i]?=some c:=⟨_,List.getElem?_eq_getElem (by rw [HN.out];exact hlt)⟩
   obtain⟨g,o,rfl,hg,c0⟩:=(HV.out.more hb).at hcs;have hcz:=HC.out c (List.mem_of_getElem? hcs);have HI:=hid (show i+1≤n by omega);(have z1:IntKind.i64.wrap ((i:Int)+1)=(i:Int)+1:=by rw [IntKind.wrap_i64];omega);have hcall:=ref1_Has c h wr hcz hp hh HBIT.out;by_cases hy:Sp.covs c.data.toList h.data.toList=true
   ·rw [hy] at hcall;have HCALL:=hid hcall;have HY:=hid (Sp.hasB_yes hcs hy);clear hb hi hlt hcs hcz hcall hy;go_wp2_with fail;refine HCALL.out.mono ?_;rintro e wb ⟨rfl,hbb⟩;have HBZ:=hid (HB.out.trans (hbb.mono HB.out.size));clear hbb;go_wp2;go_ret;exact⟨by rw [HY.out];rfl,HBZ.out⟩
   ·rw [Bool.eq_false_iff.2 hy] at hcall;have HCALL:=hid hcall
    have hno2:∀ (j:Nat) (c:ByteArray),j<i+1→cubes[j]?=some c→Sp.covs c.data.toList h.data.toList=false:=by
     intro j c2 hj hc2;by_cases hji:j=i
     ·subst hji;rw [hcs] at hc2;(injection hc2 with hc2);rw [← hc2];exact Bool.eq_false_iff.2 hy
     ·exact hno.out j c2 (by omega) hc2
    have HNO:=hid hno2;clear hb hi hlt hcs hcz hcall hy hno2 hno;go_wp2_with fail;refine HCALL.out.mono ?_;rintro e wb ⟨rfl,hbb⟩;have HBZ:=hid (HB.out.trans (hbb.mono HB.out.size));clear hbb;go_wp2;go_roundw
    case rel=>exact⟨i+1,by rfl,HI.out,HBZ.out,HNO⟩
    case measure=>have:=HI.out;simp [intOf];omega
  ·have p1:decide ((i:Int)<(n:Int))=false:=dF;have p2:decide (i<n)=false:=decide_eq_false hlt;have HY:=hid (Sp.hasB_no (cubes:=cubes) (h:=h) (fun j c hj=>hno.out j c (by have:=(List.getElem?_eq_some_iff.1 hj).1;rw [HN.out] at this;omega) hj));clear hb hi hlt hno;go_wp2;go_ret;exact⟨by rw [HY.out];rfl,HB.out⟩
theorem ref10_Lets (A:Option Addr) (cap:Nat) (g:List Sp.Guard) (h:ByteArray) (w:World) (hv:GV w A g) (hf:Sp.fitsE2 g h) (hh:h.size≤1000000) (hp:0<h.size) (hbit:∀ k (hk:k<h.size),h[k]=48∨h[k]=49):
  Calls Tryz.prog 61 #[.slice A g.length cap,.string h] w fun e w'=>e=.returned (.bool (Sp.letsB g h))∧Below w.heap.size w w':=by
 obtain⟨m,hm⟩:=nM g.length;have hml:m≤1000000:=by rw [← hm];exact hf.2
 rw [hm];have HM:=hid hm;have HF:=hid hf;have HG:=hid hv;have HBIT:=hid hbit;clear hf hm hv hbit;go_enter Tryz.func61,Tryz.ntmps61;go_wp2;go_loopw [5] (fun v5 wr=>∃ i:Nat,v5=.int .i64 (i:Int)∧i≤m∧Below w.heap.size w wr∧Hid (∀ (j:Nat) (l:Sp.Guard),j<i→g[j]?=some l→Sp.hasB l.cubes h=false)) (fun v5 _=>m - (intOf v5).toNat)
 case atStart=>exact⟨0,rfl,Nat.zero_le _,Below.refl _ _,hid (fun j l hj=>by omega)⟩
 case round=>
  obtain⟨i,rfl,hi,hb,hno⟩:=hrel;have HB:=hid hb;have i0:(0:Int)≤(i:Int):=by omega
  by_cases hlt:i<m
  ·have p1:decide ((i:Int)<(m:Int))=true:=dT;have p2:decide (i<m)=true:=decide_eq_true hlt;have p3:(i:Int)<(m:Int):=by omega
   obtain⟨l,hl⟩:∃ l,g[i]?=some l:=⟨_,List.getElem?_eq_getElem (by rw [HM.out];exact hlt)⟩
   obtain⟨gx,ox,Ax,cx,rfl,hgx,q0,q1,hsv,_⟩:=(HG.out.more hb).at hl;have hfl:=HF.out.1 l (List.mem_of_getElem? hl);(have z1:IntKind.i64.wrap ((i:Int)+1)=(i:Int)+1:=by rw [IntKind.wrap_i64];omega);have HI:=hid (show i+1≤m by omega);have HL:=hid hl;(have hcall:Calls Tryz.prog 86 #[.slice Ax l.cubes.length cx,.string h] wr fun e w'=>e=.returned (.bool (Sp.hasB l.cubes h))∧Below wr.heap.size wr w':=ref10_has Ax cx l.cubes h wr hsv hfl.2 hh hfl.1 hp HBIT.out);have HQ0:=hid q0;by_cases hy:Sp.hasB l.cubes h=true
   ·rw [hy] at hcall;have HCALL:=hid hcall;have HY:=hid (Sp.lets_yes hl hno.out hy);clear hb hi hlt hl hcall hsv hfl hy;go_wp2_with fail;refine HCALL.out.mono ?_;rintro e wb ⟨rfl,hbb⟩;have q2:=(hbb.cell (p:=⟨gx,ox+i * 2,none⟩) hgx).trans HQ0.out;have HBZ:=hid (HB.out.trans (hbb.mono HB.out.size));clear hbb q0;go_wp2;go_ret;exact⟨by rw [HY.out];rfl,HBZ.out⟩
   ·rw [Bool.eq_false_iff.2 hy] at hcall;have HCALL:=hid hcall
    have hno2:∀ (j:Nat) (l:Sp.Guard),j<i+1→g[j]?=some l→Sp.hasB l.cubes h=false:=by
     intro j l2 hj hl2;by_cases hji:j=i
     ·subst hji;rw [hl] at hl2;(injection hl2 with hl2);rw [← hl2];exact Bool.eq_false_iff.2 hy
     ·exact hno.out j l2 (by omega) hl2
    have HNO:=hid hno2;clear hb hi hlt hl hcall hsv hfl hy hno2 hno;go_wp2_with fail;refine HCALL.out.mono ?_;rintro e wb ⟨rfl,hbb⟩;have HBZ:=hid (HB.out.trans (hbb.mono HB.out.size));clear hbb;go_wp2;go_roundw
    case rel=>exact⟨i+1,by rfl,HI.out,HBZ.out,HNO⟩
    case measure=>have:=HI.out;simp [intOf];omega
  ·have p1:decide ((i:Int)<(m:Int))=false:=dF;have p2:decide (i<m)=false:=decide_eq_false hlt;have hnn:=Sp.lets_no (g:=g) (h:=h) (fun j l hj=>hno.out j l (by have:=(List.getElem?_eq_some_iff.1 hj).1;rw [HM.out] at this;omega) hj);rw [HM.out] at hnn;have HY:=hid hnn;by_cases hm0:m=0
   ·have r1:((m:Int) == 0)=true:=beq_iff_eq.2 (by omega);have r2:decide (m=0)=true:=decide_eq_true hm0;rw [r2] at HY;have HY2:=HY;clear hb hi hlt hnn hm0 hno HY r2;go_wp2;go_ret;exact⟨by rw [HY2.out];rfl,HB.out⟩
   ·have r1:((m:Int) == 0)=false:=beq_eq_false_iff_ne.2 (by omega);have r2:decide (m=0)=false:=decide_eq_false hm0;rw [r2] at HY;have HY2:=HY;clear hb hi hlt hnn hm0 hno HY r2;go_wp2;go_ret;exact⟨by rw [HY2.out];rfl,HB.out⟩
theorem ref1_Fit (c h:ByteArray) (w:World) (hz:c.size=h.size) (hp:0<c.size):
  Calls Tryz.prog 87 #[.string c,.string h] w fun e w'=>e=.returned (.bool true)∧w'=w:=by
 have e0:c.toList.isEmpty=false:=by
  rw [ByteArray.toList_eq,List.isEmpty_eq_false_iff];intro e;have h1:c.data.toList.length=0:=by rw [e];rfl
  have h2:c.data.toList.length=c.size:=by simp
  omega
 have e1:((c.size:Int) == (h.size:Int))=true:=beq_iff_eq.2 (by omega);have e2:(c.size == h.size)=true:=beq_iff_eq.2 hz;go_enter Tryz.func87,Tryz.ntmps87;go_wp2;go_ret;exact⟨rfl,rfl⟩
theorem ref1_Write (word hd:ByteArray) (w:World) (hw:word.size=hd.size) (hh:hd.size≤1000000) (hp:0<hd.size):
  Calls Tryz.prog 60 #[.string hd,.string word] w fun e w'=>e=.returned (.string (Sp.wordV word hd))∧Below w.heap.size w w':=by
 have HFIT:=hid (ref1_Fit hd word w hw.symm hp);obtain⟨n,hn⟩:=nM hd.size;rw [hn] at hw hh;have HN:=hid hn;have HW:=hid hw;obtain⟨L,hL⟩:=nM (Sp.wrL word.data.toList hd.data.toList);have hLl:L.length=n:=by rw [← hL,Sp.wrL_len];exact hn
 have HL:=hid hL;have HLL:=hid hLl;clear hw hn hL hLl;go_enter Tryz.func60,Tryz.ntmps60;go_wp2_with fail;refine HFIT.out.mono ?_;rintro e wb ⟨rfl,hwe⟩;rw [hwe];clear hwe wb HFIT;go_wp2;go_loopw [6,7] (fun v5 v6 wr=>∃ (v:Value) (i:Nat),v=v5∧v6=.int .i64 (i:Int)∧i≤n∧Below w.heap.size w wr∧ByR wr w.heap.size v (L.take i)) (fun _ v6 _=>n - (intOf v6).toNat)
 case atStart=>exact⟨_,0,rfl,rfl,Nat.zero_le _,Below.refl _ _,World.ownsRow_nil _ _ _ _⟩
 case round=>
  obtain⟨v,i,rfl,rfl,hi,hb,hbv⟩:=hrel;have HB:=hid hb;have HV:=hid hbv;have i0:(0:Int)≤(i:Int):=by omega
  have hwz:=HW.out;have hnz:=HN.out;by_cases hlt:i<n
  ·have hih:i<hd.size:=by omega
   (have hiw:i<word.size:=by omega);have p1:decide ((i:Int)<(hd.size:Int))=true:=dT;have p2:decide (i<hd.size)=true:=decide_eq_true hih;(have p3:(i:Int)<(hd.size:Int):=by omega);(have p4:(i:Int)<(word.size:Int):=by omega);have p5:decide ((i:Int)<(word.size:Int))=true:=decide_eq_true p4;have p6:decide (i<word.size)=true:=decide_eq_true hiw;(have z1:IntKind.i64.wrap ((i:Int)+1)=(i:Int)+1:=by rw [IntKind.wrap_i64];omega);(have gw:word.data.toList[i]?=some (word[i]'hiw):=by rw [List.getElem?_eq_getElem (show i<word.data.toList.length from hiw)];rfl);(have gh:hd.data.toList[i]?=some (hd[i]'hih):=by rw [List.getElem?_eq_getElem (show i<hd.data.toList.length from hih)];rfl);have hLi:=Sp.wrL_at _ _ i _ _ gw gh;rw [HL.out] at hLi;(have htk:L.take (i+1)=L.take i ++ [Sp.wrB (word[i]'hiw) (hd[i]'hih)]:=by rw [List.take_add_one,hLi];rfl);(have hal:(L.take i).length≤1000000000:=by rw [List.length_take];omega);have b1:=UInt8.toNat_lt (word[i]'hiw);have b2:=UInt8.toNat_lt (hd[i]'hih);have HI:=hid (show i+1≤n by omega);have HAL:=hid hal;by_cases hx:word[i]'hiw=120
   ·have x1:(((word[i]'hiw).toNat:Int) == 120)=true:=by rw [hx];rfl
    (have htk2:L.take (i+1)=L.take i ++ [hd[i]'hih]:=by rw [htk,Sp.wrB,if_pos hx]);have HTK:=hid htk2;clear hb hi hlt hbv gw gh hx hwz hnz hLi htk hal htk2
    go_wp2_with (at_builtin;refine wpList_byte rfl _ _ rfl w.heap.size v (L.take i) rfl wr (hd[i]'hih) rfl HV.out HB.out.size HAL.out ?_;intro v' w' hr' hb')
    go_roundw
    case rel=>exact⟨_,i+1,rfl,by rfl,HI.out,HB.out.trans hb',by rw [HTK.out];exact hr'⟩
    case measure=>have:=HI.out;simp [intOf];omega
   ·have x1:(((word[i]'hiw).toNat:Int) == 120)=false:=by rw [beq_eq_false_iff_ne];intro e;exact hx (UInt8.toNat_inj.1 (by rw [show (120:UInt8).toNat=120 from rfl];omega))
    (have htk2:L.take (i+1)=L.take i ++ [word[i]'hiw]:=by rw [htk,Sp.wrB,if_neg hx]);have HTK:=hid htk2;clear hb hi hlt hbv gw gh hx hwz hnz hLi htk hal htk2
    go_wp2_with (at_builtin;refine wpList_byte rfl _ _ rfl w.heap.size v (L.take i) rfl wr (word[i]'hiw) rfl HV.out HB.out.size HAL.out ?_;intro v' w' hr' hb')
    go_roundw
    case rel=>exact⟨_,i+1,rfl,by rfl,HI.out,HB.out.trans hb',by rw [HTK.out];exact hr'⟩
    case measure=>have:=HI.out;simp [intOf];omega
  ·have p1:decide ((i:Int)<(hd.size:Int))=false:=dF;have p2:decide (i<hd.size)=false:=dF;have htk:L.take i=L:=List.take_of_length_le (by have:=HLL.out;omega);rw [htk] at hbv;have hst:=own_string2 hbv;(have hwv:Sp.wordV word hd=⟨L.toArray⟩:=by unfold Sp.wordV;rw [HL.out]);have HWV:=hid hwv;clear hb hi hlt hbv hwz hnz htk HV hwv;go_wp2;go_ret;exact⟨by rw [HWV.out];rfl,HB.out⟩
end Go.Proofs.YthnamoedpnknmaaGreatDoor
