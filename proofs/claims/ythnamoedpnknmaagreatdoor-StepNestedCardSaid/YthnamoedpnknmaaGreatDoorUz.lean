/-
  Texts joined: Uy Uz.
-/
import Derived.Test.YthnamoedpnknmaaGreatDoorUw
set_option linter.unusedVariables false
set_option linter.unusedSimpArgs false
set_option maxRecDepth 100000
set_option maxHeartbeats 4000000
namespace Go.Proofs.YthnamoedpnknmaaGreatDoor
open Go.RowKit
open Go.Lib (hid)
def Sp.cubeT (s:ByteArray):Bool:=decide (1≤s.size) && decide (s.size≤256) && s.data.toList.all (fun c=>c == 48 || c == 49 || c == 120)
theorem ref2_Cube (s:ByteArray) (w:World):
  Calls Tryz.prog 102 #[.string s] w fun e w'=>e=.returned (.bool (Sp.cubeT s))∧w'=w:=by
 by_cases h1:s.size<1
 ·have a1:decide ((s.size:Int)<1)=true:=dT;have a2:decide (s.size<1)=true:=decide_eq_true h1;have a3:decide (s.size=0)=true:=dT;have HY:Hid (Sp.cubeT s=false):=hid (by unfold Sp.cubeT;rw [decide_eq_false (show ¬ 1≤s.size by omega)];rfl);clear h1;go_enter Tryz.func102,Tryz.ntmps102;go_wp2;go_ret;exact⟨by rw [HY.out];rfl,rfl⟩
 have a1:decide ((s.size:Int)<1)=false:=dF;have a2:decide (s.size<1)=false:=decide_eq_false h1;by_cases h2:256<s.size
 ·have b1:decide ((s.size:Int) > 256)=true:=dT;have b1':decide ((256:Int)<(s.size:Int))=true:=dT;have b2:decide (256<s.size)=true:=decide_eq_true h2;have HY:Hid (Sp.cubeT s=false):=hid (by unfold Sp.cubeT;rw [decide_eq_false (show ¬ s.size≤256 by omega),Bool.and_false];rfl);clear h1 h2;go_enter Tryz.func102,Tryz.ntmps102;go_wp2;go_ret;exact⟨by rw [HY.out];rfl,rfl⟩
 have b1:decide ((s.size:Int) > 256)=false:=dF;have b1':decide ((256:Int)<(s.size:Int))=false:=dF;have b2:decide (256<s.size)=false:=decide_eq_false h2;have HC:Hid (Sp.cubeT s=s.data.toList.all (fun c=>c == 48 || c == 49 || c == 120)):=hid (by unfold Sp.cubeT;rw [decide_eq_true (show 1≤s.size by omega),decide_eq_true (show s.size≤256 by omega)];rfl);have hsz:s.size≤256:=by omega
 go_enter Tryz.func102,Tryz.ntmps102;go_wp2;go_loop [3] (fun v5=>∃ k:Nat,v5=.int .i64 (k:Int)∧k≤s.size∧Hid (∀ (j:Nat) (c:UInt8),j<k→s.data.toList[j]?=some c→(c == 48 || c == 49 || c == 120)=true)) (fun v5=>s.size - (intOf v5).toNat)
 case atStart=>exact⟨0,rfl,Nat.zero_le _,hid (fun j c hj=>by omega)⟩
 case round=>
  obtain⟨k,rfl,hk,hno⟩:=hrel;have k0:(0:Int)≤(k:Int):=by omega
  by_cases hkl:k<s.size
  ·have q1:decide ((k:Int)<(s.size:Int))=true:=dT;have q2:decide (k<s.size)=true:=decide_eq_true hkl;(have q3:(k:Int)<(s.size:Int):=by omega);(have z2:IntKind.i64.wrap ((k:Int)+1)=(k:Int)+1:=by rw [IntKind.wrap_i64];omega);have c1:=UInt8.toNat_lt (s[k]'hkl);have HKC:=hid (show k+1≤s.size by omega);(have gk:s.data.toList[k]?=some (s[k]'hkl):=by rw [List.getElem?_eq_getElem (show k<s.data.toList.length from hkl)];rfl);by_cases x48:(s[k]'hkl)=48
   ·have y48:(((s[k]'hkl).toNat:Int) != 48)=false:=by rw [x48];rfl
    have hnx:∀ (j:Nat) (c:UInt8),j<k+1→s.data.toList[j]?=some c→(c == 48 || c == 49 || c == 120)=true:=by
     intro j c hj hc;by_cases hjk:j=k
     ·subst hjk;rw [gk] at hc;(injection hc with hc);rw [← hc,x48];rfl
     ·exact hno.out j c (by omega) hc
    have HNX:=hid hnx;clear hnx gk hk x48 hno;go_wp2;go_round
    case rel=>exact⟨k+1,by rfl,HKC.out,HNX⟩
    case measure=>have:=HKC.out;simp [intOf];omega
   (have y48:(((s[k]'hkl).toNat:Int) != 48)=true:=by rw [bne_iff_ne];intro e;exact x48 (UInt8.toNat_inj.1 (by rw [show (48:UInt8).toNat=48 from rfl];omega)));by_cases x49:(s[k]'hkl)=49
   ·have y49:(((s[k]'hkl).toNat:Int) != 49)=false:=by rw [x49];rfl
    have hnx:∀ (j:Nat) (c:UInt8),j<k+1→s.data.toList[j]?=some c→(c == 48 || c == 49 || c == 120)=true:=by
     intro j c hj hc;by_cases hjk:j=k
     ·subst hjk;rw [gk] at hc;(injection hc with hc);rw [← hc,x49];rfl
     ·exact hno.out j c (by omega) hc
    have HNX:=hid hnx;clear hnx gk hk x49 hno;clear x48;go_wp2;go_round
    case rel=>exact⟨k+1,by rfl,HKC.out,HNX⟩
    case measure=>have:=HKC.out;simp [intOf];omega
   (have y49:(((s[k]'hkl).toNat:Int) != 49)=true:=by rw [bne_iff_ne];intro e;exact x49 (UInt8.toNat_inj.1 (by rw [show (49:UInt8).toNat=49 from rfl];omega)));by_cases x120:(s[k]'hkl)=120
   ·have y120:(((s[k]'hkl).toNat:Int) != 120)=false:=by rw [x120];rfl
    have hnx:∀ (j:Nat) (c:UInt8),j<k+1→s.data.toList[j]?=some c→(c == 48 || c == 49 || c == 120)=true:=by
     intro j c hj hc;by_cases hjk:j=k
     ·subst hjk;rw [gk] at hc;(injection hc with hc);rw [← hc,x120];rfl
     ·exact hno.out j c (by omega) hc
    have HNX:=hid hnx;clear hnx gk hk x120 hno;clear x48;clear x49;go_wp2;go_round
    case rel=>exact⟨k+1,by rfl,HKC.out,HNX⟩
    case measure=>have:=HKC.out;simp [intOf];omega
   have y120:(((s[k]'hkl).toNat:Int) != 120)=true:=by rw [bne_iff_ne];intro e;exact x120 (UInt8.toNat_inj.1 (by rw [show (120:UInt8).toNat=120 from rfl];omega))
   have HA:Hid (s.data.toList.all (fun c=>c == 48 || c == 49 || c == 120)=false):=hid (by
    rw [List.all_eq_false]
    exact⟨s[k]'hkl,List.mem_of_getElem? gk,by simp [x48,x49,x120]⟩)
   clear hk x48 x49 x120 gk hno;go_wp2;go_ret;exact⟨by rw [HC.out,HA.out];rfl,rfl⟩
  ·have q1:decide ((k:Int)<(s.size:Int))=false:=dF;have q2:decide (k<s.size)=false:=decide_eq_false hkl
   have HA:Hid (s.data.toList.all (fun c=>c == 48 || c == 49 || c == 120)=true):=hid (by
    rw [List.all_eq_true];intro c hc;obtain⟨j,hj⟩:=List.mem_iff_getElem?.1 hc
    exact hno.out j c (by have:=(List.getElem?_eq_some_iff.1 hj).1;have e:s.data.toList.length=s.size:=rfl;omega) hj)
   clear hk hkl hno;go_wp2;go_ret;exact⟨by rw [HC.out,HA.out];rfl,rfl⟩
theorem Sp.cubeT_iff (s:ByteArray):Sp.cubeT s=true↔Sp.cubeE s.data.toList=0:=by
 have hl:s.data.toList.length=s.size:=by simp
 have hn:s.data.toList=[]↔s.size=0:=by rw [← hl,List.length_eq_zero_iff]
 unfold Sp.cubeT Sp.cubeE;rw [hl];by_cases h1:256<s.size
 ·rw [if_pos h1,decide_eq_false (show ¬ s.size≤256 by omega)];simp
 ·rw [if_neg h1,decide_eq_true (show s.size≤256 by omega)]
  by_cases h2:s.data.toList=[]
  ·rw [if_pos h2,decide_eq_false (show ¬ 1≤s.size by have:=hn.1 h2;omega)];simp
  ·rw [if_neg h2,decide_eq_true (show 1≤s.size by have:s.size≠0:=fun e=>h2 (hn.2 e);omega)];by_cases h3:s.data.toList.all (fun c=>c == 48 || c == 49 || c == 120)=true
   ·rw [if_pos h3,h3];simp
   ·rw [if_neg h3,Bool.eq_false_iff.2 h3];simp
def Sp.cubesT (bits:Int) (l:List ByteArray) (most:Int):Bool:=decide ((l.length:Int)≤most) && l.all (fun c=>Sp.cubeT c && decide ((c.size:Int)=bits))
theorem ref9_cubesRight (A:Option Addr) (cap:Nat) (bits most:Int) (l:List ByteArray) (w:World) (hv:SV w A l) (hl:l.length≤4611686018427387904):
  Calls Tryz.prog 95 #[.int .i64 bits,.slice A l.length cap,.int .i64 most] w fun e w'=>e=.returned (.bool (Sp.cubesT bits l most))∧w'=w:=by
 obtain⟨n,hn⟩:=nM l.length;have HT:Hid (Sp.cubesT bits l most=(decide ((n:Int)≤most) && l.all (fun c=>Sp.cubeT c && decide ((c.size:Int)=bits)))):=hid (by unfold Sp.cubesT;rw [hn]);rw [hn] at hl ⊢;have HN:=hid hn;have HV:=hid hv;clear hn hv;by_cases h2:(n:Int)≤most
 case neg=>
  have b1:decide ((n:Int) > most)=true:=dT;have b1':decide (most<(n:Int))=true:=dT;have HY:Hid (Sp.cubesT bits l most=false):=hid (by rw [HT.out,decide_eq_false h2];rfl);clear h2;go_enter Tryz.func95,Tryz.ntmps95;go_wp2;go_ret;exact⟨by rw [HY.out];rfl,rfl⟩
 have b1:decide ((n:Int) > most)=false:=dF;have b1':decide (most<(n:Int))=false:=dF;have HC:Hid (Sp.cubesT bits l most=l.all (fun c=>Sp.cubeT c && decide ((c.size:Int)=bits))):=hid (by rw [HT.out,decide_eq_true h2];rfl);clear h2;go_enter Tryz.func95,Tryz.ntmps95;go_wp2;go_loop [7] (fun v5=>∃ k:Nat,v5=.int .i64 (k:Int)∧k≤n∧Hid (∀ (j:Nat) (c:ByteArray),j<k→l[j]?=some c→(Sp.cubeT c && decide ((c.size:Int)=bits))=true)) (fun v5=>n - (intOf v5).toNat)
 case atStart=>exact⟨0,rfl,Nat.zero_le _,hid (fun j c hj=>by omega)⟩
 case round=>
  obtain⟨k,rfl,hk,hno⟩:=hrel;have k0:(0:Int)≤(k:Int):=by omega
  by_cases hkl:k<n
  ·have q1:decide ((k:Int)<(n:Int))=true:=dT;have q2:decide (k<n)=true:=decide_eq_true hkl;(have q3:(k:Int)<(n:Int):=by omega);(have z2:IntKind.i64.wrap ((k:Int)+1)=(k:Int)+1:=by rw [IntKind.wrap_i64];omega);have HKC:=hid (show k+1≤n by omega)
   obtain⟨c,hc⟩:∃ c,l[k]?=some c:=⟨_,List.getElem?_eq_getElem (by rw [HN.out];exact hkl)⟩
   obtain⟨g,o,rfl,hg,c0⟩:=HV.out.at hc;have hcall:=ref2_Cube c w;have HCC:=hid hc
   cases hct:Sp.cubeT c with
   | false=>
    rw [hct] at hcall;have HCALL:=hid hcall
    have HA:Hid (l.all (fun c=>Sp.cubeT c && decide ((c.size:Int)=bits))=false):=hid (by
     rw [List.all_eq_false]
     exact⟨c,List.mem_of_getElem? hc,by simp [hct]⟩)
    clear hk hkl hno hc hg hcall hct;go_wp2_with fail;refine HCALL.out.mono ?_;rintro e wb ⟨rfl,hwe⟩;rw [hwe];clear hwe wb;go_wp2;go_ret;exact⟨by rw [HC.out,HA.out];rfl,rfl⟩
   | true=>
    rw [hct] at hcall;have HCALL:=hid hcall;by_cases hbs:(c.size:Int)=bits
    ·have e1:((c.size:Int) != bits)=false:=by rw [bne_eq_false_iff_eq];exact hbs
     have hnx:∀ (j:Nat) (c:ByteArray),j<k+1→l[j]?=some c→(Sp.cubeT c && decide ((c.size:Int)=bits))=true:=by
      intro j c2 hj hc2;by_cases hjk:j=k
      ·subst hjk;rw [hc] at hc2;(injection hc2 with hc2);rw [← hc2,hct,decide_eq_true hbs];rfl
      ·exact hno.out j c2 (by omega) hc2
     have HNX:=hid hnx;clear hk hkl hno hc hg hcall hct hbs hnx;go_wp2_with fail;refine HCALL.out.mono ?_;rintro e wb ⟨rfl,hwe⟩;rw [hwe];clear hwe wb;go_wp2;go_round
     case rel=>exact⟨k+1,by rfl,HKC.out,HNX⟩
     case measure=>have:=HKC.out;simp [intOf];omega
    ·have e1:((c.size:Int) != bits)=true:=by rw [bne_iff_ne];exact hbs
     have HA:Hid (l.all (fun c=>Sp.cubeT c && decide ((c.size:Int)=bits))=false):=hid (by
      rw [List.all_eq_false]
      exact⟨c,List.mem_of_getElem? hc,by simp [hbs]⟩)
     clear hk hkl hno hc hg hcall hct hbs;go_wp2_with fail;refine HCALL.out.mono ?_;rintro e wb ⟨rfl,hwe⟩;rw [hwe];clear hwe wb;go_wp2;go_ret;exact⟨by rw [HC.out,HA.out];rfl,rfl⟩
  ·have q1:decide ((k:Int)<(n:Int))=false:=dF;have q2:decide (k<n)=false:=decide_eq_false hkl
   have HA:Hid (l.all (fun c=>Sp.cubeT c && decide ((c.size:Int)=bits))=true):=hid (by
    rw [List.all_eq_true];intro c hc;obtain⟨j,hj⟩:=List.mem_iff_getElem?.1 hc
    exact hno.out j c (by have:=(List.getElem?_eq_some_iff.1 hj).1;rw [HN.out] at this;omega) hj)
   clear hk hkl hno;go_wp2;go_ret;exact⟨by rw [HC.out,HA.out];rfl,rfl⟩
end Go.Proofs.YthnamoedpnknmaaGreatDoor
