/-
 THE WALKS of reachlaw10.twice and comes, and of step.bounds (chapter 10).
-/
import Derived.Test.YtedfppbnkgffcaaGreatDoorAn
import Derived.Test.YtedfppbnkgffcaaGreatDoorAk
set_option linter.unusedVariables false
set_option linter.unusedSimpArgs false
set_option maxRecDepth 100000
set_option maxHeartbeats 8000000
namespace Go.Proofs.YtedfppbnkgffcaaGreatDoor
open Go.RowKit
open Go.Lib (hid)
def CoEnd (n:Sp.Net) (l:List Int) (tp:Int) (r:Ending):Prop:=
 (∃ i:Nat,r=.returned (.tuple #[.int .i64 (i:Int),.int .i64 (Sp.cntIn n (l.take i):Int)])∧l[i]?=some tp∧∀ j,j<i→l[j]?≠some tp) ∨
 (r=.returned (.tuple #[.int .i64 (-1),.int .i64 (Sp.cntIn n l.dropLast:Int)])∧∀ j:Nat,l[j]?≠some tp)
theorem Sp.cnt_step {n:Sp.Net} {l:List Int} {i:Nat} {x:Int} (hx:l[i]?=some x):Sp.cntIn n (l.take (i+1))=Sp.cntIn n (l.take i)+(if Sp.inAt n x=true then 1 else 0):=by
 rw [List.take_add_one,hx,Sp.cntIn_append];congr 1;show (([x]:List Int).filter (Sp.inAt n)).length=_
 cases h:Sp.inAt n x with
 | true=>rw [List.filter_cons_of_pos h];rfl
 | false=>rw [List.filter_cons_of_neg (by rw [h];simp)];rfl
theorem law10_comes (n:Sp.Net) (A1 A2 A3:Option Addr) (c1 c2 c3:Nat) (A B2:Option Addr) (cap k2 e2:Nat) (l:List Int) (hd:ByteArray) (tp:Int) (w:World) (hpv:PV w A1 n.ports) (hv:IV w A l) (hl:l.length≤1000000):
  Calls Tryz.prog 13 #[.agg #[.int .i64 n.bits,.slice A1 n.ports.length c1,.slice A2 n.tables.length c2,.slice A3 n.guards.length c3],.agg #[.slice A l.length cap,.slice B2 e2 k2,.string hd],.int .i64 tp] w fun e w'=>CoEnd n l tp e∧Below w.heap.size w w':=by
 obtain⟨N,hN⟩:=nM w.heap.size;obtain⟨L,hL⟩:=nM l.length;obtain⟨np,hnp⟩:=nM n.ports.length;obtain⟨nt,hnt⟩:=nM n.tables.length;obtain⟨ng,hng⟩:=nM n.guards.length;obtain⟨b,hbi⟩:=nM n.bits;rw [hbi,hnp,hnt,hng,hL];rw [hL] at hl;obtain⟨W2,hW2⟩:=nM ((w.alloc (.cells #[.int .i64 b,.slice A1 np c1,.slice A2 nt c2,.slice A3 ng c3] 26)).alloc (.cells #[.slice A L cap,.slice B2 e2 k2,.string hd] 31));have hb2:Below N w W2:=by rw [← hW2,← hN];exact ((Below.refl _ _).alloc (Nat.le_refl _) _).alloc (by simp) _
 have hk1:Blk W2 N 26 #[.int .i64 b,.slice A1 np c1,.slice A2 nt c2,.slice A3 ng c3]:=by rw [← hW2,← hN];exact (Blk.new w _ _).alloc _
 have hk2:Blk W2 (N+1) 31 #[.slice A L cap,.slice B2 e2 k2,.string hd]:=by rw [← hW2];exact blk_at (by rw [World.size_alloc];omega)
 have HN:=hid hN;have HB2:=hid hb2;have HK1:=hid hk1;have HK2:=hid hk2;have HPV:=hid (hpv.more (show Below w.heap.size w W2 by rw [hN];exact hb2));have HV:=hid (hv.more (show Below w.heap.size w W2 by rw [hN];exact hb2));have HL:=hid hL;have HL6:=hid hl;have HNP:=hid hnp;clear hpv hv hl hL hb2 hk1 hk2 hnp hnt hng hbi;go_enter Tryz.func13,Tryz.ntmps13;go_wp2_with fail;clear hW2;go_loopw [8,9] (fun v8 v9 wr=>∃ i:Nat,v9=.int .i64 (i:Int)∧v8=.int .i64 (Sp.cntIn n (l.take (i - 1)):Int)∧i≤L∧(∀ j,j<i→l[j]?≠some tp)∧Below W2.heap.size W2 wr) (fun _ v9 _=>L - (intOf v9).toNat)
 case atStart=>exact⟨0,rfl,rfl,Nat.zero_le _,fun j hj=>by omega,Below.refl _ _⟩
 case round=>
  obtain⟨i,rfl,rfl,hi,hno,hb⟩:=hrel;have HB:=hid hb;have HNO:=hid hno;have hkb1:=HK1.out.below hb HK1.out.lt;have hkb2:=HK2.out.below hb HK2.out.lt;have q1:wr.cell? ⟨N,1,none⟩=some (.slice A1 np c1):=hkb1.cell 1;have r0:wr.cell? ⟨N+1,0,none⟩=some (.slice A L cap):=hkb2.cell 0;have j0:(0:Int)≤(i:Int):=by omega
  by_cases hlt:i<L
  ·have p1:decide ((i:Int)<(L:Int))=true:=dT;have p2:decide (i<L)=true:=decide_eq_true hlt;(have p3:(i:Int)<(L:Int):=by omega);have z1:IntKind.i64.wrap ((i:Int)+1)=(i:Int)+1:=by have:=HL6.out;rw [IntKind.wrap_i64];omega
   obtain⟨y,hy⟩:∃ y,l[i]?=some y:=⟨_,List.getElem?_eq_getElem (by rw [HL.out];exact hlt)⟩
   obtain⟨g,o,rfl,hg,c0⟩:=(HV.out.more hb).at hy;have HY:=hid hy;have HLT:=hid hlt;obtain⟨c,hc⟩:=nM (Sp.cntIn n (l.take i));have HCC:=hid hc;(have hcl:c≤1000000:=by rw [← hc];unfold Sp.cntIn;have h1:=List.length_filter_le (Sp.inAt n) (l.take i);rw [List.length_take,HL.out] at h1;have:=HL6.out;omega);by_cases hi0:i=0
   ·subst hi0;(have hc0:c=0:=by rw [← hc];rfl);subst hc0;rw [Nat.add_zero] at c0;clear hb hno hi hlt hy hg hkb1 hkb2 hc hcl;go_wp2_with fail;go_quiet (fail);by_cases hyt:y=tp
    ·have y9:(y == tp)=true:=beq_iff_eq.2 hyt;have HYT:=hid hyt;clear hyt;go_wp2_with fail;go_ret2;exact⟨.inl ⟨0,rfl,by rw [HY.out,HYT.out],fun j hj=>by omega⟩,by rw [HN.out];exact HB2.out.trans ((below_drewN HB.out _).mono (by have:=HB2.out.size;have:=HN.out;omega))⟩
    ·have y9:(y == tp)=false:=beq_eq_false_iff_ne.2 hyt;have HYT:=hid hyt;clear hyt;go_wp2_with fail;go_roundw
     case rel=>exact⟨0+1,by rfl,by rfl,HLT.out,fun j hj=>by have e0:j=0:=(by omega);subst e0;rw [HY.out];exact fun e=>HYT.out (by simpa using e),below_drewN HB.out _⟩
     case measure=>have:=HLT.out;simp [intOf];omega
   ·obtain⟨i',rfl⟩:∃ i',i=i'+1:=⟨i - 1,by omega⟩
    obtain⟨x,hx⟩:∃ x,l[i']?=some x:=⟨_,List.getElem?_eq_getElem (by rw [HL.out];omega)⟩
    obtain⟨g9,o9,e9,hg9,b0⟩:=(HV.out.more hb).at hx;(obtain⟨rfl,rfl⟩:g=g9∧o=o9:=by injection e9 with e9;injection e9 with e1 e2;exact⟨e1,e2⟩);have hst:=Sp.cnt_step (n:=n) hx;rw [hc] at hst;rw [Nat.add_sub_cancel];obtain⟨c',hc'⟩:=nM (Sp.cntIn n (l.take i'));rw [hc'] at hst ⊢;have HST:=hid hst;have HCP:=hid hc';(have e1:((i'+1:Nat):Int)=(i':Int)+1:=by omega);rw [e1] at p1 p3 z1 j0 ⊢;have y1:decide ((i':Int)+1 > 0)=true:=dT;(have y2:IntKind.i64.wrap (i':Int)=(i':Int):=by have:=HL6.out;rw [IntKind.wrap_i64];omega);(have y3:(0:Int)≤(i':Int):=by omega);(have y4:(i':Int)<(L:Int):=by omega);(have y6:((i':Int)+1).toNat=i'+1:=by omega);(have zc:IntKind.i64.wrap ((c':Int)+1)=(c':Int)+1:=by have h1:=hst;have:=HL6.out;rw [IntKind.wrap_i64];split at h1 <;> omega);clear hb hno hi hlt hy hg hkb1 hkb2 hc hcl hx hg9 hst hc' hi0 e1;rcases Int.lt_or_le x 0 with hx0 | hx0
    ·have HS:=hid (show Sp.inAt n x=false by unfold Sp.inAt;rw [decide_eq_false (by omega)];rfl);have n1:decide (x ≥ 0)=false:=dF;clear hx0;(have hcv:c=c':=by have h1:=HST.out;rw [HS.out] at h1;simpa using h1);have HCV:=hid hcv;clear hcv;go_wp2_with fail;go_quiet (fail);by_cases hyt:y=tp
     ·have y9:(y == tp)=true:=beq_iff_eq.2 hyt;have HYT:=hid hyt;clear hyt;go_wp2_with fail;go_ret2;exact⟨.inl ⟨i'+1,by rw [HCC.out,HCV.out];rfl,by rw [HY.out,HYT.out],HNO.out⟩,by rw [HN.out];exact HB2.out.trans ((below_drewN HB.out _).mono (by have:=HB2.out.size;have:=HN.out;omega))⟩
     ·have y9:(y == tp)=false:=beq_eq_false_iff_ne.2 hyt;have HYT:=hid hyt;clear hyt;go_wp2_with fail;go_roundw
      case rel=>exact⟨i'+1+1,by rfl,by rw [Nat.add_sub_cancel,HCC.out,HCV.out] <;> rfl,HLT.out,fun j hj=>by
        rcases Nat.lt_or_ge j (i'+1) with h9 | h9
        ·exact HNO.out j h9
        ·obtain rfl:j=i'+1:=by omega
         rw [HY.out]
         exact fun e=>HYT.out (by simpa using e),below_drewN HB.out _⟩
      case measure=>have:=HLT.out;simp [intOf];omega
    ·obtain⟨xn,rfl⟩:∃ xn:Nat,x=xn:=⟨x.toNat,by omega⟩
     have n1:decide ((xn:Int) ≥ 0)=true:=decide_eq_true hx0;by_cases hxn:xn<np
     ·obtain⟨pt,hpt⟩:∃ pt,n.ports[xn]?=some pt:=⟨_,List.getElem?_eq_getElem (by rw [HNP.out];exact hxn)⟩
      have hpv:=HPV.out;obtain⟨gq,oq,rfl,hgq,_⟩:=hpv.at hpt;have u1:=(HB.out.cell (p:=⟨gq,oq+xn * 4+2,none⟩) hgq).trans (pv_in hpv hpt);(have hia:Sp.inAt n (xn:Int)=pt.inn:=by unfold Sp.inAt Sp.portIn;rw [Int.toNat_natCast,hpt,decide_eq_true hx0];rfl);have n2:decide ((xn:Int)<(np:Int))=true:=dT;have n3:decide (xn<np)=true:=decide_eq_true hxn;(have n4:(xn:Int)<(np:Int):=by omega);clear hpv hpt hgq
      cases hin:pt.inn with
      | true=>
       rw [hin] at u1 hia;have HS:=hid hia;clear hia hin hx0 hxn;(have hcv:c=c'+1:=by have h1:=HST.out;rw [HS.out] at h1;simpa using h1);have HCV:=hid hcv;clear hcv;go_wp2_with fail;go_quiet (fail);by_cases hyt:y=tp
       ·have y9:(y == tp)=true:=beq_iff_eq.2 hyt;have HYT:=hid hyt;clear hyt;go_wp2_with fail;go_ret2;exact⟨.inl ⟨i'+1,by rw [HCC.out,HCV.out];rfl,by rw [HY.out,HYT.out],HNO.out⟩,by rw [HN.out];exact HB2.out.trans ((below_drewN HB.out _).mono (by have:=HB2.out.size;have:=HN.out;omega))⟩
       ·have y9:(y == tp)=false:=beq_eq_false_iff_ne.2 hyt;have HYT:=hid hyt;clear hyt;go_wp2_with fail;go_roundw
        case rel=>exact⟨i'+1+1,by rfl,by rw [Nat.add_sub_cancel,HCC.out,HCV.out] <;> rfl,HLT.out,fun j hj=>by
          rcases Nat.lt_or_ge j (i'+1) with h9 | h9
          ·exact HNO.out j h9
          ·obtain rfl:j=i'+1:=by omega
           rw [HY.out]
           exact fun e=>HYT.out (by simpa using e),below_drewN HB.out _⟩
        case measure=>have:=HLT.out;simp [intOf];omega
      | false=>
       rw [hin] at u1 hia;have HS:=hid hia;clear hia hin hx0 hxn;(have hcv:c=c':=by have h1:=HST.out;rw [HS.out] at h1;simpa using h1);have HCV:=hid hcv;clear hcv;go_wp2_with fail;go_quiet (fail);by_cases hyt:y=tp
       ·have y9:(y == tp)=true:=beq_iff_eq.2 hyt;have HYT:=hid hyt;clear hyt;go_wp2_with fail;go_ret2;exact⟨.inl ⟨i'+1,by rw [HCC.out,HCV.out];rfl,by rw [HY.out,HYT.out],HNO.out⟩,by rw [HN.out];exact HB2.out.trans ((below_drewN HB.out _).mono (by have:=HB2.out.size;have:=HN.out;omega))⟩
       ·have y9:(y == tp)=false:=beq_eq_false_iff_ne.2 hyt;have HYT:=hid hyt;clear hyt;go_wp2_with fail;go_roundw
        case rel=>exact⟨i'+1+1,by rfl,by rw [Nat.add_sub_cancel,HCC.out,HCV.out] <;> rfl,HLT.out,fun j hj=>by
          rcases Nat.lt_or_ge j (i'+1) with h9 | h9
          ·exact HNO.out j h9
          ·obtain rfl:j=i'+1:=by omega
           rw [HY.out]
           exact fun e=>HYT.out (by simpa using e),below_drewN HB.out _⟩
        case measure=>have:=HLT.out;simp [intOf];omega
     ·have HS:=hid (show Sp.inAt n (xn:Int)=false by unfold Sp.inAt Sp.portIn;rw [Int.toNat_natCast,List.getElem?_eq_none (by rw [HNP.out];omega)];simp);have n2:decide ((xn:Int)<(np:Int))=false:=dF;have n3:decide (xn<np)=false:=decide_eq_false hxn;clear hx0 hxn;(have hcv:c=c':=by have h1:=HST.out;rw [HS.out] at h1;simpa using h1);have HCV:=hid hcv;clear hcv;go_wp2_with fail;go_quiet (fail);by_cases hyt:y=tp
      ·have y9:(y == tp)=true:=beq_iff_eq.2 hyt;have HYT:=hid hyt;clear hyt;go_wp2_with fail;go_ret2;exact⟨.inl ⟨i'+1,by rw [HCC.out,HCV.out];rfl,by rw [HY.out,HYT.out],HNO.out⟩,by rw [HN.out];exact HB2.out.trans ((below_drewN HB.out _).mono (by have:=HB2.out.size;have:=HN.out;omega))⟩
      ·have y9:(y == tp)=false:=beq_eq_false_iff_ne.2 hyt;have HYT:=hid hyt;clear hyt;go_wp2_with fail;go_roundw
       case rel=>exact⟨i'+1+1,by rfl,by rw [Nat.add_sub_cancel,HCC.out,HCV.out] <;> rfl,HLT.out,fun j hj=>by
         rcases Nat.lt_or_ge j (i'+1) with h9 | h9
         ·exact HNO.out j h9
         ·obtain rfl:j=i'+1:=by omega
          rw [HY.out]
          exact fun e=>HYT.out (by simpa using e),below_drewN HB.out _⟩
       case measure=>have:=HLT.out;simp [intOf];omega
  ·have p1:decide ((i:Int)<(L:Int))=false:=dF;have p2:decide (i<L)=false:=decide_eq_false hlt
   have hf1:∀ j:Nat,l[j]?≠some tp:=fun j hj=>by
    rcases Nat.lt_or_ge j i with h9 | h9
    ·exact hno j h9 hj
    ·rw [List.getElem?_eq_none (by rw [HL.out];omega)] at hj
     cases hj
   (have hf2:l.take (i - 1)=l.dropLast:=by rw [List.dropLast_eq_take,HL.out,show i=L by omega]);have HF:=hid (show (∀ j:Nat,l[j]?≠some tp)∧l.take (i - 1)=l.dropLast from⟨hf1,hf2⟩);clear hf1 hf2;clear hb hno hi hlt hkb1 hkb2;go_wp2_with fail;go_ret2;exact⟨.inr ⟨by rw [HF.out.2];rfl,HF.out.1⟩,by rw [HN.out];exact HB2.out.trans (HB.out.mono (by have:=HB2.out.size;have:=HN.out;omega))⟩
end Go.Proofs.YtedfppbnkgffcaaGreatDoor
