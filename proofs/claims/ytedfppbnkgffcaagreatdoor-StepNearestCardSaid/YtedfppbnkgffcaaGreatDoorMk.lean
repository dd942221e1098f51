/-
 THE WALK of lower.validPorts (chapter 9).
-/
import Derived.Test.YtedfppbnkgffcaaGreatDoorMj
import Derived.Maps.OwnSet
set_option linter.unusedVariables false
set_option linter.unusedSimpArgs false
set_option maxRecDepth 100000
set_option maxHeartbeats 4000000
namespace Go.Proofs.YtedfppbnkgffcaaGreatDoor
open Go.RowKit Go.Maps
theorem seen_law:Keyed Tryz.prog 9:=string_keyed Tryz.underlying9
theorem seen_zero (w:World):(zeroValue 3).run Tryz.prog w=.ok (.int .i64 0) w:=by kernel_rfl
abbrev Seen (w:World) (b n:Nat) (D:DataW Unit):Prop:=w.ownsMap Tryz.prog 9 (plainElem Tryz.prog 3) b n D
theorem Seen.below {w w':World} {b n:Nat} {D:DataW Unit} (h:Seen w b n D) {B:Nat} (hb:Below B w w') (hB:b<B):Seen w' b n D:=by
 obtain⟨es,clock,h1,F,hs,hD⟩:=h;exact⟨es,clock,(hb.block b hB).trans h1,F,hs,hD⟩
theorem Seen.isMap {w:World} {b n:Nat} {D:DataW Unit} (h:Seen w b n D):IsMap D:=by
 obtain⟨es,clock,h1,F,hs,rfl⟩:=h;exact⟨_,rfl⟩
def Book (ps:List Sp.Port) (i:Nat) (D:DataW Unit):Prop:=
 (∀ (j:Nat) (p:Sp.Port),j<i→ps[j]?=some p→Maps.has D (.string p.name.data.toList)=true) ∧
 (∀ L:List UInt8,Maps.has D (.string L)=true→∃ (j:Nat) (p:Sp.Port),j<i∧ps[j]?=some p∧p.name.data.toList=L) ∧
 ∀ L:List UInt8,Maps.has D (.string L)=true→∃ c:Nat,c<i∧D.atKey (.string L) (.lit (.int .i64 0))=.lit (.int .i64 (c:Int))
theorem book_nil (ps:List Sp.Port):Book ps 0 (.map []):=by
 refine⟨fun j p h=>by omega,fun L h=>?_,fun L h=>?_⟩
 ·exact absurd (show false=true from h) (by decide)
 ·exact absurd (show false=true from h) (by decide)
theorem book_put {ps:List Sp.Port} {i:Nat} {D:DataW Unit} {p:Sp.Port} (h:Book ps i D) (hp:ps[i]?=some p) (hm:IsMap D):Book ps (i+1) (D.put (.string p.name.data.toList) (.lit (.int .i64 (i:Int)))):=by
 have hk:WideAt.IsKeyLit (.string p.name.data.toList):=by trivial
 have key:∀ L:List UInt8,Maps.has (D.put (.string p.name.data.toList) (.lit (.int .i64 (i:Int)))) (.string L)=true→L=p.name.data.toList∨(L≠p.name.data.toList∧Maps.has D (.string L)=true):=by
  intro L hL;by_cases e:L=p.name.data.toList
  ·exact Or.inl e
  ·rw [has_put_other (by intro h;injection h with h;exact e h)] at hL;exact Or.inr ⟨e,hL⟩
 refine⟨fun j q hj hq=>?_,fun L hL=>?_,fun L hL=>?_⟩
 ·by_cases e:q.name.data.toList=p.name.data.toList
  ·rw [e];exact has_put_same hm hk _
  ·rw [has_put_other (by intro h;injection h with h;exact e h)];by_cases hji:j=i
   ·subst hji;rw [hp] at hq;(injection hq with hq);exact absurd (by rw [hq]) e
   ·exact h.1 j q (by omega) hq
 ·rcases key L hL with e | ⟨e,h2⟩
  ·exact⟨i,p,by omega,hp,e.symm⟩
  ·obtain⟨j,q,hj,h3,h4⟩:=h.2.1 L h2;exact⟨j,q,by omega,h3,h4⟩
 ·rcases key L hL with e | ⟨e,h2⟩
  ·exact⟨i,by omega,by rw [e];exact atKey_put_same hm hk _ _⟩
  ·obtain⟨c,hc,h3⟩:=h.2.2 L h2;exact⟨c,by omega,by rw [atKey_put_other (by intro h;injection h with h;exact e h)];exact h3⟩
theorem lower_validPorts (n:Sp.Net) (A1 A2 A3:Option Addr) (c1 c2 c3:Nat) (w:World) (hG:Gn w) (hpv:PV w A1 n.ports) (hsz:Sp.Szd n) (hnp48:n.ports.length≤1000000):
  Calls Tryz.prog 68 #[.agg #[.int .i64 n.bits,.slice A1 n.ports.length c1,.slice A2 n.tables.length c2,.slice A3 n.guards.length c3]] w fun r w'=>r=.returned (.bool (Sp.tb (Sp.PortsOk n)))∧Below w.heap.size w w':=by
 obtain⟨np,hnp⟩:=nM n.ports.length;obtain⟨nt,hnt⟩:=nM n.tables.length;obtain⟨ng,hng⟩:=nM n.guards.length;obtain⟨P,hP⟩:=nM (Sp.tb (Sp.PortsOk n));rw [hP,hnp,hnt,hng];rw [hnp] at hnp48;obtain⟨W1,hW1⟩:=nM (w.alloc (.cells #[.int .i64 n.bits,.slice A1 np c1,.slice A2 nt c2,.slice A3 ng c3] 26));obtain⟨N,hN⟩:=nM w.heap.size;have hal:Below N w W1:=by rw [← hW1,← hN];exact (Below.refl _ _).alloc (Nat.le_refl _) _
 have hk1:Blk W1 N 26 #[.int .i64 n.bits,.slice A1 np c1,.slice A2 nt c2,.slice A3 ng c3]:=by rw [← hW1,← hN];exact Blk.new w _ _
 have hsW:W1.heap.size=N+1:=by rw [← hW1,World.size_alloc,hN]
 have hmm:=@run_makeMap Tryz.prog;have hmade:=World.ownsMap_made (H:=Unit) W1 Tryz.prog 9 (plainElem Tryz.prog 3);rw [hsW] at hmade;have HP:=Lib.hid hP;have HN:=Lib.hid hN;have HAL:=Lib.hid (hal.alloc (by omega) (.map #[] 0));have HK1:=Lib.hid (hk1.alloc (.map #[] 0));have HMADE:=Lib.hid hmade;have HPV:=Lib.hid hpv;have HG:=Lib.hid hG;have HNP:=Lib.hid hnp;have HNT:=Lib.hid hnt;have HSZ:=Lib.hid hsz;have m1:W1.cell? ⟨N,1,none⟩=some (.slice A1 np c1):=hk1.cell 1;have hnN:N<W1.heap.size:=by omega
 clear hpv hG hsz hnp hnt hng hP hal hk1 hmade;go_enter Tryz.func68,Tryz.ntmps68;go_wp2;clear hW1 m1 hmm hnN hN hsW;go_loopw [12] (fun v12 wr=>∃ (i:Nat) (D:DataW Unit),v12=.int .i64 (i:Int)∧i≤np∧Below N w wr∧Blk wr N 26 #[.int .i64 n.bits,.slice A1 np c1,.slice A2 nt c2,.slice A3 ng c3]∧Seen wr (N+1) i D∧Hid (Book n.ports i D∧∀ (j:Nat) (p:Sp.Port),j<i→n.ports[j]?=some p→Sp.PortOk n j p)) (fun v12 _=>np - (intOf v12).toNat)
 case atStart=>exact⟨0,_,rfl,Nat.zero_le _,HAL.out,HK1.out,HMADE.out,Lib.hid ⟨book_nil _,fun j p hj=>by omega⟩⟩
 case round=>
  obtain⟨i,D,rfl,hi,hb,hk,hown,hok⟩:=hrel;have i0:(0:Int)≤(i:Int):=by omega
  have n1:wr.cell? ⟨N,1,none⟩=some (.slice A1 np c1):=hk.cell 1;have n2:wr.cell? ⟨N,2,none⟩=some (.slice A2 nt c2):=hk.cell 2;by_cases hlt:i<np
  ·have q1:decide ((i:Int)<(np:Int))=true:=dT;have q2:decide (i<np)=true:=decide_eq_true hlt;have q3:(i:Int)<(np:Int):=by omega
   obtain⟨p,hp⟩:∃ p,n.ports[i]?=some p:=⟨_,List.getElem?_eq_getElem (by rw [HNP.out];exact hlt)⟩
   (have hbw:Below w.heap.size w wr:=by rw [HN.out];exact hb);have HPVr:=Lib.hid (HPV.out.more hbw);obtain⟨gq,oq,rfl,hgq,k0,k1,k2,k3⟩:=HPVr.out.at hp;have HQN:Hid (gq≠N+1):=Lib.hid (by obtain⟨_,_,e,h,_⟩:=HPV.out.at hp;injection e with e;injection e with e _ _;rw [← e] at h;rw [HN.out] at h;omega);have hsp:=HSZ.out.ports p (List.mem_of_getElem? hp)
   have hbad:¬ Sp.PortOk n i p→P=false:=fun hb=>by
    rw [← HP.out];exact Sp.tb_no (fun h=>hb (h i p hp))
   have HOTHER:Hid (Maps.has D (.string p.name.data.toList)=false→∀ (j:Nat) (r:Sp.Port),j<i→n.ports[j]?=some r→r.name≠p.name):=Lib.hid (by
    intro hh j r hj hr e;have:=hok.out.1.1 j r hj hr;rw [e,hh] at this
    cases this)
   have HSAME:Hid (Maps.has D (.string p.name.data.toList)=true→¬ Sp.PortOk n i p):=Lib.hid (by
    intro hh h;obtain⟨j,r,hj,hr,e⟩:=hok.out.1.2.1 _ hh
    exact h.other j r hj hr (ba_ext e))
   have HBOOK:=Lib.hid hok.out.1;have HOK:=Lib.hid hok.out.2;have HP2:=Lib.hid hp;obtain⟨pn,pb,pi,pd⟩:=p;simp only [] at k0 k1 k2 k3 hsp;have HBAD:=Lib.hid hbad;have hal2:Below wr.heap.size wr (wr.alloc (.cells #[.string pn,.int .i64 pb,.bool pi,.int .i64 pd] 85)):=(Below.refl _ _).alloc (Nat.le_refl _) _;obtain⟨W2,hW2⟩:=nM (wr.alloc (.cells #[.string pn,.int .i64 pb,.bool pi,.int .i64 pd] 85));(have hkp:Blk W2 wr.heap.size 85 #[.string pn,.int .i64 pb,.bool pi,.int .i64 pd]:=by rw [← hW2];exact Blk.new wr _ _);obtain⟨R,hR⟩:=nM wr.heap.size;rw [hW2,hR] at hal2;rw [hR] at hkp;(have hRN:N+1<R:=by rw [← hR];exact hown.lt);have HOWN2:Hid (Seen W2 (N+1) i D):=Lib.hid (hown.below hal2 hRN);have HK2:Hid (Blk W2 N 26 #[.int .i64 n.bits,.slice (some ⟨gq,oq,none⟩) np c1,.slice A2 nt c2,.slice A3 ng c3]):=Lib.hid (hk.below hal2 (by omega));have HKP:=Lib.hid hkp;have HB2:Hid (Below N w W2):=Lib.hid (hb.trans (hal2.mono (by omega)));have HG2:Hid (Gn W2):=Lib.hid (HG.out.below (by rw [HN.out];exact hb.trans (hal2.mono (by omega))));have HPV2:Hid (PV W2 (some ⟨gq,oq,none⟩) n.ports):=Lib.hid (HPVr.out.more (by rw [hR];exact hal2));have HTK:=Lib.hid (lower_token pn W2 HG2.out hsp);have HR2:=Lib.hid (show R<W2.heap.size from hkp.lt);have hkey:=WideMaps.keyOf_string_mk Tryz.underlying9 (s:=pn) (show pn.size≤maxLen by unfold maxLen;exact hsp);have HKEY:=Lib.hid hkey;have r0:W2.cell? ⟨R,0,none⟩=some (.string pn):=hkp.cell 0;have r1:W2.cell? ⟨R,1,none⟩=some (.int .i64 pb):=hkp.cell 1;have r2:W2.cell? ⟨R,2,none⟩=some (.bool pi):=hkp.cell 2;have r3:W2.cell? ⟨R,3,none⟩=some (.int .i64 pd):=hkp.cell 3;(have z1:IntKind.i64.wrap ((i:Int)+1)=(i:Int)+1:=by rw [IntKind.wrap_i64];omega);have HI:=Lib.hid (show i+1≤np by omega);have HRN:=Lib.hid hRN;clear hb hbw hk hi hlt hown hok hp hsp hbad hkp hkey hal2 hRN;by_cases hh:Maps.has D (.string pn.data.toList)=true
   ·have HH:=Lib.hid hh;have HF:=Lib.hid (HBAD.out (HSAME.out hh));clear HTK HOTHER
    go_wp2_with (at_lookup;refine wpList_lookup_own_ok_int _ rfl _ _ 132 rfl 9 3 .i64 seen_law Tryz.underlying132 Tryz.underlying3 (seen_zero _) (N+1) i D rfl HOWN2.out _ (.string pn.data.toList) rfl HKEY.out ?_;intro c hat hwc;obtain⟨c0,hc0,hat0⟩:=HBOOK.out.2.2 _ HH.out;rw [hat0] at hat;injection hat with hat;injection hat with _ hat;subst hat;have t1:decide ((c0:Int)<(i:Int))=true:=dT;have t2:decide (c0<i)=true:=decide_eq_true hc0;clear hc0 hat0 hwc)
    go_ret;exact⟨by rw [HF.out];rfl,by rw [HN.out];exact HB2.out⟩
   have hh':Maps.has D (.string pn.data.toList)=false:=Bool.eq_false_iff.2 hh;clear hh;have HOTH:=Lib.hid (HOTHER.out hh');clear HSAME HOTHER;by_cases h1:Sp.TokenOk pn
   case neg=>
    have htk:=HTK.out;rw [Sp.tb_no h1] at htk;have HTK2:=Lib.hid htk;have HF:=Lib.hid (HBAD.out (fun h=>h1 h.name));clear htk HTK h1
    go_wp2_with (first | (at_lookup;refine wpList_lookup_own_ok_int _ rfl _ _ 132 rfl 9 3 .i64 seen_law Tryz.underlying132 Tryz.underlying3 (seen_zero _) (N+1) i D rfl HOWN2.out _ (.string pn.data.toList) rfl HKEY.out ?_;intro c hat hwc;clear hat hwc) | (go_at_call 76;refine HTK2.out.mono ?_;rintro e w1 ⟨rfl,hb1⟩;have s0:=(hb1.cell (p:=⟨R,0,none⟩) HR2.out).trans r0;have s1:=(hb1.cell (p:=⟨R,1,none⟩) HR2.out).trans r1;have s2:=(hb1.cell (p:=⟨R,2,none⟩) HR2.out).trans r2;have s3:=(hb1.cell (p:=⟨R,3,none⟩) HR2.out).trans r3;have u1:=(HK2.out.below hb1 (by have:=HRN.out;have:=HR2.out;omega)).cell 1;have u2:=(HK2.out.below hb1 (by have:=HRN.out;have:=HR2.out;omega)).cell 2;have HO1:=Lib.hid (HOWN2.out.below hb1 (by have:=HRN.out;have:=HR2.out;omega));have HB1:=Lib.hid (HB2.out.trans (hb1.mono (by have:=HRN.out;have:=HR2.out;omega)));have HK3:=Lib.hid (HK2.out.below hb1 (by have:=HRN.out;have:=HR2.out;omega));have HP3:=Lib.hid (HPV2.out.more hb1);have HS1:=Lib.hid hb1.size;clear hb1))
    go_ret;exact⟨by rw [HF.out];rfl,by rw [HN.out];exact HB1.out⟩
   have htk:=HTK.out;rw [Sp.tb_yes h1] at htk;have HTK2:=Lib.hid htk;have HT1:=Lib.hid h1;clear htk HTK h1;by_cases h2:pb<0
   ·have t2:decide (pb<0)=true:=decide_eq_true h2;have HF:=Lib.hid (HBAD.out (fun h=>by have:=h.box.1;simp only [] at this;omega));clear h2
    go_wp2_with (first | (at_lookup;refine wpList_lookup_own_ok_int _ rfl _ _ 132 rfl 9 3 .i64 seen_law Tryz.underlying132 Tryz.underlying3 (seen_zero _) (N+1) i D rfl HOWN2.out _ (.string pn.data.toList) rfl HKEY.out ?_;intro c hat hwc;clear hat hwc) | (go_at_call 76;refine HTK2.out.mono ?_;rintro e w1 ⟨rfl,hb1⟩;have s0:=(hb1.cell (p:=⟨R,0,none⟩) HR2.out).trans r0;have s1:=(hb1.cell (p:=⟨R,1,none⟩) HR2.out).trans r1;have s2:=(hb1.cell (p:=⟨R,2,none⟩) HR2.out).trans r2;have s3:=(hb1.cell (p:=⟨R,3,none⟩) HR2.out).trans r3;have u1:=(HK2.out.below hb1 (by have:=HRN.out;have:=HR2.out;omega)).cell 1;have u2:=(HK2.out.below hb1 (by have:=HRN.out;have:=HR2.out;omega)).cell 2;have HO1:=Lib.hid (HOWN2.out.below hb1 (by have:=HRN.out;have:=HR2.out;omega));have HB1:=Lib.hid (HB2.out.trans (hb1.mono (by have:=HRN.out;have:=HR2.out;omega)));have HK3:=Lib.hid (HK2.out.below hb1 (by have:=HRN.out;have:=HR2.out;omega));have HP3:=Lib.hid (HPV2.out.more hb1);have HS1:=Lib.hid hb1.size;clear hb1))
    go_ret;exact⟨by rw [HF.out];rfl,by rw [HN.out];exact HB1.out⟩
   have t2:decide (pb<0)=false:=decide_eq_false h2;by_cases h3:(nt:Int)≤pb
   ·have t3:decide (pb ≥ (nt:Int))=true:=decide_eq_true h3;have HF:=Lib.hid (HBAD.out (fun h=>by have:=h.box.2;rw [HNT.out] at this;simp only [] at this;omega));clear h2 h3
    go_wp2_with (first | (at_lookup;refine wpList_lookup_own_ok_int _ rfl _ _ 132 rfl 9 3 .i64 seen_law Tryz.underlying132 Tryz.underlying3 (seen_zero _) (N+1) i D rfl HOWN2.out _ (.string pn.data.toList) rfl HKEY.out ?_;intro c hat hwc;clear hat hwc) | (go_at_call 76;refine HTK2.out.mono ?_;rintro e w1 ⟨rfl,hb1⟩;have s0:=(hb1.cell (p:=⟨R,0,none⟩) HR2.out).trans r0;have s1:=(hb1.cell (p:=⟨R,1,none⟩) HR2.out).trans r1;have s2:=(hb1.cell (p:=⟨R,2,none⟩) HR2.out).trans r2;have s3:=(hb1.cell (p:=⟨R,3,none⟩) HR2.out).trans r3;have u1:=(HK2.out.below hb1 (by have:=HRN.out;have:=HR2.out;omega)).cell 1;have u2:=(HK2.out.below hb1 (by have:=HRN.out;have:=HR2.out;omega)).cell 2;have HO1:=Lib.hid (HOWN2.out.below hb1 (by have:=HRN.out;have:=HR2.out;omega));have HB1:=Lib.hid (HB2.out.trans (hb1.mono (by have:=HRN.out;have:=HR2.out;omega)));have HK3:=Lib.hid (HK2.out.below hb1 (by have:=HRN.out;have:=HR2.out;omega));have HP3:=Lib.hid (HPV2.out.more hb1);have HS1:=Lib.hid hb1.size;clear hb1))
    go_ret;exact⟨by rw [HF.out];rfl,by rw [HN.out];exact HB1.out⟩
   have t3:decide (pb ≥ (nt:Int))=false:=decide_eq_false h3;have HBX:=Lib.hid (show 0≤pb∧pb<(nt:Int) from⟨by omega,by omega⟩);clear h2 h3
   have HNEXT:Hid (Sp.PortOk n i ⟨pn,pb,pi,pd⟩→∀ w5,Seen w5 (N+1) (i+1) (D.put (.string pn.data.toList) (.lit (.int .i64 (i:Int))))→Book n.ports (i+1) (D.put (.string pn.data.toList) (.lit (.int .i64 (i:Int))))∧∀ (j:Nat) (p:Sp.Port),j<i+1→n.ports[j]?=some p→Sp.PortOk n j p):=Lib.hid (by
    intro hpo w5 _;refine⟨book_put HBOOK.out HP2.out (Seen.isMap HOWN2.out),fun j q hj hq=>?_⟩;by_cases hji:j=i
    ·subst hji;rw [HP2.out] at hq;(injection hq with hq);rw [← hq];exact hpo
    ·exact HOK.out j q (by omega) hq)
   have HMK:Hid ((pd=-1∨(pi=false∧0≤pd∧∃ r,n.ports[pd.toNat]?=some r∧r.inn=true))→Sp.PortOk n i ⟨pn,pb,pi,pd⟩):=Lib.hid (fun h=>⟨HT1.out,by rw [HNT.out];exact HBX.out,h,HOTH.out⟩);by_cases h4:pd=-1
   ·subst h4;have t4:((-1:Int) != -1)=false:=rfl
    go_wp2_with (first | (at_lookup;refine wpList_lookup_own_ok_int _ rfl _ _ 132 rfl 9 3 .i64 seen_law Tryz.underlying132 Tryz.underlying3 (seen_zero _) (N+1) i D rfl HOWN2.out _ (.string pn.data.toList) rfl HKEY.out ?_;intro c hat hwc;clear hat hwc) | (go_at_call 76;refine HTK2.out.mono ?_;rintro e w1 ⟨rfl,hb1⟩;have s0:=(hb1.cell (p:=⟨R,0,none⟩) HR2.out).trans r0;have s1:=(hb1.cell (p:=⟨R,1,none⟩) HR2.out).trans r1;have s2:=(hb1.cell (p:=⟨R,2,none⟩) HR2.out).trans r2;have s3:=(hb1.cell (p:=⟨R,3,none⟩) HR2.out).trans r3;have u1:=(HK2.out.below hb1 (by have:=HRN.out;have:=HR2.out;omega)).cell 1;have u2:=(HK2.out.below hb1 (by have:=HRN.out;have:=HR2.out;omega)).cell 2;have HO1:=Lib.hid (HOWN2.out.below hb1 (by have:=HRN.out;have:=HR2.out;omega));have HB1:=Lib.hid (HB2.out.trans (hb1.mono (by have:=HRN.out;have:=HR2.out;omega)));have HK3:=Lib.hid (HK2.out.below hb1 (by have:=HRN.out;have:=HR2.out;omega));have HP3:=Lib.hid (HPV2.out.more hb1);have HS1:=Lib.hid hb1.size;clear hb1) | (at_mapUpdate;refine wpList_mapUpdate_own _ rfl _ _ _ 132 rfl 9 3 seen_law Tryz.underlying132 _ (N+1) i D rfl HO1.out (by have:=HI.out;unfold maxLen;omega) _ _ (.string pn.data.toList) rfl rfl HKEY.out (.lit (.int .i64 (i:Int))) [] (plainElem_int Tryz.underlying3 (WalkArith.wf_i64 (by have:=HI.out;omega))) ?_;intro w5 hown5 hg5;have v1:=(World.cell?_of_block (a:=⟨R,1,none⟩) (hg5.block R (by have:=HR2.out;have:=HS1.out;omega) (by intro e;injection e with e;have:=HRN.out;omega))).trans s1;have v2:=(World.cell?_of_block (a:=⟨R,2,none⟩) (hg5.block R (by have:=HR2.out;have:=HS1.out;omega) (by intro e;injection e with e;have:=HRN.out;omega))).trans s2;have v3:=(World.cell?_of_block (a:=⟨R,3,none⟩) (hg5.block R (by have:=HR2.out;have:=HS1.out;omega) (by intro e;injection e with e;have:=HRN.out;omega))).trans s3;have HK5:=Lib.hid (HK3.out.grown hg5 (by intro e;injection e with e;omega));have x1:=HK5.out.cell 1;have HO5:=Lib.hid hown5;have HB5:=Lib.hid (HB1.out.grown hg5 (by have:=HB1.out.size;rw [HN.out] at this;exact this) (fun g e=>by injection e with e;omega));have HG5:=Lib.hid hg5;clear hown5 hg5))
    go_roundw
    case rel=>exact⟨i+1,_,by rfl,HI.out,HB5.out,HK5.out,HO5.out,Lib.hid (HNEXT.out (HMK.out (Or.inl (by first | trivial | rfl))) _ HO5.out)⟩
    case measure=>have:=HI.out;simp [intOf];omega
   have t4:(pd != -1)=true:=bne_iff_ne.2 h4
   cases pi with
   | true=>
    have HF:=Lib.hid (HBAD.out (fun h=>by
     rcases h.dst with h5 | ⟨h5,_⟩
     ·exact h4 h5
     ·cases h5))
    clear h4
    go_wp2_with (first | (at_lookup;refine wpList_lookup_own_ok_int _ rfl _ _ 132 rfl 9 3 .i64 seen_law Tryz.underlying132 Tryz.underlying3 (seen_zero _) (N+1) i D rfl HOWN2.out _ (.string pn.data.toList) rfl HKEY.out ?_;intro c hat hwc;clear hat hwc) | (go_at_call 76;refine HTK2.out.mono ?_;rintro e w1 ⟨rfl,hb1⟩;have s0:=(hb1.cell (p:=⟨R,0,none⟩) HR2.out).trans r0;have s1:=(hb1.cell (p:=⟨R,1,none⟩) HR2.out).trans r1;have s2:=(hb1.cell (p:=⟨R,2,none⟩) HR2.out).trans r2;have s3:=(hb1.cell (p:=⟨R,3,none⟩) HR2.out).trans r3;have u1:=(HK2.out.below hb1 (by have:=HRN.out;have:=HR2.out;omega)).cell 1;have u2:=(HK2.out.below hb1 (by have:=HRN.out;have:=HR2.out;omega)).cell 2;have HO1:=Lib.hid (HOWN2.out.below hb1 (by have:=HRN.out;have:=HR2.out;omega));have HB1:=Lib.hid (HB2.out.trans (hb1.mono (by have:=HRN.out;have:=HR2.out;omega)));have HK3:=Lib.hid (HK2.out.below hb1 (by have:=HRN.out;have:=HR2.out;omega));have HP3:=Lib.hid (HPV2.out.more hb1);have HS1:=Lib.hid hb1.size;clear hb1) | (at_mapUpdate;refine wpList_mapUpdate_own _ rfl _ _ _ 132 rfl 9 3 seen_law Tryz.underlying132 _ (N+1) i D rfl HO1.out (by have:=HI.out;unfold maxLen;omega) _ _ (.string pn.data.toList) rfl rfl HKEY.out (.lit (.int .i64 (i:Int))) [] (plainElem_int Tryz.underlying3 (WalkArith.wf_i64 (by have:=HI.out;omega))) ?_;intro w5 hown5 hg5;have v1:=(World.cell?_of_block (a:=⟨R,1,none⟩) (hg5.block R (by have:=HR2.out;have:=HS1.out;omega) (by intro e;injection e with e;have:=HRN.out;omega))).trans s1;have v2:=(World.cell?_of_block (a:=⟨R,2,none⟩) (hg5.block R (by have:=HR2.out;have:=HS1.out;omega) (by intro e;injection e with e;have:=HRN.out;omega))).trans s2;have v3:=(World.cell?_of_block (a:=⟨R,3,none⟩) (hg5.block R (by have:=HR2.out;have:=HS1.out;omega) (by intro e;injection e with e;have:=HRN.out;omega))).trans s3;have HK5:=Lib.hid (HK3.out.grown hg5 (by intro e;injection e with e;omega));have x1:=HK5.out.cell 1;have HO5:=Lib.hid hown5;have HB5:=Lib.hid (HB1.out.grown hg5 (by have:=HB1.out.size;rw [HN.out] at this;exact this) (fun g e=>by injection e with e;omega));have HG5:=Lib.hid hg5;clear hown5 hg5))
    go_ret;exact⟨by rw [HF.out];rfl,by rw [HN.out];exact HB5.out⟩
   | false=>
   by_cases h5:pd<0
   ·have t5:decide (pd<0)=true:=decide_eq_true h5
    have HF:=Lib.hid (HBAD.out (fun h=>by
     rcases h.dst with h6 | ⟨_,h6,_⟩
     ·exact h4 h6
     ·simp only [] at h6;omega))
    clear h4 h5
    go_wp2_with (first | (at_lookup;refine wpList_lookup_own_ok_int _ rfl _ _ 132 rfl 9 3 .i64 seen_law Tryz.underlying132 Tryz.underlying3 (seen_zero _) (N+1) i D rfl HOWN2.out _ (.string pn.data.toList) rfl HKEY.out ?_;intro c hat hwc;clear hat hwc) | (go_at_call 76;refine HTK2.out.mono ?_;rintro e w1 ⟨rfl,hb1⟩;have s0:=(hb1.cell (p:=⟨R,0,none⟩) HR2.out).trans r0;have s1:=(hb1.cell (p:=⟨R,1,none⟩) HR2.out).trans r1;have s2:=(hb1.cell (p:=⟨R,2,none⟩) HR2.out).trans r2;have s3:=(hb1.cell (p:=⟨R,3,none⟩) HR2.out).trans r3;have u1:=(HK2.out.below hb1 (by have:=HRN.out;have:=HR2.out;omega)).cell 1;have u2:=(HK2.out.below hb1 (by have:=HRN.out;have:=HR2.out;omega)).cell 2;have HO1:=Lib.hid (HOWN2.out.below hb1 (by have:=HRN.out;have:=HR2.out;omega));have HB1:=Lib.hid (HB2.out.trans (hb1.mono (by have:=HRN.out;have:=HR2.out;omega)));have HK3:=Lib.hid (HK2.out.below hb1 (by have:=HRN.out;have:=HR2.out;omega));have HP3:=Lib.hid (HPV2.out.more hb1);have HS1:=Lib.hid hb1.size;clear hb1) | (at_mapUpdate;refine wpList_mapUpdate_own _ rfl _ _ _ 132 rfl 9 3 seen_law Tryz.underlying132 _ (N+1) i D rfl HO1.out (by have:=HI.out;unfold maxLen;omega) _ _ (.string pn.data.toList) rfl rfl HKEY.out (.lit (.int .i64 (i:Int))) [] (plainElem_int Tryz.underlying3 (WalkArith.wf_i64 (by have:=HI.out;omega))) ?_;intro w5 hown5 hg5;have v1:=(World.cell?_of_block (a:=⟨R,1,none⟩) (hg5.block R (by have:=HR2.out;have:=HS1.out;omega) (by intro e;injection e with e;have:=HRN.out;omega))).trans s1;have v2:=(World.cell?_of_block (a:=⟨R,2,none⟩) (hg5.block R (by have:=HR2.out;have:=HS1.out;omega) (by intro e;injection e with e;have:=HRN.out;omega))).trans s2;have v3:=(World.cell?_of_block (a:=⟨R,3,none⟩) (hg5.block R (by have:=HR2.out;have:=HS1.out;omega) (by intro e;injection e with e;have:=HRN.out;omega))).trans s3;have HK5:=Lib.hid (HK3.out.grown hg5 (by intro e;injection e with e;omega));have x1:=HK5.out.cell 1;have HO5:=Lib.hid hown5;have HB5:=Lib.hid (HB1.out.grown hg5 (by have:=HB1.out.size;rw [HN.out] at this;exact this) (fun g e=>by injection e with e;omega));have HG5:=Lib.hid hg5;clear hown5 hg5))
    go_ret;exact⟨by rw [HF.out];rfl,by rw [HN.out];exact HB5.out⟩
   have t5:decide (pd<0)=false:=decide_eq_false h5;by_cases h6:(np:Int)≤pd
   ·have t6:decide (pd ≥ (np:Int))=true:=decide_eq_true h6
    have HF:=Lib.hid (HBAD.out (fun h=>by
     rcases h.dst with h7 | ⟨_,_,r,hr,_⟩
     ·exact h4 h7
     ·have:=(List.getElem?_eq_some_iff.1 hr).1;rw [HNP.out] at this;simp only [] at this
      omega))
    clear h4 h5 h6
    go_wp2_with (first | (at_lookup;refine wpList_lookup_own_ok_int _ rfl _ _ 132 rfl 9 3 .i64 seen_law Tryz.underlying132 Tryz.underlying3 (seen_zero _) (N+1) i D rfl HOWN2.out _ (.string pn.data.toList) rfl HKEY.out ?_;intro c hat hwc;clear hat hwc) | (go_at_call 76;refine HTK2.out.mono ?_;rintro e w1 ⟨rfl,hb1⟩;have s0:=(hb1.cell (p:=⟨R,0,none⟩) HR2.out).trans r0;have s1:=(hb1.cell (p:=⟨R,1,none⟩) HR2.out).trans r1;have s2:=(hb1.cell (p:=⟨R,2,none⟩) HR2.out).trans r2;have s3:=(hb1.cell (p:=⟨R,3,none⟩) HR2.out).trans r3;have u1:=(HK2.out.below hb1 (by have:=HRN.out;have:=HR2.out;omega)).cell 1;have u2:=(HK2.out.below hb1 (by have:=HRN.out;have:=HR2.out;omega)).cell 2;have HO1:=Lib.hid (HOWN2.out.below hb1 (by have:=HRN.out;have:=HR2.out;omega));have HB1:=Lib.hid (HB2.out.trans (hb1.mono (by have:=HRN.out;have:=HR2.out;omega)));have HK3:=Lib.hid (HK2.out.below hb1 (by have:=HRN.out;have:=HR2.out;omega));have HP3:=Lib.hid (HPV2.out.more hb1);have HS1:=Lib.hid hb1.size;clear hb1) | (at_mapUpdate;refine wpList_mapUpdate_own _ rfl _ _ _ 132 rfl 9 3 seen_law Tryz.underlying132 _ (N+1) i D rfl HO1.out (by have:=HI.out;unfold maxLen;omega) _ _ (.string pn.data.toList) rfl rfl HKEY.out (.lit (.int .i64 (i:Int))) [] (plainElem_int Tryz.underlying3 (WalkArith.wf_i64 (by have:=HI.out;omega))) ?_;intro w5 hown5 hg5;have v1:=(World.cell?_of_block (a:=⟨R,1,none⟩) (hg5.block R (by have:=HR2.out;have:=HS1.out;omega) (by intro e;injection e with e;have:=HRN.out;omega))).trans s1;have v2:=(World.cell?_of_block (a:=⟨R,2,none⟩) (hg5.block R (by have:=HR2.out;have:=HS1.out;omega) (by intro e;injection e with e;have:=HRN.out;omega))).trans s2;have v3:=(World.cell?_of_block (a:=⟨R,3,none⟩) (hg5.block R (by have:=HR2.out;have:=HS1.out;omega) (by intro e;injection e with e;have:=HRN.out;omega))).trans s3;have HK5:=Lib.hid (HK3.out.grown hg5 (by intro e;injection e with e;omega));have x1:=HK5.out.cell 1;have HO5:=Lib.hid hown5;have HB5:=Lib.hid (HB1.out.grown hg5 (by have:=HB1.out.size;rw [HN.out] at this;exact this) (fun g e=>by injection e with e;omega));have HG5:=Lib.hid hg5;clear hown5 hg5))
    go_ret;exact⟨by rw [HF.out];rfl,by rw [HN.out];exact HB5.out⟩
   have t6:decide (pd ≥ (np:Int))=false:=decide_eq_false h6
   obtain⟨d,hd⟩:∃ d:Nat,pd=(d:Int):=⟨pd.toNat,by omega⟩
   subst hd;(have d0:(0:Int)≤(d:Int):=by omega);(have d1:(d:Int)<(np:Int):=by omega);have d2:decide (np≤d)=false:=dF
   obtain⟨r,hr⟩:∃ r,n.ports[d]?=some r:=⟨_,List.getElem?_eq_getElem (by rw [HNP.out];omega)⟩
   have HR3:=Lib.hid hr;obtain⟨rn,rb,ri,rd⟩:=r
   cases ri with
   | true=>
    have HPO:=Lib.hid (HMK.out (Or.inr ⟨rfl,d0,_,by rw [Int.toNat_natCast];exact hr,rfl⟩));clear h4 h5 h6 hr
    go_wp2_with (first | (at_lookup;refine wpList_lookup_own_ok_int _ rfl _ _ 132 rfl 9 3 .i64 seen_law Tryz.underlying132 Tryz.underlying3 (seen_zero _) (N+1) i D rfl HOWN2.out _ (.string pn.data.toList) rfl HKEY.out ?_;intro c hat hwc;clear hat hwc) | (go_at_call 76;refine HTK2.out.mono ?_;rintro e w1 ⟨rfl,hb1⟩;have s0:=(hb1.cell (p:=⟨R,0,none⟩) HR2.out).trans r0;have s1:=(hb1.cell (p:=⟨R,1,none⟩) HR2.out).trans r1;have s2:=(hb1.cell (p:=⟨R,2,none⟩) HR2.out).trans r2;have s3:=(hb1.cell (p:=⟨R,3,none⟩) HR2.out).trans r3;have u1:=(HK2.out.below hb1 (by have:=HRN.out;have:=HR2.out;omega)).cell 1;have u2:=(HK2.out.below hb1 (by have:=HRN.out;have:=HR2.out;omega)).cell 2;have HO1:=Lib.hid (HOWN2.out.below hb1 (by have:=HRN.out;have:=HR2.out;omega));have HB1:=Lib.hid (HB2.out.trans (hb1.mono (by have:=HRN.out;have:=HR2.out;omega)));have HK3:=Lib.hid (HK2.out.below hb1 (by have:=HRN.out;have:=HR2.out;omega));have HP3:=Lib.hid (HPV2.out.more hb1);have HS1:=Lib.hid hb1.size;clear hb1;obtain⟨gq',oq',hgq',hql,_,_,y2,_⟩:=HP3.out.at HR3.out;injection hgq' with hgq';injection hgq' with e1 e2;subst e1 e2;simp only [] at y2;have HQL:=Lib.hid hql;clear hql) | (at_mapUpdate;refine wpList_mapUpdate_own _ rfl _ _ _ 132 rfl 9 3 seen_law Tryz.underlying132 _ (N+1) i D rfl HO1.out (by have:=HI.out;unfold maxLen;omega) _ _ (.string pn.data.toList) rfl rfl HKEY.out (.lit (.int .i64 (i:Int))) [] (plainElem_int Tryz.underlying3 (WalkArith.wf_i64 (by have:=HI.out;omega))) ?_;intro w5 hown5 hg5;have v1:=(World.cell?_of_block (a:=⟨R,1,none⟩) (hg5.block R (by have:=HR2.out;have:=HS1.out;omega) (by intro e;injection e with e;have:=HRN.out;omega))).trans s1;have v2:=(World.cell?_of_block (a:=⟨R,2,none⟩) (hg5.block R (by have:=HR2.out;have:=HS1.out;omega) (by intro e;injection e with e;have:=HRN.out;omega))).trans s2;have v3:=(World.cell?_of_block (a:=⟨R,3,none⟩) (hg5.block R (by have:=HR2.out;have:=HS1.out;omega) (by intro e;injection e with e;have:=HRN.out;omega))).trans s3;have HK5:=Lib.hid (HK3.out.grown hg5 (by intro e;injection e with e;omega));have x1:=HK5.out.cell 1;have HO5:=Lib.hid hown5;have HB5:=Lib.hid (HB1.out.grown hg5 (by have:=HB1.out.size;rw [HN.out] at this;exact this) (fun g e=>by injection e with e;omega));have HG5:=Lib.hid hg5;clear hown5 hg5;have x2:=(World.cell?_of_block (a:=⟨gq,oq+d * 4+2,none⟩) (HG5.out.block gq HQL.out (by intro e;injection e with e;exact HQN.out e))).trans y2))
    go_roundw
    case rel=>exact⟨i+1,_,by rfl,HI.out,HB5.out,HK5.out,HO5.out,Lib.hid (HNEXT.out HPO.out _ HO5.out)⟩
    case measure=>have:=HI.out;simp [intOf];omega
   | false=>
    have HF:=Lib.hid (HBAD.out (fun h=>by
     rcases h.dst with h7 | ⟨_,_,r,hr2,h7⟩
     ·exact h4 h7
     ·simp only [Int.toNat_natCast] at hr2;rw [hr] at hr2;(injection hr2 with hr2);rw [← hr2] at h7
      cases h7))
    clear h4 h5 h6 hr
    go_wp2_with (first | (at_lookup;refine wpList_lookup_own_ok_int _ rfl _ _ 132 rfl 9 3 .i64 seen_law Tryz.underlying132 Tryz.underlying3 (seen_zero _) (N+1) i D rfl HOWN2.out _ (.string pn.data.toList) rfl HKEY.out ?_;intro c hat hwc;clear hat hwc) | (go_at_call 76;refine HTK2.out.mono ?_;rintro e w1 ⟨rfl,hb1⟩;have s0:=(hb1.cell (p:=⟨R,0,none⟩) HR2.out).trans r0;have s1:=(hb1.cell (p:=⟨R,1,none⟩) HR2.out).trans r1;have s2:=(hb1.cell (p:=⟨R,2,none⟩) HR2.out).trans r2;have s3:=(hb1.cell (p:=⟨R,3,none⟩) HR2.out).trans r3;have u1:=(HK2.out.below hb1 (by have:=HRN.out;have:=HR2.out;omega)).cell 1;have u2:=(HK2.out.below hb1 (by have:=HRN.out;have:=HR2.out;omega)).cell 2;have HO1:=Lib.hid (HOWN2.out.below hb1 (by have:=HRN.out;have:=HR2.out;omega));have HB1:=Lib.hid (HB2.out.trans (hb1.mono (by have:=HRN.out;have:=HR2.out;omega)));have HK3:=Lib.hid (HK2.out.below hb1 (by have:=HRN.out;have:=HR2.out;omega));have HP3:=Lib.hid (HPV2.out.more hb1);have HS1:=Lib.hid hb1.size;clear hb1;obtain⟨gq',oq',hgq',hql,_,_,y2,_⟩:=HP3.out.at HR3.out;injection hgq' with hgq';injection hgq' with e1 e2;subst e1 e2;simp only [] at y2;have HQL:=Lib.hid hql;clear hql) | (at_mapUpdate;refine wpList_mapUpdate_own _ rfl _ _ _ 132 rfl 9 3 seen_law Tryz.underlying132 _ (N+1) i D rfl HO1.out (by have:=HI.out;unfold maxLen;omega) _ _ (.string pn.data.toList) rfl rfl HKEY.out (.lit (.int .i64 (i:Int))) [] (plainElem_int Tryz.underlying3 (WalkArith.wf_i64 (by have:=HI.out;omega))) ?_;intro w5 hown5 hg5;have v1:=(World.cell?_of_block (a:=⟨R,1,none⟩) (hg5.block R (by have:=HR2.out;have:=HS1.out;omega) (by intro e;injection e with e;have:=HRN.out;omega))).trans s1;have v2:=(World.cell?_of_block (a:=⟨R,2,none⟩) (hg5.block R (by have:=HR2.out;have:=HS1.out;omega) (by intro e;injection e with e;have:=HRN.out;omega))).trans s2;have v3:=(World.cell?_of_block (a:=⟨R,3,none⟩) (hg5.block R (by have:=HR2.out;have:=HS1.out;omega) (by intro e;injection e with e;have:=HRN.out;omega))).trans s3;have HK5:=Lib.hid (HK3.out.grown hg5 (by intro e;injection e with e;omega));have x1:=HK5.out.cell 1;have HO5:=Lib.hid hown5;have HB5:=Lib.hid (HB1.out.grown hg5 (by have:=HB1.out.size;rw [HN.out] at this;exact this) (fun g e=>by injection e with e;omega));have HG5:=Lib.hid hg5;clear hown5 hg5;have x2:=(World.cell?_of_block (a:=⟨gq,oq+d * 4+2,none⟩) (HG5.out.block gq HQL.out (by intro e;injection e with e;exact HQN.out e))).trans y2))
    go_ret;exact⟨by rw [HF.out];rfl,by rw [HN.out];exact HB5.out⟩
  ·have q1:decide ((i:Int)<(np:Int))=false:=dF;have q2:decide (i<np)=false:=decide_eq_false hlt
   have HT:Hid (P=true):=Lib.hid (by
    rw [← HP.out];refine Sp.tb_yes (fun j p hj=>hok.out.2 j p ?_ hj);have:=(List.getElem?_eq_some_iff.1 hj).1;rw [HNP.out] at this
    omega)
   have HB:=Lib.hid hb;clear hb hk hown hok hi hlt;go_wp2;go_ret;exact⟨by rw [HT.out];rfl,by rw [HN.out];exact HB.out⟩
end Go.Proofs.YtedfppbnkgffcaaGreatDoor
