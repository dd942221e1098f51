/-
 THE WALKS of lower.Valid, step.check (chapters 9, 10).
-/
import Derived.Test.YtedfppbnkgffcaaGreatDoorMk
import Derived.Deep.QuietTactic
import Derived.BigQuiet
set_option linter.unusedVariables false
set_option linter.unusedSimpArgs false
set_option maxRecDepth 100000
set_option maxHeartbeats 4000000
namespace Go.Proofs.YtedfppbnkgffcaaGreatDoor
open Go.RowKit
open Go.Lib (hid)
namespace Sp
noncomputable def validE (n:Net):Int:=if tb (NetOk n)=true then 0 else 90
theorem validE_yes {n:Net} (h:NetOk n):validE n=0:=by unfold validE;rw [tb_yes h];rfl
theorem validE_no {n:Net} (h:¬ NetOk n):validE n=90:=by unfold validE;rw [tb_no h];rfl
end Sp
theorem lower_Valid (n:Sp.Net) (A1 A2 A3:Option Addr) (c1 c2 c3:Nat) (w:World) (hG:Gn w) (hpv:PV w A1 n.ports) (htv:TTV w A2 n.tables) (hgv:GGV w A3 n.guards) (hsz:Sp.Szd n):
  Calls Tryz.prog 54 #[.agg #[.int .i64 n.bits,.slice A1 n.ports.length c1,.slice A2 n.tables.length c2,.slice A3 n.guards.length c3]] w fun r w'=>r=.returned (.int .i64 (Sp.validE n))∧Below w.heap.size w w':=by
 have hVP:=fun W (hW:Below w.heap.size w W) (h:n.ports.length≤48)=>lower_validPorts n A1 A2 A3 c1 c2 c3 W (hG.below hW) (hpv.more hW) hsz (by omega)
 have hVG:=fun W (hW:Below w.heap.size w W)=>lower_validGuards n A1 A2 A3 c1 c2 c3 W (hpv.more hW) (htv.more hW) (hgv.more hW) hsz
 have hVT:=fun W (hW:Below w.heap.size w W) (h:n.tables.length≤16)=>lower_validTables n A1 A2 A3 c1 c2 c3 W (hpv.more hW) (htv.more hW) (hgv.more hW) hsz (by omega)
 have hlp:=hsz.np;have hlt:=hsz.nt;have hlg:=hsz.ng;obtain⟨b,hb⟩:=nM n.bits;obtain⟨np,hnp⟩:=nM n.ports.length;obtain⟨nt,hnt⟩:=nM n.tables.length;obtain⟨ng,hng⟩:=nM n.guards.length;rw [hb,hnp,hnt,hng];rw [hb,hnp,hnt,hng] at hVP hVG hVT;rw [hnp] at hlp;rw [hnt] at hlt;rw [hng] at hlg;obtain⟨E,hE⟩:=nM (Sp.validE n);rw [hE];obtain⟨W1,hW1⟩:=nM (w.alloc (.cells #[.int .i64 b,.slice A1 np c1,.slice A2 nt c2,.slice A3 ng c3] 26));obtain⟨N,hN⟩:=nM w.heap.size;have hal:Below N w W1:=by rw [← hW1,← hN];exact (Below.refl _ _).alloc (Nat.le_refl _) _
 have hk1:Blk W1 N 26 #[.int .i64 b,.slice A1 np c1,.slice A2 nt c2,.slice A3 ng c3]:=by rw [← hW1,← hN];exact Blk.new w _ _
 have m0:W1.cell? ⟨N,0,none⟩=some (.int .i64 b):=hk1.cell 0;have m1:W1.cell? ⟨N,1,none⟩=some (.slice A1 np c1):=hk1.cell 1;have m2:W1.cell? ⟨N,2,none⟩=some (.slice A2 nt c2):=hk1.cell 2;have m3:W1.cell? ⟨N,3,none⟩=some (.slice A3 ng c3):=hk1.cell 3;have HE:=hid hE;have HN:=hid hN;have HAL:=hid hal;have HK1:=hid hk1;have HVP:=hid hVP;have HVG:=hid hVG;have HVT:=hid hVT;have HBI:=hid hb;have HNP:=hid hnp;have HNT:=hid hnt;have HNG:=hid hng;have hbad:¬ Sp.NetOk n→E=90:=fun h=>by rw [← HE.out];exact Sp.validE_no h
 have HBAD:=hid hbad;clear hE hal hk1 hVP hVG hVT hb hnp hnt hng hG hpv htv hgv hsz hbad;by_cases h1:b<1
 ·have t1:decide (b<1)=true:=decide_eq_true h1;have HF:=hid (HBAD.out (fun h=>by have:=h.bits.1;rw [HBI.out] at this;omega));clear h1;go_enter Tryz.func54,Tryz.ntmps54;go_wp2;go_ret;exact⟨by rw [HF.out];rfl,by rw [HN.out];exact HAL.out⟩
 have t1:decide (b<1)=false:=decide_eq_false h1;by_cases h2:256<b
 ·have t2:decide (b > 256)=true:=decide_eq_true h2;have HF:=hid (HBAD.out (fun h=>by have:=h.bits.2;rw [HBI.out] at this;omega));clear h1 h2;go_enter Tryz.func54,Tryz.ntmps54;go_wp2;go_ret;exact⟨by rw [HF.out];rfl,by rw [HN.out];exact HAL.out⟩
 have t2:decide (b > 256)=false:=decide_eq_false h2;by_cases h3:16<nt
 ·have t3:decide ((nt:Int) > 16)=true:=dT;have t3':decide (16<nt)=true:=decide_eq_true h3;have HF:=hid (HBAD.out (fun h=>by have:=h.ntables;rw [HNT.out] at this;omega));clear h1 h2 h3;go_enter Tryz.func54,Tryz.ntmps54;go_wp2;go_ret;exact⟨by rw [HF.out];rfl,by rw [HN.out];exact HAL.out⟩
 have t3:decide ((nt:Int) > 16)=false:=dF;have t3':decide (16<nt)=false:=decide_eq_false h3;by_cases h4:48<np
 ·have t4:decide ((np:Int) > 48)=true:=dT;have t4':decide (48<np)=true:=decide_eq_true h4;have HF:=hid (HBAD.out (fun h=>by have:=h.nports;rw [HNP.out] at this;omega));clear h1 h2 h3 h4;go_enter Tryz.func54,Tryz.ntmps54;go_wp2;go_ret;exact⟨by rw [HF.out];rfl,by rw [HN.out];exact HAL.out⟩
 have t4:decide ((np:Int) > 48)=false:=dF;have t4':decide (48<np)=false:=decide_eq_false h4;by_cases h5:ng=np
 case neg=>
  have t5:((ng:Int) != (np:Int))=true:=bne_iff_ne.2 (by omega);have t5':(ng != np)=true:=bne_iff_ne.2 h5;have HF:=hid (HBAD.out (fun h=>by have:=h.nguards;rw [HNG.out,HNP.out] at this;omega));clear h1 h2 h3 h4 h5;go_enter Tryz.func54,Tryz.ntmps54;go_wp2;go_ret;exact⟨by rw [HF.out];rfl,by rw [HN.out];exact HAL.out⟩
 subst h5;have t5:((ng:Int) != (ng:Int))=false:=by simp
 have t5':(ng != ng)=false:=by simp
 have HBB:=hid (show 1≤b∧b≤256 from⟨by omega,by omega⟩);have H16:=hid (show nt≤16 by omega);have H48:=hid (show ng≤48 by omega);clear h1 h2 h3 h4;have hvp:=fun W hW=>HVP.out W hW H48.out
 have hvt:=fun W hW=>HVT.out W hW H16.out
 clear HVP HVT;rw [HN.out] at hvp hvt;have hvg:=HVG.out;rw [HN.out] at hvg;clear HVG;by_cases h6:Sp.PortsOk n
 case neg=>
  rw [Sp.tb_no h6] at hvp;have HVP2:=hid hvp;have HF:=hid (HBAD.out (fun h=>h6 h.ports));clear h6 hvp hvt hvg;go_enter Tryz.func54,Tryz.ntmps54
  go_wp2_with (go_at_call 68;refine (HVP2.out _ HAL.out).mono ?_;rintro r w2 ⟨rfl,hb2⟩;have HB2:=hid (HAL.out.trans (hb2.mono (by have:=HAL.out.size;have:=HN.out;omega)));clear hb2)
  go_ret;exact⟨by rw [HF.out];rfl,by rw [HN.out];exact HB2.out⟩
 rw [Sp.tb_yes h6] at hvp;have HVP2:=hid hvp;have H6:=hid h6;clear h6 hvp;by_cases h7:Sp.GuardsOk n
 case neg=>
  rw [Sp.tb_no h7] at hvg;have HVG2:=hid hvg;have HF:=hid (HBAD.out (fun h=>h7 h.guards));clear h7 hvt hvg;go_enter Tryz.func54,Tryz.ntmps54
  go_wp2_with (first | (go_at_call 68;refine (HVP2.out _ HAL.out).mono ?_;rintro r w2 ⟨rfl,hb2⟩;have HB2:=hid (HAL.out.trans (hb2.mono (by have:=HAL.out.size;have:=HN.out;omega)));have HKB:=hid (HK1.out.below hb2 HK1.out.lt);have x0:=HKB.out.cell 0;have x1:=HKB.out.cell 1;have x2:=HKB.out.cell 2;have x3:=HKB.out.cell 3;clear hb2) | (go_at_call 69;refine (HVG2.out _ HB2.out).mono ?_;rintro r w3 ⟨rfl,hb3⟩;have HB3:=hid (HB2.out.trans (hb3.mono (by have:=HB2.out.size;have:=HN.out;omega)));clear hb3))
  go_ret;exact⟨by rw [HF.out];rfl,by rw [HN.out];exact HB3.out⟩
 rw [Sp.tb_yes h7] at hvg;have HVG2:=hid hvg;have H7:=hid h7;clear h7 hvg;obtain⟨T,hT⟩:=nM (Sp.tb (Sp.TablesOk n));rw [hT] at hvt;have HVT2:=hid hvt
 have HEQ:Hid (E=if T=true then 0 else 90):=hid (by
  rw [← HE.out,← hT];by_cases h8:Sp.TablesOk n
  ·rw [Sp.tb_yes h8,Sp.validE_yes ⟨by rw [HBI.out];exact HBB.out,by rw [HNT.out];exact H16.out,by rw [HNP.out];exact H48.out,by rw [HNG.out,HNP.out],H6.out,H7.out,h8⟩];rfl
  ·rw [Sp.tb_no h8,Sp.validE_no (fun h=>h8 h.tables)];rfl)
 clear hvt hT
 cases T
 all_goals
  have HF:=hid HEQ.out;clear HEQ;go_enter Tryz.func54,Tryz.ntmps54
  go_wp2_with (first | (go_at_call 68;refine (HVP2.out _ HAL.out).mono ?_;rintro r w2 ⟨rfl,hb2⟩;have HB2:=hid (HAL.out.trans (hb2.mono (by have:=HAL.out.size;have:=HN.out;omega)));have HKB:=hid (HK1.out.below hb2 HK1.out.lt);have x0:=HKB.out.cell 0;have x1:=HKB.out.cell 1;have x2:=HKB.out.cell 2;have x3:=HKB.out.cell 3;clear hb2) | (go_at_call 69;refine (HVG2.out _ HB2.out).mono ?_;rintro r w3 ⟨rfl,hb3⟩;have HB3:=hid (HB2.out.trans (hb3.mono (by have:=HB2.out.size;have:=HN.out;omega)));have HKC:=hid (HKB.out.below hb3 HKB.out.lt);have y0:=HKC.out.cell 0;have y1:=HKC.out.cell 1;have y2:=HKC.out.cell 2;have y3:=HKC.out.cell 3;clear hb3) | (go_at_call 70;refine (HVT2.out _ HB3.out).mono ?_;rintro r w4 ⟨rfl,hb4⟩;have HB4:=hid (HB3.out.trans (hb4.mono (by have:=HB3.out.size;have:=HN.out;omega)));clear hb4))
  go_ret;exact⟨by rw [HF.out];rfl,by rw [HN.out];exact HB4.out⟩
namespace Sp
structure StateOk (n:Net) (p:Int) (h:ByteArray):Prop where
 port:0≤p∧p<(n.ports.length:Int)
 bits:(h.size:Int)=n.bits
 digits:∀ (i:Nat) (c:UInt8),h.data.toList[i]?=some c→c=48∨c=49
noncomputable def checkE (n:Net) (p:Int) (h:ByteArray):Int:=if tb (NetOk n)=true then (if tb (StateOk n p h)=true then 0 else 100) else 90
end Sp
theorem step_check (N:Nat) (n:Sp.Net) (p:Int) (h:ByteArray) (w:World) (hG:Gn w) (hn:NetAt w N n) (hsz:Sp.Szd n) (hh:h.size≤9223372036854775807):
  Calls Tryz.prog 37 #[.pointer (some ⟨N,0,none⟩),.agg #[.int .i64 p,.string h]] w fun r w'=>r=.returned (.int .i64 (Sp.checkE n p h))∧Below w.heap.size w w':=by
 obtain⟨A1,c1,A2,c2,A3,c3,hN,n0,n1,n2,n3,hpv,htv,hgv,_⟩:=hn.at;have hV:=fun W (hW:Below w.heap.size w W)=>lower_Valid n A1 A2 A3 c1 c2 c3 W (hG.below hW) (hpv.more hW) (htv.more hW) (hgv.more hW) hsz
 obtain⟨b,hb⟩:=nM n.bits;obtain⟨np,hnp⟩:=nM n.ports.length;obtain⟨nt,hnt⟩:=nM n.tables.length;obtain⟨ng,hng⟩:=nM n.guards.length;obtain⟨nh,hnh⟩:=nM h.size;rw [hb] at n0;rw [hnp] at n1;rw [hnt] at n2;rw [hng] at n3;rw [hb,hnp,hnt,hng] at hV;rw [hnh] at hh;obtain⟨E,hE⟩:=nM (Sp.checkE n p h);rw [hE];obtain⟨W1,hW1⟩:=nM (w.alloc (.cells #[.int .i64 p,.string h] 28));obtain⟨M,hM⟩:=nM w.heap.size;have hal:Below M w W1:=by rw [← hW1,← hM];exact (Below.refl _ _).alloc (Nat.le_refl _) _
 have hk1:Blk W1 M 28 #[.int .i64 p,.string h]:=by rw [← hW1,← hM];exact Blk.new w _ _
 rw [hM] at hN hV
 have HN4:Hid (W1.cell? ⟨N,0,none⟩=some (.int .i64 b)∧W1.cell? ⟨N,1,none⟩=some (.slice A1 np c1)∧W1.cell? ⟨N,2,none⟩=some (.slice A2 nt c2)∧W1.cell? ⟨N,3,none⟩=some (.slice A3 ng c3)):=Lib.hid
  ⟨(hal.cell (p:=⟨N,0,none⟩) hN).trans n0,(hal.cell (p:=⟨N,1,none⟩) hN).trans n1,(hal.cell (p:=⟨N,2,none⟩) hN).trans n2,(hal.cell (p:=⟨N,3,none⟩) hN).trans n3⟩
 have HE:=hid hE;have HM:=hid hM;have HAL:=hid hal;have HK1:=hid hk1;have HV:=hid hV;have HBI:=hid hb;have HNP:=hid hnp;have HNH:=hid hnh;have HNM:=hid (show N<W1.heap.size by have:=hk1.lt;omega);obtain⟨m0,m1,m2,m3⟩:=HN4.out;clear hE hal hk1 hV hb hnp hnt hng hG hpv htv hgv hsz hn n0 n1 n2 n3 hN;by_cases hok:Sp.NetOk n
 case neg=>
  have HF:Hid (E=90):=hid (by rw [← HE.out];unfold Sp.checkE;rw [Sp.tb_no hok];rfl);have hv:=HV.out;rw [Sp.validE_no hok] at hv;have HV2:=hid hv;clear hv HV hok;go_enter Tryz.func37,Tryz.ntmps37
  go_wp2_with (go_at_call 54;refine (HV2.out _ HAL.out).mono ?_;rintro r w2 ⟨rfl,hb2⟩;have HB2:=hid (HAL.out.trans (hb2.mono (by have:=HAL.out.size;have:=HM.out;omega)));clear hb2)
  go_ret;exact⟨by rw [HF.out];rfl,by rw [HM.out];exact HB2.out⟩
 have hv:=HV.out;rw [Sp.validE_yes hok] at hv;have HV2:=hid hv;have HEQ:Hid (E=if Sp.tb (Sp.StateOk n p h)=true then 0 else 100):=hid (by rw [← HE.out];unfold Sp.checkE;rw [Sp.tb_yes hok];rfl);have hbad:¬ Sp.StateOk n p h→E=100:=fun hx=>by rw [HEQ.out,Sp.tb_no hx];rfl
 have HBAD:=hid hbad;have HOK:=hid hok;clear hv HV hok hbad;by_cases h1:p<0
 ·have t1:decide (p<0)=true:=decide_eq_true h1;have HF:=hid (HBAD.out (fun hx=>by have:=hx.port.1;omega));clear h1;go_enter Tryz.func37,Tryz.ntmps37
  go_wp2_with (go_at_call 54;refine (HV2.out _ HAL.out).mono ?_;rintro r w2 ⟨rfl,hb2⟩;have HB2:=hid (HAL.out.trans (hb2.mono (by have:=HAL.out.size;have:=HM.out;omega)));have x0:w2.cell? ⟨M,0,none⟩=some (.int .i64 p):=(HK1.out.below hb2 HK1.out.lt).cell 0;have x1:w2.cell? ⟨M,1,none⟩=some (.string h):=(HK1.out.below hb2 HK1.out.lt).cell 1;have x2:=(hb2.cell (p:=⟨N,0,none⟩) HNM.out).trans m0;have x3:=(hb2.cell (p:=⟨N,1,none⟩) HNM.out).trans m1;clear hb2)
  go_quiet (fail);go_wp2;go_ret;exact⟨by rw [HF.out];rfl,by rw [HM.out];exact below_drewN HB2.out _⟩
 have t1:decide (p<0)=false:=decide_eq_false h1;by_cases h2:(np:Int)≤p
 ·have t2:decide (p ≥ (np:Int))=true:=decide_eq_true h2;have HF:=hid (HBAD.out (fun hx=>by have:=hx.port.2;rw [HNP.out] at this;omega));clear h1 h2;go_enter Tryz.func37,Tryz.ntmps37
  go_wp2_with (go_at_call 54;refine (HV2.out _ HAL.out).mono ?_;rintro r w2 ⟨rfl,hb2⟩;have HB2:=hid (HAL.out.trans (hb2.mono (by have:=HAL.out.size;have:=HM.out;omega)));have x0:w2.cell? ⟨M,0,none⟩=some (.int .i64 p):=(HK1.out.below hb2 HK1.out.lt).cell 0;have x1:w2.cell? ⟨M,1,none⟩=some (.string h):=(HK1.out.below hb2 HK1.out.lt).cell 1;have x2:=(hb2.cell (p:=⟨N,0,none⟩) HNM.out).trans m0;have x3:=(hb2.cell (p:=⟨N,1,none⟩) HNM.out).trans m1;clear hb2)
  go_quiet (fail);go_wp2;go_ret;exact⟨by rw [HF.out];rfl,by rw [HM.out];exact below_drewN HB2.out _⟩
 have t2:decide (p ≥ (np:Int))=false:=decide_eq_false h2;by_cases h3:(nh:Int)=b
 case neg=>
  have t3:((nh:Int) != b)=true:=bne_iff_ne.2 h3;have HF:=hid (HBAD.out (fun hx=>by have:=hx.bits;rw [HNH.out,HBI.out] at this;exact h3 this));clear h1 h2 h3;go_enter Tryz.func37,Tryz.ntmps37
  go_wp2_with (go_at_call 54;refine (HV2.out _ HAL.out).mono ?_;rintro r w2 ⟨rfl,hb2⟩;have HB2:=hid (HAL.out.trans (hb2.mono (by have:=HAL.out.size;have:=HM.out;omega)));have x0:w2.cell? ⟨M,0,none⟩=some (.int .i64 p):=(HK1.out.below hb2 HK1.out.lt).cell 0;have x1:w2.cell? ⟨M,1,none⟩=some (.string h):=(HK1.out.below hb2 HK1.out.lt).cell 1;have x2:=(hb2.cell (p:=⟨N,0,none⟩) HNM.out).trans m0;have x3:=(hb2.cell (p:=⟨N,1,none⟩) HNM.out).trans m1;clear hb2)
  go_quiet (fail);go_wp2;go_ret;exact⟨by rw [HF.out];rfl,by rw [HM.out];exact below_drewN HB2.out _⟩
 have t3:((nh:Int) != b)=false:=by rw [bne_eq_false_iff_eq];exact h3
 have H3:=hid h3;have HPP:=hid (show 0≤p∧p<(np:Int) from⟨by omega,by omega⟩);clear h1 h2 h3;go_enter Tryz.func37,Tryz.ntmps37
 go_wp2_with (go_at_call 54;refine (HV2.out _ HAL.out).mono ?_;rintro r w2 ⟨rfl,hb2⟩;have HB2:=hid (HAL.out.trans (hb2.mono (by have:=HAL.out.size;have:=HM.out;omega)));have x0:w2.cell? ⟨M,0,none⟩=some (.int .i64 p):=(HK1.out.below hb2 HK1.out.lt).cell 0;have x1:w2.cell? ⟨M,1,none⟩=some (.string h):=(HK1.out.below hb2 HK1.out.lt).cell 1;have x2:=(hb2.cell (p:=⟨N,0,none⟩) HNM.out).trans m0;have x3:=(hb2.cell (p:=⟨N,1,none⟩) HNM.out).trans m1;clear hb2)
 go_quiet (fail);go_wp2;have HB3:=hid (below_drewN HB2.out nq);go_loop [40] (fun v40=>∃ i:Nat,v40=.int .i64 (i:Int)∧i≤nh∧Hid (∀ (j:Nat) (c:UInt8),j<i→h.data.toList[j]?=some c→c=48∨c=49)) (fun v40=>nh - (intOf v40).toNat)
 case atStart=>exact⟨0,rfl,Nat.zero_le _,hid (fun j c hj=>by omega)⟩
 case round=>
  obtain⟨i,rfl,hi,hdg⟩:=hrel;have i0:(0:Int)≤(i:Int):=by omega
  have hnz:=HNH.out;by_cases hlt:i<nh
  ·have q1:decide ((i:Int)<(nh:Int))=true:=dT;have q2:decide (i<nh)=true:=decide_eq_true hlt;(have q3:(i:Int)<(nh:Int):=by omega);(have hih:i<h.size:=by omega);(have q4:(i:Int)<(h.size:Int):=by omega);(have z1:IntKind.i64.wrap ((i:Int)+1)=(i:Int)+1:=by rw [IntKind.wrap_i64];omega);(have hget:h.data.toList[i]?=some (h[i]'hih):=by rw [List.getElem?_eq_getElem (show i<h.data.toList.length from hih)];rfl);obtain⟨c,hc⟩:=nM (h[i]'hih);have HI:=hid (show i+1≤nh by omega)
   have hnext:(c=48∨c=49)→∀ (j:Nat) (c:UInt8),j<i+1→h.data.toList[j]?=some c→c=48∨c=49:=by
    intro hcy j x hj hx;by_cases hji:j=i
    ·subst hji;rw [hget,hc] at hx;(injection hx with hx);rw [← hx];exact hcy
    ·exact hdg.out j x (by omega) hx
   have HNX:=hid hnext;clear hnext;by_cases h4:c=48
   ·have a1:(((h[i]'hih).toNat:Int) != 48)=false:=by rw [hc,h4];rfl
    have HY:=hid (HNX.out (Or.inl h4));clear hi hlt hget hc hdg h4 hnz;go_wp2;go_round
    case rel=>exact⟨i+1,by rfl,HI.out,HY⟩
    case measure=>have:=HI.out;simp [intOf];omega
   (have a1:(((h[i]'hih).toNat:Int) != 48)=true:=by rw [bne_iff_ne];exact fun e=>h4 (by rw [← hc];exact UInt8.toNat_inj.1 (by rw [show (48:UInt8).toNat=48 from rfl];omega)));by_cases h5:c=49
   ·have a2:(((h[i]'hih).toNat:Int) != 49)=false:=by rw [hc,h5];rfl
    have HY:=hid (HNX.out (Or.inr h5));clear hi hlt hget hc hdg h4 h5 hnz;go_wp2;go_round
    case rel=>exact⟨i+1,by rfl,HI.out,HY⟩
    case measure=>have:=HI.out;simp [intOf];omega
   ·have a2:(((h[i]'hih).toNat:Int) != 49)=true:=by rw [bne_iff_ne];exact fun e=>h5 (by rw [← hc];exact UInt8.toNat_inj.1 (by rw [show (49:UInt8).toNat=49 from rfl];omega))
    have HF:=hid (HBAD.out (fun hx=>by rcases hx.digits i c (by rw [hget,hc]) with h6 | h6;exact h4 h6;exact h5 h6));clear hi hlt hget hc hdg h4 h5 hnz;go_wp2;go_ret;exact⟨by rw [HF.out];rfl,by first | exact HB3.out | (rw [HM.out];exact HB3.out)⟩
  ·have q1:decide ((i:Int)<(nh:Int))=false:=dF;have q2:decide (i<nh)=false:=decide_eq_false hlt
   have HF:Hid (E=0):=hid (by
    rw [HEQ.out,Sp.tb_yes ⟨by rw [HNP.out];exact HPP.out,by rw [HNH.out,HBI.out];exact H3.out,fun j c hj=>hdg.out j c (by have h1:j<h.size:=(List.getElem?_eq_some_iff.1 hj).1;omega) hj⟩]
    rfl)
   clear hi hlt hdg hnz;go_wp2;go_ret;exact⟨by rw [HF.out];rfl,by first | exact HB3.out | (rw [HM.out];exact HB3.out)⟩
end Go.Proofs.YtedfppbnkgffcaaGreatDoor
