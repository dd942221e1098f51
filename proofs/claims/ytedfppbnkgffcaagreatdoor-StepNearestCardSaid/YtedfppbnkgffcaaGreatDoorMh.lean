/-
  Texts joined: Mg Mh.
-/
import Derived.Test.YtedfppbnkgffcaaGreatDoorMf
import Derived.Test.YtedfppbnkgffcaaGreatDoorLa
set_option linter.unusedVariables false
set_option linter.unusedSimpArgs false
set_option maxRecDepth 100000
set_option maxHeartbeats 4000000
namespace Go.Proofs.YtedfppbnkgffcaaGreatDoor
open Go.RowKit
open Go.Lib (hid)
namespace Sp
noncomputable def tb (p:Prop):Bool:=@decide p (Classical.propDecidable p)
theorem tb_yes {p:Prop} (h:p):tb p=true:=by unfold tb;exact @decide_eq_true p (Classical.propDecidable p) h
theorem tb_no {p:Prop} (h:¬ p):tb p=false:=by unfold tb;exact @decide_eq_false p (Classical.propDecidable p) h
def CubeOk (bits:Int) (s:ByteArray):Prop:=cubeE s.data.toList=0∧(s.size:Int)=bits
def CubesOk (bits:Int) (l:List ByteArray):Prop:=l.length≤64∧∀ c ∈ l,CubeOk bits c
def PortIs (n:Net) (q box:Int) (inn:Bool):Prop:=0≤q∧∃ p,n.ports[q.toNat]?=some p∧p.inn=inn∧p.box=box
structure EntryOk (n:Net) (box:Int) (e:Entry):Prop where
 name:e.name.size≤256
 nouts:e.outs.length≤4
 cubes:CubesOk n.bits e.cubes
 word:CubeOk n.bits e.write
 ins:∀ (i:Nat) (p:Int),e.ins[i]?=some p→PortIs n p box true∧∀ p',0<i→e.ins[i - 1]?=some p'→p'<p
 outs:∀ (i:Nat) (q:Int),e.outs[i]?=some q→PortIs n q box false∧∀ (j:Nat),j<i→e.outs[j]?≠some q
def GuardOk (bits:Int) (g:List Guard):Prop:=(g.map fun l=>l.cubes.length).sum≤512∧∀ l ∈ g,CubesOk bits l.cubes
def GuardsOk (n:Net):Prop:=(n.guards.map List.length).sum≤64∧∀ g ∈ n.guards,GuardOk n.bits g
def TableOk (n:Net) (box:Int) (t:List Entry):Prop:=(t.map fun e=>e.cubes.length).sum≤512∧∀ e ∈ t,EntryOk n box e
def TablesOk (n:Net):Prop:=(n.tables.map List.length).sum≤256∧∀ (b:Nat) (t:List Entry),n.tables[b]?=some t→TableOk n b t
def TokenOk (s:ByteArray):Prop:=s.size≤49∧Lib.trimSpaceD s.data.toList=s.data.toList∧¬ 0≤Lib.indexByte s.data.toList 35∧(scanV s.data.toList).2.1=0∧∃ t ln cl,(scanV s.data.toList).1=[(3,s.data.toList,ln,cl),t]
structure PortOk (n:Net) (i:Nat) (p:Port):Prop where
 name:TokenOk p.name
 box:0≤p.box∧p.box<(n.tables.length:Int)
 dst:p.dst=-1∨(p.inn=false∧0≤p.dst∧∃ r,n.ports[p.dst.toNat]?=some r∧r.inn=true)
 other:∀ (j:Nat) (r:Port),j<i→n.ports[j]?=some r→r.name≠p.name
def PortsOk (n:Net):Prop:=∀ (i:Nat) (p:Port),n.ports[i]?=some p→PortOk n i p
structure NetOk (n:Net):Prop where
 bits:1≤n.bits∧n.bits≤256
 ntables:n.tables.length≤16
 nports:n.ports.length≤48
 nguards:n.guards.length=n.ports.length
 ports:PortsOk n
 guards:GuardsOk n
 tables:TablesOk n
end Sp
theorem net_box {w:World} {n:Sp.Net} {cs:List Value} (h:NetR w n cs) (T:TypeId):NetAt (w.alloc (.cells cs.toArray T)) w.heap.size n:=by
 have hb:Below w.heap.size w (w.alloc (.cells cs.toArray T)):=(Below.refl _ _).alloc (Nat.le_refl _) _;refine⟨cs,h.more hb,by rw [World.size_alloc];omega,fun f u hf=>?_⟩;have:=World.news_of_block (heap_alloc_new w (.cells cs.toArray T)) f u (by simpa using hf);rw [xadd_plain,Nat.zero_add] at this;exact this
theorem lower_validCube (b:Int) (A1 A2 A3:Option Addr) (n1 c1 n2 c2 n3 c3:Nat) (s:ByteArray) (w:World) (hs:s.size≤9223372036854775807):
  Calls Tryz.prog 88 #[.agg #[.int .i64 b,.slice A1 n1 c1,.slice A2 n2 c2,.slice A3 n3 c3],.string s] w fun e w'=>e=.returned (.bool (Sp.tb (Sp.CubeOk b s)))∧Below w.heap.size w w':=by
 obtain⟨E,hE⟩:=nM (Sp.cubeE s.data.toList);obtain⟨n,hn⟩:=nM s.size;have hal:Below w.heap.size w (w.alloc (.cells #[.int .i64 b,.slice A1 n1 c1,.slice A2 n2 c2,.slice A3 n3 c3] 26)):=(Below.refl _ _).alloc (Nat.le_refl _) _;have HAL:=hid hal;have HP:=hid (tern_parse s (w.alloc (.cells #[.int .i64 b,.slice A1 n1 c1,.slice A2 n2 c2,.slice A3 n3 c3] 26)) hs);rw [hE] at HP;have hnew:=World.news_of_block (heap_alloc_new w (.cells #[.int .i64 b,.slice A1 n1 c1,.slice A2 n2 c2,.slice A3 n3 c3] 26)) 0 _ rfl;have hsz:w.heap.size<(w.alloc (.cells #[.int .i64 b,.slice A1 n1 c1,.slice A2 n2 c2,.slice A3 n3 c3] 26)).heap.size:=by simp
 have HNEW:=hid hnew;have HSZ:=hid hsz
 have HPOST:Hid ((E == 0)=true∧((n:Int) == b)=true∧Sp.tb (Sp.CubeOk b s)=true∨(E == 0)=true∧((n:Int) == b)=false∧Sp.tb (Sp.CubeOk b s)=false∨(E == 0)=false∧Sp.tb (Sp.CubeOk b s)=false):=by
  apply Lib.hid;by_cases h1:E=0
  ·by_cases h2:(n:Int)=b
   ·exact Or.inl ⟨beq_iff_eq.2 h1,beq_iff_eq.2 h2,Sp.tb_yes ⟨by rw [hE,h1],by rw [hn];exact h2⟩⟩
   ·exact Or.inr (Or.inl ⟨beq_iff_eq.2 h1,beq_eq_false_iff_ne.2 h2,Sp.tb_no (fun h=>h2 (by rw [← hn];exact h.2))⟩)
  ·exact Or.inr (Or.inr ⟨beq_eq_false_iff_ne.2 h1,Sp.tb_no (fun h=>h1 (by rw [← hE];exact h.1))⟩)
 obtain⟨R,hR⟩:=nM (Sp.tb (Sp.CubeOk b s));rw [hR] at HPOST ⊢;clear hE hal hnew hsz hR hs;rcases HPOST.out with⟨q1,q2,rfl⟩ | ⟨q1,q2,rfl⟩ | ⟨q1,rfl⟩
 all_goals
  clear HPOST;go_enter Tryz.func88,Tryz.ntmps88;go_wp2_with fail;refine HP.out.mono ?_;rintro e w1 ⟨cs,⟨a0,u1,u2,u3,u4,u5,u6,u7,u8,rfl⟩,rfl,hb1⟩;have k0:w1.cell? ⟨w.heap.size,0,none⟩=some (.int .i64 b):=(hb1.cell (p:=⟨w.heap.size,0,none⟩) HSZ.out).trans HNEW.out;have k1:w.heap.size<w1.heap.size:=Nat.lt_of_lt_of_le HSZ.out hb1.size;have HB1:=hid (HAL.out.trans (hb1.mono HAL.out.size));clear hb1;go_wp2_with fail;go_ret;exact⟨rfl,HB1.out.alloc HB1.out.size _⟩
theorem lower_validCubes (b:Int) (A1 A2 A3 A:Option Addr) (n1 c1 n2 c2 n3 c3 cap:Nat) (l:List ByteArray) (w:World) (hv:SV w A l) (hs:∀ s ∈ l,s.size≤9223372036854775807) (hl:l.length≤4611686018427387904):
  Calls Tryz.prog 77 #[.agg #[.int .i64 b,.slice A1 n1 c1,.slice A2 n2 c2,.slice A3 n3 c3],.slice A l.length cap] w fun e w'=>e=.returned (.bool (Sp.tb (Sp.CubesOk b l)))∧Below w.heap.size w w':=by
 obtain⟨n,hn⟩:=nM l.length;rw [hn] at hl ⊢;have HN:=hid hn;have HV:=hid hv;have HS:=hid hs;obtain⟨W1,hW1⟩:=nM (w.alloc (.cells #[.int .i64 b,.slice A1 n1 c1,.slice A2 n2 c2,.slice A3 n3 c3] 26));have hal:Below w.heap.size w W1:=by rw [← hW1];exact (Below.refl _ _).alloc (Nat.le_refl _) _
 have hbk:Blk W1 w.heap.size 26 #[.int .i64 b,.slice A1 n1 c1,.slice A2 n2 c2,.slice A3 n3 c3]:=by rw [← hW1];exact Blk.new w _ _
 have HAL:=hid hal;have HBK:=hid hbk;obtain⟨P,hP⟩:=nM (Sp.tb (Sp.CubesOk b l));rw [hP];have HP:=hid hP;clear hn hv hs hal hbk hP;by_cases h64:64<n
 ·have p1:decide ((n:Int) > 64)=true:=dT;have p2:decide (64<n)=true:=decide_eq_true h64;have hPf:=HP.out;rw [Sp.tb_no (fun h=>by have:=h.1;have:=HN.out;omega)] at hPf;subst hPf;clear h64 HP;go_enter Tryz.func77,Tryz.ntmps77;go_wp2;go_ret;exact⟨rfl,HAL.out⟩
 ·have p1:decide ((n:Int) > 64)=false:=dF;have p2:decide (64<n)=false:=decide_eq_false h64;have HN64:=hid (show n≤64 by omega);clear h64;go_enter Tryz.func77,Tryz.ntmps77;go_wp2;clear hW1;go_loopw [12] (fun v12 wr=>∃ i:Nat,v12=.int .i64 (i:Int)∧i≤n∧Below w.heap.size w wr∧Blk wr w.heap.size 26 #[.int .i64 b,.slice A1 n1 c1,.slice A2 n2 c2,.slice A3 n3 c3]∧Hid (∀ (j:Nat) (c:ByteArray),j<i→l[j]?=some c→Sp.CubeOk b c)) (fun v12 _=>n - (intOf v12).toNat)
  case atStart=>exact⟨0,rfl,Nat.zero_le _,HAL.out,HBK.out,hid (fun j c hj=>by omega)⟩
  case round=>
   obtain⟨i,rfl,hi,hb,hk,hok⟩:=hrel;have HB:=hid hb;have HK:=hid hk;(have i0:(0:Int)≤(i:Int):=by omega);by_cases hlt:i<n
   ·have q1:decide ((i:Int)<(n:Int))=true:=dT;have q2:decide (i<n)=true:=decide_eq_true hlt;have q3:(i:Int)<(n:Int):=by omega
    obtain⟨c,hc⟩:∃ c,l[i]?=some c:=⟨_,List.getElem?_eq_getElem (by rw [HN.out];exact hlt)⟩
    obtain⟨g,o,rfl,hg,k0⟩:=(HV.out.more hb).at hc;have m0:wr.cell? ⟨w.heap.size,0,none⟩=some (.int .i64 b):=hk.cell 0;have m1:wr.cell? ⟨w.heap.size,1,none⟩=some (.slice A1 n1 c1):=hk.cell 1;have m2:wr.cell? ⟨w.heap.size,2,none⟩=some (.slice A2 n2 c2):=hk.cell 2;have m3:wr.cell? ⟨w.heap.size,3,none⟩=some (.slice A3 n3 c3):=hk.cell 3;(have z1:IntKind.i64.wrap ((i:Int)+1)=(i:Int)+1:=by rw [IntKind.wrap_i64];omega);have HI:=hid (show i+1≤n by omega);have hcall:=lower_validCube b A1 A2 A3 n1 c1 n2 c2 n3 c3 c wr (HS.out c (List.mem_of_getElem? hc));have HLT:=hid hk.lt;by_cases hy:Sp.CubeOk b c
    ·rw [Sp.tb_yes hy] at hcall;have HCALL:=hid hcall
     have HOK:Hid (∀ (j:Nat) (x:ByteArray),j<i+1→l[j]?=some x→Sp.CubeOk b x):=hid (by
      intro j x hj hx;by_cases hji:j=i
      ·subst hji;rw [hc] at hx;(injection hx with hx);rw [← hx];exact hy
      ·exact hok.out j x (by omega) hx)
     clear hb hk hi hlt hc hcall hy hok;go_wp2_with fail;refine HCALL.out.mono ?_;rintro e wb ⟨rfl,hbb⟩;have HBB:=hid (HB.out.trans (hbb.mono HB.out.size));have HKB:=hid (HK.out.below hbb HLT.out);clear hbb;go_wp2_with fail;go_roundw
     case rel=>exact⟨i+1,by rfl,HI.out,HBB.out,HKB.out,HOK⟩
     case measure=>have:=HI.out;simp [intOf];omega
    ·rw [Sp.tb_no hy] at hcall;have HCALL:=hid hcall;have hPf:=HP.out;rw [Sp.tb_no (fun h=>hy (h.2 c (List.mem_of_getElem? hc)))] at hPf;have HPF:=hid hPf;clear hb hk hi hlt hc hcall hy hok hPf;go_wp2_with fail;refine HCALL.out.mono ?_;rintro e wb ⟨rfl,hbb⟩;have HBB:=hid (HB.out.trans (hbb.mono HB.out.size));clear hbb;go_wp2_with fail;go_ret;exact⟨by rw [← HPF.out];rfl,HBB.out⟩
   ·have q1:decide ((i:Int)<(n:Int))=false:=dF;have q2:decide (i<n)=false:=decide_eq_false hlt;have hPf:=HP.out
    rw [Sp.tb_yes ⟨by rw [HN.out];exact HN64.out,fun c hc=>by
     obtain⟨j,hj⟩:=List.mem_iff_getElem?.1 hc
     exact hok.out j c (by have:=(List.getElem?_eq_some_iff.1 hj).1;rw [HN.out] at this;omega) hj⟩] at hPf
    have HPF:=hid hPf;clear hb hk hi hlt hok hPf;go_wp2_with fail;go_ret;exact⟨by rw [← HPF.out];rfl,HB.out⟩
theorem lower_validEntry (n:Sp.Net) (b:Nat) (e:Sp.Entry) (A1 A2 A3 I1 I2 I3:Option Addr) (c1 c2 c3 d1 d2 d3:Nat) (w:World)
  (hpv:PV w A1 n.ports) (hi:IV w I1 e.ins) (hc:SV w I2 e.cubes) (ho:IV w I3 e.outs) (hd3:e.outs.length≤d3) (hnm:e.name.size≤9223372036854775807) (hwr:e.write.size≤9223372036854775807) (hcs:∀ s ∈ e.cubes,s.size≤9223372036854775807)
  (hl1:e.ins.length≤4611686018427387904) (hl2:e.cubes.length≤4611686018427387904) (hl3:e.outs.length≤4611686018427387904) (hlp:n.ports.length≤4611686018427387904) (hb:b≤1000000):
  Calls Tryz.prog 78 #[.agg #[.int .i64 n.bits,.slice A1 n.ports.length c1,.slice A2 n.tables.length c2,.slice A3 n.guards.length c3],.int .i64 (b:Int),.agg #[.string e.name,.slice I1 e.ins.length d1,.slice I2 e.cubes.length d2,.string e.write,.slice I3 e.outs.length d3]] w fun r w'=>r=.returned (.bool (Sp.tb (Sp.EntryOk n (b:Int) e)))∧Below w.heap.size w w':=by
 obtain⟨np,hnp⟩:=nM n.ports.length;obtain⟨nt,hnt⟩:=nM n.tables.length;obtain⟨ng,hng⟩:=nM n.guards.length;obtain⟨ni,hni⟩:=nM e.ins.length;obtain⟨nc,hnc⟩:=nM e.cubes.length;obtain⟨no,hno⟩:=nM e.outs.length;obtain⟨nz,hnz⟩:=nM e.name.size;obtain⟨P,hP⟩:=nM (Sp.tb (Sp.EntryOk n (b:Int) e));rw [hP,hnp,hnt,hng,hni,hnc,hno];rw [hni] at hl1;rw [hnc] at hl2;rw [hno] at hl3 hd3;rw [hnp] at hlp;obtain⟨W2,hW2⟩:=nM ((w.alloc (.cells #[.int .i64 n.bits,.slice A1 np c1,.slice A2 nt c2,.slice A3 ng c3] 26)).alloc (.cells #[.string e.name,.slice I1 ni d1,.slice I2 nc d2,.string e.write,.slice I3 no d3] 94));have hal:Below w.heap.size w W2:=by rw [← hW2];exact ((Below.refl _ _).alloc (Nat.le_refl _) _).alloc (by simp) _
 have hk1:Blk W2 w.heap.size 26 #[.int .i64 n.bits,.slice A1 np c1,.slice A2 nt c2,.slice A3 ng c3]:=by rw [← hW2];exact (Blk.new w _ _).alloc _
 have hk2:Blk W2 (w.heap.size+1) 94 #[.string e.name,.slice I1 ni d1,.slice I2 nc d2,.string e.write,.slice I3 no d3]:=by
  have:=Blk.new (w.alloc (.cells #[.int .i64 n.bits,.slice A1 np c1,.slice A2 nt c2,.slice A3 ng c3] 26)) 94 #[.string e.name,.slice I1 ni d1,.slice I2 nc d2,.string e.write,.slice I3 no d3];rw [World.size_alloc] at this;rw [← hW2];exact this
 obtain⟨N,hN⟩:=nM w.heap.size
 have hvc:∀ W,Below w.heap.size w W→Calls Tryz.prog 77 #[.agg #[.int .i64 n.bits,.slice A1 np c1,.slice A2 nt c2,.slice A3 ng c3],.slice I2 nc d2] W fun r w'=>r=.returned (.bool (Sp.tb (Sp.CubesOk n.bits e.cubes)))∧Below W.heap.size W w':=fun W hW=>by
  rw [← hnc];exact lower_validCubes n.bits A1 A2 A3 I2 np c1 nt c2 ng c3 d2 e.cubes W (hc.more hW) hcs (by omega)
 have hvw:∀ W,Calls Tryz.prog 88 #[.agg #[.int .i64 n.bits,.slice A1 np c1,.slice A2 nt c2,.slice A3 ng c3],.string e.write] W fun r w'=>r=.returned (.bool (Sp.tb (Sp.CubeOk n.bits e.write)))∧Below W.heap.size W w':=fun W=>
  lower_validCube n.bits A1 A2 A3 np c1 nt c2 ng c3 e.write W hwr
 rw [hN] at hal hk1 hk2 hvc ⊢;have HP:=hid hP;have HAL:=hid hal;have HK1:=hid hk1;have HK2:=hid hk2;have HVC:=hid hvc;have HVW:=hid hvw;have HPV:=hid hpv;have HI:=hid hi;have HO:=hid ho;have HNP:=hid hnp;have HNI:=hid hni;have HNO:=hid hno;have HNZ:=hid hnz;have HN:=hid hN;have HD3:=hid hd3;have HSZ:=hid (show N+1<W2.heap.size from hk2.lt);have e0:W2.cell? ⟨N+1,0,none⟩=some (.string e.name):=hk2.cell 0;have e1:W2.cell? ⟨N+1,1,none⟩=some (.slice I1 ni d1):=hk2.cell 1;have e2:W2.cell? ⟨N+1,2,none⟩=some (.slice I2 nc d2):=hk2.cell 2;have e3:W2.cell? ⟨N+1,3,none⟩=some (.string e.write):=hk2.cell 3;have e4:W2.cell? ⟨N+1,4,none⟩=some (.slice I3 no d3):=hk2.cell 4;have m0:W2.cell? ⟨N,0,none⟩=some (.int .i64 n.bits):=hk1.cell 0;have m1:W2.cell? ⟨N,1,none⟩=some (.slice A1 np c1):=hk1.cell 1;have m2:W2.cell? ⟨N,2,none⟩=some (.slice A2 nt c2):=hk1.cell 2;have m3:W2.cell? ⟨N,3,none⟩=some (.slice A3 ng c3):=hk1.cell 3;clear hpv hi hc ho hd3 hwr hcs hnp hnt hng hni hnc hno hP hal hk1 hk2 hvc hvw;by_cases h1:256<nz
 ·have p1:decide ((nz:Int) > 256)=true:=dT;have p2:decide (256<nz)=true:=decide_eq_true h1;have hf:=HP.out;rw [Sp.tb_no (fun h=>by have:=h.name;have:=HNZ.out;omega)] at hf;subst hf;clear h1 HP;go_enter Tryz.func78,Tryz.ntmps78;go_wp2;go_ret;exact⟨rfl,HAL.out⟩
 have p1:decide ((nz:Int) > 256)=false:=dF;have p2:decide (256<nz)=false:=decide_eq_false h1;by_cases h2:4<no
 ·have p3:decide ((no:Int) > 4)=true:=dT;have p4:decide (4<no)=true:=decide_eq_true h2;have hf:=HP.out;rw [Sp.tb_no (fun h=>by have:=h.nouts;have:=HNO.out;omega)] at hf;subst hf;clear h1 h2 HP;go_enter Tryz.func78,Tryz.ntmps78;go_wp2;go_ret;exact⟨rfl,HAL.out⟩
 have p3:decide ((no:Int) > 4)=false:=dF;have p4:decide (4<no)=false:=decide_eq_false h2;by_cases h3:Sp.CubesOk n.bits e.cubes
 case neg=>
  have hvc:=HVC.out;rw [Sp.tb_no h3] at hvc;have HVC2:=hid hvc;have hf:=HP.out;rw [Sp.tb_no (fun h=>h3 h.cubes)] at hf;subst hf;clear h1 h2 h3 HP HVC hvc;go_enter Tryz.func78,Tryz.ntmps78
  go_wp2_with (go_at_call 77;refine (HVC2.out _ HAL.out).mono ?_;rintro r w3 ⟨rfl,hb3⟩;have HB3:=hid (HAL.out.trans (hb3.mono (by have:=HSZ.out;omega)));clear hb3)
  go_ret;exact⟨rfl,HB3.out⟩
 have hvc:=HVC.out;rw [Sp.tb_yes h3] at hvc;have HVC2:=hid hvc;clear HVC hvc;by_cases h4:Sp.CubeOk n.bits e.write
 case neg=>
  have hvw:=HVW.out;rw [Sp.tb_no h4] at hvw;have HVW2:=hid hvw;have hf:=HP.out;rw [Sp.tb_no (fun h=>h4 h.word)] at hf;subst hf;clear h1 h2 h3 h4 HP HVW hvw;go_enter Tryz.func78,Tryz.ntmps78
  go_wp2_with (go_at_call 77;refine (HVC2.out _ HAL.out).mono ?_;rintro r w3 ⟨rfl,hb3⟩;have HB3:=hid (HAL.out.trans (hb3.mono (by have:=HSZ.out;omega)));have x0:=(hb3.cell (p:=⟨N,0,none⟩) (by have:=HSZ.out;show N<_;omega)).trans m0;have x1:=(hb3.cell (p:=⟨N,1,none⟩) (by have:=HSZ.out;show N<_;omega)).trans m1;have x2:=(hb3.cell (p:=⟨N,2,none⟩) (by have:=HSZ.out;show N<_;omega)).trans m2;have x3:=(hb3.cell (p:=⟨N,3,none⟩) (by have:=HSZ.out;show N<_;omega)).trans m3;have x4:=(hb3.cell (p:=⟨N+1,3,none⟩) HSZ.out).trans e3;have HS3:=hid hb3.size;clear hb3)
  refine (HVW2.out _).mono ?_;rintro r w4 ⟨rfl,hb4⟩;have HB4:=hid (HB3.out.trans (hb4.mono (by have:=HS3.out;have:=HSZ.out;omega)));clear hb4;go_wp2_with fail;go_ret;exact⟨rfl,HB4.out⟩
 have hvw:=HVW.out;rw [Sp.tb_yes h4] at hvw;have HVW2:=hid hvw;have H1:=hid (show e.name.size≤256 by have:=HNZ.out;omega);have H2:=hid (show no≤4 by omega);have H3:=hid h3;have H4:=hid h4;clear HVW hvw h1 h2 h3 h4;go_enter Tryz.func78,Tryz.ntmps78
 go_wp2_with (go_at_call 77;refine (HVC2.out _ HAL.out).mono ?_;rintro r w3 ⟨rfl,hb3⟩;have HB3:=hid (HAL.out.trans (hb3.mono (by have:=HSZ.out;omega)));have x0:=(hb3.cell (p:=⟨N,0,none⟩) (by have:=HSZ.out;show N<_;omega)).trans m0;have x1:=(hb3.cell (p:=⟨N,1,none⟩) (by have:=HSZ.out;show N<_;omega)).trans m1;have x2:=(hb3.cell (p:=⟨N,2,none⟩) (by have:=HSZ.out;show N<_;omega)).trans m2;have x3:=(hb3.cell (p:=⟨N,3,none⟩) (by have:=HSZ.out;show N<_;omega)).trans m3;have x4:=(hb3.cell (p:=⟨N+1,3,none⟩) HSZ.out).trans e3;have x5:=(hb3.cell (p:=⟨N+1,1,none⟩) HSZ.out).trans e1;have x6:=(hb3.cell (p:=⟨N+1,4,none⟩) HSZ.out).trans e4;have HS3:=hid hb3.size;clear hb3)
 refine (HVW2.out _).mono ?_;rintro r w4 ⟨rfl,hb4⟩;have y1:=(hb4.cell (p:=⟨N,1,none⟩) (by have:=HSZ.out;have:=HS3.out;show N<_;omega)).trans x1;have y5:=(hb4.cell (p:=⟨N+1,1,none⟩) (by have:=HSZ.out;have:=HS3.out;show N+1<_;omega)).trans x5;have y6:=(hb4.cell (p:=⟨N+1,4,none⟩) (by have:=HSZ.out;have:=HS3.out;show N+1<_;omega)).trans x6;have HB4:=hid (HB3.out.trans (hb4.mono (by have:=HS3.out;have:=HSZ.out;omega)));have hb4w:Below w.heap.size w w4:=by rw [HN.out];exact HB4.out
 have HPV4:=hid (HPV.out.more hb4w);have HI4:=hid (HI.out.more hb4w);have HO4:=hid (HO.out.more hb4w);clear hb4 hb4w x0 x1 x2 x3 x4 x5 x6 e0 e1 e2 e3 e4 m0 m1 m2 m3 HPV HI HO HVC2 HVW2;go_wp2_with fail;go_loop [7,41] (fun v7 v41=>∃ (i:Nat) (last:Int),v41=.int .i64 (i:Int)∧v7=.int .i64 last∧i≤ni∧-1≤last∧Hid ((∀ (j:Nat) (p:Int),j<i→e.ins[j]?=some p→Sp.PortIs n p (b:Int) true∧∀ p',0<j→e.ins[j - 1]?=some p'→p'<p)∧(i=0→last=-1)∧∀ p',0<i→e.ins[i - 1]?=some p'→p'=last)) (fun _ v41=>ni - (intOf v41).toNat)
 case atStart=>exact⟨0,-1,rfl,rfl,Nat.zero_le _,by omega,hid ⟨fun j p hj=>by omega,fun _=>rfl,fun p' h=>by omega⟩⟩
 case round=>
  obtain⟨i,last,rfl,rfl,hi,hlast,hok⟩:=hrel;have i0:(0:Int)≤(i:Int):=by omega
  by_cases hlt:i<ni
  ·have q1:decide ((i:Int)<(ni:Int))=true:=dT;have q2:decide (i<ni)=true:=decide_eq_true hlt;have q3:(i:Int)<(ni:Int):=by omega
   obtain⟨p,hp⟩:∃ p,e.ins[i]?=some p:=⟨_,List.getElem?_eq_getElem (by rw [HNI.out];exact hlt)⟩
   obtain⟨g,o,rfl,hg,k0⟩:=HI4.out.at hp;(have z1:IntKind.i64.wrap ((i:Int)+1)=(i:Int)+1:=by rw [IntKind.wrap_i64];omega);have HIN:=hid (show i+1≤ni by omega)
   have hbad:¬ (Sp.PortIs n p (b:Int) true∧∀ p',0<i→e.ins[i - 1]?=some p'→p'<p)→P=false:=fun hb=>by
    rw [← HP.out];exact Sp.tb_no (fun h=>hb (h.ins i p hp))
   by_cases h1:p≤last
   ·have t1:decide (p≤last)=true:=decide_eq_true h1
    have HF:=hid (hbad (fun h=>by
     rcases Nat.eq_zero_or_pos i with hz | hz
     ·have:=hok.out.2.1 hz;have:=h.1.1;omega
     ·obtain⟨p',hp'⟩:∃ p',e.ins[i - 1]?=some p':=⟨_,List.getElem?_eq_getElem (by rw [HNI.out];omega)⟩
      have e1:=hok.out.2.2 p' hz hp';have e2:=h.2 p' hz hp'
      omega))
    clear hi hlt hp hok hbad h1;go_wp2;go_ret;exact⟨by rw [HF.out];rfl,HB4.out⟩
   have t1:decide (p≤last)=false:=decide_eq_false h1;(have pz:0≤p:=by omega);by_cases h2:(np:Int)≤p
   ·have t2:decide (p ≥ (np:Int))=true:=decide_eq_true h2
    have HF:=hid (hbad (fun h=>by
     obtain⟨_,r,hr,_⟩:=h.1;have:=(List.getElem?_eq_some_iff.1 hr).1;rw [HNP.out] at this
     omega))
    clear hi hlt hp hok hbad h2;go_wp2;go_ret;exact⟨by rw [HF.out];rfl,HB4.out⟩
   have t2:decide (p ≥ (np:Int))=false:=decide_eq_false h2
   obtain⟨pn,hpn⟩:∃ pn:Nat,p=(pn:Int):=⟨p.toNat,by omega⟩
   subst hpn;(have u1:(pn:Int)<(np:Int):=by omega);have u2:decide (np≤pn)=false:=dF
   obtain⟨r,hr⟩:∃ r,n.ports[pn]?=some r:=⟨_,List.getElem?_eq_getElem (by rw [HNP.out];omega)⟩
   obtain⟨gq,oq,rfl,hgq,_,k1,k2,_⟩:=HPV4.out.at hr;obtain⟨rn,rb,ri,rd⟩:=r;simp only [] at k1 k2;by_cases h3:ri=true
   case neg=>
    have h3':ri=false:=Bool.eq_false_iff.2 h3;subst h3'
    have HF:=hid (hbad (fun h=>by
     obtain⟨_,r,hr2,h3,_⟩:=h.1;rw [Int.toNat_natCast,hr] at hr2;(injection hr2 with hr2);rw [← hr2] at h3
     cases h3))
    clear hi hlt hp hok hbad h2 hr h3;go_wp2;go_ret;exact⟨by rw [HF.out];rfl,HB4.out⟩
   subst h3
   by_cases h4:rb=(b:Int)
   case neg=>
    have t4:(rb != (b:Int))=true:=bne_iff_ne.2 h4
    have HF:=hid (hbad (fun h=>by
     obtain⟨_,r,hr2,_,h3⟩:=h.1;rw [Int.toNat_natCast,hr] at hr2;(injection hr2 with hr2);rw [← hr2] at h3
     exact h4 h3))
    clear hi hlt hp hok hbad h2 hr h4;go_wp2;go_ret;exact⟨by rw [HF.out];rfl,HB4.out⟩
   subst h4
   have HOK:Hid ((∀ (j:Nat) (p:Int),j<i+1→e.ins[j]?=some p→Sp.PortIs n p (b:Int) true∧∀ p',0<j→e.ins[j - 1]?=some p'→p'<p)∧(i+1=0→(pn:Int)=-1)∧∀ p',0<i+1→e.ins[i+1 - 1]?=some p'→p'=(pn:Int)):=hid (by
    refine⟨fun j p hj hjp=>?_,fun h=>by omega,fun p' _ hp'=>?_⟩
    ·by_cases hji:j=i
     ·subst hji;rw [hp] at hjp;(injection hjp with hjp);subst hjp;refine⟨⟨pz,_,by rw [Int.toNat_natCast];exact hr,rfl,rfl⟩,fun p' hz hp'=>?_⟩;have:=hok.out.2.2 p' hz hp';omega
     ·exact hok.out.1 j p (by omega) hjp
    ·rw [Nat.add_sub_cancel,hp] at hp';injection hp' with hp'
     exact hp'.symm)
   (have t4:(((b:Nat):Int) != (b:Int))=false:=by simp);clear hi hlt hp hok hbad h2 hr;go_wp2;go_round
   case rel=>exact⟨i+1,(pn:Int),by rfl,rfl,HIN.out,by omega,HOK⟩
   case measure=>have:=HIN.out;simp [intOf];omega
  ·have q1:decide ((i:Int)<(ni:Int))=false:=dF;have q2:decide (i<ni)=false:=decide_eq_false hlt;(obtain rfl:i=ni:=by omega);have HINS:=hid hok.out.1;clear hi hlt hok;go_wp2_with fail;go_loop [79] (fun v79=>∃ k:Nat,v79=.int .i64 (k:Int)∧k≤no∧Hid (∀ (j:Nat) (q:Int),j<k→e.outs[j]?=some q→Sp.PortIs n q (b:Int) false∧∀ (x:Nat),x<j→e.outs[x]?≠some q)) (fun v79=>no - (intOf v79).toNat)
   case atStart=>exact⟨0,rfl,Nat.zero_le _,hid (fun j q hj=>by omega)⟩
   case round=>
    obtain⟨k,rfl,hk,hok⟩:=hrel;(have k0:(0:Int)≤(k:Int):=by omega);by_cases hlt:k<no
    ·have q1:decide ((k:Int)<(no:Int))=true:=dT;have q2:decide (k<no)=true:=decide_eq_true hlt;have q3:(k:Int)<(no:Int):=by omega
     obtain⟨q,hq⟩:∃ q,e.outs[k]?=some q:=⟨_,List.getElem?_eq_getElem (by rw [HNO.out];exact hlt)⟩
     obtain⟨g,o,rfl,hg,kq⟩:=HO4.out.at hq;(have z1:IntKind.i64.wrap ((k:Int)+1)=(k:Int)+1:=by rw [IntKind.wrap_i64];omega);have HKN:=hid (show k+1≤no by omega)
     have hbad:¬ (Sp.PortIs n q (b:Int) false∧∀ (x:Nat),x<k→e.outs[x]?≠some q)→P=false:=fun hb=>by
      rw [← HP.out];exact Sp.tb_no (fun h=>hb (h.outs k q hq))
     by_cases h1:q<0
     ·have t1:decide (q<0)=true:=decide_eq_true h1;have HF:=hid (hbad (fun h=>by have:=h.1.1;omega));clear hk hlt hq hok hbad h1;go_wp2;go_ret;exact⟨by rw [HF.out];rfl,HB4.out⟩
     have t1:decide (q<0)=false:=decide_eq_false h1;(have qz:0≤q:=by omega);by_cases h2:(np:Int)≤q
     ·have t2:decide (q ≥ (np:Int))=true:=decide_eq_true h2
      have HF:=hid (hbad (fun h=>by
       obtain⟨_,r,hr,_⟩:=h.1;have:=(List.getElem?_eq_some_iff.1 hr).1;rw [HNP.out] at this
       omega))
      clear hk hlt hq hok hbad h2;go_wp2;go_ret;exact⟨by rw [HF.out];rfl,HB4.out⟩
     have t2:decide (q ≥ (np:Int))=false:=decide_eq_false h2
     obtain⟨pn,hpn⟩:∃ pn:Nat,q=(pn:Int):=⟨q.toNat,by omega⟩
     subst hpn;(have u1:(pn:Int)<(np:Int):=by omega);have u2:decide (np≤pn)=false:=dF
     obtain⟨r,hr⟩:∃ r,n.ports[pn]?=some r:=⟨_,List.getElem?_eq_getElem (by rw [HNP.out];omega)⟩
     obtain⟨gq,oq,rfl,hgq,_,k1,k2,_⟩:=HPV4.out.at hr;obtain⟨rn,rb,ri,rd⟩:=r;simp only [] at k1 k2;by_cases h3:ri=false
     case neg=>
      (have h3':ri=true:=by cases ri <;> simp_all);subst h3'
      have HF:=hid (hbad (fun h=>by
       obtain⟨_,r,hr2,h3,_⟩:=h.1;rw [Int.toNat_natCast,hr] at hr2;(injection hr2 with hr2);rw [← hr2] at h3
       cases h3))
      clear hk hlt hq hok hbad h2 hr h3;go_wp2;go_ret;exact⟨by rw [HF.out];rfl,HB4.out⟩
     subst h3
     by_cases h4:rb=(b:Int)
     case neg=>
      have t4:(rb != (b:Int))=true:=bne_iff_ne.2 h4
      have HF:=hid (hbad (fun h=>by
       obtain⟨_,r,hr2,_,h3⟩:=h.1;rw [Int.toNat_natCast,hr] at hr2;(injection hr2 with hr2);rw [← hr2] at h3
       exact h4 h3))
      clear hk hlt hq hok hbad h2 hr h4;go_wp2;go_ret;exact⟨by rw [HF.out];rfl,HB4.out⟩
     subst h4;(have t4:(((b:Nat):Int) != (b:Int))=false:=by simp);have HPI:Hid (Sp.PortIs n (pn:Int) (b:Int) false):=hid ⟨qz,_,by rw [Int.toNat_natCast];exact hr,rfl,rfl⟩;(have kd:(k:Int)≤(d3:Int):=by have:=HD3.out;omega);have HOK:=hok;have HQ:=hid hq;have HBAD:=hid hbad;clear hk hlt hq hok hbad h2 hr;go_wp2_with fail;go_loop [116] (fun v116=>∃ x:Nat,v116=.int .i64 (x:Int)∧x≤k∧Hid (∀ (y:Nat),y<x→e.outs[y]?≠some (pn:Int))) (fun v116=>k - (intOf v116).toNat)
     case atStart=>exact⟨0,rfl,Nat.zero_le _,hid (fun y hy=>by omega)⟩
     case round=>
      obtain⟨x,rfl,hx,hne⟩:=hrel;(have x0:(0:Int)≤(x:Int):=by omega);by_cases hxk:x<k
      ·have s1:decide ((x:Int)<(k:Int))=true:=dT;have s2:decide (x<k)=true:=decide_eq_true hxk;have s3:(x:Int)<(k:Int):=by omega
       obtain⟨v,hv⟩:∃ v,e.outs[x]?=some v:=⟨_,List.getElem?_eq_getElem (by rw [HNO.out];have:=HKN.out;omega)⟩
       obtain⟨g',o',hgo,hg',kv⟩:=HO4.out.at hv;(injection hgo with hgo);(injection hgo with e1 e2 _);subst e1 e2;(have z2:IntKind.i64.wrap ((x:Int)+1)=(x:Int)+1:=by rw [IntKind.wrap_i64];omega);have HX:=hid (show x+1≤k by omega)
       by_cases hveq:v=(pn:Int)
       ·have t5:(v == (pn:Int))=true:=beq_iff_eq.2 hveq;have HF:=hid (HBAD.out (fun h=>h.2 x hxk (by rw [hv,hveq])));clear hx hxk hv hne hveq;go_wp2;go_ret;exact⟨by rw [HF.out];rfl,HB4.out⟩
       ·have t5:(v == (pn:Int))=false:=beq_eq_false_iff_ne.2 hveq
        have HNE:Hid (∀ (y:Nat),y<x+1→e.outs[y]?≠some (pn:Int)):=hid (by
         intro y hy;by_cases hyx:y=x
         ·subst hyx;rw [hv];intro h;(injection h with h);exact hveq h
         ·exact hne.out y (by omega))
        clear hx hxk hv hne hveq;go_wp2;go_round
        case rel=>exact⟨x+1,by rfl,HX.out,HNE⟩
        case measure=>have:=HX.out;simp [intOf];omega
      ·have s1:decide ((x:Int)<(k:Int))=false:=dF;have s2:decide (x<k)=false:=decide_eq_false hxk;have hxk2:x=k:=by omega
       have HOK2:Hid (∀ (j:Nat) (q:Int),j<k+1→e.outs[j]?=some q→Sp.PortIs n q (b:Int) false∧∀ (x:Nat),x<j→e.outs[x]?≠some q):=hid (by
        intro j q hj hjq;by_cases hjk:j=k
        ·subst hjk;rw [HQ.out] at hjq;(injection hjq with hjq);subst hjq;exact⟨HPI.out,fun y hy=>hne.out y (by omega)⟩
        ·exact HOK.out j q (by omega) hjq)
       clear hx hxk hne hxk2;go_wp2;go_round
       case rel=>exact⟨k+1,by rfl,HKN.out,HOK2⟩
       case measure=>have:=HKN.out;simp [intOf];omega
    ·have q1:decide ((k:Int)<(no:Int))=false:=dF;have q2:decide (k<no)=false:=decide_eq_false hlt
     have HT:Hid (P=true):=hid (by
      rw [← HP.out];refine Sp.tb_yes ⟨H1.out,by rw [HNO.out];exact H2.out,H3.out,H4.out,fun j p hj=>?_,fun j q hj=>?_⟩
      ·exact HINS.out j p (by have:=(List.getElem?_eq_some_iff.1 hj).1;rw [HNI.out] at this;exact this) hj
      ·exact hok.out j q (by have:=(List.getElem?_eq_some_iff.1 hj).1;rw [HNO.out] at this;omega) hj)
     clear hk hlt hok;go_wp2;go_ret;exact⟨by rw [HT.out];rfl,HB4.out⟩
end Go.Proofs.YtedfppbnkgffcaaGreatDoor
