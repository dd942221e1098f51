/-
  Texts joined: Bs Bt Bu.
-/
import Derived.Test.YthnamoedpnknmaaGreatDoorBr
import Derived.Test.YthnamoedpnknmaaGreatDoorUw
set_option linter.unusedVariables false
set_option linter.unusedSimpArgs false
set_option maxRecDepth 100000
set_option maxHeartbeats 8000000
namespace Go.Proofs.YthnamoedpnknmaaGreatDoor
open Go.RowKit
open Go.Lib (hid)
namespace Sp
theorem out_states0 {n:Net} {g:List Guard} {r:Port} {o:Nat} {num:Int} {wd:ByteArray} (hg:n.guards[o]?=some g) (hr:n.ports[o]?=some r):stV ([(o:Int)].filterMap (outMv n num wd))=if letsB g wd=true then ((o:Int),wd) :: (if 0≤r.dst then [(r.dst,wd)] else []) else []:=by
 rw [List.filterMap_cons];simp only [outMv,Int.toNat_natCast,hg,hr,List.filterMap_nil];by_cases hl:letsB g wd=true
 ·rw [if_pos hl,if_pos hl];unfold stV stM;have:(0:Int)≤(o:Int):=by omega
  simp [this]
 ·rw [if_neg hl,if_neg hl];rfl
theorem outs_step0 {n:Net} {outs:List Int} {k:Nat} {o:Nat} {g:List Guard} {r:Port} {num:Int} {wd:ByteArray} (hk:outs[k]?=some (o:Int)) (hg:n.guards[o]?=some g) (hr:n.ports[o]?=some r):
  stV ((outs.take (k+1)).filterMap (outMv n num wd))=stV ((outs.take k).filterMap (outMv n num wd)) ++ (if letsB g wd=true then ((o:Int),wd) :: (if 0≤r.dst then [(r.dst,wd)] else []) else []):=by
 rw [List.take_add_one,hk,List.filterMap_append];rw [show ∀ a b:List Mv,stV (a ++ b)=stV a ++ stV b from fun a b=>by unfold stV;rw [List.flatMap_append]];rw [← out_states0 (num:=num) hg hr];rfl
end Sp
def NxEnd (n:Sp.Net) (p:Nat) (h:ByteArray) (w:World) (r:Ending) (w':World):Prop:=
 ∃ v,r=.returned (.tuple #[.int .i64 (Sp.entryV n p h),v])∧StR w' w.heap.size v (Sp.stV (Sp.movesV n p h))∧Below w.heap.size w w'
theorem ref10_next_out (n:Sp.Net) (A1 A2 A3:Option Addr) (c1 c2 c3:Nat) (p:Nat) (h:ByteArray) (q:Sp.Port) (w:World) (hpv:PV w A1 n.ports) (htv:TTV w A2 n.tables) (hgv:GGV w A3 n.guards) (hok:Sp.NetOk n) (hso:Sp.StateOk n p h) (hq:n.ports[p]?=some q) (hin:q.inn=false):
  Calls Tryz.prog 37 #[.agg #[.int .i64 n.bits,.slice A1 n.ports.length c1,.slice A2 n.tables.length c2,.slice A3 n.guards.length c3],.agg #[.int .i64 (p:Int),.string h]] w fun r w'=>NxEnd n p h w r w':=by
 have hev:Sp.entryV n p h=-1:=by unfold Sp.entryV;rw [hq];simp only [hin];rfl
 have hmv:Sp.stV (Sp.movesV n p h)=if 0≤q.dst then [(q.dst,h)] else []:=by
  unfold Sp.movesV;rw [hq];simp only [hin];rw [if_pos trivial];by_cases hd:0≤q.dst
  ·rw [if_pos hd,if_pos hd];unfold Sp.stV Sp.stM;simp [hd]
  ·rw [if_neg hd,if_neg hd];rfl
 have HEV:=hid hev;have HMV:=hid hmv;clear hev hmv;obtain⟨g1,o1,rfl,hg1,a0,a1,a2,a3⟩:=hpv.at hq;obtain⟨np,hnp⟩:=nM n.ports.length;obtain⟨nt,hnt⟩:=nM n.tables.length;obtain⟨ng,hng⟩:=nM n.guards.length;obtain⟨b,hbb⟩:=nM n.bits;obtain⟨nm,hnm⟩:=nM q.name;obtain⟨bx,hbx⟩:=nM q.box;obtain⟨ds,hds⟩:=nM q.dst;rw [hnm] at a0;rw [hbx] at a1;rw [hin] at a2;rw [hds] at a3;have hpn:p<np:=by rw [← hnp];exact (List.getElem?_eq_some_iff.1 hq).1
 have h48:=hok.nports;rw [hnp] at h48;rw [hnp,hnt,hng,hbb];obtain⟨N,hN⟩:=nM w.heap.size;obtain⟨W2,hW2⟩:=nM ((w.alloc (.cells #[.int .i64 b,.slice (some ⟨g1,o1,none⟩) np c1,.slice A2 nt c2,.slice A3 ng c3] 26)).alloc (.cells #[.int .i64 (p:Int),.string h] 28));obtain⟨W3,hW3⟩:=nM (W2.alloc (.cells #[.string nm,.int .i64 bx,.bool false,.int .i64 ds] 74));have hal2:Below N w W2:=by rw [← hW2,← hN];exact ((Below.refl _ _).alloc (Nat.le_refl _) _).alloc (by simp) _
 have hkn2:Blk W2 N 26 #[.int .i64 b,.slice (some ⟨g1,o1,none⟩) np c1,.slice A2 nt c2,.slice A3 ng c3]:=by rw [← hW2,← hN];exact (Blk.new w _ _).alloc _
 have hks2:Blk W2 (N+1) 28 #[.int .i64 (p:Int),.string h]:=by
  have:=Blk.new (w.alloc (.cells #[.int .i64 b,.slice (some ⟨g1,o1,none⟩) np c1,.slice A2 nt c2,.slice A3 ng c3] 26)) 28 #[.int .i64 (p:Int),.string h];rw [World.size_alloc,hN] at this;rw [← hW2];exact this
 have hsz2:W2.heap.size=N+1+1:=by rw [← hW2,World.size_alloc,World.size_alloc,hN]
 have hal:Below N w W3:=by rw [← hW3];exact hal2.alloc (by omega) _
 have hkn:Blk W3 N 26 #[.int .i64 b,.slice (some ⟨g1,o1,none⟩) np c1,.slice A2 nt c2,.slice A3 ng c3]:=by rw [← hW3];exact hkn2.alloc _
 have hks:Blk W3 (N+1) 28 #[.int .i64 (p:Int),.string h]:=by rw [← hW3];exact hks2.alloc _
 have hkp:Blk W3 (N+1+1) 74 #[.string nm,.int .i64 bx,.bool false,.int .i64 ds]:=by rw [← hW3,← hsz2];exact Blk.new _ _ _
 have hsz3:W3.heap.size=N+1+1+1:=by rw [← hW3,World.size_alloc,hsz2]
 rw [hN] at hg1;have m1:W2.cell? ⟨N,1,none⟩=some (.slice (some ⟨g1,o1,none⟩) np c1):=hkn2.cell 1;have m2:W2.cell? ⟨N+1,0,none⟩=some (.int .i64 (p:Int)):=hks2.cell 0;have r0:W2.cell? ⟨g1,o1+p * 4,none⟩=some (.string nm):=(hal2.cell (p:=⟨g1,o1+p * 4,none⟩) hg1).trans a0;have r1:W2.cell? ⟨g1,o1+p * 4+1,none⟩=some (.int .i64 bx):=(hal2.cell (p:=⟨g1,o1+p * 4+1,none⟩) hg1).trans a1;have r2:W2.cell? ⟨g1,o1+p * 4+2,none⟩=some (.bool false):=(hal2.cell (p:=⟨g1,o1+p * 4+2,none⟩) hg1).trans a2;have r3:W2.cell? ⟨g1,o1+p * 4+3,none⟩=some (.int .i64 ds):=(hal2.cell (p:=⟨g1,o1+p * 4+3,none⟩) hg1).trans a3;have n0:W3.cell? ⟨N,0,none⟩=some (.int .i64 b):=hkn.cell 0;have n1:W3.cell? ⟨N,1,none⟩=some (.slice (some ⟨g1,o1,none⟩) np c1):=hkn.cell 1;have n2:W3.cell? ⟨N,2,none⟩=some (.slice A2 nt c2):=hkn.cell 2;have n3:W3.cell? ⟨N,3,none⟩=some (.slice A3 ng c3):=hkn.cell 3;have s0:W3.cell? ⟨N+1,0,none⟩=some (.int .i64 (p:Int)):=hks.cell 0;have s1:W3.cell? ⟨N+1,1,none⟩=some (.string h):=hks.cell 1;have p2:W3.cell? ⟨N+1+1,2,none⟩=some (.bool false):=hkp.cell 2;have p3:W3.cell? ⟨N+1+1,3,none⟩=some (.int .i64 ds):=hkp.cell 3;have y1:decide ((p:Int)<(np:Int))=true:=dT;have y2:decide (p<np)=true:=decide_eq_true hpn;have y3:(p:Int)<(np:Int):=by omega
 have y4:(0:Int)≤(p:Int):=by omega
 have HN:=hid hN;have HAL:=hid hal;have HKN:=hid hkn;have HKS:=hid hks;have HG1:=hid hg1;have HA3:=hid a3;have HSZ3:=hid hsz3;have HNP:=hid hnp;have HNG:=hid hng;have HDS:=hid hds;have HH48:=hid h48;clear hpv htv hgv hok hso hq hin hnp hnt hng hbb hnm hbx hds hpn h48 a0 a1 a2 a3 hal2 hkn2 hks2 hal hkn hks hkp hg1 hsz3;by_cases hd:0≤ds
 rotate_left
 ·have d1:decide (ds<0)=true:=dT;have HM2:=hid (show Sp.stV (Sp.movesV n p h)=[] by rw [HMV.out,HDS.out,if_neg hd]);clear hd;go_enter Tryz.func37,Tryz.ntmps37;go_wp2_with fail;refine bodyPost_ret (results_tmp2 rfl _ _ _) rfl ?_;exact⟨_,by rw [HEV.out];rfl,by rw [HM2.out];exact World.ownsRow_nil _ _ _ _,by rw [HN.out];exact HAL.out⟩
 have d1:decide (ds<0)=false:=dF;have HM2:=hid (show Sp.stV (Sp.movesV n p h)=[(ds,h)] by rw [HMV.out,HDS.out,if_pos hd]);clear hd;go_enter Tryz.func37,Tryz.ntmps37;go_wp2_with fail;refine wp_region_K 7 (fun w'=>w'.cell? ⟨N+1+1,3,none⟩=some (.int .i64 ds)∧w'.cell? ⟨N+1,1,none⟩=some (.string h)) (by kernel_rfl) (fun hcl=>?_);refine mS (⟨p3,s1⟩) (fun hS=>?_);refine tk 6 hcl hS ?_;clear hcl;intro hcl;simp only [tkl];refine tk 0 hcl hS ?_;clear hcl;intro hcl;simp only [tkl];refine tk 1 hcl hS ?_;clear hcl;intro hcl;simp only [tkl];refine tk 2 hcl hS ?_;clear hcl;intro hcl;simp only [tkl];refine tk 3 hcl hS ?_;clear hcl;intro hcl;simp only [tkl];refine tk 4 hcl hS ?_;clear hcl;intro hcl;simp only [tkl];refine on1 5 hcl (fun K hK=>?_);go_simp
 have hS2:(fun w':World=>w'.cell? ⟨N+1+1,3,none⟩=some (.int .i64 ds)∧w'.cell? ⟨N+1,1,none⟩=some (.string h)) (W3.drew.alloc (.cells #[.int .i64 ds,.string h] 28)):=by
  have hb9:Below (N+1+1+1) W3 (W3.drew.alloc (.cells #[.int .i64 ds,.string h] 28)):=((Below.refl _ _).drew).alloc (by have:=HSZ3.out;simp only [World.drew] at *;omega) _;exact⟨(hb9.cell (p:=⟨N+1+1,3,none⟩) (by show N+1+1<_;omega)).trans p3,(hb9.cell (p:=⟨N+1,1,none⟩) (by show N+1<_;omega)).trans s1⟩
 clear hS;have hS:=hS2;clear hS2;refine hK.out _ _ (Or.inr hS) (fun hcl2=>?_);clear hK K hcl;have hcl:=hcl2;clear hcl2;refine on1 7 hcl (fun K hK=>?_);go_simp;refine hK.out _ _ (Or.inl (by kernel_rfl)) (fun hcl2=>?_);clear hK K hcl hcl2 hS;refine wpAnyK_done (by kernel_rfl) ?_ _;(try simp only [Act.put,pu]);go_wp2_with fail;refine bodyPost_ret (results_tmp2 rfl _ _ _) rfl ?_;refine⟨_,by rw [HEV.out];rfl,?_,by rw [HN.out];exact HAL.out.drew.alloc (by have:=HSZ3.out;simp only [World.drew] at *;omega) _⟩;rw [HM2.out,HN.out];exact World.ownsRow_lit W3.drew #[.int .i64 ds,.string h] 1 (by have:=HSZ3.out;simp only [World.drew] at *;omega) (by unfold maxLen;omega) rfl
theorem ref10_next_in (n:Sp.Net) (A1 A2 A3:Option Addr) (c1 c2 c3:Nat) (p:Nat) (h:ByteArray) (q:Sp.Port) (w:World) (hpv:PV w A1 n.ports) (htv:TTV w A2 n.tables) (hgv:GGV w A3 n.guards) (hok:Sp.NetOk n) (hso:Sp.StateOk n p h) (hq:n.ports[p]?=some q) (hin:q.inn=true):
  Calls Tryz.prog 37 #[.agg #[.int .i64 n.bits,.slice A1 n.ports.length c1,.slice A2 n.tables.length c2,.slice A3 n.guards.length c3],.agg #[.int .i64 (p:Int),.string h]] w fun r w'=>NxEnd n p h w r w':=by
 obtain⟨g,t,hio⟩:=Sp.inOk_of hok hso hq hin;have happ:=fun W (hW:Below w.heap.size w W)=>ref10_Applied n A1 A2 A3 c1 c2 c3 p h q g t W (hpv.more hW) (htv.more hW) (hgv.more hW) hok hso hio
 have hbit:=Sp.bits_of hso;have hsz:h.size≤1000000:=by have h1:=hso.bits;have h2:=hok.bits.2;omega
 have hp0:0<h.size:=by have h1:=hso.bits;have h2:=hok.bits.1;omega
 have HOK:=hid hok;have HSO:=hid hso;have HIO:=hid hio;have HHS:=hid hsz;have HP0:=hid hp0;have HPV:=hid hpv;have HGV:=hid hgv;have HQ:=hid hq;have HIN:=hid hin;clear hbit hsz hp0 hio;obtain⟨g1,o1,rfl,hg1,a0,a1,a2,a3⟩:=hpv.at hq;obtain⟨np,hnp⟩:=nM n.ports.length;obtain⟨nt,hnt⟩:=nM n.tables.length;obtain⟨ng,hng⟩:=nM n.guards.length;obtain⟨b,hbb⟩:=nM n.bits;obtain⟨nm,hnm⟩:=nM q.name;obtain⟨bx,hbx⟩:=nM q.box;obtain⟨ds,hds⟩:=nM q.dst;rw [hnm] at a0;rw [hbx] at a1;rw [hin] at a2;rw [hds] at a3;have hpn:p<np:=by rw [← hnp];exact (List.getElem?_eq_some_iff.1 hq).1
 have h48:=hok.nports;rw [hnp] at h48;rw [hnp,hnt,hng,hbb];obtain⟨N,hN⟩:=nM w.heap.size;obtain⟨W2,hW2⟩:=nM ((w.alloc (.cells #[.int .i64 b,.slice (some ⟨g1,o1,none⟩) np c1,.slice A2 nt c2,.slice A3 ng c3] 26)).alloc (.cells #[.int .i64 (p:Int),.string h] 28));obtain⟨W3,hW3⟩:=nM (W2.alloc (.cells #[.string nm,.int .i64 bx,.bool true,.int .i64 ds] 74));have hal2:Below N w W2:=by rw [← hW2,← hN];exact ((Below.refl _ _).alloc (Nat.le_refl _) _).alloc (by simp) _
 have hkn2:Blk W2 N 26 #[.int .i64 b,.slice (some ⟨g1,o1,none⟩) np c1,.slice A2 nt c2,.slice A3 ng c3]:=by rw [← hW2,← hN];exact (Blk.new w _ _).alloc _
 have hks2:Blk W2 (N+1) 28 #[.int .i64 (p:Int),.string h]:=by
  have:=Blk.new (w.alloc (.cells #[.int .i64 b,.slice (some ⟨g1,o1,none⟩) np c1,.slice A2 nt c2,.slice A3 ng c3] 26)) 28 #[.int .i64 (p:Int),.string h];rw [World.size_alloc,hN] at this;rw [← hW2];exact this
 have hsz2:W2.heap.size=N+1+1:=by rw [← hW2,World.size_alloc,World.size_alloc,hN]
 have hal:Below N w W3:=by rw [← hW3];exact hal2.alloc (by omega) _
 have hkn:Blk W3 N 26 #[.int .i64 b,.slice (some ⟨g1,o1,none⟩) np c1,.slice A2 nt c2,.slice A3 ng c3]:=by rw [← hW3];exact hkn2.alloc _
 have hks:Blk W3 (N+1) 28 #[.int .i64 (p:Int),.string h]:=by rw [← hW3];exact hks2.alloc _
 have hkp:Blk W3 (N+1+1) 74 #[.string nm,.int .i64 bx,.bool true,.int .i64 ds]:=by rw [← hW3,← hsz2];exact Blk.new _ _ _
 have hsz3:W3.heap.size=N+1+1+1:=by rw [← hW3,World.size_alloc,hsz2]
 rw [hN] at hg1;have m1:W2.cell? ⟨N,1,none⟩=some (.slice (some ⟨g1,o1,none⟩) np c1):=hkn2.cell 1;have m2:W2.cell? ⟨N+1,0,none⟩=some (.int .i64 (p:Int)):=hks2.cell 0;have r0:W2.cell? ⟨g1,o1+p * 4,none⟩=some (.string nm):=(hal2.cell (p:=⟨g1,o1+p * 4,none⟩) hg1).trans a0;have r1:W2.cell? ⟨g1,o1+p * 4+1,none⟩=some (.int .i64 bx):=(hal2.cell (p:=⟨g1,o1+p * 4+1,none⟩) hg1).trans a1;have r2:W2.cell? ⟨g1,o1+p * 4+2,none⟩=some (.bool true):=(hal2.cell (p:=⟨g1,o1+p * 4+2,none⟩) hg1).trans a2;have r3:W2.cell? ⟨g1,o1+p * 4+3,none⟩=some (.int .i64 ds):=(hal2.cell (p:=⟨g1,o1+p * 4+3,none⟩) hg1).trans a3;have n0:W3.cell? ⟨N,0,none⟩=some (.int .i64 b):=hkn.cell 0;have n1:W3.cell? ⟨N,1,none⟩=some (.slice (some ⟨g1,o1,none⟩) np c1):=hkn.cell 1;have n2:W3.cell? ⟨N,2,none⟩=some (.slice A2 nt c2):=hkn.cell 2;have n3:W3.cell? ⟨N,3,none⟩=some (.slice A3 ng c3):=hkn.cell 3;have s0:W3.cell? ⟨N+1,0,none⟩=some (.int .i64 (p:Int)):=hks.cell 0;have s1:W3.cell? ⟨N+1,1,none⟩=some (.string h):=hks.cell 1;have p2:W3.cell? ⟨N+1+1,2,none⟩=some (.bool true):=hkp.cell 2;have p3:W3.cell? ⟨N+1+1,3,none⟩=some (.int .i64 ds):=hkp.cell 3;have y1:decide ((p:Int)<(np:Int))=true:=dT;have y2:decide (p<np)=true:=decide_eq_true hpn;have y3:(p:Int)<(np:Int):=by omega
 have y4:(0:Int)≤(p:Int):=by omega
 have HN:=hid hN;have HAL:=hid hal;have HKN:=hid hkn;have HKS:=hid hks;have HG1:=hid hg1;have HA3:=hid a3;have HSZ3:=hid hsz3;have HNP:=hid hnp;have HNG:=hid hng;have HDS:=hid hds;have HH48:=hid h48;have happ3:=happ W3 (by rw [hN];exact hal);rw [hnp,hnt,hng,hbb] at happ3;have HAPP:=hid happ3;have hpv2:=hpv.at hq;have HW:=hid (show ∀ e ∈ t,e.write.size=h.size from HIO.out.hw);clear happ happ3 hpv2 hpv htv hgv hok hso hq hin hnp hnt hng hbb hnm hbx hds hpn h48 a0 a1 a2 a3 hal2 hkn2 hks2 hal hkn hks hkp hg1 hsz3;go_enter Tryz.func37,Tryz.ntmps37;go_wp2_with fail;refine HAPP.out.mono ?_;rintro r w4 ⟨hb4,hcase⟩;have hb4':Below (N+1+1+1) W3 w4:=hb4.mono (by have:=HSZ3.out;omega);have hbw4:Below N w w4:=HAL.out.trans (hb4'.mono (by omega));obtain⟨M,hM⟩:=nM w4.heap.size;have hM3:N+1+1+1≤M:=by have:=hb4.size;have:=HSZ3.out;omega
 have HM3:=hid hM3;have HM:=hid hM;have HB4:=hid hb4';have HBW4:=hid hbw4;clear hb4 hb4' hbw4 m1 m2 r0 r1 r2 r3 n0 n1 n2 n3 s0 s1 p2 p3 hW2 hW3 hsz2 hM3;rcases hcase with⟨hf,rfl⟩ | ⟨k,e,B1,B2,B3,d1,d2,d3,hf,he,rfl,hov,hd3⟩
 ·have HEV:=hid (show Sp.entryV n p h=-1 by unfold Sp.entryV;rw [HQ.out];simp only [HIN.out];rw [if_neg (by decide),if_pos hf]);have HMV:=hid (show Sp.stV (Sp.movesV n p h)=[] by unfold Sp.movesV;rw [HQ.out];simp only [HIN.out];rw [if_neg (by decide),if_pos hf];rfl);clear hf;go_wp2_with fail;refine bodyPost_ret (results_tmp2 rfl _ _ _) rfl ?_;exact⟨_,by rw [HEV.out];rfl,by rw [HMV.out];exact World.ownsRow_nil _ _ _ _,by rw [HN.out];exact HBW4.out.alloc (by have:=HM3.out;have:=HM.out;omega) _⟩
 obtain⟨num,hnum⟩:∃ num:Nat,Sp.numB n q.box.toNat k=num:=⟨_,rfl⟩
 rw [hnum];have HEV:=hid (show Sp.entryV n p h=(num:Int) by unfold Sp.entryV;rw [HQ.out];simp only [HIN.out];rw [if_neg (by decide),hf,if_neg (by omega),Int.toNat_natCast,hnum]);obtain⟨wd,hwd⟩:=nM (Sp.wordV e.write h)
 have HMV:=hid (show Sp.movesV n p h=e.outs.filterMap (Sp.outMv n num wd) by
  unfold Sp.movesV;rw [HQ.out];simp only [HIN.out];rw [if_neg (by decide),hf,if_neg (by omega),Int.toNat_natCast,hnum,List.getD_eq_getElem?_getD,HIO.out.ht,Option.getD_some,he];simp only []
  rw [hwd])
 have hwr:=ref1_Write e.write h;rw [hwd] at hwr;have heok:=(HOK.out.tables.2 q.box.toNat t HIO.out.ht).2 e (List.mem_of_getElem? he);have hwds:wd.size=h.size:=by rw [← hwd];exact Sp.wordV_sz e.write h
 have hso2:∀ kk (hk:kk<wd.size),wd[kk]=48∨wd[kk]=49:=fun kk hk=>Sp.digits_word (n:=n) (w:=e.write) (h:=h) heok.word HSO.out.digits kk _ (by rw [hwd,List.getElem?_eq_getElem (show kk<wd.data.toList.length from hk)];rfl)
 have HWR:=hid (fun W=>hwr W (HW.out e (List.mem_of_getElem? he)) HHS.out HP0.out);have HEO:=hid heok;have HWS:=hid hwds;have HSO2:=hid hso2;have t0:decide ((num:Int)<0)=false:=dF;obtain⟨lo,hlo⟩:=nM e.outs.length;rw [hlo] at hd3 ⊢;have HLO:=hid hlo;have hov3:=hov.more (Below.refl W3.heap.size W3);obtain⟨W5,hW5⟩:=nM (w4.alloc (.cells #[.string e.name,.slice B1 e.ins.length d1,.slice B2 e.cubes.length d2,.string e.write,.slice B3 lo d3] 78));have hb5:Below (N+1+1+1) W3 W5:=by rw [← hW5];exact HB4.out.alloc (by have:=HM3.out;omega) _
 have hke:Blk W5 M 78 #[.string e.name,.slice B1 e.ins.length d1,.slice B2 e.cubes.length d2,.string e.write,.slice B3 lo d3]:=by rw [← hW5,← hM];exact Blk.new _ _ _
 have hov5:IV W5 B3 e.outs:=hov.more (by rw [HSZ3.out];exact hb5);have s1:W5.cell? ⟨N+1,1,none⟩=some (.string h):=(HKS.out.below hb5 (by omega)).cell 1;have e3:W5.cell? ⟨M,3,none⟩=some (.string e.write):=hke.cell 3;have HB5:=hid hb5;have HKE:=hid hke;have HOV:=hid hov5;have HBW5:=hid (show Below N w W5 from HAL.out.trans (hb5.mono (by omega)));have HSZ5:=hid (show W5.heap.size=M+1 by rw [← hW5,World.size_alloc,hM]);clear hf he hov hd3 hwr heok hwds hso2 hwd hnum hlo hov3 hb5 hke hov5;go_wp2_with fail;refine (HWR.out _).mono ?_;rintro r w6 ⟨rfl,hb6⟩;have hb6':Below (M+1) W5 w6:=hb6.mono (by have:=HSZ5.out;omega);have HB6:=hid hb6';clear hb6 hb6' hW5 s1 e3 hM;go_wp2_with fail;go_loopw [10,11,12,13] (fun v10 v11 v12 v13 wr=>∃ (v:Value) (k:Nat),v=v10∧v11=.int .i64 (k:Int)∧k≤lo∧Below (M+1) W5 wr∧StR wr (M+1) v (Sp.stV ((e.outs.take k).filterMap (Sp.outMv n num wd)))) (fun _ v11 _ _ _=>lo - (intOf v11).toNat)
 case atStart=>exact⟨_,0,rfl,rfl,Nat.zero_le _,HB6.out,by rw [List.take_zero];exact World.ownsRow_nil _ _ _ _⟩
 case round=>
  clear HB6;obtain⟨v,k,rfl,rfl,hk,hb,hst⟩:=hrel;have hb3:Below (N+1+1+1) W3 wr:=HB5.out.trans (hb.mono (by have:=HM3.out;omega));have hbw:Below N w wr:=HAL.out.trans (hb3.mono (by omega));have HB:=hid hb;have HB3:=hid hb3;have HBW:=hid hbw;have HST0:=hid hst;have k0:(0:Int)≤(k:Int):=by omega
  have x4:wr.cell? ⟨M,4,none⟩=some (.slice B3 lo d3):=(HKE.out.below hb (by omega)).cell 4;by_cases hkl:k<lo
  ·have q1:decide ((k:Int)<(lo:Int))=true:=dT;have q2:decide (k<lo)=true:=decide_eq_true hkl;(have q3:(k:Int)<(lo:Int):=by omega);(have hl4:lo≤4:=by have:=HEO.out.nouts;rw [HLO.out] at this;exact this);have z1:IntKind.i64.wrap ((k:Int)+1)=(k:Int)+1:=by rw [IntKind.wrap_i64];omega
   obtain⟨o,ho⟩:∃ o,e.outs[k]?=some o:=⟨_,List.getElem?_eq_getElem (by rw [HLO.out];exact hkl)⟩
   obtain⟨⟨ho0,q',hq',_,_⟩,_⟩:=HEO.out.outs k o ho
   obtain⟨on,rfl⟩:∃ on:Nat,o=on:=⟨o.toNat,by omega⟩
   rw [Int.toNat_natCast] at hq';(have honp:on<np:=by rw [← HNP.out];exact (List.getElem?_eq_some_iff.1 hq').1);obtain⟨g',hg'⟩:=Sp.guard_at HOK.out (i:=on) (by rw [HNP.out];exact honp);(have hong:on<ng:=by rw [← HNG.out];exact (List.getElem?_eq_some_iff.1 hg').1);obtain⟨gB,oB,rfl,hgB,w4c⟩:=(HOV.out.more (hb.mono (by have:=HSZ5.out;omega))).at ho;obtain⟨gq2,oq2,eA,_,_,_,_,w6⟩:=HPV.out.at hq';(injection eA with eA);(injection eA with e1 e2);subst e1 e2;obtain⟨gg,og,Ag2,cg2,rfl,hgg,w7,gv2,_⟩:=HGV.out.at hg';rw [HN.out] at hgg;have w6:wr.cell? ⟨g1,o1+on * 4+3,none⟩=some (.int .i64 q'.dst):=(hbw.cell (p:=⟨g1,o1+on * 4+3,none⟩) HG1.out).trans w6;have w7:wr.cell? ⟨gg,og+on,none⟩=some (.slice Ag2 g'.length cg2):=(hbw.cell (p:=⟨gg,og+on,none⟩) hgg).trans w7;have w8:wr.cell? ⟨N,1,none⟩=some (.slice (some ⟨g1,o1,none⟩) np c1):=(HKN.out.below hb3 (by omega)).cell 1;have w9:wr.cell? ⟨N,3,none⟩=some (.slice (some ⟨gg,og,none⟩) ng c3):=(HKN.out.below hb3 (by omega)).cell 3;have u1:decide ((on:Int)<(np:Int))=true:=dT;have u2:decide (on<np)=true:=decide_eq_true honp;(have u3:(on:Int)<(np:Int):=by omega);(have u4:(0:Int)≤(on:Int):=by omega);have u5:decide ((on:Int)<(ng:Int))=true:=dT;have u6:decide (on<ng)=true:=decide_eq_true hong;(have u7:(on:Int)<(ng:Int):=by omega);have hstep:=Sp.outs_step0 (num:=(num:Int)) (wd:=wd) ho hg' hq'
   have hle:(Sp.stV ((e.outs.take k).filterMap (Sp.outMv n num wd))).length≤100:=by
    have h1:=Sp.stV_len ((e.outs.take k).filterMap (Sp.outMv n num wd));have h2:=Sp.filterMap_len (Sp.outMv n num wd) (e.outs.take k);rw [List.length_take] at h2;omega
   obtain⟨gl2,hgl2⟩:=nM g'.length;rw [hgl2] at w7
   have hcl:Calls Tryz.prog 61 #[.slice Ag2 gl2 cg2,.string wd] wr fun e' w'=>e'=.returned (.bool (Sp.letsB g' wd))∧Below wr.heap.size wr w':=by
    rw [← hgl2];exact ref10_Lets Ag2 cg2 g' wd wr (gv2.more (by rw [HN.out];exact hbw)) ⟨fun l hl=>⟨((Sp.fitsE2_of HOK.out HSO.out (List.mem_of_getElem? hg')).1 l hl).1,fun c hc=>by rw [HWS.out];exact ((Sp.fitsE2_of HOK.out HSO.out (List.mem_of_getElem? hg')).1 l hl).2 c hc⟩,(Sp.fitsE2_of HOK.out HSO.out (List.mem_of_getElem? hg')).2⟩ (by rw [HWS.out];exact HHS.out) (by rw [HWS.out];exact HP0.out) HSO2.out
   have HSTEP:=hid hstep;have HLE:=hid hle;have HKL:=hid (show k+1≤lo by omega);have HMW:=hid (show M+1≤wr.heap.size by have:=hb.size;have:=HSZ5.out;omega);have HW6:=hid w6;have HG1W:=hid (show g1<wr.heap.size by have:=hbw.size;have:=HG1.out;have:=HN.out;omega);have HNW:=hid (show N<wr.heap.size by have:=hbw.size;have:=hb.size;have:=HSZ5.out;have:=HM3.out;omega);have HW8:=hid w8
   obtain⟨lv,hlv⟩:∃ x,Sp.letsB g' wd=x:=⟨_,rfl⟩
   rw [hlv] at hcl HSTEP;have HCL:=hid hcl;clear hst hk hb hb3 hbw hkl hl4 ho ho0 hq' honp hg' hong hgB hgg gv2 hgl2 hstep hle hcl hlv
   cases lv with
   | false=>
    have hst2:=HSTEP.out;rw [if_neg (by decide),List.append_nil] at hst2;have HST2:=hid hst2;clear hst2
    go_wp2_with (go_at_call 61;refine HCL.out.mono ?_;rintro e' Wl ⟨rfl,hbl⟩;have HBL:=hid hbl;clear hbl)
    go_roundw
    case rel=>exact⟨v,k+1,rfl,by rfl,HKL.out,HB.out.trans (HBL.out.mono HMW.out),by rw [HST2.out];exact ownsRow_below HST0.out HBL.out⟩
    case measure=>have:=HKL.out;simp [intOf];omega
   | true=>
    have hst2:=HSTEP.out;rw [if_pos rfl] at hst2;by_cases hqd2:0≤q'.dst
    case neg=>
     rw [if_neg hqd2] at hst2;have HST2:=hid hst2;have t7:decide (q'.dst ≥ 0)=false:=decide_eq_false hqd2;clear hst2 hqd2
     go_wp2_with (first
      | (go_at_call 61;refine HCL.out.mono ?_;rintro e' Wl ⟨rfl,hbl⟩;have HBL:=hid (show Below (M+1) wr Wl from hbl.mono HMW.out);have HRL:=hid (show StR Wl (M+1) v _ from ownsRow_below HST0.out hbl);clear hbl)
      | (at_builtin;refine wpList_st rfl _ _ rfl (M+1) v _ rfl Wl ((on:Int),wd) rfl HRL.out (Nat.le_trans HMW.out HBL.out.size) (by have:=HLE.out;omega) ?_;intro v5 w9x hr5 hb5 hk5;have HR5:=hid hr5;have HB9:=hid (show Below (M+1) wr w9x from HBL.out.trans hb5);have f1:w9x.cell? ⟨N,1,none⟩=some (.slice (some ⟨g1,o1,none⟩) np c1):=(HB9.out.cell (p:=⟨N,1,none⟩) (by have:=HM3.out;show N<_;omega)).trans HW8.out;have f2:w9x.cell? ⟨g1,o1+on * 4+3,none⟩=some (.int .i64 q'.dst):=(HB9.out.cell (p:=⟨g1,o1+on * 4+3,none⟩) (by have:=HM3.out;have:=HG1.out;show g1<_;omega)).trans HW6.out;clear hr5 hb5 hk5))
     go_roundw
     case rel=>exact⟨v5,k+1,rfl,by rfl,HKL.out,HB.out.trans (HB9.out.mono (Nat.le_refl _)),by rw [HST2.out];exact HR5.out⟩
     case measure=>have:=HKL.out;simp [intOf];omega
    case pos=>
     rw [if_pos hqd2] at hst2;have HST2:=hid hst2;have t7:decide (q'.dst ≥ 0)=true:=decide_eq_true hqd2;clear hst2 hqd2
     go_wp2_with (first
      | (at_builtin;have _t:=HR5;refine wpList_st rfl _ _ rfl (M+1) v5 _ rfl w9x (q'.dst,wd) rfl HR5.out (Nat.le_trans HMW.out HB9.out.size) (by rw [List.length_append];have:=HLE.out;simp;omega) ?_;intro v6 w10x hr6 hb6 hk6;have HR6:=hid hr6;have HB10:=hid (show Below (M+1) wr w10x from HB9.out.trans hb6);clear hr6 hb6 hk6)
      | (go_at_call 61;refine HCL.out.mono ?_;rintro e' Wl ⟨rfl,hbl⟩;have HBL:=hid (show Below (M+1) wr Wl from hbl.mono HMW.out);have HRL:=hid (show StR Wl (M+1) v _ from ownsRow_below HST0.out hbl);clear hbl)
      | (at_builtin;refine wpList_st rfl _ _ rfl (M+1) v _ rfl Wl ((on:Int),wd) rfl HRL.out (Nat.le_trans HMW.out HBL.out.size) (by have:=HLE.out;omega) ?_;intro v5 w9x hr5 hb5 hk5;have HR5:=hid hr5;have HB9:=hid (show Below (M+1) wr w9x from HBL.out.trans hb5);have f1:w9x.cell? ⟨N,1,none⟩=some (.slice (some ⟨g1,o1,none⟩) np c1):=(HB9.out.cell (p:=⟨N,1,none⟩) (by have:=HM3.out;show N<_;omega)).trans HW8.out;have f2:w9x.cell? ⟨g1,o1+on * 4+3,none⟩=some (.int .i64 q'.dst):=(HB9.out.cell (p:=⟨g1,o1+on * 4+3,none⟩) (by have:=HM3.out;have:=HG1.out;show g1<_;omega)).trans HW6.out;clear hr5 hb5 hk5))
     go_roundw
     case rel=>exact⟨v6,k+1,rfl,by rfl,HKL.out,HB.out.trans (HB10.out.mono (Nat.le_refl _)),by rw [HST2.out];have:=HR6.out;rwa [List.append_assoc] at this⟩
     case measure=>have:=HKL.out;simp [intOf];omega
  ·have q1:decide ((k:Int)<(lo:Int))=false:=dF;have q2:decide (k<lo)=false:=decide_eq_false hkl;(have hst2:StR wr (M+1) v (Sp.stV (Sp.movesV n p h)):=by rw [HMV.out];rw [List.take_of_length_le (by rw [HLO.out];omega)] at hst;exact hst);have HST:=hid hst2;clear hst hst2 hk hkl hb hb3 hbw;go_wp2_with fail;refine bodyPost_ret (results_tmp2 rfl _ _ _) rfl ?_;exact⟨_,by rw [HEV.out];rfl,HST.out.mono (by have:=HM3.out;have:=HN.out;omega),by rw [HN.out];exact HBW.out⟩
theorem ref10_next (n:Sp.Net) (A1 A2 A3:Option Addr) (c1 c2 c3:Nat) (p:Nat) (h:ByteArray) (w:World) (hpv:PV w A1 n.ports) (htv:TTV w A2 n.tables) (hgv:GGV w A3 n.guards) (hok:Sp.NetOk n) (hso:Sp.StateOk n p h):
  Calls Tryz.prog 37 #[.agg #[.int .i64 n.bits,.slice A1 n.ports.length c1,.slice A2 n.tables.length c2,.slice A3 n.guards.length c3],.agg #[.int .i64 (p:Int),.string h]] w fun r w'=>NxEnd n p h w r w':=by
 have hpl:p<n.ports.length:=by have:=hso.port.2;omega
 have hq:n.ports[p]?=some (n.ports[p]):=List.getElem?_eq_getElem hpl
 cases hin:(n.ports[p]).inn with
 | false=>exact ref10_next_out n A1 A2 A3 c1 c2 c3 p h _ w hpv htv hgv hok hso hq hin
 | true=>exact ref10_next_in n A1 A2 A3 c1 c2 c3 p h _ w hpv htv hgv hok hso hq hin
end Go.Proofs.YthnamoedpnknmaaGreatDoor
