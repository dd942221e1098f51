/-
 THE WALK of step.Next (chapter 10): a loop over the iterator of moves, whose body appends the states.
-/
import Derived.Test.YtedfppbnkgffcaaGreatDoorUb
import Derived.BigRegionIn
set_option linter.unusedVariables false
set_option linter.unusedSimpArgs false
set_option maxRecDepth 100000
set_option maxHeartbeats 4000000
namespace Go.Proofs.YtedfppbnkgffcaaGreatDoor
open Go.RowKit
open Go.Lib (hid)
attribute [local go_sem] Oper.semAt_some
def AxU (p q:Value) (a:Act):Prop:=∃ u:Nat→Value,a={ tmps:=#[u 0,u 1,u 2,u 3,u 4,u 5,u 6,u 7,u 8,u 9,u 10,p,q,u 13,u 14,u 15,u 16,u 17,u 18,u 19,u 20,u 21,u 22,u 23,u 24,u 25,u 26,u 27,u 28,u 29,u 30,u 31,u 32,u 33,u 34,u 35,u 36,u 37,u 38,u 39,u 40,u 41,u 42,u 43,u 44,u 45,u 46,u 47,u 48,u 49,u 50,u 51,u 52,u 53,u 54,u 55,u 56,u 57,u 58,u 59,u 60,u 61,u 62,u 63],defers:=[] }
theorem AxU.of (v0 v1 v2 v3 v4 v5 v6 v7 v8 v9 v10 v11 v12 v13 v14 v15 v16 v17 v18 v19 v20 v21 v22 v23 v24 v25 v26 v27 v28 v29 v30 v31 v32 v33 v34 v35 v36 v37 v38 v39 v40 v41 v42 v43 v44 v45 v46 v47 v48 v49 v50 v51 v52 v53 v54 v55 v56 v57 v58 v59 v60 v61 v62 v63:Value):AxU v11 v12 { tmps:=#[v0,v1,v2,v3,v4,v5,v6,v7,v8,v9,v10,v11,v12,v13,v14,v15,v16,v17,v18,v19,v20,v21,v22,v23,v24,v25,v26,v27,v28,v29,v30,v31,v32,v33,v34,v35,v36,v37,v38,v39,v40,v41,v42,v43,v44,v45,v46,v47,v48,v49,v50,v51,v52,v53,v54,v55,v56,v57,v58,v59,v60,v61,v62,v63],defers:=[] }:=
 ⟨fun i=>([v0,v1,v2,v3,v4,v5,v6,v7,v8,v9,v10,v11,v12,v13,v14,v15,v16,v17,v18,v19,v20,v21,v22,v23,v24,v25,v26,v27,v28,v29,v30,v31,v32,v33,v34,v35,v36,v37,v38,v39,v40,v41,v42,v43,v44,v45,v46,v47,v48,v49,v50,v51,v52,v53,v54,v55,v56,v57,v58,v59,v60,v61,v62,v63]:List Value).getD i undef,rfl⟩
namespace Sp
noncomputable def nextE (n:Net) (p:Int) (h:ByteArray):Int:=if checkE n p h=0 then entryV n p.toNat h else 0
noncomputable def nextS (n:Net) (p:Int) (h:ByteArray):List (Int × ByteArray):=if checkE n p h=0 then stV (movesV n p.toNat h) else []
theorem checkE_zero {n:Net} {p:Int} {h:ByteArray} (he:checkE n p h=0):NetOk n∧StateOk n p h:=by
 unfold checkE at he;by_cases h1:NetOk n
 ·rw [tb_yes h1,if_pos rfl] at he;by_cases h2:StateOk n p h
  ·exact⟨h1,h2⟩
  ·rw [tb_no h2] at he;simp at he
 ·rw [tb_no h1] at he;simp at he
end Sp
def NextEnd (n:Sp.Net) (p:Int) (h:ByteArray) (w:World) (r:Ending) (w':World):Prop:=
 ∃ v,r=.returned (.tuple #[.int .i64 (Sp.nextE n p h),v,.int .i64 (Sp.checkE n p h)])∧StR w' w.heap.size v (Sp.nextS n p h)∧Below w.heap.size w w'
theorem NextEnd.bad {n:Sp.Net} {p:Int} {h:ByteArray} {w w':World} {E:Int} (hE:Sp.checkE n p h=E) (hz:E≠0) (hb:Below w.heap.size w w'):NextEnd n p h w (.returned (.tuple #[.int .i64 0,.slice none 0 0,.int .i64 E])) w':=
 ⟨_,by unfold Sp.nextE;rw [hE,if_neg hz],by unfold Sp.nextS StR;rw [hE,if_neg hz];exact World.ownsRow_nil _ _ _ _,hb⟩
theorem StR.mono {w:World} {B B':Nat} {v:Value} {l:List (Int × ByteArray)} (h:StR w B v l) (hb:B'≤B):StR w B' v l:=by
 refine⟨h.1,?_⟩;rcases h.2 with h | ⟨g,cap,cur,h1,h2,h3⟩
 ·exact Or.inl h
 ·exact Or.inr ⟨g,cap,cur,h1,Nat.le_trans hb h2,h3⟩
theorem NextEnd.ok {n:Sp.Net} {p:Nat} {h:ByteArray} {w w':World} {ev:Int} {v:Value} {B:Nat} {l:List (Int × ByteArray)} (hE:Sp.checkE n (p:Int) h=0) (he:Sp.entryV n p h=ev) (hl:Sp.stV (Sp.movesV n p h)=l) (hB:w.heap.size≤B) (hr:StR w' B v l) (hb:Below w.heap.size w w'):NextEnd n (p:Int) h w (.returned (.tuple #[.int .i64 ev,v,.int .i64 0])) w':=
 ⟨v,by unfold Sp.nextE;rw [hE,if_pos rfl,Int.toNat_natCast,he],by unfold Sp.nextS;rw [hE,if_pos rfl,Int.toNat_natCast,hl];exact hr.mono hB,hb⟩
theorem row_of {W:World} {Bo:Nat} {v:Value} {l l':List (Int × ByteArray)} (h:StR W Bo v l) (hl:l'=l):W.ownsRow Bo 28 2 v l'.length (l'.flatMap stC):=by subst hl;exact h
namespace Sp
theorem stM_both {xe xo xi:Int} {xh:ByteArray} (h1:0≤xo) (h2:0≤xi):stM ⟨xe,xo,xi,xh⟩=[(xo,xh),(xi,xh)]:=by unfold stM;simp [h1,h2]
theorem stM_out {xe xo xi:Int} {xh:ByteArray} (h1:0≤xo) (h2:¬ 0≤xi):stM ⟨xe,xo,xi,xh⟩=[(xo,xh)]:=by unfold stM;simp [h1,h2]
theorem stM_in {xe xo xi:Int} {xh:ByteArray} (h1:¬ 0≤xo) (h2:0≤xi):stM ⟨xe,xo,xi,xh⟩=[(xi,xh)]:=by unfold stM;simp [h1,h2]
theorem stM_none {xe xo xi:Int} {xh:ByteArray} (h1:¬ 0≤xo) (h2:¬ 0≤xi):stM ⟨xe,xo,xi,xh⟩=[]:=by unfold stM;simp [h1,h2]
end Sp
theorem step_Next (n:Sp.Net) (A1 A2 A3:Option Addr) (c1 c2 c3:Nat) (p:Int) (h:ByteArray) (w:World) (hG:Gn w)
  (hnr:NetR w n [.int .i64 n.bits,.slice A1 n.ports.length c1,.slice A2 n.tables.length c2,.slice A3 n.guards.length c3]) (hsz:Sp.Szd n) (hh:h.size≤9223372036854775807):
  Calls Tryz.prog 34 #[.agg #[.int .i64 n.bits,.slice A1 n.ports.length c1,.slice A2 n.tables.length c2,.slice A3 n.guards.length c3],.agg #[.int .i64 p,.string h]] w (NextEnd n p h w):=by
 obtain⟨N,hN⟩:=nM w.heap.size;have hnet0:NetAt (w.alloc (.cells #[.int .i64 n.bits,.slice A1 n.ports.length c1,.slice A2 n.tables.length c2,.slice A3 n.guards.length c3] 26)) w.heap.size n:=net_box hnr 26;obtain⟨W2,hW2⟩:=nM ((w.alloc (.cells #[.int .i64 n.bits,.slice A1 n.ports.length c1,.slice A2 n.tables.length c2,.slice A3 n.guards.length c3] 26)).alloc (.cells #[.int .i64 p,.string h] 28));have hb2:Below N w W2:=by rw [← hW2,← hN];exact ((Below.refl _ _).alloc (Nat.le_refl _) _).alloc (by simp) _
 have hs2:W2.heap.size=N+2:=by rw [← hW2,← hN];simp
 have hnet2:NetAt W2 N n:=by rw [← hW2,← hN];exact hnet0.more ((Below.refl _ _).alloc (Nat.le_refl _) _)
 have hkS:Blk W2 (N+1) 28 #[.int .i64 p,.string h]:=by
  rw [← hW2,← hN];have:=Blk.new (w.alloc (.cells #[.int .i64 n.bits,.slice A1 n.ports.length c1,.slice A2 n.tables.length c2,.slice A3 n.guards.length c3] 26)) 28 #[.int .i64 p,.string h];rw [World.size_alloc] at this;exact this
 have x0:W2.cell? ⟨N+1,0,none⟩=some (.int .i64 p):=hkS.cell 0;have x1:W2.cell? ⟨N+1,1,none⟩=some (.string h):=hkS.cell 1;have hG2:Gn W2:=hG.below (by rw [← hN] at hb2;exact hb2);have hC:=step_check N n p h W2 hG2 hnet2 hsz hh;obtain⟨E,hE⟩:=nM (Sp.checkE n p h);rw [hE] at hC;obtain⟨b,hbi⟩:=nM n.bits;obtain⟨np,hnp⟩:=nM n.ports.length;obtain⟨nt,hnt⟩:=nM n.tables.length;obtain⟨ng,hng⟩:=nM n.guards.length;rw [hbi,hnp,hnt,hng] at hW2 ⊢;have HE:=hid hE;have HN:=hid hN;have HB2:=hid hb2;have HNET:=hid hnet2;have HKS:=hid hkS;have HC:=hid hC;have HS2:=hid hs2;have HNP:=hid hnp;clear hE hb2 hnet2 hkS hC hs2 hnet0 hnr hG hG2 hbi hnp hnt hng hsz;refine (callsIn_wide (n:=9)).1 ?_;refine callsIn_of_wp_marks Tryz.func34 rfl trivial ?_ rfl;simp only [Tryz.ntmps34,List.size_toArray,List.length_cons,List.length_nil,Nat.reduceAdd,Nat.reduceSub,Array.replicate_succ,Array.replicate_zero,List.push_toArray,List.append_toArray,List.nil_append,List.cons_append];by_cases hz:E=0
 case neg=>
  have te:(E != 0)=true:=bne_iff_ne.2 hz;have HZ:=hid hz;clear hz;gi_wp2;refine⟨trivial,?_⟩;refine (callsIn_wide.2 HC.out).mono ?_;rintro e W3 ⟨rfl,hb3⟩;have HB3:=hid (HB2.out.trans (hb3.mono (by have:=HS2.out;omega)));clear hb3;gi_wp2;exact⟨_,results_tmp3 rfl _ _ _,NextEnd.bad HE.out HZ.out (by rw [HN.out];exact HB3.out)⟩
 subst hz;have te:((0:Int) != 0)=false:=rfl
 obtain⟨HOK,HST⟩:Hid (Sp.NetOk n)∧Hid (Sp.StateOk n p h):=⟨hid (Sp.checkE_zero HE.out).1,hid (Sp.checkE_zero HE.out).2⟩
 obtain⟨pn,rfl⟩:∃ k:Nat,p=k:=⟨p.toNat,by have:=HST.out.port;omega⟩
 gi_wp2;refine⟨trivial,?_⟩;refine (callsIn_wide.2 HC.out).mono ?_;rintro e W3 ⟨rfl,hb3⟩;clear HC hW2 x0 x1;have HNET3:=hid (HNET.out.more hb3);have hkS3:=HKS.out.below hb3 HKS.out.lt;have HKS3:=hid hkS3;have HB3:=hid (HB2.out.trans (hb3.mono (by have:=HS2.out;omega)));have HS3:=hid (show N+2≤W3.heap.size by have:=HS2.out;have:=hb3.size;omega);have y0:W3.cell? ⟨N+1,0,none⟩=some (.int .i64 (pn:Int)):=hkS3.cell 0;have y1:W3.cell? ⟨N+1,1,none⟩=some (.string h):=hkS3.cell 1;clear hb3 hkS3 HNET HKS;obtain⟨q,hq⟩:=Sp.port_at HST.out;rw [Int.toNat_natCast] at hq;obtain⟨B1,d1,B2,d2,B3,d3,hNl,n0,n1,n2,n3,hpv,_⟩:=HNET3.out.at;obtain⟨gq,oq,rfl,hgq,k0,k1,k2,k3⟩:=hpv.at hq;have hpl:pn<np:=by have:=(List.getElem?_eq_some_iff.1 hq).1;have:=HNP.out;omega
 have hnp2:=HNP.out;rw [hnp2] at n1;have h48:np≤48:=by have:=HOK.out.nports;omega
 have p0:(0:Int)≤(pn:Int):=by omega
 have p1:(pn:Int)<(np:Int):=by omega
 have HQ:=hid hq;clear hpv hq hnp2 n0 n2 n3;by_cases hin:q.inn=false
 case pos=>
  obtain⟨qn,qb,qi,qd⟩:=q;simp only [] at hin k0 k1 k2 k3;subst hin;have HEV:Hid (Sp.entryV n pn h=-1):=hid (by unfold Sp.entryV;rw [HQ.out];rfl);obtain⟨V,hV⟩:=nM (W3.alloc (.cells #[.string qn,.int .i64 qb,.bool false,.int .i64 qd] 85));have hv3:Below W3.heap.size W3 V:=by rw [← hV];exact (Below.refl _ _).alloc (Nat.le_refl _) _
  have hvk:Blk V W3.heap.size 85 #[.string qn,.int .i64 qb,.bool false,.int .i64 qd]:=by rw [← hV];exact Blk.new _ _ _
  have v2:V.cell? ⟨W3.heap.size,2,none⟩=some (.bool false):=hvk.cell 2;have HNV:=hid (HNET3.out.more hv3);have HBV:=hid (HB3.out.trans (hv3.mono (by have:=HS3.out;omega)));have HSV:=hid (show N+2≤V.heap.size by have:=HS3.out;have:=hv3.size;omega);obtain⟨VL,hVL⟩:=nM (V.alloc (.cells #[.slice none 0 0] 53));have hvl:Below V.heap.size V VL:=by rw [← hVL];exact (Below.refl _ _).alloc (Nat.le_refl _) _
  have vy0:=(hvl.cell (p:=⟨N+1,0,none⟩) (by have:=HSV.out;show N+1<_;omega)).trans ((hv3.cell (p:=⟨N+1,0,none⟩) (by have:=HS3.out;show N+1<_;omega)).trans y0);have vy1:=(hvl.cell (p:=⟨N+1,1,none⟩) (by have:=HSV.out;show N+1<_;omega)).trans ((hv3.cell (p:=⟨N+1,1,none⟩) (by have:=HS3.out;show N+1<_;omega)).trans y1);clear hv3 hvk hvl;gi_wp2;clear hV v2 vy0 vy1;rw [← hVL];clear hVL;refine⟨trivial,?_⟩;refine (step_moves _ N pn h _).mono ?_;rintro e w' ⟨rfl,rfl⟩;obtain⟨Bo,hBo⟩:=nM V.heap.size;obtain⟨W6,hW6⟩:=nM (((V.alloc (.cells #[.slice none 0 0] 53)).alloc (.cells #[.pointer (some ⟨N,0,none⟩)] 69)).alloc (.cells #[.int .i64 (pn:Int),.string h] 28));have bO:Boxed W6 Bo 53 (.slice none 0 0):=by rw [← hW6,← hBo];exact ((Boxed.new V _ _).alloc _).alloc _
  have bN:Blk W6 (Bo+1) 69 #[.pointer (some ⟨N,0,none⟩)]:=by rw [← hW6,← hBo];have:=(Blk.new (V.alloc (.cells #[.slice none 0 0] 53)) 69 #[.pointer (some ⟨N,0,none⟩)]).alloc (.cells #[.int .i64 (pn:Int),.string h] 28);rw [World.size_alloc] at this;exact this
  have bS:Blk W6 (Bo+1+1) 28 #[.int .i64 (pn:Int),.string h]:=by rw [← hW6,← hBo];have:=Blk.new ((V.alloc (.cells #[.slice none 0 0] 53)).alloc (.cells #[.pointer (some ⟨N,0,none⟩)] 69)) 28 #[.int .i64 (pn:Int),.string h];rw [World.size_alloc,World.size_alloc] at this;exact this
  have hb6:Below V.heap.size V W6:=by rw [← hW6];exact (((Below.refl _ _).alloc (Nat.le_refl _) _).alloc (by simp) _).alloc (by simp;omega) _
  have hs6:W6.heap.size=Bo+3:=by rw [← hW6,← hBo];simp
  have HST6:=hid (moves_stops 8 N (Bo+1) (Bo+1+1) Bo n pn h (Sp.mvOk_of HOK.out HST.out) V W6 (by omega) HNV.out hb6 (by omega) (by omega) (by omega) (by omega) (by rw [rowAt_box bO];rfl) (bN.cell 0) (bS.cell 0) (bS.cell 1));have HLEN:=hid (Sp.movesV_len HOK.out HST.out);gi_wp2;have hst6:=HST6.out;rw [hBo] at hst6 hb6;clear HST6 hW6
  refine wpIn_rangeFunc_ownH rfl (by omega) (gf:=47) (lb:=#[.pointer (some ⟨Bo+1,0,none⟩),.pointer (some ⟨Bo+1+1,0,none⟩)]) rfl trivial (enters_of Tryz.func47 (by kernel_rfl) rfl)
   hst6 SaveRow.trans (SaveRow.book (by omega) (by omega)) (Below.refl _ _) (fun _=>rfl)
   (fun pre W=>(∃ v,Boxed W Bo 53 v∧W.ownsRow Bo 28 2 v (Sp.stV pre).length ((Sp.stV pre).flatMap stC)∧Hid True)∧Below Bo V W)
   (fun _ _ _=>False)
   (OwnFrom.and (Own.from (holdsRow_own Bo Bo 53 28 2 (fun pre=>(Sp.stV pre).length) (fun pre=>(Sp.stV pre).flatMap stC) (fun _ _=>Hid True)) _) (ownFrom_below (by omega) (by omega)))
   (fun _ _ _ _ _ hs _ _=>hs)
   ⟨⟨_,bO,World.ownsRow_nil _ _ _ _,hid trivial⟩,hb6⟩
   (fun x a' W=>∃ Bx,Bo<Bx∧Blk W Bx 77 #[.int .i64 x.entry,.int .i64 x.out,.int .i64 x.inn,.string x.header]∧AxU (.pointer (some ⟨Bo,0,none⟩)) (.pointer (some ⟨Bx,0,none⟩)) a')
   (fun x a' _ X Y row hs hg hr=>by obtain⟨Bx,h1,h2,h3⟩:=hs;exact⟨Bx,h1,h2.grown hg (fun e=>by obtain⟨_,o,ho,hc⟩:=hr Bx e.symm;rw [show X.heap[Bx]?=_ from h2] at ho;cases ho;cases hc),h3⟩)
   ?assign ?body ?done ?stop
  case assign=>
   rintro l pre ⟨xe,xo,xi,xh⟩ W K ⟨⟨v,hv,hrow,_⟩,hB⟩ hK;dsimp only [mvC];gi_wp2;exact hK _ _ ((KeepsOthers.alloc _ _).from _) (SaveRow.of_below ((Below.refl _ W).alloc (Nat.le_refl _) _) (by have:=hB.size;omega) hv.lt) ⟨⟨v,hv.alloc _,World.ownsRow.alloc hrow _,hid trivial⟩,hB.alloc (by have:=hB.size;omega) _⟩ ⟨W.heap.size,hv.lt,Blk.new _ _ _,AxU.of _ _ _ _ _ _ _ _ _ _ _ _ _ _ _ _ _ _ _ _ _ _ _ _ _ _ _ _ _ _ _ _ _ _ _ _ _ _ _ _ _ _ _ _ _ _ _ _ _ _ _ _ _ _ _ _ _ _ _ _ _ _ _ _⟩
  case body=>
   rintro l pre ⟨xe,xo,xi,xh⟩ a' W hl _ ⟨⟨v,hv,hrow,_⟩,hB⟩ ⟨Bx,hBx,hk,u,rfl⟩ hlt;(have hln:(Sp.stV pre).length≤1000:=by have:=Sp.stV_len pre;have:=HLEN.out;omega);have hrow':StR W Bo v (Sp.stV pre):=hrow;have hk':Blk W Bx 77 #[.int .i64 xe,.int .i64 xo,.int .i64 xi,.string xh]:=hk;have hsz:=hB.size;(have hsB:Bo≤W.heap.size:=by omega);have e1:W.cell? ⟨Bx,1,none⟩=some (.int .i64 xo):=hk'.cell 1;have e2:W.cell? ⟨Bx,2,none⟩=some (.int .i64 xi):=hk'.cell 2;have e3:W.cell? ⟨Bx,3,none⟩=some (.string xh):=hk'.cell 3;have c0:=hv.cell;have HV:=hid hv;have HR:=hid hrow';have HBK:=hid hk';have HSB:=hid hsB;have HNE:=hid (show Bx≠Bo by omega);have HBB:=hid hB;have HLN:=hid hln;clear hv hrow hrow' hk hk' hsz hsB hB hBx hlt hl hln hst6 hb6 bO bN bS hs6 hBo n1 k0 k1 k2 k3 p0 p1 hpl h48 y0 y1 hgq hNl te;by_cases ho:0≤xo
   ·have t1:decide (xo ≥ 0)=true:=decide_eq_true ho;have HO:=hid ho;clear ho;by_cases hi:0≤xi
    ·have t2:decide (xi ≥ 0)=true:=decide_eq_true hi;have HI:=hid hi;clear hi
     gi_wp2_with (first
      | (gi_at_builtin;have _t:=HE1;(refine st_append Wa rfl _ _ rfl Bo Bo (.slice (some ⟨g1,0,none⟩) k1 cap1) (Sp.stV pre ++ [(xo,xh)]) (xi,xh) rfl rfl HE1.out.box HE1.out.row HSA.out (Nat.le_refl _) (by rw [List.length_append];have:=HLN.out;simp;omega) ?_);intro g2 cap2 w2 hb2 hE2;have hc2:=hb2.cell;have hf2:=hb2.frozen;rw [show (Sp.stV pre ++ [(xo,xh)]).length=k1 by rw [List.length_append];exact hk1] at hE2;have HE2:=hid hE2;clear hb2 hE2)
      | (gi_at_builtin;refine st_append W rfl _ _ rfl Bo Bo v (Sp.stV pre) (xo,xh) rfl rfl HV.out HR.out HSB.out (Nat.le_refl _) (by have:=HLN.out;omega) ?_;intro g1 cap1 w1 hb1 hE1;have hc1:=hb1.cell;have hf1:=hb1.frozen;obtain⟨k1,hk1⟩:=nM ((Sp.stV pre).length+1);rw [hk1] at hE1;obtain⟨Wa,hWa⟩:=nM (w1.setCell ⟨Bo,0,none⟩ (.slice (some ⟨g1,0,none⟩) k1 cap1));rw [hWa] at hE1;have HE1:=hid hE1;have hka:=hE1.blk (by decide) HV.out HR.out HBK.out HNE.out;have a2:Wa.cell? ⟨Bx,2,none⟩=some (.int .i64 xi):=hka.cell 2;have a3:Wa.cell? ⟨Bx,3,none⟩=some (.string xh):=hka.cell 3;have a0:=hE1.box.cell;have HSA:=hid (Nat.le_trans HSB.out hE1.below.size);clear hka hE1 hb1))
     exact⟨(HE1.out.others.trans HE2.out.others).from _,HE1.out.save.trans HE2.out.save,⟨⟨_,HE2.out.box,row_of HE2.out.row (by rw [Sp.stV_snoc,Sp.stM_both (by have:=HO.out;omega) (by have:=HI.out;omega)];simp),hid trivial⟩,(HBB.out.trans HE1.out.below).trans HE2.out.below⟩⟩
    ·have t2:decide (xi ≥ 0)=false:=decide_eq_false hi;have HI:=hid hi;clear hi
     gi_wp2_with (gi_at_builtin;refine st_append W rfl _ _ rfl Bo Bo v (Sp.stV pre) (xo,xh) rfl rfl HV.out HR.out HSB.out (Nat.le_refl _) (by have:=HLN.out;omega) ?_;intro g1 cap1 w1 hb1 hE1;have hc1:=hb1.cell;have hf1:=hb1.frozen;obtain⟨k1,hk1⟩:=nM ((Sp.stV pre).length+1);rw [hk1] at hE1;obtain⟨Wa,hWa⟩:=nM (w1.setCell ⟨Bo,0,none⟩ (.slice (some ⟨g1,0,none⟩) k1 cap1));rw [hWa] at hE1;have HE1:=hid hE1;have hka:=hE1.blk (by decide) HV.out HR.out HBK.out HNE.out;have a2:Wa.cell? ⟨Bx,2,none⟩=some (.int .i64 xi):=hka.cell 2;have a3:Wa.cell? ⟨Bx,3,none⟩=some (.string xh):=hka.cell 3;have a0:=hE1.box.cell;clear hka hE1 hb1)
     exact⟨HE1.out.others.from _,HE1.out.save,⟨⟨_,HE1.out.box,row_of HE1.out.row (by rw [Sp.stV_snoc,Sp.stM_out (by have:=HO.out;omega) (by have:=HI.out;omega)])⟩,HBB.out.trans HE1.out.below⟩⟩
   ·have t1:decide (xo ≥ 0)=false:=decide_eq_false ho;have HO:=hid ho;clear ho;by_cases hi:0≤xi
    ·have t2:decide (xi ≥ 0)=true:=decide_eq_true hi;have HI:=hid hi;clear hi
     gi_wp2_with (gi_at_builtin;refine st_append W rfl _ _ rfl Bo Bo v (Sp.stV pre) (xi,xh) rfl rfl HV.out HR.out HSB.out (Nat.le_refl _) (by have:=HLN.out;omega) ?_;intro g1 cap1 w1 hb1 hE1;have hc1:=hb1.cell;have hf1:=hb1.frozen;obtain⟨k1,hk1⟩:=nM ((Sp.stV pre).length+1);rw [hk1] at hE1;obtain⟨Wa,hWa⟩:=nM (w1.setCell ⟨Bo,0,none⟩ (.slice (some ⟨g1,0,none⟩) k1 cap1));rw [hWa] at hE1;have HE1:=hid hE1;clear hE1 hb1)
     exact⟨HE1.out.others.from _,HE1.out.save,⟨⟨_,HE1.out.box,row_of HE1.out.row (by rw [Sp.stV_snoc,Sp.stM_in (by have:=HO.out;omega) (by have:=HI.out;omega)])⟩,HBB.out.trans HE1.out.below⟩⟩
    ·have t2:decide (xi ≥ 0)=false:=decide_eq_false hi;have HI:=hid hi;clear hi;gi_wp2;exact⟨KeepsFrom.refl _ _,⟨Below.refl _ _,.inl rfl,fun _ _ _ ho _ _=>ho⟩,⟨⟨v,HV.out,row_of HR.out (by rw [Sp.stV_snoc,Sp.stM_none (by have:=HO.out;omega) (by have:=HI.out;omega),List.append_nil])⟩,HBB.out⟩⟩
  case done=>
   rintro D ys W hD rfl ⟨⟨v,hv,hrow,_⟩,hB⟩ hK;have hc:=hv.cell;have HR:Hid (StR W Bo v (Sp.stV (Sp.movesV n pn h))):=hid hrow;have HBB:=hid hB;have HDD:=hid hD;clear hv hrow hB hD hst6 hb6 bO bN bS n1 k0 k1 k2 k3 p0 p1 hpl h48 y0 y1 hgq hNl te;gi_wp2;gi_region;gi_wp2;(have hDN:w.heap.size≤D:=by have:=HDD.out;have:=HSV.out;omega);refine⟨by simp,.inl ⟨_,_,rfl,run_takeDeferred (show W.drew.heap[D]?=some (.deferred (some [])) from hK),?_⟩⟩
   exact⟨_,results_tmp3 rfl _ _ _,NextEnd.ok (B:=Bo) HE.out HEV.out rfl (by have:=HSV.out;omega) (ownsRow_putObj (show W.drew.ownsRow _ _ _ _ _ _ from HR.out) _ (show W.drew.heap[D]?=some (.deferred (some [])) from hK) rfl)
    (by rw [hN];exact ((HBV.out.trans (HBB.out.mono (by have:=HSV.out;omega))).drew.trans ((belowK_b (w:=w) (Nat.le_refl _) W.drew D _ _ hDN (show W.drew.heap[D]?=some (.deferred (some [])) from hK) rfl rfl).mono (by omega))))⟩
  case stop=>
   rintro D c pre W _ _ h _;exact h.elim
 case neg=>
  have hit:q.inn=true:=by simpa using hin
  obtain⟨g,t,hok⟩:=Sp.inOk_of HOK.out HST.out HQ.out hit;obtain⟨qn,qb,qi,qd⟩:=q;simp only [] at hit k0 k1 k2 k3;subst hit;clear hin
  obtain⟨qk,rfl⟩:∃ k:Nat,qb=k:=⟨qb.toNat,by have:=hok.hb;simp only [] at this;omega⟩
  have HIN:=hid hok;clear hok
  obtain⟨V1,hV⟩:∃ V,W3.alloc (.cells #[.string qn,.int .i64 (qk:Int),.bool true,.int .i64 qd] 85)=V:=⟨_,rfl⟩
  have hv3:Below W3.heap.size W3 V1:=by rw [← hV];exact (Below.refl _ _).alloc (Nat.le_refl _) _
  have hvk:Blk V1 W3.heap.size 85 #[.string qn,.int .i64 (qk:Int),.bool true,.int .i64 qd]:=by rw [← hV];exact Blk.new _ _ _
  have v2:V1.cell? ⟨W3.heap.size,2,none⟩=some (.bool true):=hvk.cell 2;have HVK:=hid hvk;have HNV1:=hid (HNET3.out.more hv3);have HBV1:=hid (HB3.out.trans (hv3.mono (by have:=HS3.out;omega)));have HSV1:=hid (show N+2≤V1.heap.size by have:=HS3.out;have:=hv3.size;omega);have vy0:=(hv3.cell (p:=⟨N+1,0,none⟩) (by have:=HS3.out;show N+1<_;omega)).trans y0;have vy1:=(hv3.cell (p:=⟨N+1,1,none⟩) (by have:=HS3.out;show N+1<_;omega)).trans y1;clear hv3 hvk;gi_wp2;refine⟨trivial,?_⟩;refine (callsIn_wide.2 (step_fit N n pn ⟨qn,qk,true,qd⟩ g t h V1 HNV1.out HIN.out.hg HIN.out.hq HIN.out.hb HIN.out.ht HIN.out.hf HIN.out.hft HIN.out.htl HIN.out.hp HIN.out.hpp HIN.out.htt HIN.out.hh)).mono ?_;rintro e V2 ⟨rfl,hbf⟩;have HNV2:=hid (HNV1.out.more hbf);have HBV2:=hid (HBV1.out.trans (hbf.mono (by have:=HSV1.out;omega)));have HSV2:=hid (show N+2≤V2.heap.size by have:=HSV1.out;have:=hbf.size;omega);have wy0:=(hbf.cell (p:=⟨N+1,0,none⟩) (by have:=HSV1.out;show N+1<_;omega)).trans vy0;have wy1:=(hbf.cell (p:=⟨N+1,1,none⟩) (by have:=HSV1.out;show N+1<_;omega)).trans vy1;have w2:V2.cell? ⟨W3.heap.size,1,none⟩=some (.int .i64 (qk:Int)):=(HVK.out.below hbf HVK.out.lt).cell 1;clear hbf vy0 vy1 v2 hV;obtain⟨f,hf⟩:=nM (Sp.fitN n pn h);rw [hf];have HF:=hid hf;clear hf;by_cases hf0:0≤f
  case neg=>
   have t5:decide (f ≥ 0)=false:=decide_eq_false hf0;have HEV:Hid (Sp.entryV n pn h=-1):=hid (by unfold Sp.entryV;rw [HQ.out];simp only [];rw [if_neg (by decide),if_pos (by rw [HF.out];omega)])
   obtain⟨V,rfl⟩:∃ V,V=V2:=⟨_,rfl⟩
   have HNV:=HNV2;have HBV:=HBV2;have HSV:=HSV2;obtain⟨VL,hVL⟩:=nM (V.alloc (.cells #[.slice none 0 0] 53));(have hvl:Below V.heap.size V VL:=by rw [← hVL];exact (Below.refl _ _).alloc (Nat.le_refl _) _);have vy0:=(hvl.cell (p:=⟨N+1,0,none⟩) (by have:=HSV.out;show N+1<_;omega)).trans wy0;have vy1:=(hvl.cell (p:=⟨N+1,1,none⟩) (by have:=HSV.out;show N+1<_;omega)).trans wy1;clear hvl;gi_wp2;clear t5 wy0 wy1 w2 vy0 vy1;rw [← hVL];clear hVL;refine⟨trivial,?_⟩;refine (step_moves _ N pn h _).mono ?_;rintro e w' ⟨rfl,rfl⟩;obtain⟨Bo,hBo⟩:=nM V.heap.size;obtain⟨W6,hW6⟩:=nM (((V.alloc (.cells #[.slice none 0 0] 53)).alloc (.cells #[.pointer (some ⟨N,0,none⟩)] 69)).alloc (.cells #[.int .i64 (pn:Int),.string h] 28));(have bO:Boxed W6 Bo 53 (.slice none 0 0):=by rw [← hW6,← hBo];exact ((Boxed.new V _ _).alloc _).alloc _);(have bN:Blk W6 (Bo+1) 69 #[.pointer (some ⟨N,0,none⟩)]:=by rw [← hW6,← hBo];have:=(Blk.new (V.alloc (.cells #[.slice none 0 0] 53)) 69 #[.pointer (some ⟨N,0,none⟩)]).alloc (.cells #[.int .i64 (pn:Int),.string h] 28);rw [World.size_alloc] at this;exact this);(have bS:Blk W6 (Bo+1+1) 28 #[.int .i64 (pn:Int),.string h]:=by rw [← hW6,← hBo];have:=Blk.new ((V.alloc (.cells #[.slice none 0 0] 53)).alloc (.cells #[.pointer (some ⟨N,0,none⟩)] 69)) 28 #[.int .i64 (pn:Int),.string h];rw [World.size_alloc,World.size_alloc] at this;exact this);(have hb6:Below V.heap.size V W6:=by rw [← hW6];exact (((Below.refl _ _).alloc (Nat.le_refl _) _).alloc (by simp) _).alloc (by simp;omega) _);(have hs6:W6.heap.size=Bo+3:=by rw [← hW6,← hBo];simp);have HST6:=hid (moves_stops 8 N (Bo+1) (Bo+1+1) Bo n pn h (Sp.mvOk_of HOK.out HST.out) V W6 (by omega) HNV.out hb6 (by omega) (by omega) (by omega) (by omega) (by rw [rowAt_box bO];rfl) (bN.cell 0) (bS.cell 0) (bS.cell 1));have HLEN:=hid (Sp.movesV_len HOK.out HST.out);gi_wp2;have hst6:=HST6.out;rw [hBo] at hst6 hb6;clear HST6 hW6
   refine wpIn_rangeFunc_ownH rfl (by omega) (gf:=47) (lb:=#[.pointer (some ⟨Bo+1,0,none⟩),.pointer (some ⟨Bo+1+1,0,none⟩)]) rfl trivial (enters_of Tryz.func47 (by kernel_rfl) rfl)
    hst6 SaveRow.trans (SaveRow.book (by omega) (by omega)) (Below.refl _ _) (fun _=>rfl)
    (fun pre W=>(∃ v,Boxed W Bo 53 v∧W.ownsRow Bo 28 2 v (Sp.stV pre).length ((Sp.stV pre).flatMap stC)∧Hid True)∧Below Bo V W)
    (fun _ _ _=>False)
    (OwnFrom.and (Own.from (holdsRow_own Bo Bo 53 28 2 (fun pre=>(Sp.stV pre).length) (fun pre=>(Sp.stV pre).flatMap stC) (fun _ _=>Hid True)) _) (ownFrom_below (by omega) (by omega)))
    (fun _ _ _ _ _ hs _ _=>hs)
    ⟨⟨_,bO,World.ownsRow_nil _ _ _ _,hid trivial⟩,hb6⟩
    (fun x a' W=>∃ Bx,Bo<Bx∧Blk W Bx 77 #[.int .i64 x.entry,.int .i64 x.out,.int .i64 x.inn,.string x.header]∧AxU (.pointer (some ⟨Bo,0,none⟩)) (.pointer (some ⟨Bx,0,none⟩)) a')
    (fun x a' _ X Y row hs hg hr=>by obtain⟨Bx,h1,h2,h3⟩:=hs;exact⟨Bx,h1,h2.grown hg (fun e=>by obtain⟨_,o,ho,hc⟩:=hr Bx e.symm;rw [show X.heap[Bx]?=_ from h2] at ho;cases ho;cases hc),h3⟩)
    ?assign ?body ?done ?stop
   case assign=>
    rintro l pre ⟨xe,xo,xi,xh⟩ W K ⟨⟨v,hv,hrow,_⟩,hB⟩ hK;dsimp only [mvC];gi_wp2;exact hK _ _ ((KeepsOthers.alloc _ _).from _) (SaveRow.of_below ((Below.refl _ W).alloc (Nat.le_refl _) _) (by have:=hB.size;omega) hv.lt) ⟨⟨v,hv.alloc _,World.ownsRow.alloc hrow _,hid trivial⟩,hB.alloc (by have:=hB.size;omega) _⟩ ⟨W.heap.size,hv.lt,Blk.new _ _ _,AxU.of _ _ _ _ _ _ _ _ _ _ _ _ _ _ _ _ _ _ _ _ _ _ _ _ _ _ _ _ _ _ _ _ _ _ _ _ _ _ _ _ _ _ _ _ _ _ _ _ _ _ _ _ _ _ _ _ _ _ _ _ _ _ _ _⟩
   case body=>
    rintro l pre ⟨xe,xo,xi,xh⟩ a' W hl _ ⟨⟨v,hv,hrow,_⟩,hB⟩ ⟨Bx,hBx,hk,u,rfl⟩ hlt;(have hln:(Sp.stV pre).length≤1000:=by have:=Sp.stV_len pre;have:=HLEN.out;omega);have hrow':StR W Bo v (Sp.stV pre):=hrow;have hk':Blk W Bx 77 #[.int .i64 xe,.int .i64 xo,.int .i64 xi,.string xh]:=hk;have hsz:=hB.size;(have hsB:Bo≤W.heap.size:=by omega);have e1:W.cell? ⟨Bx,1,none⟩=some (.int .i64 xo):=hk'.cell 1;have e2:W.cell? ⟨Bx,2,none⟩=some (.int .i64 xi):=hk'.cell 2;have e3:W.cell? ⟨Bx,3,none⟩=some (.string xh):=hk'.cell 3;have c0:=hv.cell;have HV:=hid hv;have HR:=hid hrow';have HBK:=hid hk';have HSB:=hid hsB;have HNE:=hid (show Bx≠Bo by omega);have HBB:=hid hB;have HLN:=hid hln;clear hv hrow hrow' hk hk' hsz hsB hB hBx hlt hl hln hst6 hb6 bO bN bS hs6 hBo n1 k0 k1 k2 k3 p0 p1 hpl h48 y0 y1 hgq hNl te;by_cases ho:0≤xo
    ·have t1:decide (xo ≥ 0)=true:=decide_eq_true ho;have HO:=hid ho;clear ho;by_cases hi:0≤xi
     ·have t2:decide (xi ≥ 0)=true:=decide_eq_true hi;have HI:=hid hi;clear hi
      gi_wp2_with (first
       | (gi_at_builtin;have _t:=HE1;(refine st_append Wa rfl _ _ rfl Bo Bo (.slice (some ⟨g1,0,none⟩) k1 cap1) (Sp.stV pre ++ [(xo,xh)]) (xi,xh) rfl rfl HE1.out.box HE1.out.row HSA.out (Nat.le_refl _) (by rw [List.length_append];have:=HLN.out;simp;omega) ?_);intro g2 cap2 w2 hb2 hE2;have hc2:=hb2.cell;have hf2:=hb2.frozen;rw [show (Sp.stV pre ++ [(xo,xh)]).length=k1 by rw [List.length_append];exact hk1] at hE2;have HE2:=hid hE2;clear hb2 hE2)
       | (gi_at_builtin;refine st_append W rfl _ _ rfl Bo Bo v (Sp.stV pre) (xo,xh) rfl rfl HV.out HR.out HSB.out (Nat.le_refl _) (by have:=HLN.out;omega) ?_;intro g1 cap1 w1 hb1 hE1;have hc1:=hb1.cell;have hf1:=hb1.frozen;obtain⟨k1,hk1⟩:=nM ((Sp.stV pre).length+1);rw [hk1] at hE1;obtain⟨Wa,hWa⟩:=nM (w1.setCell ⟨Bo,0,none⟩ (.slice (some ⟨g1,0,none⟩) k1 cap1));rw [hWa] at hE1;have HE1:=hid hE1;have hka:=hE1.blk (by decide) HV.out HR.out HBK.out HNE.out;have a2:Wa.cell? ⟨Bx,2,none⟩=some (.int .i64 xi):=hka.cell 2;have a3:Wa.cell? ⟨Bx,3,none⟩=some (.string xh):=hka.cell 3;have a0:=hE1.box.cell;have HSA:=hid (Nat.le_trans HSB.out hE1.below.size);clear hka hE1 hb1))
      exact⟨(HE1.out.others.trans HE2.out.others).from _,HE1.out.save.trans HE2.out.save,⟨⟨_,HE2.out.box,row_of HE2.out.row (by rw [Sp.stV_snoc,Sp.stM_both (by have:=HO.out;omega) (by have:=HI.out;omega)];simp),hid trivial⟩,(HBB.out.trans HE1.out.below).trans HE2.out.below⟩⟩
     ·have t2:decide (xi ≥ 0)=false:=decide_eq_false hi;have HI:=hid hi;clear hi
      gi_wp2_with (gi_at_builtin;refine st_append W rfl _ _ rfl Bo Bo v (Sp.stV pre) (xo,xh) rfl rfl HV.out HR.out HSB.out (Nat.le_refl _) (by have:=HLN.out;omega) ?_;intro g1 cap1 w1 hb1 hE1;have hc1:=hb1.cell;have hf1:=hb1.frozen;obtain⟨k1,hk1⟩:=nM ((Sp.stV pre).length+1);rw [hk1] at hE1;obtain⟨Wa,hWa⟩:=nM (w1.setCell ⟨Bo,0,none⟩ (.slice (some ⟨g1,0,none⟩) k1 cap1));rw [hWa] at hE1;have HE1:=hid hE1;have hka:=hE1.blk (by decide) HV.out HR.out HBK.out HNE.out;have a2:Wa.cell? ⟨Bx,2,none⟩=some (.int .i64 xi):=hka.cell 2;have a3:Wa.cell? ⟨Bx,3,none⟩=some (.string xh):=hka.cell 3;have a0:=hE1.box.cell;clear hka hE1 hb1)
      exact⟨HE1.out.others.from _,HE1.out.save,⟨⟨_,HE1.out.box,row_of HE1.out.row (by rw [Sp.stV_snoc,Sp.stM_out (by have:=HO.out;omega) (by have:=HI.out;omega)])⟩,HBB.out.trans HE1.out.below⟩⟩
    ·have t1:decide (xo ≥ 0)=false:=decide_eq_false ho;have HO:=hid ho;clear ho;by_cases hi:0≤xi
     ·have t2:decide (xi ≥ 0)=true:=decide_eq_true hi;have HI:=hid hi;clear hi
      gi_wp2_with (gi_at_builtin;refine st_append W rfl _ _ rfl Bo Bo v (Sp.stV pre) (xi,xh) rfl rfl HV.out HR.out HSB.out (Nat.le_refl _) (by have:=HLN.out;omega) ?_;intro g1 cap1 w1 hb1 hE1;have hc1:=hb1.cell;have hf1:=hb1.frozen;obtain⟨k1,hk1⟩:=nM ((Sp.stV pre).length+1);rw [hk1] at hE1;obtain⟨Wa,hWa⟩:=nM (w1.setCell ⟨Bo,0,none⟩ (.slice (some ⟨g1,0,none⟩) k1 cap1));rw [hWa] at hE1;have HE1:=hid hE1;clear hE1 hb1)
      exact⟨HE1.out.others.from _,HE1.out.save,⟨⟨_,HE1.out.box,row_of HE1.out.row (by rw [Sp.stV_snoc,Sp.stM_in (by have:=HO.out;omega) (by have:=HI.out;omega)])⟩,HBB.out.trans HE1.out.below⟩⟩
     ·have t2:decide (xi ≥ 0)=false:=decide_eq_false hi;have HI:=hid hi;clear hi;gi_wp2;exact⟨KeepsFrom.refl _ _,⟨Below.refl _ _,.inl rfl,fun _ _ _ ho _ _=>ho⟩,⟨⟨v,HV.out,row_of HR.out (by rw [Sp.stV_snoc,Sp.stM_none (by have:=HO.out;omega) (by have:=HI.out;omega),List.append_nil])⟩,HBB.out⟩⟩
   case done=>
    rintro D ys W hD rfl ⟨⟨v,hv,hrow,_⟩,hB⟩ hK;have hc:=hv.cell;have HR:Hid (StR W Bo v (Sp.stV (Sp.movesV n pn h))):=hid hrow;have HBB:=hid hB;have HDD:=hid hD;clear hv hrow hB hD hst6 hb6 bO bN bS n1 k0 k1 k2 k3 p0 p1 hpl h48 y0 y1 hgq hNl te;gi_wp2;gi_region;gi_wp2;(have hDN:w.heap.size≤D:=by have:=HDD.out;have:=HSV.out;omega);refine⟨by simp,.inl ⟨_,_,rfl,run_takeDeferred (show W.drew.heap[D]?=some (.deferred (some [])) from hK),?_⟩⟩
    exact⟨_,results_tmp3 rfl _ _ _,NextEnd.ok (B:=Bo) HE.out HEV.out rfl (by have:=HSV.out;omega) (ownsRow_putObj (show W.drew.ownsRow _ _ _ _ _ _ from HR.out) _ (show W.drew.heap[D]?=some (.deferred (some [])) from hK) rfl)
     (by rw [hN];exact ((HBV.out.trans (HBB.out.mono (by have:=HSV.out;omega))).drew.trans ((belowK_b (w:=w) (Nat.le_refl _) W.drew D _ _ hDN (show W.drew.heap[D]?=some (.deferred (some [])) from hK) rfl rfl).mono (by omega))))⟩
   case stop=>
    rintro D c pre W _ _ h _;exact h.elim
  case pos=>
   have t5:decide (f ≥ 0)=true:=decide_eq_true hf0
   obtain⟨fk,rfl⟩:∃ k:Nat,f=k:=⟨f.toNat,by omega⟩
   have HEV:Hid (Sp.entryV n pn h=(Sp.numB n qk fk:Int)):=hid (by unfold Sp.entryV;rw [HQ.out];simp only [];rw [if_neg (by decide),if_neg (by rw [HF.out];omega),HF.out,Int.toNat_natCast,Int.toNat_natCast]);(have hqt:qk≤n.tables.length:=by have:=(List.getElem?_eq_some_iff.1 HIN.out.ht).1;simp only [Int.toNat_natCast] at this;omega);have HQT:=hid hqt
   have hft:fk≤1000000:=by
    have hx:=Sp.idxF_range (fun e=>Sp.fitsE e pn h) t;have h1:=HF.out;have h2:=HIN.out.htl;unfold Sp.fitN at h1;rw [HIN.out.hg,HIN.out.hq] at h1;simp only [List.getD_eq_getElem?_getD,HIN.out.ht,Option.getD_some] at h1;split at h1
    ·unfold Sp.fitI at h1;omega
    ·omega
   have HFT:=hid hft;clear hqt hft hf0;gi_wp2;refine⟨trivial,?_⟩;refine (callsIn_wide.2 (step_number N n qk fk V2 HNV2.out HQT.out HIN.out.hs HFT.out HIN.out.htt)).mono ?_;rintro e V ⟨rfl,hbn⟩;have HNV:=hid (HNV2.out.more hbn);have HBV:=hid (HBV2.out.trans (hbn.mono (by have:=HSV2.out;omega)));have HSV:=hid (show N+2≤V.heap.size by have:=HSV2.out;have:=hbn.size;omega);have xy0:=(hbn.cell (p:=⟨N+1,0,none⟩) (by have:=HSV2.out;show N+1<_;omega)).trans wy0;have xy1:=(hbn.cell (p:=⟨N+1,1,none⟩) (by have:=HSV2.out;show N+1<_;omega)).trans wy1;clear hbn wy0 wy1 w2 t5;have wy0:=xy0;have wy1:=xy1;clear xy0 xy1
   obtain⟨ev,hev⟩:∃ ev:Int,(Sp.numB n qk fk:Int)=ev:=⟨_,rfl⟩
   rw [hev] at HEV ⊢;clear hev;obtain⟨VL,hVL⟩:=nM (V.alloc (.cells #[.slice none 0 0] 53));(have hvl:Below V.heap.size V VL:=by rw [← hVL];exact (Below.refl _ _).alloc (Nat.le_refl _) _);have vy0:=(hvl.cell (p:=⟨N+1,0,none⟩) (by have:=HSV.out;show N+1<_;omega)).trans wy0;have vy1:=(hvl.cell (p:=⟨N+1,1,none⟩) (by have:=HSV.out;show N+1<_;omega)).trans wy1;clear hvl;gi_wp2;clear wy0 wy1 vy0 vy1;rw [← hVL];clear hVL;refine⟨trivial,?_⟩;refine (step_moves _ N pn h _).mono ?_;rintro e w' ⟨rfl,rfl⟩;obtain⟨Bo,hBo⟩:=nM V.heap.size;obtain⟨W6,hW6⟩:=nM (((V.alloc (.cells #[.slice none 0 0] 53)).alloc (.cells #[.pointer (some ⟨N,0,none⟩)] 69)).alloc (.cells #[.int .i64 (pn:Int),.string h] 28));(have bO:Boxed W6 Bo 53 (.slice none 0 0):=by rw [← hW6,← hBo];exact ((Boxed.new V _ _).alloc _).alloc _);(have bN:Blk W6 (Bo+1) 69 #[.pointer (some ⟨N,0,none⟩)]:=by rw [← hW6,← hBo];have:=(Blk.new (V.alloc (.cells #[.slice none 0 0] 53)) 69 #[.pointer (some ⟨N,0,none⟩)]).alloc (.cells #[.int .i64 (pn:Int),.string h] 28);rw [World.size_alloc] at this;exact this);(have bS:Blk W6 (Bo+1+1) 28 #[.int .i64 (pn:Int),.string h]:=by rw [← hW6,← hBo];have:=Blk.new ((V.alloc (.cells #[.slice none 0 0] 53)).alloc (.cells #[.pointer (some ⟨N,0,none⟩)] 69)) 28 #[.int .i64 (pn:Int),.string h];rw [World.size_alloc,World.size_alloc] at this;exact this);(have hb6:Below V.heap.size V W6:=by rw [← hW6];exact (((Below.refl _ _).alloc (Nat.le_refl _) _).alloc (by simp) _).alloc (by simp;omega) _);(have hs6:W6.heap.size=Bo+3:=by rw [← hW6,← hBo];simp);have HST6:=hid (moves_stops 8 N (Bo+1) (Bo+1+1) Bo n pn h (Sp.mvOk_of HOK.out HST.out) V W6 (by omega) HNV.out hb6 (by omega) (by omega) (by omega) (by omega) (by rw [rowAt_box bO];rfl) (bN.cell 0) (bS.cell 0) (bS.cell 1));have HLEN:=hid (Sp.movesV_len HOK.out HST.out);gi_wp2;have hst6:=HST6.out;rw [hBo] at hst6 hb6;clear HST6 hW6
   refine wpIn_rangeFunc_ownH rfl (by omega) (gf:=47) (lb:=#[.pointer (some ⟨Bo+1,0,none⟩),.pointer (some ⟨Bo+1+1,0,none⟩)]) rfl trivial (enters_of Tryz.func47 (by kernel_rfl) rfl)
    hst6 SaveRow.trans (SaveRow.book (by omega) (by omega)) (Below.refl _ _) (fun _=>rfl)
    (fun pre W=>(∃ v,Boxed W Bo 53 v∧W.ownsRow Bo 28 2 v (Sp.stV pre).length ((Sp.stV pre).flatMap stC)∧Hid True)∧Below Bo V W)
    (fun _ _ _=>False)
    (OwnFrom.and (Own.from (holdsRow_own Bo Bo 53 28 2 (fun pre=>(Sp.stV pre).length) (fun pre=>(Sp.stV pre).flatMap stC) (fun _ _=>Hid True)) _) (ownFrom_below (by omega) (by omega)))
    (fun _ _ _ _ _ hs _ _=>hs)
    ⟨⟨_,bO,World.ownsRow_nil _ _ _ _,hid trivial⟩,hb6⟩
    (fun x a' W=>∃ Bx,Bo<Bx∧Blk W Bx 77 #[.int .i64 x.entry,.int .i64 x.out,.int .i64 x.inn,.string x.header]∧AxU (.pointer (some ⟨Bo,0,none⟩)) (.pointer (some ⟨Bx,0,none⟩)) a')
    (fun x a' _ X Y row hs hg hr=>by obtain⟨Bx,h1,h2,h3⟩:=hs;exact⟨Bx,h1,h2.grown hg (fun e=>by obtain⟨_,o,ho,hc⟩:=hr Bx e.symm;rw [show X.heap[Bx]?=_ from h2] at ho;cases ho;cases hc),h3⟩)
    ?assign ?body ?done ?stop
   case assign=>
    rintro l pre ⟨xe,xo,xi,xh⟩ W K ⟨⟨v,hv,hrow,_⟩,hB⟩ hK;dsimp only [mvC];gi_wp2;exact hK _ _ ((KeepsOthers.alloc _ _).from _) (SaveRow.of_below ((Below.refl _ W).alloc (Nat.le_refl _) _) (by have:=hB.size;omega) hv.lt) ⟨⟨v,hv.alloc _,World.ownsRow.alloc hrow _,hid trivial⟩,hB.alloc (by have:=hB.size;omega) _⟩ ⟨W.heap.size,hv.lt,Blk.new _ _ _,AxU.of _ _ _ _ _ _ _ _ _ _ _ _ _ _ _ _ _ _ _ _ _ _ _ _ _ _ _ _ _ _ _ _ _ _ _ _ _ _ _ _ _ _ _ _ _ _ _ _ _ _ _ _ _ _ _ _ _ _ _ _ _ _ _ _⟩
   case body=>
    rintro l pre ⟨xe,xo,xi,xh⟩ a' W hl _ ⟨⟨v,hv,hrow,_⟩,hB⟩ ⟨Bx,hBx,hk,u,rfl⟩ hlt;(have hln:(Sp.stV pre).length≤1000:=by have:=Sp.stV_len pre;have:=HLEN.out;omega);have hrow':StR W Bo v (Sp.stV pre):=hrow;have hk':Blk W Bx 77 #[.int .i64 xe,.int .i64 xo,.int .i64 xi,.string xh]:=hk;have hsz:=hB.size;(have hsB:Bo≤W.heap.size:=by omega);have e1:W.cell? ⟨Bx,1,none⟩=some (.int .i64 xo):=hk'.cell 1;have e2:W.cell? ⟨Bx,2,none⟩=some (.int .i64 xi):=hk'.cell 2;have e3:W.cell? ⟨Bx,3,none⟩=some (.string xh):=hk'.cell 3;have c0:=hv.cell;have HV:=hid hv;have HR:=hid hrow';have HBK:=hid hk';have HSB:=hid hsB;have HNE:=hid (show Bx≠Bo by omega);have HBB:=hid hB;have HLN:=hid hln;clear hv hrow hrow' hk hk' hsz hsB hB hBx hlt hl hln hst6 hb6 bO bN bS hs6 hBo n1 k0 k1 k2 k3 p0 p1 hpl h48 y0 y1 hgq hNl te;by_cases ho:0≤xo
    ·have t1:decide (xo ≥ 0)=true:=decide_eq_true ho;have HO:=hid ho;clear ho;by_cases hi:0≤xi
     ·have t2:decide (xi ≥ 0)=true:=decide_eq_true hi;have HI:=hid hi;clear hi
      gi_wp2_with (first
       | (gi_at_builtin;have _t:=HE1;(refine st_append Wa rfl _ _ rfl Bo Bo (.slice (some ⟨g1,0,none⟩) k1 cap1) (Sp.stV pre ++ [(xo,xh)]) (xi,xh) rfl rfl HE1.out.box HE1.out.row HSA.out (Nat.le_refl _) (by rw [List.length_append];have:=HLN.out;simp;omega) ?_);intro g2 cap2 w2 hb2 hE2;have hc2:=hb2.cell;have hf2:=hb2.frozen;rw [show (Sp.stV pre ++ [(xo,xh)]).length=k1 by rw [List.length_append];exact hk1] at hE2;have HE2:=hid hE2;clear hb2 hE2)
       | (gi_at_builtin;refine st_append W rfl _ _ rfl Bo Bo v (Sp.stV pre) (xo,xh) rfl rfl HV.out HR.out HSB.out (Nat.le_refl _) (by have:=HLN.out;omega) ?_;intro g1 cap1 w1 hb1 hE1;have hc1:=hb1.cell;have hf1:=hb1.frozen;obtain⟨k1,hk1⟩:=nM ((Sp.stV pre).length+1);rw [hk1] at hE1;obtain⟨Wa,hWa⟩:=nM (w1.setCell ⟨Bo,0,none⟩ (.slice (some ⟨g1,0,none⟩) k1 cap1));rw [hWa] at hE1;have HE1:=hid hE1;have hka:=hE1.blk (by decide) HV.out HR.out HBK.out HNE.out;have a2:Wa.cell? ⟨Bx,2,none⟩=some (.int .i64 xi):=hka.cell 2;have a3:Wa.cell? ⟨Bx,3,none⟩=some (.string xh):=hka.cell 3;have a0:=hE1.box.cell;have HSA:=hid (Nat.le_trans HSB.out hE1.below.size);clear hka hE1 hb1))
      exact⟨(HE1.out.others.trans HE2.out.others).from _,HE1.out.save.trans HE2.out.save,⟨⟨_,HE2.out.box,row_of HE2.out.row (by rw [Sp.stV_snoc,Sp.stM_both (by have:=HO.out;omega) (by have:=HI.out;omega)];simp),hid trivial⟩,(HBB.out.trans HE1.out.below).trans HE2.out.below⟩⟩
     ·have t2:decide (xi ≥ 0)=false:=decide_eq_false hi;have HI:=hid hi;clear hi
      gi_wp2_with (gi_at_builtin;refine st_append W rfl _ _ rfl Bo Bo v (Sp.stV pre) (xo,xh) rfl rfl HV.out HR.out HSB.out (Nat.le_refl _) (by have:=HLN.out;omega) ?_;intro g1 cap1 w1 hb1 hE1;have hc1:=hb1.cell;have hf1:=hb1.frozen;obtain⟨k1,hk1⟩:=nM ((Sp.stV pre).length+1);rw [hk1] at hE1;obtain⟨Wa,hWa⟩:=nM (w1.setCell ⟨Bo,0,none⟩ (.slice (some ⟨g1,0,none⟩) k1 cap1));rw [hWa] at hE1;have HE1:=hid hE1;have hka:=hE1.blk (by decide) HV.out HR.out HBK.out HNE.out;have a2:Wa.cell? ⟨Bx,2,none⟩=some (.int .i64 xi):=hka.cell 2;have a3:Wa.cell? ⟨Bx,3,none⟩=some (.string xh):=hka.cell 3;have a0:=hE1.box.cell;clear hka hE1 hb1)
      exact⟨HE1.out.others.from _,HE1.out.save,⟨⟨_,HE1.out.box,row_of HE1.out.row (by rw [Sp.stV_snoc,Sp.stM_out (by have:=HO.out;omega) (by have:=HI.out;omega)])⟩,HBB.out.trans HE1.out.below⟩⟩
    ·have t1:decide (xo ≥ 0)=false:=decide_eq_false ho;have HO:=hid ho;clear ho;by_cases hi:0≤xi
     ·have t2:decide (xi ≥ 0)=true:=decide_eq_true hi;have HI:=hid hi;clear hi
      gi_wp2_with (gi_at_builtin;refine st_append W rfl _ _ rfl Bo Bo v (Sp.stV pre) (xi,xh) rfl rfl HV.out HR.out HSB.out (Nat.le_refl _) (by have:=HLN.out;omega) ?_;intro g1 cap1 w1 hb1 hE1;have hc1:=hb1.cell;have hf1:=hb1.frozen;obtain⟨k1,hk1⟩:=nM ((Sp.stV pre).length+1);rw [hk1] at hE1;obtain⟨Wa,hWa⟩:=nM (w1.setCell ⟨Bo,0,none⟩ (.slice (some ⟨g1,0,none⟩) k1 cap1));rw [hWa] at hE1;have HE1:=hid hE1;clear hE1 hb1)
      exact⟨HE1.out.others.from _,HE1.out.save,⟨⟨_,HE1.out.box,row_of HE1.out.row (by rw [Sp.stV_snoc,Sp.stM_in (by have:=HO.out;omega) (by have:=HI.out;omega)])⟩,HBB.out.trans HE1.out.below⟩⟩
     ·have t2:decide (xi ≥ 0)=false:=decide_eq_false hi;have HI:=hid hi;clear hi;gi_wp2;exact⟨KeepsFrom.refl _ _,⟨Below.refl _ _,.inl rfl,fun _ _ _ ho _ _=>ho⟩,⟨⟨v,HV.out,row_of HR.out (by rw [Sp.stV_snoc,Sp.stM_none (by have:=HO.out;omega) (by have:=HI.out;omega),List.append_nil])⟩,HBB.out⟩⟩
   case done=>
    rintro D ys W hD rfl ⟨⟨v,hv,hrow,_⟩,hB⟩ hK;have hc:=hv.cell;have HR:Hid (StR W Bo v (Sp.stV (Sp.movesV n pn h))):=hid hrow;have HBB:=hid hB;have HDD:=hid hD;clear hv hrow hB hD hst6 hb6 bO bN bS n1 k0 k1 k2 k3 p0 p1 hpl h48 y0 y1 hgq hNl te;gi_wp2;gi_region;gi_wp2;(have hDN:w.heap.size≤D:=by have:=HDD.out;have:=HSV.out;omega);refine⟨by simp,.inl ⟨_,_,rfl,run_takeDeferred (show W.drew.heap[D]?=some (.deferred (some [])) from hK),?_⟩⟩
    exact⟨_,results_tmp3 rfl _ _ _,NextEnd.ok (B:=Bo) HE.out HEV.out rfl (by have:=HSV.out;omega) (ownsRow_putObj (show W.drew.ownsRow _ _ _ _ _ _ from HR.out) _ (show W.drew.heap[D]?=some (.deferred (some [])) from hK) rfl)
     (by rw [hN];exact ((HBV.out.trans (HBB.out.mono (by have:=HSV.out;omega))).drew.trans ((belowK_b (w:=w) (Nat.le_refl _) W.drew D _ _ hDN (show W.drew.heap[D]?=some (.deferred (some [])) from hK) rfl rfl).mono (by omega))))⟩
   case stop=>
    rintro D c pre W _ _ h _;exact h.elim
end Go.Proofs.YtedfppbnkgffcaaGreatDoor
