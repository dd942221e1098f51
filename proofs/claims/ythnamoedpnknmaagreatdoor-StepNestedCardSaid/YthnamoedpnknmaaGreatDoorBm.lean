/-
 THE WALKS of reachref9's side, entryRight (chapter 9).
-/
import Derived.Test.YthnamoedpnknmaaGreatDoorUz
set_option linter.unusedVariables false
set_option linter.unusedSimpArgs false
set_option maxRecDepth 100000
set_option maxHeartbeats 8000000
namespace Go.Proofs.YthnamoedpnknmaaGreatDoor
open Go.RowKit
open Go.Lib (hid)
theorem ref9_side (n:Sp.Net) (A1 A2 A3:Option Addr) (c1 c2 c3:Nat) (p box:Int) (inn:Bool) (w:World) (hpv:PV w A1 n.ports):
  Calls Tryz.prog 103 #[.agg #[.int .i64 n.bits,.slice A1 n.ports.length c1,.slice A2 n.tables.length c2,.slice A3 n.guards.length c3],.int .i64 p,.int .i64 box,.bool inn] w fun e w'=>e=.returned (.bool (Sp.tb (Sp.PortIs n p box inn)))∧Below w.heap.size w w':=by
 obtain⟨N,hN⟩:=nM w.heap.size;obtain⟨W1,hW1⟩:=nM (w.alloc (.cells #[.int .i64 n.bits,.slice A1 n.ports.length c1,.slice A2 n.tables.length c2,.slice A3 n.guards.length c3] 26));have hb1:Below w.heap.size w W1:=by rw [← hW1];exact (Below.refl _ _).alloc (Nat.le_refl _) _
 have hk1:Blk W1 N 26 #[.int .i64 n.bits,.slice A1 n.ports.length c1,.slice A2 n.tables.length c2,.slice A3 n.guards.length c3]:=by rw [← hW1,← hN];exact Blk.new w _ _
 have hpv1:=hpv.more hb1;obtain⟨T,hT⟩:=nM (Sp.tb (Sp.PortIs n p box inn));rw [hT];obtain⟨np,hnp⟩:=nM n.ports.length;obtain⟨nt,hnt⟩:=nM n.tables.length;obtain⟨ng,hng⟩:=nM n.guards.length;obtain⟨b,hbi⟩:=nM n.bits;rw [hbi,hnp,hnt,hng] at hk1 hW1 ⊢;have x1:W1.cell? ⟨N,1,none⟩=some (.slice A1 np c1):=hk1.cell 1;have HB:=hid hb1;have HNP:=hid hnp;have HTT:=hid hT;clear hpv hk1 hT hb1 hnp hnt hng hbi;by_cases h1:0≤p
 rotate_left
 ·have a1:decide (p ≥ 0)=false:=dF;have HT:=hid (show T=false by rw [← HTT.out];exact Sp.tb_no (fun h=>h1 h.1));clear h1 hpv1;go_enter Tryz.func103,Tryz.ntmps103;go_wp2_with fail;go_ret;exact⟨by rw [HT.out];rfl,HB.out⟩
 have a1:decide (p ≥ 0)=true:=decide_eq_true h1;by_cases h2:p<(np:Int)
 rotate_left
 ·have a2:decide (p<(np:Int))=false:=decide_eq_false h2
  have HT:=hid (show T=false by
   rw [← HTT.out];refine Sp.tb_no (fun h=>?_);obtain⟨_,q,hq,_⟩:=h;have:=(List.getElem?_eq_some_iff.1 hq).1;have:=HNP.out
   omega)
  clear h1 h2 hpv1;go_enter Tryz.func103,Tryz.ntmps103;go_wp2_with fail;go_ret;exact⟨by rw [HT.out];rfl,HB.out⟩
 have a2:decide (p<(np:Int))=true:=decide_eq_true h2
 obtain⟨k,rfl⟩:∃ k:Nat,p=k:=⟨p.toNat,by omega⟩
 have a3:decide (k<np)=true:=dT
 obtain⟨pt,hpt⟩:∃ pt,n.ports[k]?=some pt:=⟨_,List.getElem?_eq_getElem (by rw [HNP.out];omega)⟩
 obtain⟨g,o,rfl,_,_,u1,u2,_⟩:=hpv1.at hpt;obtain⟨pb,hpb⟩:=nM pt.box;obtain⟨pin,hpin⟩:=nM pt.inn;rw [hpb] at u1;rw [hpin] at u2;have HPT:=hid hpt;have HPB:=hid hpb;have HPIN:=hid hpin;have h3:k<np:=by omega
 have h4:(k:Int)<(np:Int):=h2
 have HIS:=hid (show Sp.PortIs n (k:Int) box inn→pb=box∧pin=inn from fun h=>by
  obtain⟨_,q,hq,e1,e2⟩:=h;rw [Int.toNat_natCast,HPT.out] at hq;injection hq with hq
  rw [← HPB.out,← HPIN.out,hq]
  exact⟨e2,e1⟩)
 clear hpt hpb hpin hpv1;by_cases h5:pb=box
 rotate_left
 ·have a5:(pb == box)=false:=beq_eq_false_iff_ne.2 h5;have HT:=hid (show T=false by rw [← HTT.out];exact Sp.tb_no (fun h=>h5 (HIS.out h).1));clear h5;go_enter Tryz.func103,Tryz.ntmps103;go_wp2_with fail;go_ret;exact⟨by rw [HT.out];rfl,HB.out⟩
 have a5:(pb == box)=true:=beq_iff_eq.2 h5;have H5:=hid h5;clear h5;by_cases h6:pin=inn
 rotate_left
 ·have HT:=hid (show T=false by rw [← HTT.out];exact Sp.tb_no (fun h=>h6 (HIS.out h).2));have a6:(pin == inn)=false:=beq_eq_false_iff_ne.2 h6;clear h6;go_enter Tryz.func103,Tryz.ntmps103;go_wp2_with fail;go_ret;exact⟨by rw [HT.out];rfl,HB.out⟩
 have HT:=hid (show T=true by
  rw [← HTT.out]
  exact Sp.tb_yes ⟨h1,pt,by rw [Int.toNat_natCast];exact HPT.out,by rw [HPIN.out];exact h6,by rw [HPB.out];exact H5.out⟩)
 have a6:(pin == inn)=true:=beq_iff_eq.2 h6;clear h6;go_enter Tryz.func103,Tryz.ntmps103;go_wp2_with fail;go_ret;exact⟨by rw [HT.out];rfl,HB.out⟩
theorem cubesT_iff (bits:Int) (l:List ByteArray) (most:Int):Sp.cubesT bits l most=true↔(l.length:Int)≤most∧∀ c ∈ l,Sp.CubeOk bits c:=by
 unfold Sp.cubesT;rw [Bool.and_eq_true,decide_eq_true_eq,List.all_eq_true];refine and_congr Iff.rfl (forall_congr' fun c=>forall_congr' fun _=>?_);rw [Bool.and_eq_true,decide_eq_true_eq,Sp.cubeT_iff];rfl
theorem wpAnyK_pass3 {P:Program} {md:Region.Mode} {ops:Array Oper} {S:World→Prop} {L:Nat} {Q:Exit→Act→World→Prop} {i:Nat} {oi:Oper} {fuel:Nat} {listed:Array Bool} {a:Act} {w:World} (hc:ClosedL md ops listed) (hS:S w) (hi:ops[i]?=some oi)
  (hs:(Region.noSelect ops && Region.free md ops listed i && (Region.ready md ops listed).contains i && waitsB md ops i 40 L && (L != i))=true)
  (hQ:∀ c a w,Q (.panic c) (a.put oi.dst undef) w→Q (.panic c) a w) (hw:Region.wanted oi (yielded ops a.tmps)=false)
  (h:ClosedL md ops (listed.setIfInBounds i true)→wpAnyK P md ops Q S L fuel (listed.setIfInBounds i true) (a.put oi.dst undef) w):wpAnyK P md ops Q S L (fuel+1) listed a w:=by
 simp only [Bool.and_eq_true] at hs;obtain⟨⟨⟨⟨h1,h2⟩,h3⟩,h4⟩,h5⟩:=hs;have hr:i ∈ Region.ready md ops listed:=by simpa using h3
 exact wpAnyK_first hi (Region.noSelect_spec h1) (by simpa using h5) h4 hQ fuel listed a w hc (Region.free_spec hi h2) hr (Or.inr ⟨hw,rfl⟩) hS (h (closedL_set hc hr))
theorem pk3 {P:Program} {md:Region.Mode} {ops:Array Oper} {S:World→Prop} {L:Nat} {Q:Exit→Act→World→Prop} (i:Nat) {oi:Oper} {fuel:Nat} {listed:Array Bool} {a:Act} {w:World} (hc:ClosedL md ops listed) (hS:S w)
  (h:ClosedL md ops (listed.setIfInBounds i true)→wpAnyK P md ops Q S L fuel (listed.setIfInBounds i true) (a.put oi.dst undef) w) (hi:ops[i]?=some oi:=by rfl)
  (hs:(Region.noSelect ops && Region.free md ops listed i && (Region.ready md ops listed).contains i && waitsB md ops i 40 L && (L != i))=true:=by kernel_rfl)
  (hQ:∀ c a w,Q (.panic c) (a.put oi.dst undef) w→Q (.panic c) a w:=by exact fun _ _ _ h=>h) (hw:Region.wanted oi (yielded ops a.tmps)=false:=by rfl):wpAnyK P md ops Q S L (fuel+1) listed a w:=wpAnyK_pass3 hc hS hi hs hQ hw h
theorem sv_one (w:World) (t:TypeId) (s:ByteArray):SV (w.alloc (.cells #[.string s] t)) (some ⟨w.heap.size,0,none⟩) [s]:=by
 intro i a ha
 match i,ha with
 | 0,ha=>
  injection ha with ha
  subst ha;refine⟨_,_,[.string s],rfl,by simp,rfl,rfl,fun f u hf=>?_⟩
  match f,hf with
  | 0,hf=>
   (injection hf with hf);rw [← hf];exact (Blk.new w t #[.string s]).cell 0
  | f+1,hf=>simp at hf
 | i+1,ha=>simp at ha
theorem iv_cell {w:World} {g o:Nat} {l:List Int} {i:Nat} {x:Int} (h:IV w (some ⟨g,o,none⟩) l) (hx:l[i]?=some x):w.cell? ⟨g,o+i,none⟩=some (.int .i64 x)∧g<w.heap.size:=by
 obtain⟨g',o',e,hg,hc⟩:=h.at hx;injection e with e
 injection e with e1 e2
 subst e1 e2;exact⟨hc,hg⟩
theorem ref9_entryRight (n:Sp.Net) (A1 A2 A3:Option Addr) (c1 c2 c3:Nat) (box:Int) (e:Sp.Entry) (B1 B2 B3:Option Addr) (k1 k2 k3:Nat) (w:World) (hpv:PV w A1 n.ports) (hi:IV w B1 e.ins) (hc:SV w B2 e.cubes) (ho:IV w B3 e.outs) (h1:e.ins.length≤4611686018427387904) (h2:e.cubes.length≤4611686018427387904):
  Calls Tryz.prog 96 #[.agg #[.int .i64 n.bits,.slice A1 n.ports.length c1,.slice A2 n.tables.length c2,.slice A3 n.guards.length c3],.int .i64 box,.agg #[.string e.name,.slice B1 e.ins.length k1,.slice B2 e.cubes.length k2,.string e.write,.slice B3 e.outs.length k3]] w fun r w'=>r=.returned (.bool (Sp.tb (Sp.EntryOk n box e)))∧Below w.heap.size w w':=by
 obtain⟨np,hnp⟩:=nM n.ports.length;obtain⟨nt,hnt⟩:=nM n.tables.length;obtain⟨ng,hng⟩:=nM n.guards.length;obtain⟨ni,hni⟩:=nM e.ins.length;obtain⟨nc,hnc⟩:=nM e.cubes.length;obtain⟨no,hno⟩:=nM e.outs.length;obtain⟨nz,hnz⟩:=nM e.name.size;obtain⟨b,hbb⟩:=nM n.bits;obtain⟨P,hP⟩:=nM (Sp.tb (Sp.EntryOk n box e))
 have hside:∀ W,Below w.heap.size w W→∀ p inn,Calls Tryz.prog 103 #[.agg #[.int .i64 b,.slice A1 np c1,.slice A2 nt c2,.slice A3 ng c3],.int .i64 p,.int .i64 box,.bool inn] W fun r w'=>r=.returned (.bool (Sp.tb (Sp.PortIs n p box inn)))∧Below W.heap.size W w':=fun W hW p inn=>by
  rw [← hnp,← hnt,← hng,← hbb];exact ref9_side n A1 A2 A3 c1 c2 c3 p box inn W (hpv.more hW)
 have hcube:∀ W,Below w.heap.size w W→Calls Tryz.prog 95 #[.int .i64 b,.slice B2 nc k2,.int .i64 64] W fun r w'=>r=.returned (.bool (Sp.cubesT b e.cubes 64))∧w'=W:=fun W hW=>by
  rw [← hnc];exact ref9_cubesRight B2 k2 b 64 e.cubes W (hc.more hW) h2
 have hword:∀ W A,SV W A [e.write]→Calls Tryz.prog 95 #[.int .i64 b,.slice A 1 1,.int .i64 1] W fun r w'=>r=.returned (.bool (Sp.cubesT b [e.write] 1))∧w'=W:=fun W A hA=>
  ref9_cubesRight A 1 b 1 [e.write] W hA (by simp)
 rw [hP,hnp,hnt,hng,hni,hnc,hno,hbb];rw [hni] at h1;obtain⟨N,hN⟩:=nM w.heap.size;obtain⟨W2,hW2⟩:=nM ((w.alloc (.cells #[.int .i64 b,.slice A1 np c1,.slice A2 nt c2,.slice A3 ng c3] 26)).alloc (.cells #[.string e.name,.slice B1 ni k1,.slice B2 nc k2,.string e.write,.slice B3 no k3] 78));have hal:Below w.heap.size w W2:=by rw [← hW2];exact ((Below.refl _ _).alloc (Nat.le_refl _) _).alloc (by simp) _
 have hk1:Blk W2 w.heap.size 26 #[.int .i64 b,.slice A1 np c1,.slice A2 nt c2,.slice A3 ng c3]:=by rw [← hW2];exact (Blk.new w _ _).alloc _
 have hk2:Blk W2 (w.heap.size+1) 78 #[.string e.name,.slice B1 ni k1,.slice B2 nc k2,.string e.write,.slice B3 no k3]:=by
  have:=Blk.new (w.alloc (.cells #[.int .i64 b,.slice A1 np c1,.slice A2 nt c2,.slice A3 ng c3] 26)) 78 #[.string e.name,.slice B1 ni k1,.slice B2 nc k2,.string e.write,.slice B3 no k3];rw [World.size_alloc] at this;rw [← hW2];exact this
 rw [hN] at hal hk1 hk2 hside hcube ⊢;have hsz2:N+2=W2.heap.size:=by rw [← hW2,World.size_alloc,World.size_alloc,hN]
 have HP:=hid hP;have HAL:=hid hal;have HK1:=hid hk1;have HK2:=hid hk2;have HSIDE:=hid hside;have HCUBE:=hid hcube;have HWORD:=hid hword;have HI:=hid hi;have HO:=hid ho;have HNI:=hid hni;have HNO:=hid hno;have HNZ:=hid hnz;have HBB:=hid hbb;have HN:=hid hN;have HSZ:=hid hsz2;have HW2:=hid hW2;have e0:W2.cell? ⟨N+1,0,none⟩=some (.string e.name):=hk2.cell 0;have e1:W2.cell? ⟨N+1,1,none⟩=some (.slice B1 ni k1):=hk2.cell 1;have e4:W2.cell? ⟨N+1,4,none⟩=some (.slice B3 no k3):=hk2.cell 4;clear hpv hi hc ho h2 hnp hnt hng hni hnc hno hP hal hk1 hk2 hside hcube hword hbb hsz2;by_cases h3:256<nz
 ·have p1:decide ((nz:Int) > 256)=true:=dT;have p2:decide (256<nz)=true:=decide_eq_true h3;have HF:=hid (show P=false by rw [← HP.out];exact Sp.tb_no (fun h=>by have:=h.name;have:=HNZ.out;omega));clear h3;go_enter Tryz.func96,Tryz.ntmps96;go_wp2_with fail;go_ret;exact⟨by rw [HF.out];rfl,HAL.out⟩
 have p1:decide ((nz:Int) > 256)=false:=dF;have p2:decide (256<nz)=false:=decide_eq_false h3;by_cases h4:4<no
 ·have p3:decide ((no:Int) > 4)=true:=dT;have p4:decide (4<no)=true:=decide_eq_true h4;have HF:=hid (show P=false by rw [← HP.out];exact Sp.tb_no (fun h=>by have:=h.nouts;have:=HNO.out;omega));clear h3 h4;go_enter Tryz.func96,Tryz.ntmps96;go_wp2_with fail;go_ret;exact⟨by rw [HF.out];rfl,HAL.out⟩
 have p3:decide ((no:Int) > 4)=false:=dF;have p4:decide (4<no)=false:=decide_eq_false h4;have H3:=hid h3;have H4:=hid h4;clear h3 h4;go_enter Tryz.func96,Tryz.ntmps96;go_wp2_with fail;clear e0 e1 e4 p1 p2 p3 p4 hW2;go_loopw [7,8] (fun v7 v8 wr=>Below (N+2) W2 wr∧∃ i:Nat,v7=.int .i64 (i:Int)∧i≤ni∧Hid (∀ (j:Nat) (p:Int),j<i→e.ins[j]?=some p→Sp.PortIs n p box true∧∀ p',0<j→e.ins[j - 1]?=some p'→p'<p)) (fun v7 _ _=>ni - (intOf v7).toNat)
 case atStart=>exact⟨Below.refl _ _,0,rfl,Nat.zero_le _,hid (fun j p hj=>by omega)⟩
 case round=>
  obtain⟨hb,i,rfl,hi,hok⟩:=hrel;have hbw:Below N w wr:=HAL.out.trans (hb.mono (by omega));have x1:wr.cell? ⟨N+1,1,none⟩=some (.slice B1 ni k1):=(HK2.out.below hb (by omega)).cell 1;have i0:(0:Int)≤(i:Int):=by omega
  have HB:=hid hb;have HBW:=hid hbw;by_cases hlt:i<ni
  ·have q1:decide ((i:Int)<(ni:Int))=true:=dT;have q2:decide (i<ni)=true:=decide_eq_true hlt;(have q3:(i:Int)<(ni:Int):=by omega);have z1:IntKind.i64.wrap ((i:Int)+1)=(i:Int)+1:=by rw [IntKind.wrap_i64];omega
   obtain⟨p,hp⟩:∃ p,e.ins[i]?=some p:=⟨_,List.getElem?_eq_getElem (by rw [HNI.out];exact hlt)⟩
   obtain⟨g,o,rfl,hg,k0⟩:=(HI.out.more (by rw [HN.out];exact hbw)).at hp;have hsd:=HSIDE.out wr.drew hbw.drew p true;obtain⟨T,hT⟩:=nM (Sp.tb (Sp.PortIs n p box true));rw [hT] at hsd;have HSD:=hid hsd;have HT:=hid hT;have HX:=hid hp;have HK0:=hid k0;have HLT:=hid hlt;clear hb hbw hi hlt hp hg k0 hsd hT;go_wp2_with fail;refine wp_region_K 8 (fun w'=>w'.cell? ⟨N,0,none⟩=some (.int .i64 b)∧w'.cell? ⟨N,1,none⟩=some (.slice A1 np c1)∧w'.cell? ⟨N,2,none⟩=some (.slice A2 nt c2)∧w'.cell? ⟨N,3,none⟩=some (.slice A3 ng c3)∧w'.cell? ⟨N+1,1,none⟩=some (.slice (some ⟨g,o,none⟩) ni k1)∧w'.cell? ⟨g,o+i,none⟩=some (.int .i64 p)) (by kernel_rfl) (fun hcl=>?_);refine mS (⟨(HK1.out.below HB.out (by omega)).cell 0,(HK1.out.below HB.out (by omega)).cell 1,(HK1.out.below HB.out (by omega)).cell 2,(HK1.out.below HB.out (by omega)).cell 3,(HK2.out.below HB.out (by omega)).cell 1,HK0.out⟩) (fun hS=>?_);refine tk 0 hcl hS ?_;clear hcl;intro hcl;simp only [tkl];refine tk 1 hcl hS ?_;clear hcl;intro hcl;simp only [tkl];refine tk 2 hcl hS ?_;clear hcl;intro hcl;simp only [tkl];refine tk 3 hcl hS ?_;clear hcl;intro hcl;simp only [tkl];refine tk 4 hcl hS ?_;clear hcl;intro hcl;simp only [tkl];refine tk 5 hcl hS ?_;clear hcl;intro hcl;simp only [tkl];refine tk 6 hcl hS ?_;clear hcl;intro hcl;simp only [tkl];refine on1 7 hcl (fun K hK=>?_);go_simp;refine HSD.out.mono ?_;rintro r w3 ⟨rfl,hb3⟩;have hb3':Below (N+2) W2 w3:=HB.out.drew.trans (hb3.mono (by have:=HB.out.size;have:=HSZ.out;simp only [World.drew] at *;omega));clear hS
   have hS:(fun w':World=>w'.cell? ⟨N,0,none⟩=some (.int .i64 b)∧w'.cell? ⟨N,1,none⟩=some (.slice A1 np c1)∧w'.cell? ⟨N,2,none⟩=some (.slice A2 nt c2)∧w'.cell? ⟨N,3,none⟩=some (.slice A3 ng c3)∧w'.cell? ⟨N+1,1,none⟩=some (.slice (some ⟨g,o,none⟩) ni k1)∧w'.cell? ⟨g,o+i,none⟩=some (.int .i64 p)) w3:=⟨(HK1.out.below hb3' (by omega)).cell 0,(HK1.out.below hb3' (by omega)).cell 1,(HK1.out.below hb3' (by omega)).cell 2,(HK1.out.below hb3' (by omega)).cell 3,(HK2.out.below hb3' (by omega)).cell 1,(iv_cell (HI.out.more (by rw [HN.out];exact HAL.out.trans (hb3'.mono (by omega)))) HX.out).1⟩
   refine hK.out _ _ (Or.inr hS) (fun hcl2=>?_);have HB3:=hid hb3';have HS3:=hid hS;clear hK K hcl hS hb3 hb3';have hcl:=hcl2;clear hcl2;refine on1 8 hcl (fun K hK=>?_);go_simp;refine hK.out _ _ (Or.inl (by kernel_rfl)) (fun hcl2=>?_);clear hK K hcl hcl2;refine wpAnyK_done (by kernel_rfl) ?_ _;(try simp only [Act.put,pu]);clear x1;have x1:w3.cell? ⟨N+1,1,none⟩=some (.slice (some ⟨g,o,none⟩) ni k1):=HS3.out.2.2.2.2.1;have x2:w3.cell? ⟨g,o+i,none⟩=some (.int .i64 p):=HS3.out.2.2.2.2.2
   cases T with
   | false=>
    have HF:=hid (show P=false by
     rw [← HP.out];refine Sp.tb_no (fun h=>?_);have:=HT.out;rw [Sp.tb_yes (h.ins i p HX.out).1] at this
     cases this)
    clear hok;go_wp2_with fail;refine wp_region_K 19 (fun w'=>w'.cell? ⟨N+1,1,none⟩=some (.slice (some ⟨g,o,none⟩) ni k1)∧w'.cell? ⟨g,o+i,none⟩=some (.int .i64 p)) (by kernel_rfl) (fun hcl=>?_);refine mS (⟨x1,x2⟩) (fun hS=>?_);refine tk 0 hcl hS ?_;clear hcl;intro hcl;simp only [tkl];refine tk 1 hcl hS ?_;clear hcl;intro hcl;simp only [tkl];refine tk 2 hcl hS ?_;clear hcl;intro hcl;simp only [tkl];refine pk3 3 hcl hS ?_;clear hcl;intro hcl;simp only [tkl];refine pk3 4 hcl hS ?_;clear hcl;intro hcl;simp only [tkl];refine pk3 5 hcl hS ?_;clear hcl;intro hcl;simp only [tkl];refine pk3 6 hcl hS ?_;clear hcl;intro hcl;simp only [tkl];refine pk3 7 hcl hS ?_;clear hcl;intro hcl;simp only [tkl];refine pk3 8 hcl hS ?_;clear hcl;intro hcl;simp only [tkl];refine pk3 9 hcl hS ?_;clear hcl;intro hcl;simp only [tkl];refine pk3 10 hcl hS ?_;clear hcl;intro hcl;simp only [tkl];refine pk3 11 hcl hS ?_;clear hcl;intro hcl;simp only [tkl];refine pk3 12 hcl hS ?_;clear hcl;intro hcl;simp only [tkl];refine pk3 13 hcl hS ?_;clear hcl;intro hcl;simp only [tkl];refine pk3 14 hcl hS ?_;clear hcl;intro hcl;simp only [tkl];refine pk3 15 hcl hS ?_;clear hcl;intro hcl;simp only [tkl];refine pk3 16 hcl hS ?_;clear hcl;intro hcl;simp only [tkl];refine pk3 17 hcl hS ?_;clear hcl;intro hcl;simp only [tkl];refine pk3 18 hcl hS ?_;clear hcl;intro hcl;simp only [tkl];refine on1 19 hcl (fun K hK=>?_);go_simp;clear hS;refine hK.out _ _ (Or.inl (by kernel_rfl)) (fun hcl2=>?_);clear hK K hcl hcl2;refine wpAnyK_done (by kernel_rfl) ?_ _;(try simp only [Act.put,pu]);go_wp2_with fail;go_ret
    first | exact⟨by rw [HF.out];rfl,HAL.out.trans (HB3.out.mono (by omega))⟩ | exact⟨by rw [HF.out];rfl,(HAL.out.trans (HB3.out.mono (by omega))).drew⟩
   | true=>
    have HPI:=hid (show Sp.PortIs n p box true from Classical.byContradiction (fun h=>by have:=HT.out;rw [Sp.tb_no h] at this;cases this));by_cases hz:i=0
    ·have y1:decide ((i:Int) > 0)=false:=dF;have y2:decide (0<i)=false:=dF
     have HNX:=hid (show ∀ (j:Nat) (p:Int),j<i+1→e.ins[j]?=some p→Sp.PortIs n p box true∧∀ p',0<j→e.ins[j - 1]?=some p'→p'<p by
      intro j p2 hj hp2;(have hj0:j=i:=by omega);subst hj0;rw [HX.out] at hp2;(injection hp2 with hp2);rw [← hp2]
      exact⟨HPI.out,fun p' h=>by omega⟩)
     clear hok hz;go_wp2_with fail;refine wp_region_K 19 (fun w'=>w'.cell? ⟨N+1,1,none⟩=some (.slice (some ⟨g,o,none⟩) ni k1)∧w'.cell? ⟨g,o+i,none⟩=some (.int .i64 p)) (by kernel_rfl) (fun hcl=>?_);refine mS (⟨x1,x2⟩) (fun hS=>?_);refine tk 0 hcl hS ?_;clear hcl;intro hcl;simp only [tkl];refine tk 1 hcl hS ?_;clear hcl;intro hcl;simp only [tkl];refine tk 2 hcl hS ?_;clear hcl;intro hcl;simp only [tkl];refine tk 3 hcl hS ?_;clear hcl;intro hcl;simp only [tkl];refine tk 4 hcl hS ?_;clear hcl;intro hcl;simp only [tkl];refine tk 5 hcl hS ?_;clear hcl;intro hcl;simp only [tkl];refine pk3 6 hcl hS ?_;clear hcl;intro hcl;simp only [tkl];refine pk3 7 hcl hS ?_;clear hcl;intro hcl;simp only [tkl];refine pk3 8 hcl hS ?_;clear hcl;intro hcl;simp only [tkl];refine pk3 9 hcl hS ?_;clear hcl;intro hcl;simp only [tkl];refine pk3 10 hcl hS ?_;clear hcl;intro hcl;simp only [tkl];refine pk3 11 hcl hS ?_;clear hcl;intro hcl;simp only [tkl];refine pk3 12 hcl hS ?_;clear hcl;intro hcl;simp only [tkl];refine pk3 13 hcl hS ?_;clear hcl;intro hcl;simp only [tkl];refine pk3 14 hcl hS ?_;clear hcl;intro hcl;simp only [tkl];refine pk3 15 hcl hS ?_;clear hcl;intro hcl;simp only [tkl];refine pk3 16 hcl hS ?_;clear hcl;intro hcl;simp only [tkl];refine pk3 17 hcl hS ?_;clear hcl;intro hcl;simp only [tkl];refine tk 18 hcl hS ?_;clear hcl;intro hcl;simp only [tkl];refine on1 19 hcl (fun K hK=>?_);go_simp;clear hS;refine hK.out _ _ (Or.inl (by kernel_rfl)) (fun hcl2=>?_);clear hK K hcl hcl2;refine wpAnyK_done (by kernel_rfl) ?_ _;(try simp only [Act.put,pu]);go_wp2_with fail;go_roundw
     case rel=>first | exact⟨HB3.out.drew,i+1,by rfl,HLT.out,HNX⟩ | exact⟨HB3.out,i+1,by rfl,HLT.out,HNX⟩
     case measure=>have:=HLT.out;simp [intOf];omega
    ·obtain⟨k,hk⟩:∃ k:Nat,i=k+1:=⟨i - 1,by omega⟩
     obtain⟨pp,hpp⟩:∃ pp,e.ins[k]?=some pp:=⟨_,List.getElem?_eq_getElem (by rw [HNI.out];have:=HLT.out;omega)⟩
     have x3:=(iv_cell (HI.out.more (by rw [HN.out];exact HAL.out.trans (HB3.out.mono (by omega)))) hpp).1;have y1:decide ((i:Int) > 0)=true:=dT;have y2:decide (0<i)=true:=dT;(have y3:IntKind.i64.wrap ((i:Int) - 1)=(k:Int):=by have:=HLT.out;rw [IntKind.wrap_i64];omega);have y4:decide ((k:Int)<(ni:Int))=true:=decide_eq_true (by have:=HLT.out;omega);have y5:decide (k<ni)=true:=decide_eq_true (by have:=HLT.out;omega);(have y6:(k:Int)<(ni:Int):=by have:=HLT.out;omega);(have y7:(0:Int)≤(k:Int):=by omega);(have y8:k<ni:=by have:=HLT.out;omega);have HKK:=hid hk;have HPP:=hid hpp;by_cases hle:p≤pp
     ·have y9:decide (p≤pp)=true:=decide_eq_true hle
      have HF:=hid (show P=false by
       rw [← HP.out];refine Sp.tb_no (fun h=>?_);have:=(h.ins i p HX.out).2 pp (by omega) (by rw [show i - 1=k by omega];exact hpp)
       omega)
      clear hok hz hk hpp hle;go_wp2_with fail;refine wp_region_K 19 (fun w'=>w'.cell? ⟨N+1,1,none⟩=some (.slice (some ⟨g,o,none⟩) ni k1)∧w'.cell? ⟨g,o+i,none⟩=some (.int .i64 p)∧w'.cell? ⟨g,o+k,none⟩=some (.int .i64 pp)) (by kernel_rfl) (fun hcl=>?_);refine mS (⟨x1,x2,x3⟩) (fun hS=>?_);refine tk 0 hcl hS ?_;clear hcl;intro hcl;simp only [tkl];refine tk 1 hcl hS ?_;clear hcl;intro hcl;simp only [tkl];refine tk 2 hcl hS ?_;clear hcl;intro hcl;simp only [tkl];refine tk 3 hcl hS ?_;clear hcl;intro hcl;simp only [tkl];refine tk 4 hcl hS ?_;clear hcl;intro hcl;simp only [tkl];refine tk 5 hcl hS ?_;clear hcl;intro hcl;simp only [tkl];refine tk 6 hcl hS ?_;clear hcl;intro hcl;simp only [tkl];refine tk 7 hcl hS ?_;clear hcl;intro hcl;simp only [tkl];refine tk 8 hcl hS ?_;clear hcl;intro hcl;simp only [tkl];refine tk 9 hcl hS ?_;clear hcl;intro hcl;simp only [tkl];refine tk 10 hcl hS ?_;clear hcl;intro hcl;simp only [tkl];refine tk 11 hcl hS ?_;clear hcl;intro hcl;simp only [tkl];refine tk 12 hcl hS ?_;clear hcl;intro hcl;simp only [tkl];refine tk 13 hcl hS ?_;clear hcl;intro hcl;simp only [tkl];refine tk 14 hcl hS ?_;clear hcl;intro hcl;simp only [tkl];refine tk 15 hcl hS ?_;clear hcl;intro hcl;simp only [tkl];refine tk 16 hcl hS ?_;clear hcl;intro hcl;simp only [tkl];refine tk 17 hcl hS ?_;clear hcl;intro hcl;simp only [tkl];refine tk 18 hcl hS ?_;clear hcl;intro hcl;simp only [tkl];refine on1 19 hcl (fun K hK=>?_);go_simp;clear hS;refine hK.out _ _ (Or.inl (by kernel_rfl)) (fun hcl2=>?_);clear hK K hcl hcl2;refine wpAnyK_done (by kernel_rfl) ?_ _;(try simp only [Act.put,pu]);go_wp2_with fail;go_ret
      first | exact⟨by rw [HF.out];rfl,HAL.out.trans (HB3.out.mono (by omega))⟩ | exact⟨by rw [HF.out];rfl,(HAL.out.trans (HB3.out.mono (by omega))).drew⟩
     ·have y9:decide (p≤pp)=false:=decide_eq_false hle
      have HNX:=hid (show ∀ (j:Nat) (p:Int),j<i+1→e.ins[j]?=some p→Sp.PortIs n p box true∧∀ p',0<j→e.ins[j - 1]?=some p'→p'<p by
       intro j p2 hj hp2;by_cases hj0:j=i
       ·subst hj0;rw [HX.out] at hp2;(injection hp2 with hp2);rw [← hp2];refine⟨HPI.out,fun p' h hp'=>?_⟩;rw [show j - 1=k by omega,hpp] at hp';(injection hp' with hp');omega
       ·exact hok.out j p2 (by omega) hp2)
      clear hok hz hk hpp hle;go_wp2_with fail;refine wp_region_K 19 (fun w'=>w'.cell? ⟨N+1,1,none⟩=some (.slice (some ⟨g,o,none⟩) ni k1)∧w'.cell? ⟨g,o+i,none⟩=some (.int .i64 p)∧w'.cell? ⟨g,o+k,none⟩=some (.int .i64 pp)) (by kernel_rfl) (fun hcl=>?_);refine mS (⟨x1,x2,x3⟩) (fun hS=>?_);refine tk 0 hcl hS ?_;clear hcl;intro hcl;simp only [tkl];refine tk 1 hcl hS ?_;clear hcl;intro hcl;simp only [tkl];refine tk 2 hcl hS ?_;clear hcl;intro hcl;simp only [tkl];refine tk 3 hcl hS ?_;clear hcl;intro hcl;simp only [tkl];refine tk 4 hcl hS ?_;clear hcl;intro hcl;simp only [tkl];refine tk 5 hcl hS ?_;clear hcl;intro hcl;simp only [tkl];refine tk 6 hcl hS ?_;clear hcl;intro hcl;simp only [tkl];refine tk 7 hcl hS ?_;clear hcl;intro hcl;simp only [tkl];refine tk 8 hcl hS ?_;clear hcl;intro hcl;simp only [tkl];refine tk 9 hcl hS ?_;clear hcl;intro hcl;simp only [tkl];refine tk 10 hcl hS ?_;clear hcl;intro hcl;simp only [tkl];refine tk 11 hcl hS ?_;clear hcl;intro hcl;simp only [tkl];refine tk 12 hcl hS ?_;clear hcl;intro hcl;simp only [tkl];refine tk 13 hcl hS ?_;clear hcl;intro hcl;simp only [tkl];refine tk 14 hcl hS ?_;clear hcl;intro hcl;simp only [tkl];refine tk 15 hcl hS ?_;clear hcl;intro hcl;simp only [tkl];refine tk 16 hcl hS ?_;clear hcl;intro hcl;simp only [tkl];refine tk 17 hcl hS ?_;clear hcl;intro hcl;simp only [tkl];refine tk 18 hcl hS ?_;clear hcl;intro hcl;simp only [tkl];refine on1 19 hcl (fun K hK=>?_);go_simp;clear hS;refine hK.out _ _ (Or.inl (by kernel_rfl)) (fun hcl2=>?_);clear hK K hcl hcl2;refine wpAnyK_done (by kernel_rfl) ?_ _;(try simp only [Act.put,pu]);go_wp2_with fail;go_roundw
      case rel=>first | exact⟨HB3.out.drew,i+1,by rfl,HLT.out,HNX⟩ | exact⟨HB3.out,i+1,by rfl,HLT.out,HNX⟩
      case measure=>have:=HLT.out;simp [intOf];omega
  ·have q1:decide ((i:Int)<(ni:Int))=false:=dF;have q2:decide (i<ni)=false:=decide_eq_false hlt;have HINS:=hid (show ∀ (j:Nat) (p:Int),e.ins[j]?=some p→Sp.PortIs n p box true∧∀ p',0<j→e.ins[j - 1]?=some p'→p'<p from fun j p hp=>hok.out j p (by have:=(List.getElem?_eq_some_iff.1 hp).1;rw [HNI.out] at this;omega) hp);clear hb hbw hi hlt hok;go_wp2_with fail;obtain⟨wr1,hwr1⟩:=nM wr;rw [hwr1] at HB HBW ⊢;clear x1 q1 q2 i0 hwr1;go_loopw [9,10,11] (fun v9 v10 v11 wr=>Below (N+2) W2 wr∧∃ j:Nat,v9=.int .i64 (j:Int)∧j≤no∧Hid (∀ (j':Nat) (q:Int),j'<j→e.outs[j']?=some q→Sp.PortIs n q box false∧∀ (k:Nat),k<j'→e.outs[k]?≠some q)) (fun v9 _ _ _=>no - (intOf v9).toNat)
   case atStart=>exact⟨HB.out,0,rfl,Nat.zero_le _,hid (fun j p hj=>by omega)⟩
   case round=>
    clear HB HBW;obtain⟨hb,j,rfl,hj,hok⟩:=hrel;have hbw:Below N w wr:=HAL.out.trans (hb.mono (by omega));have x1:wr.cell? ⟨N+1,4,none⟩=some (.slice B3 no k3):=(HK2.out.below hb (by omega)).cell 4;(have i0:(0:Int)≤(j:Int):=by omega);have HB:=hid hb;have HBW:=hid hbw;by_cases hlt:j<no
    ·have q1:decide ((j:Int)<(no:Int))=true:=dT;have q2:decide (j<no)=true:=decide_eq_true hlt;(have q3:(j:Int)<(no:Int):=by omega);have z1:IntKind.i64.wrap ((j:Int)+1)=(j:Int)+1:=by have:=H4.out;rw [IntKind.wrap_i64];omega
     obtain⟨q,hq⟩:∃ q,e.outs[j]?=some q:=⟨_,List.getElem?_eq_getElem (by rw [HNO.out];exact hlt)⟩
     obtain⟨g,o,rfl,hg,k0⟩:=(HO.out.more (by rw [HN.out];exact hbw)).at hq;have hsd:=HSIDE.out wr.drew hbw.drew q false;obtain⟨T,hT⟩:=nM (Sp.tb (Sp.PortIs n q box false));rw [hT] at hsd;have HSD:=hid hsd;have HT:=hid hT;have HX:=hid hq;have HK0:=hid k0;have HLT:=hid hlt;clear hb hbw hj hlt hq hg k0 hsd hT;go_wp2_with fail;refine wp_region_K 8 (fun w'=>w'.cell? ⟨N,0,none⟩=some (.int .i64 b)∧w'.cell? ⟨N,1,none⟩=some (.slice A1 np c1)∧w'.cell? ⟨N,2,none⟩=some (.slice A2 nt c2)∧w'.cell? ⟨N,3,none⟩=some (.slice A3 ng c3)∧w'.cell? ⟨N+1,4,none⟩=some (.slice (some ⟨g,o,none⟩) no k3)∧w'.cell? ⟨g,o+j,none⟩=some (.int .i64 q)) (by kernel_rfl) (fun hcl=>?_);refine mS (⟨(HK1.out.below HB.out (by omega)).cell 0,(HK1.out.below HB.out (by omega)).cell 1,(HK1.out.below HB.out (by omega)).cell 2,(HK1.out.below HB.out (by omega)).cell 3,(HK2.out.below HB.out (by omega)).cell 4,HK0.out⟩) (fun hS=>?_);refine tk 0 hcl hS ?_;clear hcl;intro hcl;simp only [tkl];refine tk 1 hcl hS ?_;clear hcl;intro hcl;simp only [tkl];refine tk 2 hcl hS ?_;clear hcl;intro hcl;simp only [tkl];refine tk 3 hcl hS ?_;clear hcl;intro hcl;simp only [tkl];refine tk 4 hcl hS ?_;clear hcl;intro hcl;simp only [tkl];refine tk 5 hcl hS ?_;clear hcl;intro hcl;simp only [tkl];refine tk 6 hcl hS ?_;clear hcl;intro hcl;simp only [tkl];refine on1 7 hcl (fun K hK=>?_);go_simp;refine HSD.out.mono ?_;rintro r w3 ⟨rfl,hb3⟩;have hb3':Below (N+2) W2 w3:=HB.out.drew.trans (hb3.mono (by have:=HB.out.size;have:=HSZ.out;simp only [World.drew] at *;omega));clear hS
     have hS:(fun w':World=>w'.cell? ⟨N,0,none⟩=some (.int .i64 b)∧w'.cell? ⟨N,1,none⟩=some (.slice A1 np c1)∧w'.cell? ⟨N,2,none⟩=some (.slice A2 nt c2)∧w'.cell? ⟨N,3,none⟩=some (.slice A3 ng c3)∧w'.cell? ⟨N+1,4,none⟩=some (.slice (some ⟨g,o,none⟩) no k3)∧w'.cell? ⟨g,o+j,none⟩=some (.int .i64 q)) w3:=⟨(HK1.out.below hb3' (by omega)).cell 0,(HK1.out.below hb3' (by omega)).cell 1,(HK1.out.below hb3' (by omega)).cell 2,(HK1.out.below hb3' (by omega)).cell 3,(HK2.out.below hb3' (by omega)).cell 4,(iv_cell (HO.out.more (by rw [HN.out];exact HAL.out.trans (hb3'.mono (by omega)))) HX.out).1⟩
     refine hK.out _ _ (Or.inr hS) (fun hcl2=>?_);have HB3:=hid hb3';have HS3:=hid hS;clear hK K hcl hS hb3 hb3';have hcl:=hcl2;clear hcl2;refine on1 8 hcl (fun K hK=>?_);go_simp;refine hK.out _ _ (Or.inl (by kernel_rfl)) (fun hcl2=>?_);clear hK K hcl hcl2;refine wpAnyK_done (by kernel_rfl) ?_ _;(try simp only [Act.put,pu]);clear x1
     cases T with
     | false=>
      have HF:=hid (show P=false by
       rw [← HP.out];refine Sp.tb_no (fun h=>?_);have:=HT.out;rw [Sp.tb_yes (h.outs j q HX.out).1] at this
       cases this)
      clear hok;go_wp2_with fail;go_ret
      first | exact⟨by rw [HF.out];rfl,HAL.out.trans (HB3.out.mono (by omega))⟩ | exact⟨by rw [HF.out];rfl,(HAL.out.trans (HB3.out.mono (by omega))).drew⟩
     | true=>
      have HPI:=hid (show Sp.PortIs n q box false from Classical.byContradiction (fun h=>by have:=HT.out;rw [Sp.tb_no h] at this;cases this));clear HB HBW;go_wp2_with fail;go_loopw [11] (fun v11 wr=>Below (N+2) W2 wr∧∃ k:Nat,v11=.int .i64 (k:Int)∧k≤j∧Hid (∀ (k':Nat),k'<k→e.outs[k']?≠some q)) (fun v11 _=>j - (intOf v11).toNat)
      case atStart=>exact⟨HB3.out,0,rfl,Nat.zero_le _,hid (fun j hj=>by omega)⟩
      case round=>
       clear HB3;obtain⟨hb,k,rfl,hk,hno⟩:=hrel;have hbw:Below N w wr:=HAL.out.trans (hb.mono (by omega));have HB3:=hid hb;(have k0:(0:Int)≤(k:Int):=by omega);by_cases hkl:k<j
       ·have t1:decide ((k:Int)<(j:Int))=true:=dT;have t2:decide (k<j)=true:=decide_eq_true hkl;(have t3:(k:Int)<(no:Int):=by have:=HLT.out;omega);have t4:decide (k<no)=true:=decide_eq_true (by have:=HLT.out;omega);have t5:decide ((k:Int)<(no:Int))=true:=decide_eq_true t3;(have t6:k<no:=by have:=HLT.out;omega);(have z2:IntKind.i64.wrap ((k:Int)+1)=(k:Int)+1:=by have:=HLT.out;have:=H4.out;rw [IntKind.wrap_i64];omega);have x1:wr.cell? ⟨N+1,4,none⟩=some (.slice (some ⟨g,o,none⟩) no k3):=(HK2.out.below hb (by omega)).cell 4
        obtain⟨r,hr⟩:∃ r,e.outs[k]?=some r:=⟨_,List.getElem?_eq_getElem (by rw [HNO.out];exact t6)⟩
        have x2:=(iv_cell (HO.out.more (by rw [HN.out];exact hbw)) hr).1;have x3:=(iv_cell (HO.out.more (by rw [HN.out];exact hbw)) HX.out).1;have HRR:=hid hr;have HKJ:=hid hkl;by_cases hrq:r=q
        ·have y1:(r == q)=true:=beq_iff_eq.2 hrq
         have HF:=hid (show P=false by
          rw [← HP.out];refine Sp.tb_no (fun h=>?_)
          exact (h.outs j q HX.out).2 k hkl (by rw [hr,hrq]))
         clear hok hno hb hbw hk hkl hr hrq;go_wp2_with fail;refine wp_region_K 10 (fun w'=>w'.cell? ⟨N+1,4,none⟩=some (.slice (some ⟨g,o,none⟩) no k3)∧w'.cell? ⟨g,o+k,none⟩=some (.int .i64 r)∧w'.cell? ⟨g,o+j,none⟩=some (.int .i64 q)) (by kernel_rfl) (fun hcl=>?_);refine mS (⟨x1,x2,x3⟩) (fun hS=>?_);refine tk 0 hcl hS ?_;clear hcl;intro hcl;simp only [tkl];refine tk 1 hcl hS ?_;clear hcl;intro hcl;simp only [tkl];refine tk 2 hcl hS ?_;clear hcl;intro hcl;simp only [tkl];refine tk 3 hcl hS ?_;clear hcl;intro hcl;simp only [tkl];refine tk 4 hcl hS ?_;clear hcl;intro hcl;simp only [tkl];refine tk 5 hcl hS ?_;clear hcl;intro hcl;simp only [tkl];refine tk 6 hcl hS ?_;clear hcl;intro hcl;simp only [tkl];refine tk 7 hcl hS ?_;clear hcl;intro hcl;simp only [tkl];refine tk 8 hcl hS ?_;clear hcl;intro hcl;simp only [tkl];refine tk 9 hcl hS ?_;clear hcl;intro hcl;simp only [tkl];refine on1 10 hcl (fun K hK=>?_);go_simp;clear hS;refine hK.out _ _ (Or.inl (by kernel_rfl)) (fun hcl2=>?_);clear hK K hcl hcl2;refine wpAnyK_done (by kernel_rfl) ?_ _;(try simp only [Act.put,pu]);go_wp2_with fail;go_ret
         first | exact⟨by rw [HF.out];rfl,HAL.out.trans (HB3.out.mono (by omega))⟩ | exact⟨by rw [HF.out];rfl,(HAL.out.trans (HB3.out.mono (by omega))).drew⟩
        ·have y1:(r == q)=false:=beq_eq_false_iff_ne.2 hrq
         have HNX:=hid (show ∀ (k':Nat),k'<k+1→e.outs[k']?≠some q by
          intro k' hk';by_cases hkk:k'=k
          ·subst hkk;rw [hr];exact fun e=>hrq (Option.some.inj e)
          ·exact hno.out k' (by omega))
         clear hno hb hbw hk hkl hr hrq;go_wp2_with fail;refine wp_region_K 10 (fun w'=>w'.cell? ⟨N+1,4,none⟩=some (.slice (some ⟨g,o,none⟩) no k3)∧w'.cell? ⟨g,o+k,none⟩=some (.int .i64 r)∧w'.cell? ⟨g,o+j,none⟩=some (.int .i64 q)) (by kernel_rfl) (fun hcl=>?_);refine mS (⟨x1,x2,x3⟩) (fun hS=>?_);refine tk 0 hcl hS ?_;clear hcl;intro hcl;simp only [tkl];refine tk 1 hcl hS ?_;clear hcl;intro hcl;simp only [tkl];refine tk 2 hcl hS ?_;clear hcl;intro hcl;simp only [tkl];refine tk 3 hcl hS ?_;clear hcl;intro hcl;simp only [tkl];refine tk 4 hcl hS ?_;clear hcl;intro hcl;simp only [tkl];refine tk 5 hcl hS ?_;clear hcl;intro hcl;simp only [tkl];refine tk 6 hcl hS ?_;clear hcl;intro hcl;simp only [tkl];refine tk 7 hcl hS ?_;clear hcl;intro hcl;simp only [tkl];refine tk 8 hcl hS ?_;clear hcl;intro hcl;simp only [tkl];refine tk 9 hcl hS ?_;clear hcl;intro hcl;simp only [tkl];refine on1 10 hcl (fun K hK=>?_);go_simp;clear hS;refine hK.out _ _ (Or.inl (by kernel_rfl)) (fun hcl2=>?_);clear hK K hcl hcl2;refine wpAnyK_done (by kernel_rfl) ?_ _;(try simp only [Act.put,pu]);go_wp2_with fail;go_roundw
         case rel=>first | exact⟨HB3.out.drew,k+1,by rfl,HKJ.out,HNX⟩ | exact⟨HB3.out,k+1,by rfl,HKJ.out,HNX⟩
         case measure=>have:=HKJ.out;simp [intOf];omega
       ·have t1:decide ((k:Int)<(j:Int))=false:=dF;have t2:decide (k<j)=false:=decide_eq_false hkl
        have HNX:=hid (show ∀ (j':Nat) (q:Int),j'<j+1→e.outs[j']?=some q→Sp.PortIs n q box false∧∀ (k:Nat),k<j'→e.outs[k]?≠some q by
         intro j' q2 hj' hq2;by_cases hjj:j'=j
         ·subst hjj;rw [HX.out] at hq2;(injection hq2 with hq2);rw [← hq2];exact⟨HPI.out,fun k' hk'=>hno.out k' (by omega)⟩
         ·exact hok.out j' q2 (by omega) hq2)
        clear hok hno hb hbw hk hkl;go_wp2_with fail;go_roundw
        case rel=>exact⟨HB3.out,j+1,by rfl,HLT.out,HNX⟩
        case measure=>have:=HLT.out;simp [intOf];omega
    ·have q1:decide ((j:Int)<(no:Int))=false:=dF;have q2:decide (j<no)=false:=decide_eq_false hlt
     have hfin:P=(Sp.cubesT b [e.write] 1 && Sp.cubesT b e.cubes 64):=by
      rw [← HP.out];by_cases hE:Sp.EntryOk n box e
      ·rw [Sp.tb_yes hE,(cubesT_iff _ _ _).2 ⟨by simp,fun c hc=>by rw [List.mem_singleton.1 hc,← HBB.out];exact hE.word⟩,(cubesT_iff _ _ _).2 ⟨by have:=hE.cubes.1;omega,fun c hc=>by rw [← HBB.out];exact hE.cubes.2 c hc⟩];rfl
      ·rw [Sp.tb_no hE]
       cases hcc:(Sp.cubesT b [e.write] 1 && Sp.cubesT b e.cubes 64) with
       | false=>rfl
       | true=>
        exfalso;rw [Bool.and_eq_true,cubesT_iff,cubesT_iff] at hcc;refine hE ⟨by have:=H3.out;have:=HNZ.out;omega,by have:=H4.out;have:=HNO.out;omega,⟨by have:=hcc.2.1;omega,fun c hc=>by rw [HBB.out];exact hcc.2.2 c hc⟩,by rw [HBB.out];exact hcc.1.2 _ (List.mem_singleton.2 rfl),HINS.out,fun i q hq=>hok.out i q (by have:=(List.getElem?_eq_some_iff.1 hq).1;rw [HNO.out] at this;omega) hq⟩
     have m0:wr.cell? ⟨N,0,none⟩=some (.int .i64 b):=(HK1.out.below hb (by omega)).cell 0;have m2:wr.cell? ⟨N+1,2,none⟩=some (.slice B2 nc k2):=(HK2.out.below hb (by omega)).cell 2;have m3:wr.cell? ⟨N+1,3,none⟩=some (.string e.write):=(HK2.out.below hb (by omega)).cell 3;obtain⟨T1,hT1⟩:=nM (Sp.cubesT b [e.write] 1);obtain⟨T2,hT2⟩:=nM (Sp.cubesT b e.cubes 64);have hw:=HWORD.out;have hcu:=HCUBE.out;rw [hT1] at hw;simp only [hT2] at hcu;rw [hT1,hT2] at hfin;have HWORD2:=hid hw;have HCUBE2:=hid hcu;have HF:=hid hfin;clear hb hj hlt hok hbw hw hcu hT1 hT2 hfin HWORD HCUBE;go_wp2_with fail;refine (HWORD2.out _ _ (sv_one _ _ _)).mono ?_;rintro r w5 ⟨rfl,hw5⟩;(have hb5:Below (N+2) wr w5:=by rw [hw5];exact (Below.refl _ _).alloc (by have:=HB.out.size;have:=HSZ.out;omega) _);have n0:w5.cell? ⟨N,0,none⟩=some (.int .i64 b):=(hb5.cell (p:=⟨N,0,none⟩) (by show N<_;omega)).trans m0;have n2:w5.cell? ⟨N+1,2,none⟩=some (.slice B2 nc k2):=(hb5.cell (p:=⟨N+1,2,none⟩) (by show N+1<_;omega)).trans m2;have HB5:=hid (show Below N w w5 from HBW.out.trans (hb5.mono (by omega)));clear hb5 m0 m2 m3 hw5
     cases T1 with
     | false=>
      go_wp2_with fail;go_ret;exact⟨by rw [HF.out];rfl,HB5.out⟩
     | true=>
      go_wp2_with fail;refine (HCUBE2.out _ HB5.out).mono ?_;rintro r w6 ⟨rfl,hw6⟩;rw [hw6];clear hw6;go_wp2_with fail;go_ret;exact⟨by rw [HF.out];cases T2 <;> rfl,HB5.out⟩
end Go.Proofs.YthnamoedpnknmaaGreatDoor
