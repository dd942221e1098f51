/-
  Texts joined: Mp Mu Ms.
-/
import Derived.Test.YtedfppbnkgffcaaGreatDoorMr
set_option linter.unusedVariables false
set_option linter.unusedSimpArgs false
set_option maxRecDepth 100000
set_option maxHeartbeats 4000000
namespace Go.Proofs.YtedfppbnkgffcaaGreatDoor
open Go.RowKit
open Go.Lib (hid)
namespace Sp
structure InOk (n:Net) (p:Nat) (h:ByteArray) (q:Port) (g:List Guard) (t:List Entry):Prop where
 hq:n.ports[p]?=some q
 hin:q.inn=true
 hg:n.guards[p]?=some g
 hb:0≤q.box
 ht:n.tables[q.box.toNat]?=some t
 hf:fitsG g h
 hft:fitsT t h
 htl:t.length≤1000000
 hp:n.guards.length≤1000000
 hpp:n.ports.length≤1000000
 htt:n.tables.length≤1000000
 hh:h.size≤1000000
 hs:(n.tables.map List.length).sum≤1000000
 hw:∀ e ∈ t,e.write.size=h.size
 ho:∀ e ∈ t,e.outs.length≤1000000∧∀ o ∈ e.outs,0≤o∧∃ g' q',n.guards[o.toNat]?=some g'∧n.ports[o.toNat]?=some q'∧∀ h':ByteArray,h'.size=h.size→fitsG g' h'
end Sp
section
variable {F:Fence} {n:Nat} {P:Program} {md:Region.Mode} {ops:Array Oper} {Q:Exit→Act→World→Prop} {S:World→Prop} {L:Nat}
theorem wpAnyKIn_skip (hF:∀ f,F.fn f) {i:Nat} {o:Oper} {fuel:Nat} {listed:Array Bool} {a:Act} {w:World} (hc:ClosedL md ops listed) (hr:Region.ready md ops listed=[i]) (ho:ops[i]?=some o) (hw:Region.wanted o (yielded ops a.tmps)=false)
  (hS:(listed.setIfInBounds i true).getD L false=true∨S w) (h:ClosedL md ops (listed.setIfInBounds i true)→wpAnyKIn F n P md ops Q S L fuel (listed.setIfInBounds i true) (a.put o.dst undef) w):wpAnyKIn F n P md ops Q S L (fuel+1) listed a w:=by
 have hmem:i ∈ Region.ready md ops listed:=by rw [hr];exact List.mem_singleton.2 rfl
 refine⟨fun h0=>(by rw [hr] at h0;cases h0),fun j hj=>?_⟩;have hji:j=i:=by rw [hr] at hj;exact List.mem_singleton.1 hj
 subst hji;refine wpOpIn_step ho (fun K' hK=>?_);rw [if_neg (by rw [hw];decide)];exact⟨fun f _=>hF f,hK _ _ ⟨hS,h (closedL_set hc hj)⟩⟩
end
theorem cell_one_new4 (W:World) (c:Array Value) (T:TypeId) (i:Nat) (v:Value) (h:c[i]?=some v):(W.alloc (.cells c T)).drew.cell? ⟨W.heap.size,i,none⟩=some v:=by
 have:=World.alloc_heap_new W (.cells c T);unfold World.cell?;show (match (W.alloc (.cells c T)).heap[W.heap.size]? with | some (.cells c _ _)=>_ | _=>_)=_;rw [this];exact h
theorem moves1_inX (m:Nat) (l Bn Bs N mX:Nat) (X:World→Nat→Prop) (hXk:XOk mX X) (n:Sp.Net) (p:Nat) (h:ByteArray) (q:Sp.Port) (g:List Sp.Guard) (t:List Sp.Entry) (ok:Sp.InOk n p h q g t) (J Jx:List Sp.Mv→World→Prop) (w0 W:World) (hJ:AbidesFrom W.heap.size J)
  (hY:∀ pre x W1,J pre W1→pre ++ [x] <+: Sp.movesV n p h→YieldAt Fence.wide (m - 1) Tryz.prog l #[mvC x] W1 fun e W'=>
   (e=.returned (.bool true)∧J (pre ++ [x]) W'∧KpX w0.heap.size X W1 W')∨(e=.returned (.bool false)∧Jx (pre ++ [x]) W'))
  (hm:1≤m) (cs:List Value) (hn:NetR w0 n cs) (hnc:NetC cs N W) (hxn:¬ X W N) (hw0:Below w0.heap.size w0 W) (hmX:mX≤W.heap.size) (hXin:∀ W' cs,Below W.heap.size W W'→Blk W' W.heap.size 85 cs→¬ X W' W.heap.size) (hbon:¬ X W Bn)
  (hbn:W.cell? ⟨Bn,0,none⟩=some (.pointer (some ⟨N,0,none⟩))) (hs0:W.cell? ⟨Bs,0,none⟩=some (.int .i64 (p:Int))) (hs1:W.cell? ⟨Bs,1,none⟩=some (.string h)) (h0:J [] W):
  CallsIn Fence.wide m Tryz.prog 47 #[.func (.yield l) #[] #[],.pointer (some ⟨Bn,0,none⟩),.pointer (some ⟨Bs,0,none⟩)] W fun e W'=>(∃ v,e=.returned v) ∧
   ((∃ xs,xs=Sp.movesV n p h∧J xs W')∨(∃ pre,pre <+: Sp.movesV n p h∧Jx pre W')):=by
 have hnW:NetAt W N n:=netAt_of hn hw0 hnc;obtain⟨A1,c1,A2,c2,A3,c3,hN,n0',n1,n2,n3,hpv,_⟩:=hnW.at;have hq:=ok.hq;have hin:=ok.hin;have hqb:=ok.hb;have hlp:=ok.hpp;obtain⟨gq,oq,rfl,hgq,k0,k1,k2,k3⟩:=hpv.at hq;have hpl:p<n.ports.length:=(List.getElem?_eq_some_iff.1 hq).1;obtain⟨np,hnp⟩:=nM n.ports.length;rw [hnp] at n1 hpl hlp;obtain⟨qn,qb,qi,qd⟩:=q;simp only [] at k0 k1 k2 k3 hin;subst hin;have p0:(0:Int)≤(p:Int):=by omega
 have p1:(p:Int)<(np:Int):=by omega
 have hS:W.cell? ⟨Bn,0,none⟩=some (.pointer (some ⟨N,0,none⟩))∧W.cell? ⟨N,1,none⟩=some (.slice (some ⟨gq,oq,none⟩) np c1)∧W.cell? ⟨Bs,0,none⟩=some (.int .i64 (p:Int))∧W.cell? ⟨gq,oq+p * 4,none⟩=some (.string qn)∧W.cell? ⟨gq,oq+p * 4+1,none⟩=some (.int .i64 qb)∧W.cell? ⟨gq,oq+p * 4+2,none⟩=some (.bool true)∧W.cell? ⟨gq,oq+p * 4+3,none⟩=some (.int .i64 qd):=⟨hbn,n1,hs0,k0,k1,k2,k3⟩
 have hlbn:=xcell_lt hbn;have hlbs:=xcell_lt hs0
 have hkeep:∀ w',Below W.heap.size W w'→w'.cell? ⟨Bn,0,none⟩=some (.pointer (some ⟨N,0,none⟩))∧w'.cell? ⟨N,1,none⟩=some (.slice (some ⟨gq,oq,none⟩) np c1)∧w'.cell? ⟨Bs,0,none⟩=some (.int .i64 (p:Int))∧w'.cell? ⟨gq,oq+p * 4,none⟩=some (.string qn)∧w'.cell? ⟨gq,oq+p * 4+1,none⟩=some (.int .i64 qb)∧w'.cell? ⟨gq,oq+p * 4+2,none⟩=some (.bool true)∧w'.cell? ⟨gq,oq+p * 4+3,none⟩=some (.int .i64 qd)∧w'.cell? ⟨Bs,1,none⟩=some (.string h):=fun w' hb=>⟨(hb.cell (p:=⟨Bn,0,none⟩) hlbn).trans hbn,(hb.cell (p:=⟨N,1,none⟩) hN).trans n1,(hb.cell (p:=⟨Bs,0,none⟩) hlbs).trans hs0,(hb.cell (p:=⟨gq,oq+p * 4,none⟩) hgq).trans k0,(hb.cell (p:=⟨gq,oq+p * 4+1,none⟩) hgq).trans k1,(hb.cell (p:=⟨gq,oq+p * 4+2,none⟩) hgq).trans k2,(hb.cell (p:=⟨gq,oq+p * 4+3,none⟩) hgq).trans k3,(hb.cell (p:=⟨Bs,1,none⟩) hlbs).trans hs1⟩
 have HKEEP:=hid hkeep;clear hkeep hlbn hlbs;have HY:=hid hY;have HJ:=hid hJ;have HS:=hid hS;have HS1:=hid hs1;have HNW:=hid hnW;have HN0:=hid hn;have HNC:=hid hnc;have HXNN:=hid hxn;have HOK:=hid ok;have HW0:=hid hw0;have HXI:=hid hXin;have HBNL:=hid (xcell_lt hbn);have HXN:=hid hbon;have HXK:=hid hXk;have HM0:=hid hmX;clear hY hJ hn hnc hxn hnW hw0 hXin hbon hXk hmX ok hpv hq hnp hbn hs0 hs1 n0' n1 n2 n3 k0 k1 k2 k3;refine callsIn_of_wp Tryz.func47 rfl trivial ?_ rfl;simp only [Tryz.ntmps47,List.size_toArray,List.length_cons,List.length_nil,Nat.reduceAdd,Nat.reduceSub,Array.replicate_succ,Array.replicate_zero,List.push_toArray,List.append_toArray,List.nil_append,List.cons_append];gi_wp2;refine wpIn_region_K 9 (fun w'=>w'.cell? ⟨Bn,0,none⟩=some (.pointer (some ⟨N,0,none⟩))∧w'.cell? ⟨N,1,none⟩=some (.slice (some ⟨gq,oq,none⟩) np c1)∧w'.cell? ⟨Bs,0,none⟩=some (.int .i64 (p:Int))∧w'.cell? ⟨gq,oq+p * 4,none⟩=some (.string qn)∧w'.cell? ⟨gq,oq+p * 4+1,none⟩=some (.int .i64 qb)∧w'.cell? ⟨gq,oq+p * 4+2,none⟩=some (.bool true)∧w'.cell? ⟨gq,oq+p * 4+3,none⟩=some (.int .i64 qd)) (by kernel_rfl) (fun hcl=>?_);refine mSIn (HS.out) (fun hS=>?_);refine tkI 0 hcl hS ?_;clear hcl;intro hcl;simp only [tkl];refine tkI 1 hcl hS ?_;clear hcl;intro hcl;simp only [tkl];refine tkI 2 hcl hS ?_;clear hcl;intro hcl;simp only [tkl];refine tkI 3 hcl hS ?_;clear hcl;intro hcl;simp only [tkl];refine tkI 4 hcl hS ?_;clear hcl;intro hcl;simp only [tkl];refine tkI 5 hcl hS ?_;clear hcl;intro hcl;simp only [tkl];refine tkI 6 hcl hS ?_;clear hcl;intro hcl;simp only [tkl];refine tkI 7 hcl hS ?_;clear hcl;intro hcl;simp only [tkl];clear hS;refine on1I 8 hcl (fun K hK=>?_);simp only [ly];refine⟨(fun f hf=>by cases hf),?_⟩;rw [show Fence.wide.round=none from rfl,Oper.semAt_none];go_simp;have hb8:Below W.heap.size W (W.alloc (.cells #[.string ⟨#[]⟩,.int .i64 0,.bool false,.int .i64 0] 85)).drew:=((Below.refl _ _).alloc (Nat.le_refl _) _).drew;obtain⟨s0,s1,s2,s3,s4,s5,s6,_⟩:=HKEEP.out _ hb8;refine hK.out _ _ (Or.inr ⟨s0,s1,s2,s3,s4,s5,s6⟩) (fun hcl2=>?_);clear hK K hcl s0 s1 s2 s3 s4 s5 s6 hb8;have hcl:=hcl2;clear hcl2;refine on1I 9 hcl (fun K hK=>?_);simp only [ly];refine⟨(fun f hf=>by cases hf),?_⟩;rw [show Fence.wide.round=none from rfl,Oper.semAt_none];go_simp;refine hK.out _ _ (Or.inl (by kernel_rfl)) (fun hcl2=>?_);clear hK K hcl hcl2;refine wpAnyKIn_done (by kernel_rfl) ?_ _;have hb9:Below W.heap.size W (W.alloc (.cells #[.string qn,.int .i64 qb,.bool true,.int .i64 qd] 85)).drew:=((Below.refl _ _).alloc (Nat.le_refl _) _).drew;obtain⟨_,_,_,_,_,_,_,s7⟩:=HKEEP.out _ hb9;have hg9:=grown_of_below hb9;obtain⟨W1,hW1⟩:=nM ((W.alloc (.cells #[.string qn,.int .i64 qb,.bool true,.int .i64 qd] 85)).drew);have hsz1:W1.heap.size=W.heap.size+1:=by rw [← hW1];simp
 have HPB:=hid (show Blk W1 W.heap.size 85 #[.string qn,.int .i64 qb,.bool true,.int .i64 qd] by rw [← hW1];exact Blk.new W _ _);have t41:W1.cell? ⟨W.heap.size,1,none⟩=some (.int .i64 qb):=by rw [← hW1];exact cell_one_new4 W _ _ 1 _ rfl
 have t42:W1.cell? ⟨W.heap.size,2,none⟩=some (.bool true):=by rw [← hW1];exact cell_one_new4 W _ _ 2 _ rfl
 rw [hW1] at hb9 hg9 ⊢;obtain⟨e0,e1,e2,e3,e4,e5,e6,s7b⟩:=HKEEP.out _ hb9;clear hW1 s7;gi_wp2;refine⟨trivial,?_⟩;have hnW1:NetAt W1 N n:=HNW.out.more hb9;refine (callsIn_wide.2 (step_fit N n p ⟨qn,qb,true,qd⟩ g t h W1 hnW1 HOK.out.hg HOK.out.hq HOK.out.hb HOK.out.ht HOK.out.hf HOK.out.hft HOK.out.htl HOK.out.hp HOK.out.hpp HOK.out.htt HOK.out.hh)).mono ?_;rintro e W2 ⟨rfl,hB2⟩
 have hM:Sp.movesV n p h=if Sp.fitN n p h<0 then [] else match t[(Sp.fitN n p h).toNat]? with | none=>[] | some e=>e.outs.filterMap (Sp.outMv n (Sp.numB n qb.toNat (Sp.fitN n p h).toNat) (Sp.wordV e.write h)):=by
  unfold Sp.movesV;rw [HOK.out.hq];simp only [List.getD_eq_getElem?_getD,HOK.out.ht];rfl
 have hfn:Sp.fitN n p h=if Sp.letsB g h=true then Sp.fitI t p h else -1:=by
  unfold Sp.fitN;rw [HOK.out.hg,HOK.out.hq];simp only [List.getD_eq_getElem?_getD,HOK.out.ht];rfl
 have hJ2:J [] W2:=by
  have b2:Below W.heap.size W W2:=hb9.trans (hB2.mono (by omega));exact HJ.out [] W _ none h0 (grown_of_below b2) (fun r e=>by cases e)
 have HFN:=hid hfn;clear hfn;obtain⟨f,hf⟩:=nM (Sp.fitN n p h);rw [hf] at hM HFN ⊢;clear hf;rcases Int.lt_or_le f 0 with hlt | hge
 ·have t5:decide (f<0)=true:=decide_eq_true hlt;rw [if_pos hlt] at hM;gi_wp2;refine bodyPost_ret (results_none rfl _ _ _) rfl ?_;exact⟨⟨_,rfl⟩,.inl ⟨_,hM.symm,hJ2⟩⟩
 ·have t5:decide (f<0)=false:=dF;rw [if_neg (by omega)] at hM
  have hfi:Sp.fitI t p h=f:=by
   have:=HFN.out;split at this
   ·exact this.symm
   ·omega
  obtain⟨e,he,_⟩:=Sp.idxF_find (f:=fun e=>Sp.fitsE e p h) (l:=t) (by show 0≤Sp.fitI t p h;omega);have he':t[f.toNat]?=some e:=by rw [← hfi];exact he
  clear he hfi HFN;have HM:=hid (show Sp.movesV n p h=e.outs.filterMap (Sp.outMv n (Sp.numB n qb.toNat f.toNat) (Sp.wordV e.write h)) by rw [hM,he']);clear hM;have hnW2:NetAt W2 N n:=hnW1.more hB2;have b02:Below w0.heap.size w0 W2:=HW0.out.trans ((hb9.trans (hB2.mono (by omega))).mono HW0.out.size);have HNR:=hid HN0.out;obtain⟨B1,d1,B2,d2,B3,d3,hcse,hpv0,htv,_⟩:=HN0.out;have hN2:=HNC.out.1;have m1:W.cell? ⟨N,1,none⟩=some (.slice B1 n.ports.length d1):=HNC.out.2 1 _ (by rw [hcse];rfl);have m2:W.cell? ⟨N,2,none⟩=some (.slice B2 n.tables.length d2):=HNC.out.2 2 _ (by rw [hcse];rfl);have bW2:Below W.heap.size W W2:=hb9.trans (hB2.mono (by omega));have HCSE:=hid hcse;clear hcse;obtain⟨tg,tof,At,ct,rfl,htg,x0,hev,hct⟩:=htv.at HOK.out.ht;obtain⟨eg,eo,A4,c4,A5,c5,A6,c6,rfl,heg,y0,y1,y2,y3,y4,_,_,hiv,_⟩:=hev.at he';have hfl:f.toNat<t.length:=(List.getElem?_eq_some_iff.1 he').1;have hbl:qb.toNat<n.tables.length:=(List.getElem?_eq_some_iff.1 HOK.out.ht).1
  obtain⟨k,rfl⟩:∃ k:Nat,f=k:=⟨f.toNat,by omega⟩
  obtain⟨qk,rfl⟩:∃ k:Nat,qb=k:=⟨qb.toNat,by have:=HOK.out.hb;simp only [] at this;omega⟩
  simp only [Int.toNat_natCast] at y0 y1 y2 y3 y4 x0 hfl hbl he' HM;obtain⟨nt,hnt⟩:=nM n.tables.length;obtain⟨tl,htl⟩:=nM t.length;obtain⟨no,hno⟩:=nM e.outs.length;rw [hnt] at m2 hbl;rw [htl] at x0 hfl;rw [hno] at y4;have hle0:=b02.size;replace m1:=(bW2.cell (p:=⟨N,1,none⟩) hN2).trans m1;replace m2:=(bW2.cell (p:=⟨N,2,none⟩) hN2).trans m2;replace x0:=(b02.cell (p:=⟨tg,tof+qk,none⟩) htg).trans x0;replace y0:=(b02.cell (p:=⟨eg,eo+k * 5,none⟩) heg).trans y0;replace y1:=(b02.cell (p:=⟨eg,eo+k * 5+1,none⟩) heg).trans y1;replace y2:=(b02.cell (p:=⟨eg,eo+k * 5+2,none⟩) heg).trans y2;replace y3:=(b02.cell (p:=⟨eg,eo+k * 5+3,none⟩) heg).trans y3;replace y4:=(b02.cell (p:=⟨eg,eo+k * 5+4,none⟩) heg).trans y4;replace hN2:N<W2.heap.size:=Nat.lt_of_lt_of_le hN2 bW2.size;replace htg:tg<W2.heap.size:=Nat.lt_of_lt_of_le htg hle0;replace heg:eg<W2.heap.size:=Nat.lt_of_lt_of_le heg hle0;have f1:(k:Int)<(tl:Int):=by omega
  have b0:(0:Int)≤(qk:Int):=by omega
  have b1:(qk:Int)<(nt:Int):=by omega
  have x41:W2.cell? ⟨W.heap.size,1,none⟩=some (.int .i64 (qk:Int)):=(hB2.cell (p:=⟨W.heap.size,1,none⟩) (by show W.heap.size<W1.heap.size;omega)).trans t41;have xbn:W2.cell? ⟨Bn,0,none⟩=some (.pointer (some ⟨N,0,none⟩)):=(hB2.cell (p:=⟨Bn,0,none⟩) (xcell_lt e0)).trans e0
  have hkeep2:∀ w',Below W2.heap.size W2 w'→w'.cell? ⟨Bn,0,none⟩=some (.pointer (some ⟨N,0,none⟩))∧w'.cell? ⟨N,2,none⟩=some (.slice (some ⟨tg,tof,none⟩) nt d2)∧w'.cell? ⟨W.heap.size,1,none⟩=some (.int .i64 (qk:Int))∧w'.cell? ⟨tg,tof+qk,none⟩=some (.slice (some ⟨eg,eo,none⟩) tl ct)∧w'.cell? ⟨eg,eo+k * 5,none⟩=some (.string e.name)∧w'.cell? ⟨eg,eo+k * 5+1,none⟩=some (.slice A4 e.ins.length c4)∧w'.cell? ⟨eg,eo+k * 5+2,none⟩=some (.slice A5 e.cubes.length c5)∧w'.cell? ⟨eg,eo+k * 5+3,none⟩=some (.string e.write)∧w'.cell? ⟨eg,eo+k * 5+4,none⟩=some (.slice A6 no c6):=fun w' hb=>⟨(hb.cell (p:=⟨Bn,0,none⟩) (xcell_lt xbn)).trans xbn,(hb.cell (p:=⟨N,2,none⟩) hN2).trans m2,(hb.cell (p:=⟨W.heap.size,1,none⟩) (xcell_lt x41)).trans x41,(hb.cell (p:=⟨tg,tof+qk,none⟩) htg).trans x0,(hb.cell (p:=⟨eg,eo+k * 5,none⟩) heg).trans y0,(hb.cell (p:=⟨eg,eo+k * 5+1,none⟩) heg).trans y1,(hb.cell (p:=⟨eg,eo+k * 5+2,none⟩) heg).trans y2,(hb.cell (p:=⟨eg,eo+k * 5+3,none⟩) heg).trans y3,(hb.cell (p:=⟨eg,eo+k * 5+4,none⟩) heg).trans y4⟩
  have HK2:=hid hkeep2;clear hkeep2;gi_wp2;refine wpIn_region_K 12 (fun w'=>w'.cell? ⟨Bn,0,none⟩=some (.pointer (some ⟨N,0,none⟩))∧w'.cell? ⟨N,2,none⟩=some (.slice (some ⟨tg,tof,none⟩) nt d2)∧w'.cell? ⟨W.heap.size,1,none⟩=some (.int .i64 (qk:Int))∧w'.cell? ⟨tg,tof+qk,none⟩=some (.slice (some ⟨eg,eo,none⟩) tl ct)∧w'.cell? ⟨eg,eo+k * 5,none⟩=some (.string e.name)∧w'.cell? ⟨eg,eo+k * 5+1,none⟩=some (.slice A4 e.ins.length c4)∧w'.cell? ⟨eg,eo+k * 5+2,none⟩=some (.slice A5 e.cubes.length c5)∧w'.cell? ⟨eg,eo+k * 5+3,none⟩=some (.string e.write)∧w'.cell? ⟨eg,eo+k * 5+4,none⟩=some (.slice A6 no c6)) (by kernel_rfl) (fun hcl=>?_);refine mSIn (HK2.out _ (Below.refl _ _).drew) (fun hS=>?_);refine tkI 0 hcl hS ?_;clear hcl;intro hcl;simp only [tkl];refine tkI 1 hcl hS ?_;clear hcl;intro hcl;simp only [tkl];refine tkI 2 hcl hS ?_;clear hcl;intro hcl;simp only [tkl];refine tkI 3 hcl hS ?_;clear hcl;intro hcl;simp only [tkl];refine tkI 4 hcl hS ?_;clear hcl;intro hcl;simp only [tkl];refine tkI 5 hcl hS ?_;clear hcl;intro hcl;simp only [tkl];refine tkI 6 hcl hS ?_;clear hcl;intro hcl;simp only [tkl];refine tkI 7 hcl hS ?_;clear hcl;intro hcl;simp only [tkl];refine tkI 8 hcl hS ?_;clear hcl;intro hcl;simp only [tkl];refine tkI 9 hcl hS ?_;clear hcl;intro hcl;simp only [tkl];refine tkI 10 hcl hS ?_;clear hcl;intro hcl;simp only [tkl];clear hS;refine on1I 11 hcl (fun K hK=>?_);simp only [ly];refine⟨(fun f hf=>by cases hf),?_⟩;rw [show Fence.wide.round=none from rfl,Oper.semAt_none];go_simp;have hb8:Below W2.heap.size W2 (W2.alloc (.cells #[.string ⟨#[]⟩,.slice none 0 0,.slice none 0 0,.string ⟨#[]⟩,.slice none 0 0] 94)).drew:=((Below.refl _ _).alloc (Nat.le_refl _) _).drew;refine hK.out _ _ (Or.inr (HK2.out _ hb8)) (fun hcl2=>?_);clear hK K hcl hb8;have hcl:=hcl2;clear hcl2;refine on1I 12 hcl (fun K hK=>?_);simp only [ly];refine⟨(fun f hf=>by cases hf),?_⟩;rw [show Fence.wide.round=none from rfl,Oper.semAt_none];go_simp;refine hK.out _ _ (Or.inl (by kernel_rfl)) (fun hcl2=>?_);clear hK K hcl hcl2;refine wpAnyKIn_done (by kernel_rfl) ?_ _;obtain⟨W3,hW3⟩:=nM ((W2.alloc (.cells #[.string e.name,.slice A4 e.ins.length c4,.slice A5 e.cubes.length c5,.string e.write,.slice A6 no c6] 94)).drew);have hB3:Below W2.heap.size W2 W3:=by rw [← hW3];exact ((Below.refl _ _).alloc (Nat.le_refl _) _).drew
  have z3:W3.cell? ⟨W2.heap.size,3,none⟩=some (.string e.write):=by rw [← hW3];exact cell_one_new4 W2 _ _ 3 _ rfl
  have z4:W3.cell? ⟨W2.heap.size,4,none⟩=some (.slice A6 no c6):=by rw [← hW3];exact cell_one_new4 W2 _ _ 4 _ rfl
  have hsz3:W3.heap.size=W2.heap.size+1:=by rw [← hW3];simp
  have w41:W3.cell? ⟨W.heap.size,1,none⟩=some (.int .i64 (qk:Int)):=(hB3.cell (p:=⟨W.heap.size,1,none⟩) (xcell_lt x41)).trans x41;have wbn:W3.cell? ⟨Bn,0,none⟩=some (.pointer (some ⟨N,0,none⟩)):=(hB3.cell (p:=⟨Bn,0,none⟩) (xcell_lt xbn)).trans xbn;have vs1:W2.cell? ⟨Bs,1,none⟩=some (.string h):=(hB2.cell (p:=⟨Bs,1,none⟩) (xcell_lt s7b)).trans s7b;have ws1:W3.cell? ⟨Bs,1,none⟩=some (.string h):=(hB3.cell (p:=⟨Bs,1,none⟩) (xcell_lt vs1)).trans vs1;have hmem:e ∈ t:=List.mem_of_getElem? he';have hwr:=HOK.out.hw e hmem;have hhs:=HOK.out.hh;rw [hW3];clear hW3;have HIV:=hid hiv;have HPV:=hid hpv0;clear hiv hpv0;gi_wp2;refine⟨trivial,?_⟩;refine (callsIn_wide.2 (step_write e.write h W3 hwr hhs)).mono ?_;rintro r W4 ⟨rfl,hB4⟩;have z44:W4.cell? ⟨W2.heap.size,4,none⟩=some (.slice A6 no c6):=(hB4.cell (p:=⟨W2.heap.size,4,none⟩) (xcell_lt z4)).trans z4;have v41:W4.cell? ⟨W.heap.size,1,none⟩=some (.int .i64 (qk:Int)):=(hB4.cell (p:=⟨W.heap.size,1,none⟩) (xcell_lt w41)).trans w41;have vbn:W4.cell? ⟨Bn,0,none⟩=some (.pointer (some ⟨N,0,none⟩)):=(hB4.cell (p:=⟨Bn,0,none⟩) (xcell_lt wbn)).trans wbn;have b04:Below W.heap.size W W4:=((hb9.trans (hB2.mono (by omega))).trans (hB3.mono (by have:=hB2.size;omega))).trans (hB4.mono (by have:=hB2.size;omega));have HB04:=hid b04;have HXN4:=hid (show ¬ X W4 N from fun e=>(HXK.out.grow HM0.out b04 e).elim HXNN.out (fun hge=>by have:=HNC.out.1;omega));have HXBn:=hid (show ¬ X W4 Bn from fun e=>(HXK.out.grow HM0.out b04 e).elim HXN.out (fun hge=>by have:=xcell_lt e0;have:=HBNL.out;omega));have HX4:=hid (show ¬ X W4 W.heap.size from HXI.out W4 _ b04 (HPB.out.below ((hB2.trans (hB3.mono hB2.size)).trans (hB4.mono (by have:=hB2.size;have:=hB3.size;omega))) (by omega)));have HM4:=hid (show mX≤W4.heap.size from Nat.le_trans HM0.out b04.size);have hJ4:J [] W4:=HJ.out [] W _ none h0 (grown_of_below b04) (fun r e=>by cases e);have b00:Below w0.heap.size w0 W4:=HW0.out.trans (b04.mono HW0.out.size);have hnol:no≤1000000:=by have:=(HOK.out.ho e hmem).1;omega
  obtain⟨wd,hwd⟩:=nM (Sp.wordV e.write h);rw [hwd] at HM ⊢;gi_wp2
  gi_loopw [58] (fun i wr=>∃ j:Nat,j≤no∧i=.int .i64 j∧J ((e.outs.take j).filterMap (Sp.outMv n (Sp.numB n qk k) wd)) wr∧KpX w0.heap.size X W4 wr)
   (fun i _=>no - (intOf i).toNat)
  case atStart=>exact⟨0,Nat.zero_le _,rfl,hJ4,KpX.refl _⟩
  case round=>
   obtain⟨j,hj,rfl,hJs,hsv⟩:=hrel;by_cases hjn:j<no
   ·obtain⟨o,ho⟩:∃ o,e.outs[j]?=some o:=⟨_,List.getElem?_eq_getElem (by omega)⟩
    obtain⟨ob,oo,rfl,hob,hoc⟩:=HIV.out.at ho;obtain⟨ho0,g',q',hg',hq',hfit⟩:=(HOK.out.ho e hmem).2 o (List.mem_of_getElem? ho)
    obtain⟨on,rfl⟩:∃ k:Nat,o=k:=⟨o.toNat,by omega⟩
    simp only [Int.toNat_natCast] at hg' hq';have bw:Below w0.heap.size w0 wr:=b00.trans hsv.below;have hnr:NetAt wr N n:=netAt_of HNR.out bw ((HNC.out.below HB04.out).kpx hsv HXN4.out);have hoc':wr.cell? ⟨ob,oo+j,none⟩=some (.int .i64 (on:Int)):=(bw.cell (p:=⟨ob,oo+j,none⟩) hob).trans hoc;have r41:wr.cell? ⟨W.heap.size,1,none⟩=some (.int .i64 (qk:Int)):=hsv.cell HX4.out v41;have rbn:wr.cell? ⟨Bn,0,none⟩=some (.pointer (some ⟨N,0,none⟩)):=hsv.cell HXBn.out vbn;have tj:decide ((j:Int)<(no:Int))=true:=dT;obtain⟨gp,gpo,rfl,hgp,_,_,_,u3⟩:=HPV.out.at hq';have hon:on<n.ports.length:=(List.getElem?_eq_some_iff.1 hq').1;obtain⟨np2,hnp2⟩:=nM n.ports.length;rw [hnp2] at m1 hon;(have o0:(0:Int)≤(on:Int):=by omega);(have o1:(on:Int)<(np2:Int):=by omega);have rn1:wr.cell? ⟨N,1,none⟩=some (.slice (some ⟨gp,gpo,none⟩) np2 d1):=hsv.cell HXN4.out (((hB3.trans (hB4.mono hB3.size)).cell (p:=⟨N,1,none⟩) hN2).trans m1);have ru3:wr.cell? ⟨gp,gpo+on * 4+3,none⟩=some (.int .i64 q'.dst):=(bw.cell (p:=⟨gp,gpo+on * 4+3,none⟩) hgp).trans u3
    have hkr:∀ w',Below wr.heap.size wr w'→w'.cell? ⟨Bn,0,none⟩=some (.pointer (some ⟨N,0,none⟩))∧w'.cell? ⟨N,1,none⟩=some (.slice (some ⟨gp,gpo,none⟩) np2 d1)∧w'.cell? ⟨W.heap.size,1,none⟩=some (.int .i64 (qk:Int))∧w'.cell? ⟨gp,gpo+on * 4+3,none⟩=some (.int .i64 q'.dst):=fun w' hb=>⟨(hb.cell (p:=⟨Bn,0,none⟩) (xcell_lt rbn)).trans rbn,(hb.cell (p:=⟨N,1,none⟩) (xcell_lt rn1)).trans rn1,(hb.cell (p:=⟨W.heap.size,1,none⟩) (xcell_lt r41)).trans r41,(hb.cell (p:=⟨gp,gpo+on * 4+3,none⟩) (xcell_lt ru3)).trans ru3⟩
    have HKR:=hid hkr;clear hkr;gi_wp2;refine wpIn_region_K 22 (fun w'=>w'.cell? ⟨Bn,0,none⟩=some (.pointer (some ⟨N,0,none⟩))∧w'.cell? ⟨N,1,none⟩=some (.slice (some ⟨gp,gpo,none⟩) np2 d1)∧w'.cell? ⟨W.heap.size,1,none⟩=some (.int .i64 (qk:Int))∧w'.cell? ⟨gp,gpo+on * 4+3,none⟩=some (.int .i64 q'.dst)) (by kernel_rfl) (fun hcl=>?_);refine mSIn (HKR.out _ (Below.refl _ _).drew) (fun hS=>?_);refine tkI 0 hcl hS ?_;clear hcl;intro hcl;simp only [tkl];refine tkI 1 hcl hS ?_;clear hcl;intro hcl;simp only [tkl];refine tkI 2 hcl hS ?_;clear hcl;intro hcl;simp only [tkl];clear hS;refine on1I 3 hcl (fun K hK=>?_);simp only [ly];refine⟨(fun _ _=>trivial),?_⟩;rw [show Fence.wide.round=none from rfl,Oper.semAt_none];go_simp
    have hwds:wd.size=h.size:=by
     rw [← hwd];show (Sp.wrL e.write.data.toList h.data.toList).toArray.size=_;rw [List.size_toArray,Sp.wrL_len,Array.length_toList];rfl
    have hnd:NetAt wr.drew N n:=hnr.more (Below.refl _ _).drew;refine (callsIn_wide.2 (step_lets N n on g' wd wr.drew hnd hg' (hfit wd hwds) HOK.out.hp (by omega))).mono ?_;rintro r Wl ⟨rfl,hBl⟩;have hbl:Below wr.heap.size wr Wl:=(Below.refl _ _).drew.trans hBl;refine hK.out _ _ (Or.inr (HKR.out _ hbl)) (fun hcl2=>?_);clear hK K hcl;have hcl:=hcl2;clear hcl2
    have hlist:(e.outs.take (j+1)).filterMap (Sp.outMv n (Sp.numB n qk k) wd)=(e.outs.take j).filterMap (Sp.outMv n (Sp.numB n qk k) wd) ++ (if Sp.letsB g' wd=true then [⟨(Sp.numB n qk k:Int),(on:Int),q'.dst,wd⟩] else []):=by
     rw [List.take_add_one,ho,List.filterMap_append];congr 1;show List.filterMap _ [(on:Int)]=_;rw [List.filterMap_cons];simp only [Sp.outMv,Int.toNat_natCast,hg',hq',List.filterMap_nil];by_cases hlb:Sp.letsB g' wd=true
     ·rw [if_pos hlb,if_pos hlb]
     ·rw [if_neg hlb,if_neg hlb]
    have HLI:=hid hlist;clear hlist;have hS:(fun w':World=>w'.cell? ⟨Bn,0,none⟩=some (.pointer (some ⟨N,0,none⟩))∧w'.cell? ⟨N,1,none⟩=some (.slice (some ⟨gp,gpo,none⟩) np2 d1)∧w'.cell? ⟨W.heap.size,1,none⟩=some (.int .i64 (qk:Int))∧w'.cell? ⟨gp,gpo+on * 4+3,none⟩=some (.int .i64 q'.dst)) Wl:=HKR.out _ hbl;obtain⟨b,hb⟩:=nM (Sp.letsB g' wd);rw [hb] at HLI ⊢
    cases b with
    | false=>
     refine tkI 4 hcl hS ?_;clear hcl;intro hcl;simp only [tkl];refine pkI 5 hcl hS ?_;clear hcl;intro hcl;simp only [tkl];refine pkI 6 hcl hS ?_;clear hcl;intro hcl;simp only [tkl];refine pkI 7 hcl hS ?_;clear hcl;intro hcl;simp only [tkl];refine pkI 8 hcl hS ?_;clear hcl;intro hcl;simp only [tkl];refine pkI 9 hcl hS ?_;clear hcl;intro hcl;simp only [tkl];refine pkI 11 hcl hS ?_;clear hcl;intro hcl;simp only [tkl];refine pkI 12 hcl hS ?_;clear hcl;intro hcl;simp only [tkl];refine pkI 13 hcl hS ?_;clear hcl;intro hcl;simp only [tkl];refine pkI 14 hcl hS ?_;clear hcl;intro hcl;simp only [tkl];refine pkI 15 hcl hS ?_;clear hcl;intro hcl;simp only [tkl];refine pkI 16 hcl hS ?_;clear hcl;intro hcl;simp only [tkl];refine pkI 17 hcl hS ?_;clear hcl;intro hcl;simp only [tkl];refine pkI 18 hcl hS ?_;clear hcl;intro hcl;simp only [tkl];refine pkI 19 hcl hS ?_;clear hcl;intro hcl;simp only [tkl];refine pkI 20 hcl hS ?_;clear hcl;intro hcl;simp only [tkl];refine wpAnyKIn_skip (fun _=>trivial) (i:=10) hcl (by kernel_rfl) rfl (by rfl) (Or.inr hS) (fun hcl2=>?_);(try simp only [ly]);(try simp only [Act.put,pu]);clear hcl;have hcl:=hcl2;clear hcl2;refine pkI 21 hcl hS ?_;clear hcl;intro hcl;simp only [tkl];refine wpAnyKIn_skip (fun _=>trivial) (i:=22) hcl (by kernel_rfl) rfl (by rfl) (Or.inr hS) (fun hcl2=>?_);(try simp only [ly]);(try simp only [Act.put,pu]);clear hcl;have hcl:=hcl2;clear hcl2;clear hS;refine wpAnyKIn_skip (fun _=>trivial) (i:=23) hcl (by kernel_rfl) rfl (by rfl) (Or.inl (by kernel_rfl)) (fun hcl2=>?_);(try simp only [ly]);(try simp only [Act.put,pu]);clear hcl;have hcl:=hcl2;clear hcl2;refine on1I 24 hcl (fun K hK=>?_);simp only [ly];refine⟨(fun _ _=>trivial),?_⟩;rw [show Fence.wide.round=none from rfl,Oper.semAt_none];go_simp;refine hK.out _ _ (Or.inl (by kernel_rfl)) (fun hcl2=>?_);clear hK K hcl hcl2;refine wpAnyKIn_done (by kernel_rfl) ?_ _
     have hJl:J ((e.outs.take (j+1)).filterMap (Sp.outMv n (Sp.numB n qk k) wd)) Wl:=by
      rw [HLI.out,if_neg (by decide),List.append_nil];exact HJ.out _ wr _ none hJs (grown_of_below hbl) (fun r e=>by cases e)
     have hsvl:KpX w0.heap.size X W4 Wl:=hsv.trans (KpX.of_below HXK.out hbl bw.size (Nat.le_trans HM4.out hsv.below.size));gi_wp2;go_roundw
     case rel=>exact⟨j+1,by omega,by simp,hJl,hsvl⟩
     case measure=>simp [intOf];omega
    | true=>
     refine tkI 4 hcl hS ?_;clear hcl;intro hcl;simp only [tkl];refine tkI 5 hcl hS ?_;clear hcl;intro hcl;simp only [tkl];refine tkI 6 hcl hS ?_;clear hcl;intro hcl;simp only [tkl];refine tkI 7 hcl hS ?_;clear hcl;intro hcl;simp only [tkl];refine tkI 8 hcl hS ?_;clear hcl;intro hcl;simp only [tkl];refine tkI 9 hcl hS ?_;clear hcl;intro hcl;simp only [tkl];refine tkI 11 hcl hS ?_;clear hcl;intro hcl;simp only [tkl];refine tkI 12 hcl hS ?_;clear hcl;intro hcl;simp only [tkl];refine tkI 13 hcl hS ?_;clear hcl;intro hcl;simp only [tkl];refine tkI 14 hcl hS ?_;clear hcl;intro hcl;simp only [tkl];refine tkI 15 hcl hS ?_;clear hcl;intro hcl;simp only [tkl];refine tkI 16 hcl hS ?_;clear hcl;intro hcl;simp only [tkl];refine tkI 17 hcl hS ?_;clear hcl;intro hcl;simp only [tkl];refine tkI 18 hcl hS ?_;clear hcl;intro hcl;simp only [tkl];refine tkI 19 hcl hS ?_;clear hcl;intro hcl;simp only [tkl];refine tkI 20 hcl hS ?_;clear hcl;intro hcl;simp only [tkl];clear hS;refine on1I 10 hcl (fun K hK=>?_);simp only [ly];refine⟨(fun _ _=>trivial),?_⟩;rw [show Fence.wide.round=none from rfl,Oper.semAt_none];go_simp;have hnl:NetAt Wl N n:=hnr.more hbl;refine (callsIn_wide.2 (step_number N n qk k Wl hnl (by omega) HOK.out.hs (by have:=HOK.out.htl;omega) HOK.out.htt)).mono ?_;rintro r Wn ⟨rfl,hBn2⟩;have hbn2:Below wr.heap.size wr Wn:=hbl.trans (hBn2.mono hbl.size);refine hK.out _ _ (Or.inr (HKR.out _ hbn2)) (fun hcl2=>?_);clear hK K hcl;have hcl:=hcl2;clear hcl2;have hS:(fun w':World=>w'.cell? ⟨Bn,0,none⟩=some (.pointer (some ⟨N,0,none⟩))∧w'.cell? ⟨N,1,none⟩=some (.slice (some ⟨gp,gpo,none⟩) np2 d1)∧w'.cell? ⟨W.heap.size,1,none⟩=some (.int .i64 (qk:Int))∧w'.cell? ⟨gp,gpo+on * 4+3,none⟩=some (.int .i64 q'.dst)) Wn:=HKR.out _ hbn2;refine tkI 21 hcl hS ?_;clear hcl;intro hcl;simp only [tkl];clear hS;have hJn:J ((e.outs.take j).filterMap (Sp.outMv n (Sp.numB n qk k) wd)) Wn:=HJ.out _ wr _ none hJs (grown_of_below hbn2) (fun r e=>by cases e);rw [if_pos rfl] at HLI
     have hpre:(e.outs.take j).filterMap (Sp.outMv n (Sp.numB n qk k) wd) ++ [⟨(Sp.numB n qk k:Int),(on:Int),q'.dst,wd⟩] <+: Sp.movesV n p h:=
      ⟨(e.outs.drop (j+1)).filterMap (Sp.outMv n (Sp.numB n qk k) wd),by rw [HM.out,← HLI.out,← List.filterMap_append,List.take_append_drop]⟩
     obtain⟨fn,tmps,assign,body,hy,hR⟩:=HY.out _ ⟨(Sp.numB n qk k:Int),(on:Int),q'.dst,wd⟩ Wn hJn hpre;dsimp only [mvC] at hy;have hsvn:KpX w0.heap.size X W4 Wn:=hsv.trans (KpX.of_below HXK.out hbn2 bw.size (Nat.le_trans HM4.out hsv.below.size));refine on1I 22 hcl (fun K hK=>?_);simp only [ly];refine⟨(fun _ _=>trivial),?_⟩;rw [show Fence.wide.round=none from rfl,Oper.semAt_none];go_simp;refine hR.mono ?_;rintro r W6 (⟨rfl,hJ6,hk6⟩ | ⟨rfl,hJx6⟩)
     ·rw [← HLI.out] at hJ6;have hsv6:KpX w0.heap.size X W4 W6:=hsvn.trans hk6;clear hy hR;refine hK.out _ _ (Or.inl (by kernel_rfl)) (fun hcl2=>?_);clear hK K hcl;have hcl:=hcl2;clear hcl2;refine on1I 23 hcl (fun K hK=>?_);simp only [ly];refine⟨(fun _ _=>trivial),?_⟩;rw [show Fence.wide.round=none from rfl,Oper.semAt_none];go_simp;refine hK.out _ _ (Or.inl (by kernel_rfl)) (fun hcl2=>?_);clear hK K hcl;have hcl:=hcl2;clear hcl2;refine on1I 24 hcl (fun K hK=>?_);simp only [ly];refine⟨(fun _ _=>trivial),?_⟩;rw [show Fence.wide.round=none from rfl,Oper.semAt_none];go_simp;refine hK.out _ _ (Or.inl (by kernel_rfl)) (fun hcl2=>?_);clear hK K hcl;have hcl:=hcl2;clear hcl2;clear hcl;refine wpAnyKIn_done (by kernel_rfl) ?_ _;gi_wp2;go_roundw
      case rel=>exact⟨j+1,by omega,by simp,hJ6,hsv6⟩
      case measure=>simp [intOf];omega
     ·clear hy hR;refine hK.out _ _ (Or.inl (by kernel_rfl)) (fun hcl2=>?_);clear hK K hcl;have hcl:=hcl2;clear hcl2;refine on1I 23 hcl (fun K hK=>?_);simp only [ly];refine⟨(fun _ _=>trivial),?_⟩;rw [show Fence.wide.round=none from rfl,Oper.semAt_none];go_simp;refine hK.out _ _ (Or.inl (by kernel_rfl)) (fun hcl2=>?_);clear hK K hcl;have hcl:=hcl2;clear hcl2;refine on1I 24 hcl (fun K hK=>?_);simp only [ly];refine⟨(fun _ _=>trivial),?_⟩;rw [show Fence.wide.round=none from rfl,Oper.semAt_none];go_simp;refine hK.out _ _ (Or.inl (by kernel_rfl)) (fun hcl2=>?_);clear hK K hcl;have hcl:=hcl2;clear hcl2;clear hcl;refine wpAnyKIn_done (by kernel_rfl) ?_ _;gi_wp2;refine bodyPost_ret (results_none rfl _ _ _) rfl ?_;exact⟨⟨_,rfl⟩,.inr ⟨_,hpre,hJx6⟩⟩
   ·obtain rfl:j=no:=by omega
    (have hfin:Sp.movesV n p h=(e.outs.take j).filterMap (Sp.outMv n (Sp.numB n qk k) wd):=by rw [HM.out,List.take_of_length_le (by omega)]);gi_wp2;go_end0;exact⟨⟨_,rfl⟩,.inl ⟨_,hfin.symm,hJs⟩⟩
theorem moves1_in (m:Nat) (l Bn Bs N Bo:Nat) (n:Sp.Net) (p:Nat) (h:ByteArray) (q:Sp.Port) (g:List Sp.Guard) (t:List Sp.Entry) (ok:Sp.InOk n p h q g t) (J Jx:List Sp.Mv→World→Prop) (w0 W:World) (hJ:AbidesFrom W.heap.size J)
  (hY:∀ pre x W1,J pre W1→pre.length<(Sp.movesV n p h).length→YieldAt Fence.wide (m - 1) Tryz.prog l #[mvC x] W1 fun e W'=>
   (e=.returned (.bool true)∧J (pre ++ [x]) W'∧SaveRow w0.heap.size Bo W1 W')∨(e=.returned (.bool false)∧Jx (pre ++ [x]) W'))
  (hm:1≤m) (hn:NetAt w0 N n) (hw0:Below w0.heap.size w0 W) (hb0:w0.heap.size≤Bo) (hbo:Bo<W.heap.size) (hbon:Bo≠Bn) (hbos:Bo≠Bs) (hrow:rowAt W Bo=none)
  (hbn:W.cell? ⟨Bn,0,none⟩=some (.pointer (some ⟨N,0,none⟩))) (hs0:W.cell? ⟨Bs,0,none⟩=some (.int .i64 (p:Int))) (hs1:W.cell? ⟨Bs,1,none⟩=some (.string h)) (h0:J [] W):
  CallsIn Fence.wide m Tryz.prog 47 #[.func (.yield l) #[] #[],.pointer (some ⟨Bn,0,none⟩),.pointer (some ⟨Bs,0,none⟩)] W fun e W'=>(∃ v,e=.returned v) ∧
   ((∃ xs,xs=Sp.movesV n p h∧J xs W')∨(∃ pre,pre <+: Sp.movesV n p h∧Jx pre W')):=by
 obtain⟨cs,hnr,hnl,hnc⟩:=hn
 exact moves1_inX m l Bn Bs N (Bo+1) (rowX Bo) (XLow.ok (rowX_low Bo)) n p h q g t ok J Jx w0 W hJ
  (fun pre x W1 hj hl=>by
   obtain⟨fn,tmps,assign,body,hy,hR⟩:=hY pre x W1 hj (by have:=hl.length_le;rw [List.length_append] at this;exact this);refine⟨fn,tmps,assign,body,hy,hR.mono ?_⟩;rintro e W' (⟨h1,h2,h3⟩ | hx)
   ·exact .inl ⟨h1,h2,h3.kpX⟩
   ·exact .inr hx)
  hm cs hnr ⟨Nat.lt_of_lt_of_le hnl hw0.size,fun f u hf=>(hw0.cell (p:=⟨N,f,none⟩) hnl).trans (hnc f u hf)⟩ (fun e=>e.elim (fun e=>by omega) (fun e=>by rw [hrow] at e;cases e)) hw0 hbo (fun W' cs hb _ hx=>(rowX_low Bo _ _ _ (hb.mono hbo) hx).elim (fun e=>by omega) (fun e=>by rw [hrow] at e;cases e)) (fun e=>e.elim (fun e=>hbon e.symm) (fun e=>by rw [hrow] at e;cases e)) hbn hs0 hs1 h0
theorem step_moves (m N p:Nat) (h:ByteArray) (w:World):
  CallsIn Fence.wide m Tryz.prog 30 #[.pointer (some ⟨N,0,none⟩),.agg #[.int .i64 (p:Int),.string h]] w fun e w'=>
   e=.returned (.func (.func 47) #[] #[.pointer (some ⟨w.heap.size,0,none⟩),.pointer (some ⟨w.heap.size+1,0,none⟩)]) ∧
   w'=(w.alloc (.cells #[.pointer (some ⟨N,0,none⟩)] 69)).alloc (.cells #[.int .i64 (p:Int),.string h] 28):=by
 refine callsIn_of_wp Tryz.func30 rfl trivial ?_ rfl;simp only [Tryz.ntmps30,List.size_toArray,List.length_cons,List.length_nil,Nat.reduceAdd,Nat.reduceSub,Array.replicate_succ,Array.replicate_zero,List.push_toArray,List.append_toArray,List.nil_append,List.cons_append];gi_wp2;refine bodyPost_ret (results_tmp rfl _ _ _) rfl ?_;exact⟨rfl,rfl⟩
def Sp.MvOk (n:Sp.Net) (p:Nat) (h:ByteArray):Prop:=(∃ q,n.ports[p]?=some q∧q.inn=false∧n.ports.length≤1000000)∨∃ q g t,Sp.InOk n p h q g t
theorem moves_stops (m N Bn Bs Bo:Nat) (n:Sp.Net) (p:Nat) (h:ByteArray) (hok:Sp.MvOk n p h) (w0 w:World) (hm:1≤m) (hn:NetAt w0 N n) (hw0:Below w0.heap.size w0 w) (hb0:w0.heap.size≤Bo) (hbo:Bo<w.heap.size) (hbon:Bo≠Bn) (hbos:Bo≠Bs) (hrow:rowAt w Bo=none)
  (hbn:w.cell? ⟨Bn,0,none⟩=some (.pointer (some ⟨N,0,none⟩))) (hs0:w.cell? ⟨Bs,0,none⟩=some (.int .i64 (p:Int))) (hs1:w.cell? ⟨Bs,1,none⟩=some (.string h)):
  SeqStopsK Fence.wide m Tryz.prog 47 #[.pointer (some ⟨Bn,0,none⟩),.pointer (some ⟨Bs,0,none⟩)] (fun x=>#[mvC x]) (SaveRow w0.heap.size Bo) (fun xs=>xs=Sp.movesV n p h) (fun pre=>pre <+: Sp.movesV n p h) (Sp.movesV n p h).length w:=by
 intro l J Jx W hW hJ hJx hY h0;show CallsIn Fence.wide m Tryz.prog 47 #[.func (.yield l) #[] #[],.pointer (some ⟨Bn,0,none⟩),.pointer (some ⟨Bs,0,none⟩)] W _;have hbnW:=(hW.cell (p:=⟨Bn,0,none⟩) (xcell_lt hbn)).trans hbn;have hs0W:=(hW.cell (p:=⟨Bs,0,none⟩) (xcell_lt hs0)).trans hs0;have hs1W:=(hW.cell (p:=⟨Bs,1,none⟩) (xcell_lt hs1)).trans hs1;have hw0W:Below w0.heap.size w0 W:=hw0.trans (hW.mono hw0.size);rcases hok with⟨q,hq,hin,hlp⟩ | ⟨q,g,t,ok⟩
 ·refine moves1_link m l Bn Bs N w0.heap.size n p h q hq hin J Jx W hJ (fun pre x W1 hj hl=>?_) hm (hn.more hw0W) hbnW hs0W hs1W hlp h0;refine (hY pre x W1 hj (by have:=hl.length_le;rw [List.length_append] at this;exact this)).mono ?_;rintro e W2 (⟨h1,h2,h3⟩ | hx)
  ·exact .inl ⟨h1,h2,h3.below⟩
  ·exact .inr hx
 ·exact moves1_in m l Bn Bs N Bo n p h q g t ok J Jx w0 W hJ hY hm hn hw0W hb0 (Nat.lt_of_lt_of_le hbo hW.size) hbon hbos ((rowAt_same (hW.cell (p:=⟨Bo,0,none⟩) hbo)).trans hrow) hbnW hs0W hs1W h0
theorem moves_stopsX (m N Bn Bs m0:Nat) (X:World→Nat→Prop) (hX:XOk m0 X) (n:Sp.Net) (p:Nat) (h:ByteArray) (hok:Sp.MvOk n p h) (w0 w:World) (hm:1≤m) (cs:List Value) (hn:NetR w0 n cs) (hnc:NetC cs N w) (hxn:¬ X w N) (hw0:Below w0.heap.size w0 w) (hm0:m0≤w.heap.size) (hXin:∀ W' b cs,Below w.heap.size w W'→w.heap.size≤b→Blk W' b 85 cs→¬ X W' b) (hbon:¬ X w Bn)
  (hbn:w.cell? ⟨Bn,0,none⟩=some (.pointer (some ⟨N,0,none⟩))) (hs0:w.cell? ⟨Bs,0,none⟩=some (.int .i64 (p:Int))) (hs1:w.cell? ⟨Bs,1,none⟩=some (.string h)):
  SeqStopsK Fence.wide m Tryz.prog 47 #[.pointer (some ⟨Bn,0,none⟩),.pointer (some ⟨Bs,0,none⟩)] (fun x:{ x:Sp.Mv // x ∈ Sp.movesV n p h }=>#[mvC x.1]) (KpX w0.heap.size X) (fun xs=>xs.map (·.1)=Sp.movesV n p h) (fun pre=>pre.map (·.1) <+: Sp.movesV n p h) (Sp.movesV n p h).length w:=by
 intro l J0 Jx0 W hW hJ0 hJx0 hY0 h00
 obtain⟨J,hJe⟩:∃ J:List Sp.Mv→World→Prop,J=fun pre W=>∃ q:List { x:Sp.Mv // x ∈ Sp.movesV n p h },q.map (·.1)=pre∧J0 q W:=⟨_,rfl⟩
 obtain⟨Jx,hJxe⟩:∃ Jx:List Sp.Mv→World→Prop,Jx=fun pre W=>∃ q:List { x:Sp.Mv // x ∈ Sp.movesV n p h },q.map (·.1)=pre∧Jx0 q W:=⟨_,rfl⟩
 have hJ:AbidesFrom W.heap.size J:=by
  rw [hJe];rintro s A C row ⟨q,h1,h2⟩ hg hr;exact⟨q,h1,hJ0 q A C row h2 hg hr⟩
 have h0:J [] W:=by rw [hJe];exact⟨[],rfl,h00⟩
 have hY:∀ pre x W1,J pre W1→pre ++ [x] <+: Sp.movesV n p h→YieldAt Fence.wide (m - 1) Tryz.prog l #[mvC x] W1 fun e W'=>
   (e=.returned (.bool true)∧J (pre ++ [x]) W'∧KpX w0.heap.size X W1 W')∨(e=.returned (.bool false)∧Jx (pre ++ [x]) W'):=by
  intro pre x W1 hj hp;rw [hJe] at hj;obtain⟨q,h1,h2⟩:=hj;have hx:x ∈ Sp.movesV n p h:=hp.subset (by simp);have hl:q.length<(Sp.movesV n p h).length:=by have:=hp.length_le;rw [← h1,List.length_append,List.length_map] at this;exact this
  refine (hY0 q ⟨x,hx⟩ W1 h2 hl).mono ?_;rintro e W2 (⟨e1,e2,e3⟩ | ⟨e1,e2⟩)
  ·exact .inl ⟨e1,by rw [hJe];exact⟨_,by simp [h1],e2⟩,e3⟩
  ·exact .inr ⟨e1,by rw [hJxe];exact⟨_,by simp [h1],e2⟩⟩
 refine CallsIn.mono (R:=fun e W'=>(∃ v,e=.returned v)∧((∃ xs,xs=Sp.movesV n p h∧J xs W')∨(∃ pre,pre <+: Sp.movesV n p h∧Jx pre W'))) ?_ ?_
 rotate_left
 ·rintro e W' ⟨e1,e2⟩;refine⟨e1,?_⟩;rcases e2 with⟨xs,rfl,e3⟩ | ⟨pre,e3,e4⟩
  ·rw [hJe] at e3;obtain⟨q,h1,h2⟩:=e3;exact .inl ⟨q,h1,h2⟩
  ·rw [hJxe] at e4;obtain⟨q,h1,h2⟩:=e4;exact .inr ⟨q,(show q.map (·.1) <+: Sp.movesV n p h by rw [h1];exact e3),h2⟩
 clear hJe hJxe;show CallsIn Fence.wide m Tryz.prog 47 #[.func (.yield l) #[] #[],.pointer (some ⟨Bn,0,none⟩),.pointer (some ⟨Bs,0,none⟩)] W _;have hbnW:=(hW.cell (p:=⟨Bn,0,none⟩) (xcell_lt hbn)).trans hbn;have hs0W:=(hW.cell (p:=⟨Bs,0,none⟩) (xcell_lt hs0)).trans hs0;have hs1W:=(hW.cell (p:=⟨Bs,1,none⟩) (xcell_lt hs1)).trans hs1;have hw0W:Below w0.heap.size w0 W:=hw0.trans (hW.mono hw0.size);have hxx:¬ X W Bn:=fun e=>(hX.grow hm0 hW e).elim hbon (fun hge=>by have h9:Bn<w.heap.size:=xcell_lt hbn;omega)
 rcases hok with⟨q,hq,hin,hlp⟩ | ⟨q,g,t,ok⟩
 ·refine moves1_link m l Bn Bs N w0.heap.size n p h q hq hin J Jx W hJ (fun pre x W1 hj hl=>?_) hm (netAt_of hn hw0W (hnc.below hW)) hbnW hs0W hs1W hlp h0;refine (hY pre x W1 hj hl).mono ?_;rintro e W2 (⟨h1,h2,h3⟩ | hx)
  ·exact .inl ⟨h1,h2,h3.below⟩
  ·exact .inr hx
 ·exact moves1_inX m l Bn Bs N m0 X hX n p h q g t ok J Jx w0 W hJ hY hm cs hn (hnc.below hW) (fun e=>(hX.grow hm0 hW e).elim hxn (fun hge=>by have:=hnc.1;omega)) hw0W (Nat.le_trans hm0 hW.size) (fun W' cs hb hk=>hXin W' _ cs (hW.trans (hb.mono hW.size)) hW.size hk) hxx hbnW hs0W hs1W h0
namespace Sp
theorem len_le_sum {α:Type}:∀ {l:List (List α)} {x:List α},x ∈ l→x.length≤(l.map List.length).sum
 | [],_,h=>by cases h
 | y :: l,x,h=>by
  rw [List.map_cons,List.sum_cons];rcases List.mem_cons.1 h with rfl | h
  ·omega
  ·have:=len_le_sum h;omega
theorem cubeOk_size {n:Net} {p:Int} {h c:ByteArray} (hs:StateOk n p h) (hc:CubeOk n.bits c):c.size=h.size:=by
 have h1:=hs.bits;have h2:=hc.2;omega
theorem fitsG_ok {n:Net} {p:Int} {h:ByteArray} (hn:NetOk n) (hs:StateOk n p h) {g:List Guard} (hg:g ∈ n.guards) (h':ByteArray) (he:h'.size=h.size):fitsG g h':=by
 have h1:=hn.guards.1;have h2:=len_le_sum hg;refine⟨fun l hl=>?_,by omega⟩;have h3:=(hn.guards.2 g hg).2 l hl;exact⟨by have:=h3.1;omega,fun c hc=>by rw [cubeOk_size hs (h3.2 c hc),he];exact Nat.le_refl _⟩
theorem ins_len {n:Net} {box:Int} {e:Entry} (hn:NetOk n) (he:EntryOk n box e):e.ins.length≤48:=by
 have key:∀ (i:Nat) (p:Int),e.ins[i]?=some p→(i:Int)≤p:=by
  intro i
  induction i with
  | zero=>intro p hp;exact (he.ins 0 p hp).1.1
  | succ i ih=>
   intro p hp;(have hlt:i<e.ins.length:=by have:=(List.getElem?_eq_some_iff.1 hp).1;omega);have h1:e.ins[i]?=some e.ins[i]:=List.getElem?_eq_getElem hlt;have h2:=ih _ h1;have h3:=(he.ins (i+1) p hp).2 e.ins[i] (by omega) (by rw [Nat.add_sub_cancel];exact h1);omega
 rcases Nat.lt_or_ge 48 e.ins.length with hlt | hge
 ·exfalso;have h1:e.ins[48]?=some e.ins[48]:=List.getElem?_eq_getElem hlt;have h2:=key 48 _ h1;obtain⟨h3,q,h4,_⟩:=(he.ins 48 _ h1).1;have h5:=(List.getElem?_eq_some_iff.1 h4).1;have h6:=hn.nports;omega
 ·exact hge
theorem table_at {n:Net} (hn:NetOk n) {b:Nat} {t:List Entry} (ht:n.tables[b]?=some t) {e:Entry} (he:e ∈ t):EntryOk n b e:=(hn.tables.2 b t ht).2 e he
theorem fitsT_ok {n:Net} {p:Int} {h:ByteArray} (hn:NetOk n) (hs:StateOk n p h) {b:Nat} {t:List Entry} (ht:n.tables[b]?=some t):fitsT t h:=by
 intro e he;have ho:=table_at hn ht he;exact⟨by have:=ins_len hn ho;omega,by have:=ho.cubes.1;omega,fun c hc=>by rw [cubeOk_size hs (ho.cubes.2 c hc)];exact Nat.le_refl _⟩
theorem port_at {n:Net} {p:Int} {h:ByteArray} (hs:StateOk n p h):∃ q,n.ports[p.toNat]?=some q:=⟨_,List.getElem?_eq_getElem (show p.toNat<n.ports.length by have:=hs.port;omega)⟩
theorem guard_at {n:Net} (hn:NetOk n) {i:Nat} (hi:i<n.ports.length):∃ g,n.guards[i]?=some g:=⟨_,List.getElem?_eq_getElem (by rw [hn.nguards];exact hi)⟩
theorem inOk_of {n:Net} {p:Nat} {h:ByteArray} (hn:NetOk n) (hs:StateOk n p h) {q:Port} (hq:n.ports[p]?=some q) (hin:q.inn=true):∃ g t,InOk n p h q g t:=by
 have hpl:=(List.getElem?_eq_some_iff.1 hq).1;obtain⟨g,hg⟩:=guard_at hn hpl;have hbx:=(hn.ports p q hq).box;have hbl:q.box.toNat<n.tables.length:=by omega
 have ht:n.tables[q.box.toNat]?=some (n.tables[q.box.toNat]):=List.getElem?_eq_getElem hbl;have h48:=hn.nports;have h16:=hn.ntables;have hgs:=hn.nguards;have hsum:=hn.tables.1;have hbits:=hn.bits;have hhb:=hs.bits;refine⟨g,n.tables[q.box.toNat],hq,hin,hg,hbx.1,ht,fitsG_ok hn hs (List.mem_of_getElem? hg) h rfl,fitsT_ok hn hs ht,?_,by omega,by omega,by omega,by omega,by omega,?_,?_⟩
 ·have:=len_le_sum (List.mem_of_getElem? ht);omega
 ·intro e he;exact cubeOk_size hs (table_at hn ht he).word
 ·intro e he;have ho:=table_at hn ht he;refine⟨by have:=ho.nouts;omega,fun o hoo=>?_⟩;obtain⟨i,hi⟩:=List.mem_iff_getElem?.1 hoo;obtain⟨h1,q',h2,_⟩:=(ho.outs i o hi).1;obtain⟨g',hg'⟩:=guard_at hn (List.getElem?_eq_some_iff.1 h2).1;exact⟨h1,g',q',hg',h2,fun h' he'=>fitsG_ok hn hs (List.mem_of_getElem? hg') h' he'⟩
theorem mvOk_of {n:Net} {p:Nat} {h:ByteArray} (hn:NetOk n) (hs:StateOk n p h):MvOk n p h:=by
 obtain⟨q,hq⟩:=port_at hs;rw [Int.toNat_natCast] at hq;by_cases hin:q.inn=false
 ·exact Or.inl ⟨q,hq,hin,by have:=hn.nports;omega⟩
 ·obtain⟨g,t,hok⟩:=inOk_of hn hs hq (by simpa using hin);exact Or.inr ⟨q,g,t,hok⟩
theorem filterMap_len {α β:Type} (f:α→Option β):∀ l:List α,(l.filterMap f).length≤l.length
 | []=>Nat.le_refl _
 | x :: l=>by
  rw [List.filterMap_cons];have:=filterMap_len f l
  cases f x <;> simp <;> omega
theorem movesV_len {n:Net} {p:Nat} {h:ByteArray} (hn:NetOk n) (hs:StateOk n p h):(movesV n p h).length≤4:=by
 obtain⟨q,hq⟩:=port_at hs;rw [Int.toNat_natCast] at hq;unfold movesV;rw [hq];simp only [];split
 ·split <;> simp
 ·split
  ·simp
  ·split
   ·simp
   ·rename_i e he;have hbx:=(hn.ports p q hq).box;(have hbl:q.box.toNat<n.tables.length:=by omega);have ht:n.tables[q.box.toNat]?=some (n.tables[q.box.toNat]):=List.getElem?_eq_getElem hbl;rw [List.getD_eq_getElem?_getD,ht] at he;have:=(table_at hn ht (List.mem_of_getElem? he)).nouts;exact Nat.le_trans (filterMap_len _ _) this
def stM (m:Mv):List (Int × ByteArray):=(if 0≤m.out then [(m.out,m.header)] else []) ++ (if 0≤m.inn then [(m.inn,m.header)] else [])
def stV (l:List Mv):List (Int × ByteArray):=l.flatMap stM
theorem stM_len (m:Mv):(stM m).length≤2:=by unfold stM;split <;> split <;> simp
theorem stV_len:∀ l:List Mv,(stV l).length≤2 * l.length
 | []=>Nat.le_refl _
 | m :: l=>by
  have h1:=stV_len l;have h2:=stM_len m;unfold stV at h1 ⊢;rw [List.flatMap_cons,List.length_append,List.length_cons];omega
theorem stV_snoc (l:List Mv) (m:Mv):stV (l ++ [m])=stV l ++ stM m:=by unfold stV;rw [List.flatMap_append];simp
def entryV (n:Net) (p:Nat) (h:ByteArray):Int:=match n.ports[p]? with
 | none=>-1
 | some q=>if q.inn=false then -1 else if fitN n p h<0 then -1 else (numB n q.box.toNat (fitN n p h).toNat:Int)
end Sp
def stC (x:Int × ByteArray):List Value:=[.int .i64 x.1,.string x.2]
def StR (W:World) (B:Nat) (v:Value) (l:List (Int × ByteArray)):Prop:=W.ownsRow B 28 2 v l.length (l.flatMap stC)
theorem rowAt_box {W:World} {Bo:Nat} {t:TypeId} {v:Value} (h:Boxed W Bo t v):rowAt W Bo=v.ownBlock:=by
 unfold rowAt;rw [h.cell]
 cases v <;> try rfl
 rename_i a _ _
 cases a <;> rfl
end Go.Proofs.YtedfppbnkgffcaaGreatDoor
