/-
 Texts joined: Mo Mr.
-/
import Derived.Test.YtedfppbnkgffcaaGreatDoorMn
set_option linter.unusedVariables false
set_option linter.unusedSimpArgs false
set_option maxRecDepth 100000
set_option maxHeartbeats 4000000
namespace Go.Proofs.YtedfppbnkgffcaaGreatDoor
open Go.RowKit
namespace Sp
structure Mv where
 entry:Int
 out:Int
 inn:Int
 header:ByteArray
def outMv (n:Net) (num:Int) (h:ByteArray) (o:Int):Option Mv:=match n.guards[o.toNat]?,n.ports[o.toNat]? with
 | some g,some q=>if letsB g h=true then some ⟨num,o,q.dst,h⟩ else none
 | _,_=>none
def movesV (n:Net) (p:Nat) (h:ByteArray):List Mv:=match n.ports[p]? with
 | none=>[]
 | some q=>if q.inn=false then (if 0≤q.dst then [⟨-1,-1,q.dst,h⟩] else []) else
  if fitN n p h<0 then [] else match (n.tables.getD q.box.toNat [])[(fitN n p h).toNat]? with
   | none=>[]
   | some e=>e.outs.filterMap (outMv n (numB n q.box.toNat (fitN n p h).toNat) (wordV e.write h))
end Sp
def mvC (m:Sp.Mv):Value:=.agg #[.int .i64 m.entry,.int .i64 m.out,.int .i64 m.inn,.string m.header]
theorem grown_of_below {w w':World} (h:Below w.heap.size w w'):w.grownBy w' none:=⟨h.os,h.tape,h.output,h.size,fun b hb _=>h.block b hb⟩
theorem moves1_link (m:Nat) (l Bn Bs N n0:Nat) (n:Sp.Net) (p:Nat) (h:ByteArray) (q:Sp.Port) (hq:n.ports[p]?=some q) (hin:q.inn=false) (J Jx:List Sp.Mv→World→Prop) (W:World) (hJ:AbidesFrom W.heap.size J)
  (hY:∀ pre x W1,J pre W1→pre ++ [x] <+: Sp.movesV n p h→YieldAt Fence.wide (m - 1) Tryz.prog l #[mvC x] W1 fun e W'=>
   (e=.returned (.bool true)∧J (pre ++ [x]) W'∧Below n0 W1 W')∨(e=.returned (.bool false)∧Jx (pre ++ [x]) W'))
  (hm:1≤m) (hn:NetAt W N n) (hbn:W.cell? ⟨Bn,0,none⟩=some (.pointer (some ⟨N,0,none⟩))) (hs0:W.cell? ⟨Bs,0,none⟩=some (.int .i64 (p:Int))) (hs1:W.cell? ⟨Bs,1,none⟩=some (.string h)) (hlp:n.ports.length≤1000000) (h0:J [] W):
  CallsIn Fence.wide m Tryz.prog 47 #[.func (.yield l) #[] #[],.pointer (some ⟨Bn,0,none⟩),.pointer (some ⟨Bs,0,none⟩)] W fun e W'=>(∃ v,e=.returned v) ∧
   ((∃ xs,xs=Sp.movesV n p h∧J xs W')∨(∃ pre,pre <+: Sp.movesV n p h∧Jx pre W')):=by
 obtain⟨A1,c1,A2,c2,A3,c3,hN,n0',n1,n2,n3,hpv,_⟩:=hn.at;obtain⟨gq,oq,rfl,hgq,k0,k1,k2,k3⟩:=hpv.at hq;have hpl:p<n.ports.length:=(List.getElem?_eq_some_iff.1 hq).1;obtain⟨np,hnp⟩:=nM n.ports.length;rw [hnp] at n1 hpl hlp;obtain⟨qn,qb,qi,qd⟩:=q;simp only [] at k0 k1 k2 k3 hin;subst hin;have p0:(0:Int)≤(p:Int):=by omega
 have p1:(p:Int)<(np:Int):=by omega
 have hS:W.cell? ⟨Bn,0,none⟩=some (.pointer (some ⟨N,0,none⟩))∧W.cell? ⟨N,1,none⟩=some (.slice (some ⟨gq,oq,none⟩) np c1)∧W.cell? ⟨Bs,0,none⟩=some (.int .i64 (p:Int))∧W.cell? ⟨gq,oq+p * 4,none⟩=some (.string qn)∧W.cell? ⟨gq,oq+p * 4+1,none⟩=some (.int .i64 qb)∧W.cell? ⟨gq,oq+p * 4+2,none⟩=some (.bool false)∧W.cell? ⟨gq,oq+p * 4+3,none⟩=some (.int .i64 qd):=⟨hbn,n1,hs0,k0,k1,k2,k3⟩
 have hlbn:=xcell_lt hbn;have hlbs:=xcell_lt hs0
 have hkeep:∀ w',Below W.heap.size W w'→w'.cell? ⟨Bn,0,none⟩=some (.pointer (some ⟨N,0,none⟩))∧w'.cell? ⟨N,1,none⟩=some (.slice (some ⟨gq,oq,none⟩) np c1)∧w'.cell? ⟨Bs,0,none⟩=some (.int .i64 (p:Int))∧w'.cell? ⟨gq,oq+p * 4,none⟩=some (.string qn)∧w'.cell? ⟨gq,oq+p * 4+1,none⟩=some (.int .i64 qb)∧w'.cell? ⟨gq,oq+p * 4+2,none⟩=some (.bool false)∧w'.cell? ⟨gq,oq+p * 4+3,none⟩=some (.int .i64 qd)∧w'.cell? ⟨Bs,1,none⟩=some (.string h):=fun w' hb=>⟨(hb.cell (p:=⟨Bn,0,none⟩) hlbn).trans hbn,(hb.cell (p:=⟨N,1,none⟩) hN).trans n1,(hb.cell (p:=⟨Bs,0,none⟩) hlbs).trans hs0,(hb.cell (p:=⟨gq,oq+p * 4,none⟩) hgq).trans k0,(hb.cell (p:=⟨gq,oq+p * 4+1,none⟩) hgq).trans k1,(hb.cell (p:=⟨gq,oq+p * 4+2,none⟩) hgq).trans k2,(hb.cell (p:=⟨gq,oq+p * 4+3,none⟩) hgq).trans k3,(hb.cell (p:=⟨Bs,1,none⟩) hlbs).trans hs1⟩
 have HKEEP:=Lib.hid hkeep;clear hkeep hlbn hlbs;have HM:=Lib.hid (show Sp.movesV n p h=if 0≤qd then [⟨-1,-1,qd,h⟩] else [] by unfold Sp.movesV;rw [hq];rfl);have HY:=Lib.hid hY;have HJ:=Lib.hid hJ;have HS:=Lib.hid hS;have HS1:=Lib.hid hs1;clear hY hJ hn hpv hq hnp hbn hs0 hs1 n0' n1 n2 n3 k0 k1 k2 k3;refine callsIn_of_wp Tryz.func47 rfl trivial ?_ rfl;simp only [Tryz.ntmps47,List.size_toArray,List.length_cons,List.length_nil,Nat.reduceAdd,Nat.reduceSub,Array.replicate_succ,Array.replicate_zero,List.push_toArray,List.append_toArray,List.nil_append,List.cons_append];gi_wp2;refine wpIn_region_K 9 (fun w'=>w'.cell? ⟨Bn,0,none⟩=some (.pointer (some ⟨N,0,none⟩))∧w'.cell? ⟨N,1,none⟩=some (.slice (some ⟨gq,oq,none⟩) np c1)∧w'.cell? ⟨Bs,0,none⟩=some (.int .i64 (p:Int))∧w'.cell? ⟨gq,oq+p * 4,none⟩=some (.string qn)∧w'.cell? ⟨gq,oq+p * 4+1,none⟩=some (.int .i64 qb)∧w'.cell? ⟨gq,oq+p * 4+2,none⟩=some (.bool false)∧w'.cell? ⟨gq,oq+p * 4+3,none⟩=some (.int .i64 qd)) (by kernel_rfl) (fun hcl=>?_);refine mSIn (HS.out) (fun hS=>?_);refine tkI 0 hcl hS ?_;clear hcl;intro hcl;simp only [tkl];refine tkI 1 hcl hS ?_;clear hcl;intro hcl;simp only [tkl];refine tkI 2 hcl hS ?_;clear hcl;intro hcl;simp only [tkl];refine tkI 3 hcl hS ?_;clear hcl;intro hcl;simp only [tkl];refine tkI 4 hcl hS ?_;clear hcl;intro hcl;simp only [tkl];refine tkI 5 hcl hS ?_;clear hcl;intro hcl;simp only [tkl];refine tkI 6 hcl hS ?_;clear hcl;intro hcl;simp only [tkl];refine tkI 7 hcl hS ?_;clear hcl;intro hcl;simp only [tkl];clear hS;refine on1I 8 hcl (fun K hK=>?_);simp only [ly];refine⟨(fun f hf=>by cases hf),?_⟩;rw [show Fence.wide.round=none from rfl,Oper.semAt_none];go_simp;have hb8:Below W.heap.size W (W.alloc (.cells #[.string ⟨#[]⟩,.int .i64 0,.bool false,.int .i64 0] 85)).drew:=((Below.refl _ _).alloc (Nat.le_refl _) _).drew;obtain⟨s0,s1,s2,s3,s4,s5,s6,_⟩:=HKEEP.out _ hb8;refine hK.out _ _ (Or.inr ⟨s0,s1,s2,s3,s4,s5,s6⟩) (fun hcl2=>?_);clear hK K hcl s0 s1 s2 s3 s4 s5 s6 hb8;have hcl:=hcl2;clear hcl2;refine on1I 9 hcl (fun K hK=>?_);simp only [ly];refine⟨(fun f hf=>by cases hf),?_⟩;rw [show Fence.wide.round=none from rfl,Oper.semAt_none];go_simp;refine hK.out _ _ (Or.inl (by kernel_rfl)) (fun hcl2=>?_);clear hK K hcl hcl2;refine wpAnyKIn_done (by kernel_rfl) ?_ _;have hb9:Below W.heap.size W (W.alloc (.cells #[.string qn,.int .i64 qb,.bool false,.int .i64 qd] 85)).drew:=((Below.refl _ _).alloc (Nat.le_refl _) _).drew;obtain⟨_,_,_,_,_,_,_,s7⟩:=HKEEP.out _ hb9;have hg9:=grown_of_below hb9;by_cases hd:0≤qd
 ·have t1:decide (qd ≥ 0)=true:=decide_eq_true hd;have hM:Sp.movesV n p h=[⟨-1,-1,qd,h⟩]:=by rw [HM.out,if_pos hd]
  obtain⟨fn,tmps,assign,body,hy,hR⟩:=HY.out [] ⟨-1,-1,qd,h⟩ _ (HJ.out [] W _ none h0 hg9 (fun r e=>by cases e)) (by rw [hM];exact List.prefix_refl _);dsimp only [mvC] at hy;gi_wp2;refine hR.mono ?_;rintro e W3 (⟨rfl,hJ3,hk3⟩ | ⟨rfl,hJx3⟩)
  ·gi_wp2;refine bodyPost_ret (results_none rfl _ _ _) rfl ?_;exact⟨⟨_,rfl⟩,.inl ⟨_,hM.symm,hJ3⟩⟩
  ·gi_wp2;refine bodyPost_ret (results_none rfl _ _ _) rfl ?_;exact⟨⟨_,rfl⟩,.inr ⟨_,by rw [hM];exact List.prefix_refl _,hJx3⟩⟩
 ·have t1:decide (qd ≥ 0)=false:=decide_eq_false hd;have hM:Sp.movesV n p h=[]:=by rw [HM.out,if_neg hd]
  gi_wp2;refine bodyPost_ret (results_none rfl _ _ _) rfl ?_;exact⟨⟨_,rfl⟩,.inl (HJ.out [] W _ none h0 hg9 (fun r e=>by cases e))⟩
def rowAt (W:World) (Bo:Nat):Option Nat:=match W.cell? ⟨Bo,0,none⟩ with | some (.slice (some a) _ _)=>some a.block | _=>none
structure SaveRow (n0 Bo:Nat) (A B:World):Prop where
 below:Below n0 A B
 row:rowAt B Bo=rowAt A Bo∨∀ r,rowAt B Bo=some r→A.heap.size≤r
 keep:∀ b o,b≠Bo→A.heap[b]?=some o→o.isCells=true→rowAt A Bo≠some b→B.heap[b]?=some o
theorem heap_lt {A:World} {b:Nat} {o:Obj} (h:A.heap[b]?=some o):b<A.heap.size:=(Array.getElem?_eq_some_iff.1 h).1
theorem SaveRow.trans {n0 Bo:Nat} {A B C:World} (h:SaveRow n0 Bo A B) (k:SaveRow n0 Bo B C):SaveRow n0 Bo A C:=by
 refine⟨h.below.trans k.below,?_,?_⟩
 ·rcases k.row with e | f
  ·rcases h.row with e' | f'
   ·exact .inl (e.trans e')
   ·exact .inr fun r hr=>f' r (e ▸ hr)
  ·exact .inr fun r hr=>Nat.le_trans h.below.size (f r hr)
 ·intro b o hb ho hc hr;refine k.keep b o hb (h.keep b o hb ho hc hr) hc ?_;rcases h.row with e | f
  ·rwa [e]
  ·intro hx;have:=f b hx;have:=heap_lt ho;omega
theorem rowAt_same {A B:World} {Bo:Nat} (h:B.cell? ⟨Bo,0,none⟩=A.cell? ⟨Bo,0,none⟩):rowAt B Bo=rowAt A Bo:=by
 unfold rowAt;rw [h]
theorem SaveRow.of_below {n0 Bo:Nat} {A B:World} (h:Below A.heap.size A B) (hn:n0≤A.heap.size) (hb:Bo<A.heap.size):SaveRow n0 Bo A B:=
 ⟨h.mono hn,.inl (rowAt_same (h.cell (p:=⟨Bo,0,none⟩) hb)),fun b o _ ho _ _=>(h.block b (heap_lt ho)).trans ho⟩
theorem SaveRow.book {n0 Bo:Nat} {w:World} (hn:n0≤w.heap.size) (hb:Bo<w.heap.size) (W:World) (l:Nat) (o o':Obj) (hl:w.heap.size≤l) (h:W.heap[l]?=some o) (hc:o.isCells=false) (hw:o.isWalk=false):SaveRow n0 Bo W (W.putObj l o'):=by
 have hB:=belowK_b hn W l o o' hl h hc hw;have hB2:=belowK_b (n₀:=w.heap.size) (Nat.le_refl _) W l o o' hl h hc hw;refine⟨hB,.inl (rowAt_same (hB2.cell (p:=⟨Bo,0,none⟩) hb)),fun b ob _ ho hob _=>?_⟩;have hne:b≠l:=by rintro rfl;rw [h] at ho;cases ho;rw [hc] at hob;cases hob
 exact (World.putObj_heap_other hne).trans ho
theorem cells_of_cell {A:World} {p:Addr} {v:Value} (h:A.cell? p=some v):∃ o,A.heap[p.block]?=some o∧o.isCells=true:=by
 unfold World.cell? at h;split at h
 all_goals first
  | (rename_i hx;exact⟨_,hx,rfl⟩)
  | cases h
structure KpX (n0:Nat) (X:World→Nat→Prop) (A B:World):Prop where
 below:Below n0 A B
 keep:∀ b o,A.heap[b]?=some o→o.isCells=true→¬ X A b→B.heap[b]?=some o
 own:∀ b,X B b→X A b∨∀ o,A.heap[b]?=some o→o.isCells=false
structure XOk (m0:Nat) (X:World→Nat→Prop):Prop where
 grow:∀ {A B:World} {b:Nat},m0≤A.heap.size→Below A.heap.size A B→X B b→X A b∨A.heap.size≤b
 book:∀ {W:World} {l b:Nat} {o:Obj} (o':Obj),m0≤l→W.heap[l]?=some o→o.isCells=false→X (W.putObj l o') b→X W b∨b=l
theorem KpX.not {n0:Nat} {X:World→Nat→Prop} {A B:World} (h:KpX n0 X A B) {b:Nat} {o:Obj} (ho:A.heap[b]?=some o) (hc:o.isCells=true) (hx:¬ X A b):¬ X B b:=fun hB=>by
 rcases h.own b hB with e | e
 ·exact hx e
 ·rw [e o ho] at hc;cases hc
theorem KpX.trans {n0:Nat} {X:World→Nat→Prop} {A B C:World} (h:KpX n0 X A B) (k:KpX n0 X B C):KpX n0 X A C:=by
 refine⟨h.below.trans k.below,fun b o ho hc hx=>k.keep b o (h.keep b o ho hc hx) hc (h.not ho hc hx),fun b hb=>?_⟩;refine Classical.byCases (fun hx:X A b=>.inl hx) (fun hx=>.inr (fun o ho=>?_));refine Classical.byContradiction (fun hc=>?_);have hc':o.isCells=true:=by simpa using hc
 exact k.not (h.keep b o ho hc' hx) hc' (h.not ho hc' hx) hb
theorem KpX.of_below {n0 m0:Nat} {X:World→Nat→Prop} (hX:XOk m0 X) {A B:World} (h:Below A.heap.size A B) (hn:n0≤A.heap.size) (hm:m0≤A.heap.size):KpX n0 X A B:=
 ⟨h.mono hn,fun b o ho _ _=>(h.block b (heap_lt ho)).trans ho,fun b hb=>(hX.grow hm h hb).elim .inl (fun e=>.inr (fun o ho=>by have:=heap_lt ho;omega))⟩
theorem KpX.book {n0 m0:Nat} {X:World→Nat→Prop} (hX:XOk m0 X) {w:World} (hn:n0≤w.heap.size) (hm:m0≤w.heap.size) (W:World) (l:Nat) (o o':Obj) (hl:w.heap.size≤l) (h:W.heap[l]?=some o) (hc:o.isCells=false) (hw:o.isWalk=false):KpX n0 X W (W.putObj l o'):=by
 refine⟨belowK_b hn W l o o' hl h hc hw,fun b ob ho hob _=>?_,fun b hb=>?_⟩
 ·have hne:b≠l:=by rintro rfl;rw [h] at ho;cases ho;rw [hc] at hob;cases hob
  exact (World.putObj_heap_other hne).trans ho
 ·rcases hX.book o' (by omega) h hc hb with e | e
  ·exact .inl e
  ·exact .inr (fun ob ho=>by rw [e,h] at ho;cases ho;exact hc)
theorem KpX.cell {n0:Nat} {X:World→Nat→Prop} {A B:World} (h:KpX n0 X A B) {p:Addr} {v:Value} (hx:¬ X A p.block) (hv:A.cell? p=some v):B.cell? p=some v:=by
 obtain⟨o,ho,hc⟩:=cells_of_cell hv;have:=h.keep _ _ ho hc hx;rw [← hv];unfold World.cell?;rw [this,ho]
theorem KpX.refl {n0:Nat} {X:World→Nat→Prop} (A:World):KpX n0 X A A:=⟨Below.refl _ _,fun _ _ h _ _=>h,fun _ h=>.inl h⟩
def XLow (m0:Nat) (X:World→Nat→Prop):Prop:=∀ (A B:World) (b:Nat),Below m0 A B→X B b→X A b
theorem XLow.ok {m0:Nat} {X:World→Nat→Prop} (h:XLow m0 X):XOk m0 X:=
 ⟨fun hm hb hx=>.inl (h _ _ _ (hb.mono hm) hx),fun {W l b o} o' hl ho hc hx=>.inl (h _ _ _ ((Below.refl m0 W).grown (grownBy_putObj' W l o') (by have:=heap_lt ho;omega) (fun k e=>by cases e;omega)) hx)⟩
def rowX (Bo:Nat) (W:World) (b:Nat):Prop:=b=Bo∨rowAt W Bo=some b
theorem rowX_low (Bo:Nat):XLow (Bo+1) (rowX Bo):=fun A B b h hb=>by
 rcases hb with e | e
 ·exact .inl e
 ·exact .inr ((rowAt_same (h.cell (p:=⟨Bo,0,none⟩) (Nat.lt_succ_self Bo))).symm.trans e)
theorem SaveRow.kpX {n0 Bo:Nat} {A B:World} (h:SaveRow n0 Bo A B):KpX n0 (rowX Bo) A B:=by
 refine⟨h.below,fun b o ho hc hx=>h.keep b o (fun e=>hx (.inl e)) ho hc (fun e=>hx (.inr e)),fun b hb=>?_⟩;rcases hb with e | e
 ·exact .inl (.inl e)
 ·rcases h.row with f | f
  ·exact .inl (.inr (f.symm.trans e))
  ·exact .inr (fun o ho=>by have:=heap_lt ho;have:=f b e;omega)
def orT (t:TypeId) (X:World→Nat→Prop) (W:World) (b:Nat):Prop:=X W b∨∃ cs fr,W.heap[b]?=some (.cells cs t fr)
theorem XOk.orT {m0:Nat} {X:World→Nat→Prop} (t:TypeId) (h:XOk m0 X):XOk m0 (orT t X):=by
 refine⟨fun {A B b} hm hb hx=>?_,fun {W l b o} o' hl ho hc hx=>?_⟩
 ·rcases hx with e | ⟨cs,fr,e⟩
  ·exact (h.grow hm hb e).elim (fun e=>.inl (.inl e)) .inr
  ·rcases Nat.lt_or_ge b A.heap.size with hlt | hge
   ·exact .inl (.inr ⟨cs,fr,(hb.block b hlt).symm.trans e⟩)
   ·exact .inr hge
 ·rcases hx with e | ⟨cs,fr,e⟩
  ·exact (h.book o' hl ho hc e).elim (fun e=>.inl (.inl e)) .inr
  ·by_cases hne:b=l
   ·exact .inr hne
   ·exact .inl (.inr ⟨cs,fr,(World.putObj_heap_other hne).symm.trans e⟩)
def NetC (cs:List Value) (N:Nat) (W:World):Prop:=N<W.heap.size∧∀ f u,cs[f]?=some u→W.cell? ⟨N,f,none⟩=some u
theorem netAt_of {w0 W:World} {cs:List Value} {N:Nat} {n:Sp.Net} (hn:NetR w0 n cs) (hb:Below w0.heap.size w0 W) (hc:NetC cs N W):NetAt W N n:=⟨cs,hn.more hb,hc.1,hc.2⟩
theorem NetC.below {cs:List Value} {N:Nat} {A C:World} (h:NetC cs N A) (hb:Below A.heap.size A C):NetC cs N C:=⟨Nat.lt_of_lt_of_le h.1 hb.size,fun f u hf=>(hb.cell (p:=⟨N,f,none⟩) h.1).trans (h.2 f u hf)⟩
theorem NetC.kpx {cs:List Value} {N n0:Nat} {X:World→Nat→Prop} {A C:World} (h:NetC cs N A) (hK:KpX n0 X A C) (hx:¬ X A N):NetC cs N C:=⟨Nat.lt_of_lt_of_le h.1 hK.below.size,fun f u hf=>hK.cell (p:=⟨N,f,none⟩) hx (h.2 f u hf)⟩
end Go.Proofs.YtedfppbnkgffcaaGreatDoor
