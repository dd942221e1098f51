/-
 Texts joined: Ah Ai.
-/
import Derived.Test.YtedfppbnkgffcaaGreatDoorAg
import Derived.Test.YtedfppbnkgffcaaGreatDoorMl
import Derived.Test.YtedfppbnkgffcaaGreatDoorUb
import Derived.Lib.OwnKind
import Derived.Maps.OwnIn
set_option linter.unusedVariables false
set_option linter.unusedSimpArgs false
set_option maxRecDepth 100000
set_option maxHeartbeats 8000000
namespace Go.Proofs.YtedfppbnkgffcaaGreatDoor
open Go.RowKit
open Go.Lib (hid)
attribute [local go_sem] Oper.semAt_some
def PKp (n0:Nat) (X:World→Nat→Prop) (A C:World):Prop:=KpX n0 X A C∧(XIn X A→XIn X C)
theorem PKp.trans {n0:Nat} {X:World→Nat→Prop} {A B C:World} (h:PKp n0 X A B) (k:PKp n0 X B C):PKp n0 X A C:=⟨h.1.trans k.1,fun hx=>k.2 (h.2 hx)⟩
theorem PKp.book {n0 mX:Nat} {X:World→Nat→Prop} (hX:XLow mX X) {w:World} (hn:n0≤w.heap.size) (hm:mX≤w.heap.size) (W:World) (l:Nat) (o o':Obj) (hl:w.heap.size≤l) (h:W.heap[l]?=some o) (hc:o.isCells=false) (hw:o.isWalk=false):PKp n0 X W (W.putObj l o'):=
 ⟨KpX.book (XLow.ok hX) hn hm W l o o' hl h hc hw,fun hx=>xin_below hX hx (belowK_b hm W l o o' hl h hc hw)⟩
theorem PKp.of_below {n0 mX:Nat} {X:World→Nat→Prop} (hX:XLow mX X) {A C:World} (h:Below A.heap.size A C) (hn:n0≤A.heap.size) (hm:mX≤A.heap.size):PKp n0 X A C:=
 ⟨KpX.of_below (XLow.ok hX) h hn hm,fun hx=>xin_below hX hx (h.mono hm)⟩
theorem one_row (W:World) (x:Int) (B:Nat) (hB:B≤W.heap.size):InR (W.alloc (.cells #[.int .i64 x] 3)) B (.slice (some ⟨W.heap.size,0,none⟩) 1 1) [x]:=
 ⟨rfl,.inr ⟨W.heap.size,1,#[.int .i64 x],rfl,hB,heap_alloc_new W _,Nat.le_refl _,by decide,rfl,rfl⟩⟩
theorem paths_stops (m N Bs Bh mX:Nat) (X:World→Nat→Prop) (hX:XLow mX X) (n:Sp.Net) (p:Int) (h:ByteArray) (hops:Int) (w0 w:World) (cs:List Value) (hn:NetR w0 n cs) (hbN:Blk w N 26 cs.toArray) (hxN:¬ X w N) (hw0:Below w0.heap.size w0 w) (hG:Gn w) (hsz:Sp.Szd n) (hh:h.size≤9223372036854775807)
  (hm:mX≤w.heap.size) (hXin:XIn X w) (hs0:w.cell? ⟨Bs,0,none⟩=some (.int .i64 p)) (hs1:w.cell? ⟨Bs,1,none⟩=some (.string h)) (hh0:w.cell? ⟨Bh,0,none⟩=some (.int .i64 hops)):
  SeqAt TurnOk Fence.wide m Tryz.prog 38 #[.pointer (some ⟨N,0,none⟩),.pointer (some ⟨Bs,0,none⟩),.pointer (some ⟨Bh,0,none⟩)] (fun x=>#[pvC x]) (PKp w0.heap.size X) (PvAt w.heap.size)
   (fun xs=>xs.map PathV.path=Sp.pathsV n p h hops) (fun pre=>pre.map PathV.path <+: Sp.pathsV n p h hops) w:=by
 intro l J Jx W hW hJ hJx hY h0;show CallsIn Fence.wide m Tryz.prog 38 #[.func (.yield l) #[] #[],.pointer (some ⟨N,0,none⟩),.pointer (some ⟨Bs,0,none⟩),.pointer (some ⟨Bh,0,none⟩)] W _;have hs0W:W.cell? ⟨Bs,0,none⟩=some (.int .i64 p):=(hW.cell (p:=⟨Bs,0,none⟩) (xcell_lt hs0)).trans hs0;have hs1W:W.cell? ⟨Bs,1,none⟩=some (.string h):=(hW.cell (p:=⟨Bs,1,none⟩) (xcell_lt hs1)).trans hs1;have hh0W:W.cell? ⟨Bh,0,none⟩=some (.int .i64 hops):=(hW.cell (p:=⟨Bh,0,none⟩) (xcell_lt hh0)).trans hh0;have hw0W:Below w0.heap.size w0 W:=hw0.trans (hW.mono hw0.size);have hbNW:Blk W N 26 cs.toArray:=hbN.below hW hbN.lt;have hC:=step_check N n p h W (hG.below hW) (netAt_of hn hw0W ⟨hbNW.lt,fun f u hf=>(hbNW.cell f).trans (by simpa using hf)⟩) hsz hh;have HBN:=hid hbNW;have HXN:=hid (show ¬ X W N from not_below hX (hW.mono hm) hxN);have hxW:XIn X W:=xin_below hX hXin (hW.mono hm);have hmW:mX≤W.heap.size:=Nat.le_trans hm hW.size;have HW:=hid hW;have HJ:=hid hJ;have HJX:=hid hJx;have HY:=hid hY;have H0:=hid h0;have HW0:=hid hw0W;have HC:=hid hC;have HXW:=hid hxW;have HMW:=hid hmW;have HN:=hid hn;have HS0:=hid hs0W;have HS1:=hid hs1W;have HH0:=hid hh0W;have HXL:=hid hX;clear hW hJ hJx hY h0 hw0W hC hxW hmW hn hbN hbNW hxN hs0 hs1 hh0 hw0 hG hsz hh hm hXin hX;obtain⟨E,hE⟩:=nM (Sp.checkE n p h);rw [hE] at HC;have HE:=hid hE;clear hE;refine callsIn_any (m:=12) ?_;refine callsIn_of_wp Tryz.func38 rfl trivial ?_ rfl;simp only [Tryz.ntmps38,List.size_toArray,List.length_cons,List.length_nil,Nat.reduceAdd,Nat.reduceSub,Array.replicate_succ,Array.replicate_zero,List.push_toArray,List.append_toArray,List.nil_append,List.cons_append];gi_wp2;refine⟨trivial,?_⟩;refine (callsIn_wide.2 HC.out).mono ?_;rintro e W1 ⟨rfl,hb1⟩;have hh1:W1.cell? ⟨Bh,0,none⟩=some (.int .i64 hops):=(hb1.cell (p:=⟨Bh,0,none⟩) (xcell_lt HH0.out)).trans HH0.out;have hs10:W1.cell? ⟨Bs,0,none⟩=some (.int .i64 p):=(hb1.cell (p:=⟨Bs,0,none⟩) (xcell_lt HS0.out)).trans HS0.out;have hs11:W1.cell? ⟨Bs,1,none⟩=some (.string h):=(hb1.cell (p:=⟨Bs,1,none⟩) (xcell_lt HS1.out)).trans HS1.out;have HB1:=hid hb1;clear hb1;have HNO:Hid (¬ (E=0∧0≤hops∧hops≤64)→Sp.pathsV n p h hops=[]):=hid (fun hno=>by unfold Sp.pathsV;rw [if_neg (by rw [HE.out];exact hno)]);have HJ1:Hid (J [] W1):=hid (own_grow HJ.out H0.out HB1.out);by_cases hz:E=0
 case neg=>
  have te:(E != 0)=true:=bne_iff_ne.2 hz;have HNIL:=hid (HNO.out (fun hx=>hz hx.1));gi_wp2;refine bodyPost_ret (results_none rfl _ _ _) rfl ?_;exact⟨⟨_,rfl⟩,.inl ⟨[],HNIL.out.symm,HJ1.out⟩⟩
 subst hz;have te:((0:Int) != 0)=false:=rfl;by_cases h1:hops<0
 ·have t1:decide (hops<0)=true:=decide_eq_true h1;have HNIL:=hid (HNO.out (fun hx=>by omega));gi_wp2;refine bodyPost_ret (results_none rfl _ _ _) rfl ?_;exact⟨⟨_,rfl⟩,.inl ⟨[],HNIL.out.symm,HJ1.out⟩⟩
 have t1:decide (hops<0)=false:=decide_eq_false h1;by_cases h2:hops > 64
 ·have t2:decide (hops > 64)=true:=decide_eq_true h2;have HNIL:=hid (HNO.out (fun hx=>by omega));gi_wp2;refine bodyPost_ret (results_none rfl _ _ _) rfl ?_;exact⟨⟨_,rfl⟩,.inl ⟨[],HNIL.out.symm,HJ1.out⟩⟩
 have t2:decide (hops > 64)=false:=decide_eq_false h2;obtain⟨hok,hst⟩:=Sp.checkE_zero HE.out;have HPV:Hid (Sp.pathsV n p h hops=Sp.walkV n hops (hops.toNat+2) ⟨[p],[],h⟩):=hid (by unfold Sp.pathsV;rw [if_pos ⟨HE.out,by omega,by omega⟩]);obtain⟨W2,hW2⟩:=nM (W1.alloc (.cells #[.int .i64 p] 3));have hb2:Below W1.heap.size W1 W2:=by rw [← hW2];exact (Below.refl _ _).alloc (Nat.le_refl _) _
 have s20:W2.cell? ⟨Bs,1,none⟩=some (.string h):=(hb2.cell (p:=⟨Bs,1,none⟩) (xcell_lt hs11)).trans hs11;have s21:W2.cell? ⟨Bh,0,none⟩=some (.int .i64 hops):=(hb2.cell (p:=⟨Bh,0,none⟩) (xcell_lt hh1)).trans hh1;have hr2:InR W2 W.heap.size (.slice (some ⟨W1.heap.size,0,none⟩) 1 1) [p]:=by rw [← hW2];exact one_row W1 p _ HB1.out.size
 have hbb:Below W.heap.size W W2:=HB1.out.trans (hb2.mono HB1.out.size)
 have env:WkEnv n hops N W.heap.size mX l X w0 cs W J Jx:=⟨hok,HN.out,HBN.out,HXN.out,HW0.out,HXL.out,HJ.out,HJX.out,⟨by omega,by omega⟩,HW0.out.size,HMW.out,fun m' pre x W3 hj hp hxi=>by
  refine (yieldAt_any (HY.out pre x W3 hj ⟨in_mono hp.1 HW.out.size,in_mono hp.2 HW.out.size⟩)).mono ?_;rintro e W4 ⟨e1,e2,e3⟩
  exact⟨e1,⟨e2.1,e2.2 hxi⟩,e3⟩⟩
 have hat:WkAt W.heap.size X w0 W ⟨.slice (some ⟨W1.heap.size,0,none⟩) 1 1,.slice none 0 0,⟨[p],[],h⟩⟩ W2:=by
  refine⟨⟨hr2,in_nil _ _⟩,fun g hg hx=>?_,KpX.of_below (XLow.ok HXL.out) hbb HW0.out.size HMW.out,xin_below HXL.out HXW.out (hbb.mono HMW.out),hbb.size⟩;have h1:=HXW.out g (HXL.out _ _ _ (hbb.mono HMW.out) hx);have h2:=HB1.out.size;rcases hg with hg | hg
  ·have:W1.heap.size=g:=by simpa [Value.ownBlock] using hg
   omega
  ·simp [Value.ownBlock] at hg
 have hwk:=walk_held env (hops.toNat+2) ⟨.slice (some ⟨W1.heap.size,0,none⟩) 1 1,.slice none 0 0,⟨[p],[],h⟩⟩ [] W2 (Sp.needP_first n p h hops) (Sp.POk.first hst (by omega)) hat (own_grow HJ.out H0.out hbb) 11;have HWK:=hid hwk;clear hb2 hr2 hbb env hat hwk hok hst h1 h2;gi_wp2;refine⟨trivial,?_⟩;refine HWK.out.mono ?_;rintro e W3 ⟨hr,_,_⟩;rcases hr with⟨rfl,xs,hxs,hj3⟩ | ⟨rfl,xs,hxs,hj3⟩
 ·have HX3:=hid hxs;have HJ3:=hid hj3;clear hxs hj3;gi_wp2;go_end0;exact⟨⟨_,rfl⟩,.inl ⟨xs,HX3.out.trans HPV.out.symm,HJ3.out⟩⟩
 ·have HX3:=hid hxs;have HJ3:=hid hj3;clear hxs hj3;gi_wp2;go_end0;exact⟨⟨_,rfl⟩,.inr ⟨xs,by show _ <+: _;rw [HPV.out];exact HX3.out,HJ3.out⟩⟩
theorem step_Paths (m:Nat) (b:Int) (A1 A2 A3:Option Addr) (c1 c2 c3 np nt ng:Nat) (p:Int) (h:ByteArray) (hops:Int) (w:World):
  CallsIn Fence.wide m Tryz.prog 17 #[.agg #[.int .i64 b,.slice A1 np c1,.slice A2 nt c2,.slice A3 ng c3],.agg #[.int .i64 p,.string h],.int .i64 hops] w fun e w'=>
   e=.returned (.func (.func 38) #[] #[.pointer (some ⟨w.heap.size,0,none⟩),.pointer (some ⟨w.heap.size+1,0,none⟩),.pointer (some ⟨w.heap.size+1+1,0,none⟩)]) ∧
   w'=((w.alloc (.cells #[.int .i64 b,.slice A1 np c1,.slice A2 nt c2,.slice A3 ng c3] 26)).alloc (.cells #[.int .i64 p,.string h] 28)).alloc (.cells #[.int .i64 hops] 3):=by
 refine callsIn_of_wp Tryz.func17 rfl trivial ?_ rfl;simp only [Tryz.ntmps17,List.size_toArray,List.length_cons,List.length_nil,Nat.reduceAdd,Nat.reduceSub,Array.replicate_succ,Array.replicate_zero,List.push_toArray,List.append_toArray,List.nil_append,List.cons_append];gi_wp2;refine bodyPost_ret (results_tmp rfl _ _ _) rfl ?_;exact⟨rfl,rfl⟩
theorem info_path:(Tryz.prog.info? 31).map (fun i=>(i.zero,i.size,i.bytes))=some (some (.agg #[.slice none 0 0,.slice none 0 0,.string ⟨#[]⟩]),3,64):=by kernel_rfl
def ptC (x:PathV):List Value:=[x.v1,x.v2,.string x.path.header]
def PtR (W:World) (B:Nat) (v:Value) (xs:List PathV):Prop:=W.ownsRow B 31 3 v xs.length (xs.flatMap ptC)
structure PtEnd (n0 Bo:Nat) (v':Value) (xs:List PathV) (W W2:World):Prop where
 box:Boxed W2 Bo 37 v'
 row:PtR W2 n0 v' xs
 others:KeepsOthers W W2
 save:SaveRow n0 Bo W W2
 below:Below n0 W W2
theorem pt_append {F:Fence} {nF:Nat} {ops:Array Oper} {rest:List Oper} {o:Oper} {a:Act} {Q:Exit→Act→World→Prop} (W:World) (hgd:o.guard=none) (s x:Operand)
  (ho:o.op=.call { callee:=.builtin .append,args:=#[s,x],argTypes:=#[37,37] })
  (n0 Bo:Nat) (v:Value) (xs:List PathV) (y:PathV) (hy:y.v1.oneCell'=true∧y.v2.oneCell'=true) (hs:a.eval s=v) (hx:a.eval x=.slice (some ⟨W.heap.size,0,none⟩) 1 1) (hv:Boxed W Bo 37 v) (hrow:PtR W n0 v xs) (hn0:n0≤W.heap.size) (hB:n0≤Bo) (hl:xs.length≤1000000)
  (h:∀ (g cap:Nat) (w1:World),Boxed w1 Bo 37 v→PtEnd n0 Bo (.slice (some ⟨g,0,none⟩) (xs.length+1) cap) (xs ++ [y]) W (w1.setCell ⟨Bo,0,none⟩ (.slice (some ⟨g,0,none⟩) (xs.length+1) cap))→W.heap.size≤w1.heap.size →
   wpListIn F nF Tryz.prog ops Q rest (a.put o.dst (.slice (some ⟨g,0,none⟩) (xs.length+1) cap)) w1):
  wpListIn F nF Tryz.prog ops Q (o :: rest) a (W.alloc (.cells #[y.v1,y.v2,.string y.path.header] 31)):=by
 obtain⟨i0,hi0,hz0,hz1,hz2⟩:=info_parts info_path;refine wpListIn_append_own_at _ hgd s x 37 ho n0 31 i0 _ 3 64 Tryz.underlying37 hi0 hz0 hz1 hz2 rfl (by omega) v xs.length (xs.flatMap ptC) hs (World.ownsRow.alloc hrow _) ⟨W.heap.size,0,none⟩ 1 1 (ptC y) hx rfl ?_ ?_ (by unfold maxLen;omega) (by omega) (by rw [World.size_alloc];omega) ?_
 ·intro j u hj;exact World.news_of_block (heap_alloc_new W (.cells #[y.v1,y.v2,.string y.path.header] 31)) j u (by simpa [ptC] using hj)
 ·intro u hu;unfold ptC at hu;rcases List.mem_cons.1 hu with rfl | hu
  ·exact hy.1
  ·rcases List.mem_cons.1 hu with rfl | hu
   ·exact hy.2
   ·rcases List.mem_cons.1 hu with rfl | hu
    ·rfl
    ·cases hu
 ·intro v' w1 hown' hgrow _ hat;obtain⟨g,cap,rfl⟩:=ownsRow_succ hown';obtain⟨hv1,hv2,hr2,hk2,hb2⟩:=hv.appended (by decide) hrow hn0 hB hown' hgrow;refine h g cap w1 hv1 ⟨hv2,?_,hk2,⟨hb2,?_,?_⟩,hb2⟩ (by have:=hgrow.size;rw [World.size_alloc] at this;omega)
  ·unfold PtR;rw [List.length_append,List.flatMap_append];simpa using hr2
  ·rw [rowAt_box hv2,rowAt_box hv];rcases hat with e | e
   ·exact Or.inl e
   ·right;intro r hr;rw [e,World.size_alloc] at hr;(injection hr with hr);omega
  ·intro b ob hb ho' hc hr;rw [rowAt_box hv] at hr;have hlt:=heap_lt ho';have e1:(W.alloc (.cells #[y.v1,y.v2,.string y.path.header] 31)).heap[b]?=some ob:=(Below.heap_alloc W _ b hlt).trans ho';have e2:=(hgrow.block b (heap_lt e1) (fun e=>hr e.symm)).trans e1;exact (Below.heap_setCell w1 _ _ b hb).trans e2
theorem one_of_in {W:World} {B:Nat} {v:Value} {l:List Int} (h:InR W B v l):v.oneCell'=true:=by
 obtain⟨A,k,c,rfl⟩:=in_slice h;rfl
theorem row_far {W:World} {B Bo n0:Nat} {v u:Value} {l:List Int} {xs:List PathV} (h:InR W B u l) (hv:Boxed W Bo 37 v) (hr:PtR W n0 v xs):∀ g,u.ownBlock=some g→¬ rowX Bo W g:=by
 intro g hg hx;rcases h.2 with⟨rfl,_⟩ | ⟨g',cap,cur,rfl,_,h3,_⟩
 ·cases hg
 ·injection hg with hg
  obtain rfl:g'=g:=hg;rcases hx with e | e
  ·subst e;rw [show W.heap[g']?=_ from hv] at h3;(injection h3 with h3);(injection h3 with _ h3);exact absurd h3 (by decide)
  ·rw [rowAt_box hv] at e;obtain⟨c1,f1,h1⟩:=Lib.ownsRow_kind hr g' e;rw [h3] at h1;(injection h1 with h1);(injection h1 with _ h2);exact absurd h2 (by decide)
theorem ptR_turn {B:Nat} {A C:World} {v:Value} {xs:List PathV} {row:Option Nat} (h:PtR A B v xs) (hg:A.grownBy C row) (hr:∀ r,row=some r→∃ o:Obj,A.heap[r]?=some o∧TurnOk o):PtR C B v xs:=by
 refine World.ownsRow.kept h hg ?_;rcases h.2 with⟨rfl,_⟩ | ⟨g,cap,cur,rfl,_,hgb,_⟩
 ·exact .inl rfl
 ·refine .inr fun e=>?_
  obtain⟨o,ho,hT⟩:=hr g e.symm;rw [hgb] at ho
  cases ho
  rcases hT with hT | ⟨cs,fr,hT⟩
  ·cases hT
  ·injection hT with _ hT
   exact absurd hT (by decide)
structure PtsAt (B:Nat) (v:Value) (xs:List PathV) (W:World):Prop where
 row:PtR W B v xs
 each:∀ x ∈ xs,PvAt B x W
structure SoI (D Bo Bk kk:Nat) (V:World) (pre:List PathV) (W:World):Prop where
 box:∃ v,Boxed W Bo 37 v∧PtR W Bo v pre
 each:∀ x ∈ pre,PvAt D x W
 key:Blk W Bk 3 #[.int .i64 (kk:Int)]
 below:Below Bo V W
theorem SoI.own {D Bo Bk kk B:Nat} {V:World} (hB:Bo≤B) (hV:Bo≤V.heap.size):OwnT TurnOk B (fun pre W=>SoI D Bo Bk kk V pre W):=by
 intro pre A C row h hg hr;have hr2:∀ r,row=some r→∃ o:Obj,A.heap[r]?=some o∧TurnOk o:=fun r e=>(hr r e).2
 obtain⟨v,h1,h2⟩:=h.box;refine⟨⟨v,?_,ptR_turn h2 hg hr2⟩,fun x hx=>⟨row_turn (h.each x hx).1 hg hr2,row_turn (h.each x hx).2 hg hr2⟩,?_,h.below.grown hg (Nat.le_trans hV h.below.size) (fun r e=>by have:=(hr r e).1;omega)⟩
 ·exact blk_turn (t:=37) (cs:=#[v]) h1 (by decide) hg hr2
 ·exact blk_turn h.key (by decide) hg hr2
theorem blk_far {W:World} {g Bo n0:Nat} {t:TypeId} {cs:Array Value} {v:Value} {xs:List PathV} (h:Blk W g t cs) (h1:t≠37) (h2:t≠31) (hv:Boxed W Bo 37 v) (hr:PtR W n0 v xs):¬ rowX Bo W g:=by
 intro hx;rcases hx with e | e
 ·subst e;have h3:W.heap[g]?=some (.cells cs t (0,0)):=h;rw [show W.heap[g]?=_ from hv] at h3;injection h3 with h3
  injection h3 with _ h3
  exact h1 h3.symm
 ·rw [rowAt_box hv] at e;obtain⟨k1,f1,h3⟩:=Lib.ownsRow_kind hr g e;rw [show W.heap[g]?=_ from h] at h3;injection h3 with h3
  injection h3 with _ h3
  exact h2 h3
theorem kpx_mono {n0 n1:Nat} {X:World→Nat→Prop} {A C:World} (h:KpX n0 X A C) (hn:n1≤n0):KpX n1 X A C:=⟨h.below.mono hn,h.keep,h.own⟩
theorem xin_row {W:World} {Bo n0:Nat} {v:Value} {xs:List PathV} (hv:Boxed W Bo 37 v) (hr:PtR W n0 v xs):XIn (rowX Bo) W:=fun b hb=>by
 rcases hb with e | e
 ·rw [e];exact hv.lt
 ·rw [rowAt_box hv] at e;exact (World.ownsRow.lt hr b e).2
def AxS (N Bx:Nat) (a:Act):Prop:=∃ u:Nat→Value,a={ tmps:=#[u 0,u 1,u 2,u 3,u 4,u 5,u 6,.pointer (some ⟨N+1+1,0,none⟩),u 8,.pointer (some ⟨N+1+1+1,0,none⟩),u 10,.pointer (some ⟨Bx,0,none⟩),u 12,u 13,u 14,u 15,u 16,u 17,u 18,u 19,u 20,u 21,u 22,u 23,u 24,u 25,u 26,u 27,u 28,u 29,u 30,u 31,u 32,u 33],defers:=[] }
theorem AxS.of {N Bx:Nat} (v0 v1 v2 v3 v4 v5 v6 v8 v10 v12 v13 v14 v15 v16 v17 v18 v19 v20 v21 v22 v23 v24 v25 v26 v27 v28 v29 v30 v31 v32 v33:Value):AxS N Bx { tmps:=#[v0,v1,v2,v3,v4,v5,v6,.pointer (some ⟨N+1+1,0,none⟩),v8,.pointer (some ⟨N+1+1+1,0,none⟩),v10,.pointer (some ⟨Bx,0,none⟩),v12,v13,v14,v15,v16,v17,v18,v19,v20,v21,v22,v23,v24,v25,v26,v27,v28,v29,v30,v31,v32,v33],defers:=[] }:=⟨fun i=>([v0,v1,v2,v3,v4,v5,v6,undef,v8,undef,v10,undef,v12,v13,v14,v15,v16,v17,v18,v19,v20,v21,v22,v23,v24,v25,v26,v27,v28,v29,v30,v31,v32,v33]:List Value).getD i undef,rfl⟩
def SomeEnd (n:Sp.Net) (p:Int) (h:ByteArray) (hops:Int) (k:Nat) (w:World) (e:Ending) (w':World):Prop:=
 ∃ v xs,e=.returned v∧PtsAt w.heap.size v xs w'∧xs.map PathV.path=(Sp.pathsV n p h hops).take k∧Below w.heap.size w w'
theorem some_end {n:Sp.Net} {p:Int} {h:ByteArray} {hops:Int} {k:Nat} {w V C:World} {N D D0 Bk:Nat} {pre:List PathV} {v:Value} (hN:w.heap.size=N) (hb:Below N w V) (hI:SoI D (N+1+1+1) Bk k V pre C) (hD:N≤D) (hv:Boxed C (N+1+1+1) 37 v) (hr:PtR C (N+1+1+1) v pre)
  (hpre:pre.map PathV.path=(Sp.pathsV n p h hops).take k) (hD0:N≤D0) (hK:C.heap[D0]?=some (.deferred (some []))):SomeEnd n p h hops k w (.returned v) (C.putObj D0 (.deferred none)):=by
 have hg:=grownBy_putObj' C D0 (.deferred none);have hr2:∀ r,(some D0:Option Nat)=some r→∃ o:Obj,C.heap[r]?=some o∧TurnOk o:=fun r e=>by cases e;exact⟨_,hK,.inl rfl⟩
 refine⟨v,pre,rfl,⟨?_,fun x hx=>?_⟩,hpre,?_⟩
 ·have h1:=ptR_turn hr hg hr2;refine⟨h1.1,?_⟩;rcases h1.2 with e | ⟨g,cap,cur,e1,e2,e3⟩
  ·exact .inl e
  ·exact .inr ⟨g,cap,cur,e1,by omega,e3⟩
 ·have h1:=hI.each x hx;exact⟨in_mono (row_turn h1.1 hg hr2) (by omega),in_mono (row_turn h1.2 hg hr2) (by omega)⟩
 ·rw [hN];exact (hb.trans (hI.below.mono (by omega))).trans (belowK_b (w:=w) (by omega) C D0 _ _ (by omega) hK rfl rfl)
theorem law10_some (n:Sp.Net) (A1 A2 A3:Option Addr) (c1 c2 c3:Nat) (p:Int) (h:ByteArray) (hops:Int) (k:Nat) (w:World) (hG:Gn w) (hnr:NetR w n [.int .i64 n.bits,.slice A1 n.ports.length c1,.slice A2 n.tables.length c2,.slice A3 n.guards.length c3]) (hsz:Sp.Szd n) (hh:h.size≤9223372036854775807) (hk:k≤1000000):
  Calls Tryz.prog 10 #[.agg #[.int .i64 n.bits,.slice A1 n.ports.length c1,.slice A2 n.tables.length c2,.slice A3 n.guards.length c3],.agg #[.int .i64 p,.string h],.int .i64 hops,.int .i64 (k:Int)] w (SomeEnd n p h hops k w):=by
 obtain⟨N,hN⟩:=nM w.heap.size
 obtain⟨cs,hcs⟩:∃ cs:List Value,[.int .i64 n.bits,.slice A1 n.ports.length c1,.slice A2 n.tables.length c2,.slice A3 n.guards.length c3]=cs:=⟨_,rfl⟩
 obtain⟨np,hnp⟩:=nM n.ports.length;obtain⟨nt,hnt⟩:=nM n.tables.length;obtain⟨ng,hng⟩:=nM n.guards.length;obtain⟨b,hbi⟩:=nM n.bits;rw [hcs] at hnr;rw [hbi,hnp,hnt,hng] at hcs;have HBI:=hid hbi;rw [hbi,hnp,hnt,hng];obtain⟨W4,hW4⟩:=nM ((((w.alloc (.cells #[.int .i64 b,.slice A1 np c1,.slice A2 nt c2,.slice A3 ng c3] 26)).alloc (.cells #[.int .i64 p,.string h] 28)).alloc (.cells #[.int .i64 (k:Int)] 3)).alloc (.cells #[.slice none 0 0] 37));have hb4:Below N w W4:=by rw [← hW4,← hN];exact ((((Below.refl _ _).alloc (Nat.le_refl _) _).alloc (by simp) _).alloc (by simp;omega) _).alloc (by simp;omega) _
 have hs4:W4.heap.size=N+1+1+1+1:=by rw [← hW4,← hN];simp
 have k1:Blk W4 N 26 #[.int .i64 b,.slice A1 np c1,.slice A2 nt c2,.slice A3 ng c3]:=by rw [← hW4,← hN];exact (((Blk.new w _ _).alloc _).alloc _).alloc _
 have k2:Blk W4 (N+1) 28 #[.int .i64 p,.string h]:=by rw [← hW4];exact ((blk_at (by rw [World.size_alloc];omega)).alloc _).alloc _
 have k3:Blk W4 (N+1+1) 3 #[.int .i64 (k:Int)]:=by rw [← hW4];exact (blk_at (by rw [World.size_alloc,World.size_alloc];omega)).alloc _
 have k4:Blk W4 (N+1+1+1) 37 #[.slice none 0 0]:=by rw [← hW4];exact blk_at (by rw [World.size_alloc,World.size_alloc,World.size_alloc];omega)
 have x0:W4.cell? ⟨N,0,none⟩=some (.int .i64 b):=k1.cell 0;have x1:W4.cell? ⟨N,1,none⟩=some (.slice A1 np c1):=k1.cell 1;have x2:W4.cell? ⟨N,2,none⟩=some (.slice A2 nt c2):=k1.cell 2;have x3:W4.cell? ⟨N,3,none⟩=some (.slice A3 ng c3):=k1.cell 3;have x4:W4.cell? ⟨N+1,0,none⟩=some (.int .i64 p):=k2.cell 0;have x5:W4.cell? ⟨N+1,1,none⟩=some (.string h):=k2.cell 1;have HN:=hid hN;have HCS:=hid hcs;have HNR:=hid hnr;have HB4:=hid hb4;have HS4:=hid hs4;have HK3:=hid k3;have HK4:=hid k4;have HG:=hid hG;have HSZ:=hid hsz;have HH:=hid hh;have HK:=hid hk;clear hcs hnr hnp hnt hng hbi hb4 hs4 k1 k2 k3 k4 hG hsz hh hk;refine (callsIn_wide (n:=12)).1 ?_;refine callsIn_of_wp_marks Tryz.func10 rfl trivial ?_ rfl;simp only [Tryz.ntmps10,List.size_toArray,List.length_cons,List.length_nil,Nat.reduceAdd,Nat.reduceSub,Array.replicate_succ,Array.replicate_zero,List.push_toArray,List.append_toArray,List.nil_append,List.cons_append];gi_wp2;clear x0 x1 x2 x3 x4 x5;refine⟨trivial,?_⟩;refine (step_Paths _ b A1 A2 A3 c1 c2 c3 np nt ng p h hops _).mono ?_;rintro e w' ⟨rfl,rfl⟩;rw [HS4.out];obtain⟨V,hV⟩:=nM (((W4.alloc (.cells #[.int .i64 b,.slice A1 np c1,.slice A2 nt c2,.slice A3 ng c3] 26)).alloc (.cells #[.int .i64 p,.string h] 28)).alloc (.cells #[.int .i64 hops] 3));have hbv:Below W4.heap.size W4 V:=by rw [← hV];exact (((Below.refl _ _).alloc (Nat.le_refl _) _).alloc (by simp) _).alloc (by simp;omega) _
 have hvs:V.heap.size=N+7:=by rw [← hV];have:=HS4.out;simp;omega
 have hbN:Blk V (N+4) 26 cs.toArray:=by rw [← hV,← HCS.out];exact ((blk_at (by have:=HS4.out;omega)).alloc _).alloc _
 have hbS:Blk V (N+5) 28 #[.int .i64 p,.string h]:=by rw [← hV];exact (blk_at (by rw [World.size_alloc];have:=HS4.out;omega)).alloc _
 have hbH:Blk V (N+6) 3 #[.int .i64 hops]:=by rw [← hV];exact blk_at (by rw [World.size_alloc,World.size_alloc];have:=HS4.out;omega)
 have hk3:=HK3.out.below hbv HK3.out.lt;have hk4:Boxed V (N+1+1+1) 37 (.slice none 0 0):=HK4.out.below hbv HK4.out.lt;have hbw:Below N w V:=HB4.out.trans (hbv.mono (by have:=HS4.out;omega));have hr0:PtR V (N+1+1+1) (.slice none 0 0) []:=World.ownsRow_nil _ _ _ _;have hst:=paths_stops 11 (N+4) (N+5) (N+6) (N+4) (rowX (N+1+1+1)) (rowX_low (N+1+1+1)) n p h hops w V cs HNR.out hbN (blk_far hbN (by decide) (by decide) hk4 hr0) (by rw [HN.out];exact hbw) (HG.out.below (by rw [HN.out];exact hbw)) HSZ.out HH.out (by omega) (xin_row hk4 hr0) (hbS.cell 0) (hbS.cell 1) (hbH.cell 0);have y0:V.cell? ⟨N+1+1,0,none⟩=some (.int .i64 (k:Int)):=hk3.cell 0;have y1:V.cell? ⟨N+1+1+1,0,none⟩=some (.slice none 0 0):=hk4.cell;have hnf:∀ w:World,(binOp .eql 51 (.func (.func 38) #[] #[.pointer (some ⟨N+1+1+1+1,0,none⟩),.pointer (some ⟨N+1+1+1+1+1,0,none⟩),.pointer (some ⟨N+1+1+1+1+1+1,0,none⟩)]) Value.nilFunc).run Tryz.prog w=.ok (.bool false) w:=fun _=>rfl
 have HST:=hid hst;have HBW:=hid hbw;have HVS:=hid hvs;have HKV3:=hid hk3;have HKV4:=hid hk4;have HR0:=hid hr0;clear hbv hvs hbN hbS hbH hk3 hk4 hbw hr0 hst HK3 HK4 HB4;rcases Nat.eq_zero_or_pos k with h0 | h0
 ·have t0:decide ((k:Int)<1)=true:=dT;gi_wp2;refine⟨_,results_tmp rfl _ _ _,?_⟩;show SomeEnd n p h hops k w (.returned (.slice none 0 0)) V;exact⟨_,[],rfl,⟨World.ownsRow_nil _ _ _ _,fun x hx=>by cases hx⟩,by rw [h0,List.take_zero];rfl,by rw [hN];exact HBW.out⟩
 ·have t0:decide ((k:Int)<1)=false:=dF;gi_wp2;have hst:=HST.out;clear hV hnf y0 y1 HST
  have h0I:SoI V.heap.size (N+1+1+1) (N+1+1) k V [] V∧([]:List PathV).length<k:=⟨⟨⟨_,HKV4.out,HR0.out⟩,(fun x hx=>by cases hx),HKV3.out,Below.refl _ _⟩,h0⟩
  have hown:∀ B,V.heap.size≤B→OwnT TurnOk B (fun pre W=>SoI V.heap.size (N+1+1+1) (N+1+1) k V pre W∧pre.length<k):=fun B hB=>OwnT.both (SoI.own (by have:=HVS.out;omega) (by have:=HVS.out;omega)) (OwnT.pure _ _)
  have hownx:∀ (c:Code) (B:Nat),V.heap.size≤B→OwnT TurnOk B (fun (pre:List PathV) W=>c=.exit 0∧SoI V.heap.size (N+1+1+1) (N+1+1) k V pre W∧pre.length=k):=fun c B hB=>OwnT.both (OwnT.pure _ _) (OwnT.both (SoI.own (by have:=HVS.out;omega) (by have:=HVS.out;omega)) (OwnT.pure _ _))
  refine wpIn_rangeFunc_at turnOk_of rfl (by omega) (gf:=38) (lb:=#[.pointer (some ⟨N+4,0,none⟩),.pointer (some ⟨N+5,0,none⟩),.pointer (some ⟨N+6,0,none⟩)]) rfl trivial (enters_of Tryz.func38 (by kernel_rfl) rfl)
   hst PKp.trans (PKp.book (rowX_low (N+1+1+1)) (by have:=HVS.out;omega) (by have:=HVS.out;omega)) (Below.refl _ _) (fun _=>rfl)
   (fun pre W=>SoI V.heap.size (N+1+1+1) (N+1+1) k V pre W∧pre.length<k)
   (fun c pre W=>c=.exit 0∧SoI V.heap.size (N+1+1+1) (N+1+1) k V pre W∧pre.length=k)
   (hown _ (by omega)) (fun c=>hownx c _ (by omega)) ((hown _ (Nat.le_refl _)).from turnOk_of) (fun c=>(hownx c _ (Nat.le_refl _)).from turnOk_of) ((pvAt_own V.heap.size V.heap.size).from turnOk_of) h0I
   (fun x a' W=>∃ Bx,V.heap.size≤Bx∧Blk W Bx 31 #[x.v1,x.v2,.string x.path.header]∧AxS N Bx a')
   (fun x a' _ X' Y row hs hg hr=>by
    obtain⟨Bx,e1,e2,e3⟩:=hs
    exact⟨Bx,e1,e2.grown hg (fun e=>by obtain⟨_,o,ho,hc⟩:=hr Bx e.symm;rw [show X'.heap[Bx]?=_ from e2] at ho;cases ho;cases hc),e3⟩)
   ?assign ?body ?done ?stop
  case assign=>
   rintro l2 pre ⟨v1,v2,pth⟩ C K ⟨hI,hlt⟩ hAt hK;have hg:=World.grownBy_alloc C (.cells #[v1,v2,.string pth.header] 31) none;have hI2:=hown _ (Nat.le_refl _) pre C _ none ⟨hI,hlt⟩ hg (fun r e=>by cases e);have hAt2:=pvAt_own V.heap.size 0 ⟨v1,v2,pth⟩ C _ none hAt hg (fun r e=>by cases e);have hVC:V.heap.size≤C.heap.size:=hI.below.size;obtain⟨a1,a2,a3,rfl⟩:=in_slice hAt.1;obtain⟨b1,b2,b3,rfl⟩:=in_slice hAt.2;have HK:=hid hK;have HI2:=hid hI2;have HAT2:=hid hAt2;have HVC:=hid hVC;clear hI hAt hK hg hI2 hAt2 hVC hst h0I hown hownx hlt;dsimp only [pvC];gi_wp2;exact HK.out _ _ ((KeepsOthers.alloc _ _).from _) (PKp.of_below (rowX_low (N+1+1+1)) ((Below.refl _ C).alloc (Nat.le_refl _) _) (by have:=HVC.out;have:=HVS.out;omega) (by have:=HVC.out;have:=HVS.out;omega)) HI2.out HAT2.out ⟨C.heap.size,HVC.out,Blk.new _ _ _,AxS.of _ _ _ _ _ _ _ _ _ _ _ _ _ _ _ _ _ _ _ _ _ _ _ _ _ _ _ _ _ _ _⟩
  case body=>
   rintro l2 pre ⟨v1,v2,pth⟩ a' C hl2 _ ⟨hI,hlt⟩ hAt ⟨Bx,hBx,hkx,⟨u2,rfl⟩⟩;obtain⟨v,hv,hrow⟩:=hI.box
   have hone:v1.oneCell'=true∧v2.oneCell'=true:=⟨one_of_in hAt.1,one_of_in hAt.2⟩
   have hkx':Blk C Bx 31 #[v1,v2,.string pth.header]:=hkx;obtain⟨a1,a2,a3,rfl⟩:=in_slice hAt.1;obtain⟨b1,b2,b3,rfl⟩:=in_slice hAt.2;have c0:C.cell? ⟨N+1+1+1,0,none⟩=some v:=hv.cell;have c1:C.cell? ⟨Bx,0,none⟩=some (.slice a1 a2 a3):=hkx'.cell 0;have c2:C.cell? ⟨Bx,1,none⟩=some (.slice b1 b2 b3):=hkx'.cell 1;have c3:C.cell? ⟨Bx,2,none⟩=some (.string pth.header):=hkx'.cell 2;have HKEY:=hid hI.key;have HI:=hid hI;have HAT:=hid hAt;have HV2:=hid hv;have HROW:=hid hrow;have HLT:=hid hlt;have HONE:=hid hone;have HNC:=hid (show N+1+1+1≤C.heap.size by have:=hI.below.size;have:=HVS.out;omega);have HKX2:=hid (blk_far hI.key (by decide) (by decide) hv hrow);clear hI hAt hv hrow hkx hkx' hst h0I hown hownx hl2 hBx hlt hone;by_cases hk1:pre.length+1=k
   ·have e1:(((pre.length+1:Nat):Int) == (k:Int))=true:=by rw [beq_iff_eq];omega
    have HKE:=hid hk1;clear hk1
    gi_wp2_with (gi_at_builtin;refine pt_append C rfl _ _ rfl (N+1+1+1) (N+1+1+1) v pre ⟨.slice a1 a2 a3,.slice b1 b2 b3,pth⟩ HONE.out rfl rfl HV2.out HROW.out HNC.out (Nat.le_refl _) (by have:=HLT.out;have:=HK.out;omega) ?_;intro g1 cap1 w1 hb1 hE1 hsz1;have hc1:=hb1.cell;have hf1:=hb1.frozen;obtain⟨k1,hk1e⟩:=nM (pre.length+1);rw [hk1e] at hE1;obtain⟨Wa,hWa⟩:=nM (w1.setCell ⟨N+1+1+1,0,none⟩ (.slice (some ⟨g1,0,none⟩) k1 cap1));rw [hWa] at hE1;have a0:=hE1.box.cell;have HKY:=hid (kpx_blk hE1.save.kpX HKEY.out HKX2.out);have a8:Wa.cell? ⟨N+1+1,0,none⟩=some (.int .i64 (k:Int)):=HKY.out.cell 0;rw [hk1e] at e1;have HK1E:=hid hk1e;have HE1:=hid hE1;clear hE1 hb1)
    exact⟨HE1.out.others.from _,⟨kpx_mono HE1.out.save.kpX (by omega),fun _=>xin_row HE1.out.box HE1.out.row⟩,rfl,⟨⟨_,HE1.out.box,HE1.out.row⟩,(fun y hy=>by
      (have hfar:=fun (u:Value) (l:List Int) (hu:InR C V.heap.size u l)=>row_far hu HV2.out HROW.out);rcases List.mem_append.1 hy with hy | hy
      ·have h1:=HI.out.each y hy;exact⟨kpx_row HE1.out.save.kpX h1.1 (hfar _ _ h1.1),kpx_row HE1.out.save.kpX h1.2 (hfar _ _ h1.2)⟩
      ·have hyx:y=⟨.slice a1 a2 a3,.slice b1 b2 b3,pth⟩:=by simpa using hy
       subst hyx
       exact⟨kpx_row HE1.out.save.kpX HAT.out.1 (hfar _ _ HAT.out.1),kpx_row HE1.out.save.kpX HAT.out.2 (hfar _ _ HAT.out.2)⟩),HKY.out,HI.out.below.trans HE1.out.below⟩,by have:=HKE.out;rw [List.length_append];exact this⟩
   ·have e1:(((pre.length+1:Nat):Int) == (k:Int))=false:=by rw [beq_eq_false_iff_ne];omega
    have HKE:=hid hk1;clear hk1
    gi_wp2_with (gi_at_builtin;refine pt_append C rfl _ _ rfl (N+1+1+1) (N+1+1+1) v pre ⟨.slice a1 a2 a3,.slice b1 b2 b3,pth⟩ HONE.out rfl rfl HV2.out HROW.out HNC.out (Nat.le_refl _) (by have:=HLT.out;have:=HK.out;omega) ?_;intro g1 cap1 w1 hb1 hE1 hsz1;have hc1:=hb1.cell;have hf1:=hb1.frozen;obtain⟨k1,hk1e⟩:=nM (pre.length+1);rw [hk1e] at hE1;obtain⟨Wa,hWa⟩:=nM (w1.setCell ⟨N+1+1+1,0,none⟩ (.slice (some ⟨g1,0,none⟩) k1 cap1));rw [hWa] at hE1;have a0:=hE1.box.cell;have HKY:=hid (kpx_blk hE1.save.kpX HKEY.out HKX2.out);have a8:Wa.cell? ⟨N+1+1,0,none⟩=some (.int .i64 (k:Int)):=HKY.out.cell 0;rw [hk1e] at e1;have HK1E:=hid hk1e;have HE1:=hid hE1;clear hE1 hb1)
    exact⟨HE1.out.others.from _,⟨kpx_mono HE1.out.save.kpX (by omega),fun _=>xin_row HE1.out.box HE1.out.row⟩,⟨⟨_,HE1.out.box,HE1.out.row⟩,(fun y hy=>by
      (have hfar:=fun (u:Value) (l:List Int) (hu:InR C V.heap.size u l)=>row_far hu HV2.out HROW.out);rcases List.mem_append.1 hy with hy | hy
      ·have h1:=HI.out.each y hy;exact⟨kpx_row HE1.out.save.kpX h1.1 (hfar _ _ h1.1),kpx_row HE1.out.save.kpX h1.2 (hfar _ _ h1.2)⟩
      ·have hyx:y=⟨.slice a1 a2 a3,.slice b1 b2 b3,pth⟩:=by simpa using hy
       subst hyx
       exact⟨kpx_row HE1.out.save.kpX HAT.out.1 (hfar _ _ HAT.out.1),kpx_row HE1.out.save.kpX HAT.out.2 (hfar _ _ HAT.out.2)⟩),HKY.out,HI.out.below.trans HE1.out.below⟩,by have:=HKE.out;have:=HLT.out;rw [List.length_append];show pre.length+1<k;omega⟩
  case done=>
   rintro D0 ys C hD hS ⟨hI,hlt⟩ hK;replace hS:ys.map PathV.path=Sp.pathsV n p h hops:=hS;obtain⟨v,hv,hrow⟩:=hI.box;have c0:C.cell? ⟨N+1+1+1,0,none⟩=some v:=hv.cell;have HI:=hid hI;have HV2:=hid hv;have HROW:=hid hrow;have HK2:=hid hK;have HD:=hid hD;have HSS:=hid hS;have HLT:=hid hlt;clear hI hv hrow hK hD hS hlt hst h0I hown hownx;gi_wp2;refine⟨by simp,.inl ⟨_,_,rfl,run_takeDeferred HK2.out,?_⟩⟩;refine⟨_,results_tmp rfl _ _ _,?_⟩;show SomeEnd n p h hops k w (.returned v) _;exact some_end hN HBW.out HI.out (by have:=HVS.out;omega) HV2.out HROW.out (by rw [HSS.out,List.take_of_length_le (by rw [← HSS.out,List.length_map];have:=HLT.out;omega)]) (by have:=HVS.out;have:=HD.out;omega) HK2.out
  case stop=>
   rintro D0 c ys C hD hpre ⟨rfl,hI,hlt⟩ hK;replace hpre:ys.map PathV.path <+: Sp.pathsV n p h hops:=hpre;obtain⟨v,hv,hrow⟩:=hI.box;have c0:C.cell? ⟨N+1+1+1,0,none⟩=some v:=hv.cell;have HI:=hid hI;have HV2:=hid hv;have HROW:=hid hrow;have HK2:=hid hK;have HD:=hid hD;have HSS:=hid hpre;have HLT:=hid hlt;clear hI hv hrow hK hD hpre hlt hst h0I hown hownx;gi_wp2;refine⟨by simp,.inl ⟨_,_,rfl,run_takeDeferred HK2.out,?_⟩⟩;refine⟨_,results_tmp rfl _ _ _,?_⟩;show SomeEnd n p h hops k w (.returned v) _;exact some_end hN HBW.out HI.out (by have:=HVS.out;omega) HV2.out HROW.out (by rw [List.prefix_iff_eq_take.1 HSS.out,List.length_map,HLT.out]) (by have:=HVS.out;have:=HD.out;omega) HK2.out
end Go.Proofs.YtedfppbnkgffcaaGreatDoor
