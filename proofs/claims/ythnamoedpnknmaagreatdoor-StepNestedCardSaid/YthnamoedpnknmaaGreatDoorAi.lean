/-
 Texts joined: Ah Ai.
-/
import Derived.Test.YthnamoedpnknmaaGreatDoorAg
import Derived.Test.YthnamoedpnknmaaGreatDoorMl
import Derived.Test.YthnamoedpnknmaaGreatDoorUb
import Derived.Lib.OwnKind
import Derived.Maps.OwnIn
set_option linter.unusedVariables false
set_option linter.unusedSimpArgs false
set_option maxRecDepth 100000
set_option maxHeartbeats 8000000
namespace Go.Proofs.YthnamoedpnknmaaGreatDoor
open Go.RowKit
open Go.Lib (hid)
attribute [local go_sem] Oper.semAt_some
def PKp (n0:Nat) (X:World→Nat→Prop) (A C:World):Prop:=KpX n0 X A C∧(XIn X A→XIn X C)
theorem PKp.trans {n0:Nat} {X:World→Nat→Prop} {A B C:World} (h:PKp n0 X A B) (k:PKp n0 X B C):PKp n0 X A C:=⟨h.1.trans k.1,fun hx=>k.2 (h.2 hx)⟩
theorem PKp.book {n0 mX:Nat} {X:World→Nat→Prop} (hX:XLow mX X) {w:World} (hn:n0≤w.heap.size) (hm:mX≤w.heap.size) (W:World) (l:Nat) (o o':Obj) (hl:w.heap.size≤l) (h:W.heap[l]?=some o) (hc:o.isCells=false) (hw:o.isWalk=false):PKp n0 X W (W.putObj l o'):=
 ⟨KpX.book (XLow.ok hX) hn hm W l o o' hl h hc hw,fun hx=>xin_below hX hx (belowK_b hm W l o o' hl h hc hw)⟩
theorem PKp.of_below {n0 mX:Nat} {X:World→Nat→Prop} (hX:XLow mX X) {A C:World} (h:Below A.heap.size A C) (hn:n0≤A.heap.size) (hm:mX≤A.heap.size):PKp n0 X A C:=
 ⟨KpX.of_below (XLow.ok hX) h hn hm,fun hx=>xin_below hX hx (h.mono hm)⟩
theorem one_row (W:World) (x:Int) (B:Nat) (hB:B≤W.heap.size):InR (W.alloc (.cells #[.int .i64 x] 3)) B (.slice (some ⟨W.heap.size,0,none⟩) 1 1) [x]:=
 ⟨rfl,.inr ⟨W.heap.size,1,#[.int .i64 x],rfl,hB,heap_alloc_new W _,Nat.le_refl _,by decide,rfl,rfl⟩⟩
theorem paths_stops (m N Bs Bh mX:Nat) (X:World→Nat→Prop) (hX:XLow mX X) (n:Sp.Net) (p:Int) (h:ByteArray) (hops:Int) (w0 w:World) (cs:List Value) (hn:NetR w0 n cs) (hbN:Blk w N 26 cs.toArray) (hxN:¬ X w N) (hw0:Below w0.heap.size w0 w) (hG:Gn w) (hsz:Sp.Szd n) (hh:h.size≤9223372036854775807)
  (hm:mX≤w.heap.size) (hXin:XIn X w) (hs0:w.cell? ⟨Bs,0,none⟩=some (.int .i64 p)) (hs1:w.cell? ⟨Bs,1,none⟩=some (.string h)) (hh0:w.cell? ⟨Bh,0,none⟩=some (.int .i64 hops)):
  SeqAt TurnOk Fence.wide m Tryz.prog 49 #[.pointer (some ⟨N,0,none⟩),.pointer (some ⟨Bs,0,none⟩),.pointer (some ⟨Bh,0,none⟩)] (fun x=>#[pvC x]) (PKp w0.heap.size X) (PvAt w.heap.size)
   (fun xs=>xs.map PathV.path=Sp.pathsV n p h hops) (fun pre=>pre.map PathV.path <+: Sp.pathsV n p h hops) w:=by
 intro l J Jx W hW hJ hJx hY h0;show CallsIn Fence.wide m Tryz.prog 49 #[.func (.yield l) #[] #[],.pointer (some ⟨N,0,none⟩),.pointer (some ⟨Bs,0,none⟩),.pointer (some ⟨Bh,0,none⟩)] W _;have hs0W:W.cell? ⟨Bs,0,none⟩=some (.int .i64 p):=(hW.cell (p:=⟨Bs,0,none⟩) (xcell_lt hs0)).trans hs0;have hs1W:W.cell? ⟨Bs,1,none⟩=some (.string h):=(hW.cell (p:=⟨Bs,1,none⟩) (xcell_lt hs1)).trans hs1;have hh0W:W.cell? ⟨Bh,0,none⟩=some (.int .i64 hops):=(hW.cell (p:=⟨Bh,0,none⟩) (xcell_lt hh0)).trans hh0;have hw0W:Below w0.heap.size w0 W:=hw0.trans (hW.mono hw0.size);have hbNW:Blk W N 26 cs.toArray:=hbN.below hW hbN.lt;have hC:=step_check N n p h W (hG.below hW) (netAt_of hn hw0W ⟨hbNW.lt,fun f u hf=>(hbNW.cell f).trans (by simpa using hf)⟩) hsz hh;have HBN:=hid hbNW;have HXN:=hid (show ¬ X W N from not_below hX (hW.mono hm) hxN);have hxW:XIn X W:=xin_below hX hXin (hW.mono hm);have hmW:mX≤W.heap.size:=Nat.le_trans hm hW.size;have HW:=hid hW;have HJ:=hid hJ;have HJX:=hid hJx;have HY:=hid hY;have H0:=hid h0;have HW0:=hid hw0W;have HC:=hid hC;have HXW:=hid hxW;have HMW:=hid hmW;have HN:=hid hn;have HS0:=hid hs0W;have HS1:=hid hs1W;have HH0:=hid hh0W;have HXL:=hid hX;clear hW hJ hJx hY h0 hw0W hC hxW hmW hn hbN hbNW hxN hs0 hs1 hh0 hw0 hG hsz hh hm hXin hX;obtain⟨E,hE⟩:=nM (Sp.checkE n p h);rw [hE] at HC;have HE:=hid hE;clear hE;refine callsIn_any (m:=12) ?_;refine callsIn_of_wp Tryz.func49 rfl trivial ?_ rfl;simp only [Tryz.ntmps49,List.size_toArray,List.length_cons,List.length_nil,Nat.reduceAdd,Nat.reduceSub,Array.replicate_succ,Array.replicate_zero,List.push_toArray,List.append_toArray,List.nil_append,List.cons_append];gi_wp2;refine⟨trivial,?_⟩;refine (callsIn_wide.2 HC.out).mono ?_;rintro e W1 ⟨rfl,hb1⟩;have hh1:W1.cell? ⟨Bh,0,none⟩=some (.int .i64 hops):=(hb1.cell (p:=⟨Bh,0,none⟩) (xcell_lt HH0.out)).trans HH0.out;have hs10:W1.cell? ⟨Bs,0,none⟩=some (.int .i64 p):=(hb1.cell (p:=⟨Bs,0,none⟩) (xcell_lt HS0.out)).trans HS0.out;have hs11:W1.cell? ⟨Bs,1,none⟩=some (.string h):=(hb1.cell (p:=⟨Bs,1,none⟩) (xcell_lt HS1.out)).trans HS1.out;have HB1:=hid hb1;clear hb1;have HNO:Hid (¬ (E=0∧0≤hops∧hops≤64)→Sp.pathsV n p h hops=[]):=hid (fun hno=>by unfold Sp.pathsV;rw [if_neg (by rw [HE.out];exact hno)]);have HJ1:Hid (J [] W1):=hid (own_grow HJ.out H0.out HB1.out);by_cases hz:E=0
 case neg=>
  have te:(E != 0)=true:=bne_iff_ne.2 hz;have HNIL:=hid (HNO.out (fun hx=>hz hx.1));gi_wp2;refine bodyPost_ret (results_none rfl _ _ _) rfl ?_;exact⟨⟨_,rfl⟩,.inl ⟨[],HNIL.out.symm,HJ1.out⟩⟩
 subst hz;have te:((0:Int) != 0)=false:=rfl;by_cases h1:hops<0
 ·have t1:decide (hops<0)=true:=decide_eq_true h1;have HNIL:=hid (HNO.out (fun hx=>by omega));gi_wp2;refine bodyPost_ret (results_none rfl _ _ _) rfl ?_;exact⟨⟨_,rfl⟩,.inl ⟨[],HNIL.out.symm,HJ1.out⟩⟩
 have t1:decide (hops<0)=false:=decide_eq_false h1;by_cases h2:hops > 64
 ·have t2:decide (hops > 64)=true:=decide_eq_true h2;have HNIL:=hid (HNO.out (fun hx=>by omega));gi_wp2;refine bodyPost_ret (results_none rfl _ _ _) rfl ?_;exact⟨⟨_,rfl⟩,.inl ⟨[],HNIL.out.symm,HJ1.out⟩⟩
 have t2:decide (hops > 64)=false:=decide_eq_false h2;obtain⟨hok,hst⟩:=Sp.checkE_zero HE.out;have HPV:Hid (Sp.pathsV n p h hops=Sp.walkV n hops (hops.toNat+2) ⟨[p],[],h⟩):=hid (by unfold Sp.pathsV;rw [if_pos ⟨HE.out,by omega,by omega⟩]);obtain⟨W2,hW2⟩:=nM (W1.alloc (.cells #[.int .i64 p] 3));have hb2:Below W1.heap.size W1 W2:=by rw [← hW2];exact (Below.refl _ _).alloc (Nat.le_refl _) _
 have s20:W2.cell? ⟨Bs,1,none⟩=some (.string h):=(hb2.cell (p:=⟨Bs,1,none⟩) (xcell_lt hs11)).trans hs11;have s21:W2.cell? ⟨Bh,0,none⟩=some (.int .i64 hops):=(hb2.cell (p:=⟨Bh,0,none⟩) (xcell_lt hh1)).trans hh1;have hr2:InR W2 W.heap.size (.slice (some ⟨W1.heap.size,0,none⟩) 1 1) [p]:=by rw [← hW2];exact one_row W1 p _ HB1.out.size
 have hbb:Below W.heap.size W W2:=HB1.out.trans (hb2.mono HB1.out.size)
 have env:WkEnv n hops N W.heap.size mX l X w0 cs W J Jx:=⟨hok,HN.out,HBN.out,HXN.out,HW0.out,HXL.out,HJ.out,HJX.out,⟨by omega,by omega⟩,HW0.out.size,HMW.out,fun m' pre x W3 hj hp hxi=>by
  refine (yieldAt_any (HY.out pre x W3 hj ⟨in_mono hp.1 HW.out.size,in_mono hp.2 HW.out.size⟩)).mono ?_;rintro e W4 ⟨e1,e2,e3⟩
  exact⟨e1,⟨e2.1,e2.2 hxi⟩,e3⟩⟩
 have hat:WkAt W.heap.size X w0 W ⟨.slice (some ⟨W1.heap.size,0,none⟩) 1 1,.slice none 0 0,⟨[p],[],h⟩⟩ W2:=by
  refine⟨⟨hr2,in_nil _ _⟩,fun g hg hx=>?_,KpX.of_below (XLow.ok HXL.out) hbb HW0.out.size HMW.out,xin_below HXL.out HXW.out (hbb.mono HMW.out),hbb.size⟩;have h1:=HXW.out g (HXL.out _ _ _ (hbb.mono HMW.out) hx);have h2:=HB1.out.size;rcases hg with hg | hg
  ·have:W1.heap.size=g:=by simpa [Value.ownBlock] using hg
   omega
  ·simp [Value.ownBlock] at hg
 have hwk:=walk_held env (hops.toNat+2) ⟨.slice (some ⟨W1.heap.size,0,none⟩) 1 1,.slice none 0 0,⟨[p],[],h⟩⟩ [] W2 (Sp.needP_first n p h hops) (Sp.POk.first hst (by omega)) hat (own_grow HJ.out H0.out hbb) 11;have HWK:=hid hwk;clear hb2 hr2 hbb env hat hwk hok hst h1 h2;gi_wp2;refine⟨trivial,?_⟩;refine HWK.out.mono ?_;rintro e W3 ⟨hr,_,_⟩;rcases hr with⟨rfl,xs,hxs,hj3⟩ | ⟨rfl,xs,hxs,hj3⟩
 ·have HX3:=hid hxs;have HJ3:=hid hj3;clear hxs hj3;gi_wp2;go_end0;exact⟨⟨_,rfl⟩,.inl ⟨xs,HX3.out.trans HPV.out.symm,HJ3.out⟩⟩
 ·have HX3:=hid hxs;have HJ3:=hid hj3;clear hxs hj3;gi_wp2;go_end0;exact⟨⟨_,rfl⟩,.inr ⟨xs,by show _ <+: _;rw [HPV.out];exact HX3.out,HJ3.out⟩⟩
theorem step_Paths (m:Nat) (b:Int) (A1 A2 A3:Option Addr) (c1 c2 c3 np nt ng:Nat) (p:Int) (h:ByteArray) (hops:Int) (w:World):
  CallsIn Fence.wide m Tryz.prog 24 #[.agg #[.int .i64 b,.slice A1 np c1,.slice A2 nt c2,.slice A3 ng c3],.agg #[.int .i64 p,.string h],.int .i64 hops] w fun e w'=>
   e=.returned (.func (.func 49) #[] #[.pointer (some ⟨w.heap.size,0,none⟩),.pointer (some ⟨w.heap.size+1,0,none⟩),.pointer (some ⟨w.heap.size+1+1,0,none⟩)]) ∧
   w'=((w.alloc (.cells #[.int .i64 b,.slice A1 np c1,.slice A2 nt c2,.slice A3 ng c3] 26)).alloc (.cells #[.int .i64 p,.string h] 28)).alloc (.cells #[.int .i64 hops] 3):=by
 refine callsIn_of_wp Tryz.func24 rfl trivial ?_ rfl;simp only [Tryz.ntmps24,List.size_toArray,List.length_cons,List.length_nil,Nat.reduceAdd,Nat.reduceSub,Array.replicate_succ,Array.replicate_zero,List.push_toArray,List.append_toArray,List.nil_append,List.cons_append];gi_wp2;refine bodyPost_ret (results_tmp rfl _ _ _) rfl ?_;exact⟨rfl,rfl⟩
end Go.Proofs.YthnamoedpnknmaaGreatDoor
