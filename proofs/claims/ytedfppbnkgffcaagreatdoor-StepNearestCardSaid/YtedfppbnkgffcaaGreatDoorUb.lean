/-
  Texts joined: Ua Mv Ub.
-/
import Derived.Test.YtedfppbnkgffcaaGreatDoorMs
import Derived.Deep.QuietTactic
import Derived.BigQuiet
import Derived.Maps.OwnIn
import Derived.Lib.OwnKind
import Derived.Test.YtedfppbnkgffcaaGreatDoorMe
set_option linter.unusedVariables false
set_option linter.unusedSimpArgs false
set_option maxRecDepth 100000
set_option maxHeartbeats 4000000
namespace Go.Proofs.YtedfppbnkgffcaaGreatDoor
open Go.RowKit
theorem law10_num (e:Int) (w:World):Calls Tryz.prog 8 #[.int .i64 e] w fun r w'=>r=.returned (.int .i64 e)∧w'=w:=by
 go_enter Tryz.func8,Tryz.ntmps8;go_wp2;go_ret;exact⟨rfl,rfl⟩
theorem info_state:(Tryz.prog.info? 28).map (fun i=>(i.zero,i.size,i.bytes))=some (some (.agg #[.int .i64 0,.string ⟨#[]⟩]),2,24):=by kernel_rfl
structure StEnd (n0 Bo:Nat) (v':Value) (xs:List (Int × ByteArray)) (W W2:World):Prop where
 box:Boxed W2 Bo 53 v'
 row:StR W2 n0 v' xs
 others:KeepsOthers W W2
 save:SaveRow n0 Bo W W2
 below:Below n0 W W2
theorem st_blk {W:World} {n0 Bo Bx:Nat} {v:Value} {xs:List (Int × ByteArray)} {T:TypeId} {cs:Array Value} (hT:T≠28) (hv:Boxed W Bo 53 v) (hrow:StR W n0 v xs) (hk:Blk W Bx T cs):rowAt W Bo≠some Bx:=by
 rw [rowAt_box hv];intro e;obtain⟨c1,f1,h1⟩:=Lib.ownsRow_kind hrow Bx e;unfold Blk at hk;rw [hk] at h1;injection h1 with h1
 injection h1 with _ h2
 exact hT h2
theorem StEnd.blk {n0 Bo Bx:Nat} {v v':Value} {xs ys:List (Int × ByteArray)} {W W2:World} {T:TypeId} {cs:Array Value} (h:StEnd n0 Bo v' ys W W2) (hT:T≠28) (hv:Boxed W Bo 53 v) (hrow:StR W n0 v xs) (hk:Blk W Bx T cs) (hne:Bx≠Bo):Blk W2 Bx T cs:=
 h.save.keep Bx _ hne hk rfl (st_blk hT hv hrow hk)
theorem st_append {F:Fence} {nF:Nat} {ops:Array Oper} {rest:List Oper} {o:Oper} {a:Act} {Q:Exit→Act→World→Prop} (W:World) (hgd:o.guard=none) (s x:Operand)
  (ho:o.op=.call { callee:=.builtin .append,args:=#[s,x],argTypes:=#[53,53] })
  (n0 Bo:Nat) (v:Value) (xs:List (Int × ByteArray)) (y:Int × ByteArray) (hs:a.eval s=v) (hx:a.eval x=.slice (some ⟨W.heap.size,0,none⟩) 1 1) (hv:Boxed W Bo 53 v) (hrow:StR W n0 v xs) (hn0:n0≤W.heap.size) (hB:n0≤Bo) (hl:xs.length≤1000000)
  (h:∀ (g cap:Nat) (w1:World),Boxed w1 Bo 53 v→StEnd n0 Bo (.slice (some ⟨g,0,none⟩) (xs.length+1) cap) (xs ++ [y]) W (w1.setCell ⟨Bo,0,none⟩ (.slice (some ⟨g,0,none⟩) (xs.length+1) cap)) →
   wpListIn F nF Tryz.prog ops Q rest (a.put o.dst (.slice (some ⟨g,0,none⟩) (xs.length+1) cap)) w1):
  wpListIn F nF Tryz.prog ops Q (o :: rest) a (W.alloc (.cells #[.int .i64 y.1,.string y.2] 28)):=by
 obtain⟨i0,hi0,hz0,hz1,hz2⟩:=info_parts info_state;refine wpListIn_append_own_at _ hgd s x 53 ho n0 28 i0 _ 2 24 Tryz.underlying53 hi0 hz0 hz1 hz2 rfl (by omega) v xs.length (xs.flatMap stC) hs (World.ownsRow.alloc hrow _) ⟨W.heap.size,0,none⟩ 1 1 (stC y) hx rfl ?_ ?_ (by unfold maxLen;omega) (by omega) (by rw [World.size_alloc];omega) ?_
 ·intro j u hj;exact World.news_of_block (heap_alloc_new W (.cells #[.int .i64 y.1,.string y.2] 28)) j u (by simpa [stC] using hj)
 ·intro u hu;unfold stC at hu;rcases List.mem_cons.1 hu with rfl | hu
  ·rfl
  ·rcases List.mem_cons.1 hu with rfl | hu
   ·rfl
   ·cases hu
 ·intro v' w1 hown' hgrow _ hat;obtain⟨g,cap,rfl⟩:=ownsRow_succ hown';obtain⟨hv1,hv2,hr2,hk2,hb2⟩:=hv.appended (by decide) hrow hn0 hB hown' hgrow;refine h g cap w1 hv1 ⟨hv2,?_,hk2,⟨hb2,?_,?_⟩,hb2⟩
  ·unfold StR;rw [List.length_append,List.flatMap_append];simpa using hr2
  ·rw [rowAt_box hv2,rowAt_box hv];rcases hat with e | e
   ·exact Or.inl e
   ·right;intro r hr;rw [e,World.size_alloc] at hr;(injection hr with hr);omega
  ·intro b ob hb ho' hc hr;rw [rowAt_box hv] at hr;have hlt:=heap_lt ho';have e1:(W.alloc (.cells #[.int .i64 y.1,.string y.2] 28)).heap[b]?=some ob:=(Below.heap_alloc W _ b hlt).trans ho';have e2:=(hgrow.block b (heap_lt e1) (fun e=>hr e.symm)).trans e1;exact (Below.heap_setCell w1 _ _ b hb).trans e2
def StateR (_:World) (x:Int × ByteArray) (cs:List Value):Prop:=cs=stC x
def STV (w:World) (A:Option Addr) (l:List (Int × ByteArray)):Prop:=LView 2 StateR w A l
theorem STV.at {w:World} {A:Option Addr} {l:List (Int × ByteArray)} (h:STV w A l) {i:Nat} {x:Int × ByteArray} (hx:l[i]?=some x):∃ g o,A=some ⟨g,o,none⟩∧g<w.heap.size∧w.cell? ⟨g,o+i * 2,none⟩=some (.int .i64 x.1)∧w.cell? ⟨g,o+i * 2+1,none⟩=some (.string x.2):=by
 obtain⟨g,o,cs,hA,hg,hk,rfl,hc⟩:=h i x hx;exact⟨g,o,hA,hg,hc 0 _ rfl,hc 1 _ rfl⟩
theorem stCells_get:∀ (zs:List (Int × ByteArray)) (i:Nat) (z:Int × ByteArray) (f:Nat),zs[i]?=some z→f<2→(zs.flatMap stC)[i * 2+f]?=(stC z)[f]?
 | [],i,d,f,h,_=>by simp at h
 | x :: r,0,d,f,h,hf=>by
  simp at h;subst h;rw [List.flatMap_cons,List.getElem?_append_left (show 0 * 2+f<(stC x).length by show _<2;omega)];simp
 | x :: r,i+1,d,f,h,hf=>by
  have ih:=stCells_get r i d f (by simpa using h) hf;rw [List.flatMap_cons,List.getElem?_append_right (show (stC x).length≤(i+1) * 2+f by show 2≤_;omega)];have:(i+1) * 2+f - (stC x).length=i * 2+f:=by show (i+1) * 2+f - 2=_;omega
  rw [this];exact ih
theorem st_view {w:World} {B:Nat} {v:Value} {zs:List (Int × ByteArray)} (h:StR w B v zs):∃ A cap,v=.slice A zs.length cap∧STV w A zs:=by
 rcases h.2 with⟨rfl,hn⟩ | ⟨g,cap,cur,hv,hg,hh,hle,hcm,r⟩
 ·refine⟨none,0,by rw [hn],?_⟩;intro i d hd;have:zs=[]:=List.length_eq_zero_iff.1 hn;subst this;simp at hd
 ·refine⟨some ⟨g,0,none⟩,cap,hv,?_⟩;intro i z hz;refine⟨g,0,stC z,rfl,(World.ownsRow.lt h g (by rw [hv];rfl)).2,rfl,rfl,?_⟩;intro f u hu;have hf:f<2:=(List.getElem?_eq_some_iff.1 hu).1
  have hlt:i * 2+f<zs.length * 2:=by
   have:i<zs.length:=(List.getElem?_eq_some_iff.1 hz).1;omega
  have h2:w.ownsRow B 28 2 (.slice (some ⟨g,0,none⟩) zs.length cap) zs.length (zs.flatMap stC):=by rw [← hv];exact h
  rw [Nat.zero_add,h2.cellAt (i * 2+f) hlt,stCells_get zs i z f hz hf,hu]
end Go.Proofs.YtedfppbnkgffcaaGreatDoor
