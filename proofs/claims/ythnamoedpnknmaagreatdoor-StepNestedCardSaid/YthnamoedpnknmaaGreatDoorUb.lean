/-
  Texts joined: Ua Mv Ub.
-/
import Derived.Test.YthnamoedpnknmaaGreatDoorMs
import Derived.Deep.QuietTactic
import Derived.BigQuiet
import Derived.Maps.OwnIn
import Derived.Lib.OwnKind
import Derived.Test.YthnamoedpnknmaaGreatDoorMe
set_option linter.unusedVariables false
set_option linter.unusedSimpArgs false
set_option maxRecDepth 100000
set_option maxHeartbeats 4000000
namespace Go.Proofs.YthnamoedpnknmaaGreatDoor
open Go.RowKit
theorem law10_num (e:Int) (w:World):Calls Tryz.prog 12 #[.int .i64 e] w fun r w'=>r=.returned (.int .i64 e)∧w'=w:=by
 go_enter Tryz.func12,Tryz.ntmps12;go_wp2;go_ret;exact⟨rfl,rfl⟩
def Sp.fitsE2 (g:List Sp.Guard) (h:ByteArray):Prop:=(∀ l ∈ g,l.cubes.length≤1000000∧∀ c ∈ l.cubes,c.size=h.size)∧g.length≤1000000
theorem info_state:(Tryz.prog.info? 28).map (fun i=>(i.zero,i.size,i.bytes))=some (some (.agg #[.int .i64 0,.string ⟨#[]⟩]),2,24):=by kernel_rfl
structure StEnd (n0 Bo:Nat) (v':Value) (xs:List (Int × ByteArray)) (W W2:World):Prop where
 box:Boxed W2 Bo 31 v'
 row:StR W2 n0 v' xs
 others:KeepsOthers W W2
 save:SaveRow n0 Bo W W2
 below:Below n0 W W2
theorem st_blk {W:World} {n0 Bo Bx:Nat} {v:Value} {xs:List (Int × ByteArray)} {T:TypeId} {cs:Array Value} (hT:T≠28) (hv:Boxed W Bo 31 v) (hrow:StR W n0 v xs) (hk:Blk W Bx T cs):rowAt W Bo≠some Bx:=by
 rw [rowAt_box hv];intro e;obtain⟨c1,f1,h1⟩:=Lib.ownsRow_kind hrow Bx e;unfold Blk at hk;rw [hk] at h1;injection h1 with h1
 injection h1 with _ h2
 exact hT h2
theorem StEnd.blk {n0 Bo Bx:Nat} {v v':Value} {xs ys:List (Int × ByteArray)} {W W2:World} {T:TypeId} {cs:Array Value} (h:StEnd n0 Bo v' ys W W2) (hT:T≠28) (hv:Boxed W Bo 31 v) (hrow:StR W n0 v xs) (hk:Blk W Bx T cs) (hne:Bx≠Bo):Blk W2 Bx T cs:=
 h.save.keep Bx _ hne hk rfl (st_blk hT hv hrow hk)
theorem st_append {F:Fence} {nF:Nat} {ops:Array Oper} {rest:List Oper} {o:Oper} {a:Act} {Q:Exit→Act→World→Prop} (W:World) (hgd:o.guard=none) (s x:Operand)
  (ho:o.op=.call { callee:=.builtin .append,args:=#[s,x],argTypes:=#[31,31] })
  (n0 Bo:Nat) (v:Value) (xs:List (Int × ByteArray)) (y:Int × ByteArray) (hs:a.eval s=v) (hx:a.eval x=.slice (some ⟨W.heap.size,0,none⟩) 1 1) (hv:Boxed W Bo 31 v) (hrow:StR W n0 v xs) (hn0:n0≤W.heap.size) (hB:n0≤Bo) (hl:xs.length≤1000000)
  (h:∀ (g cap:Nat) (w1:World),Boxed w1 Bo 31 v→StEnd n0 Bo (.slice (some ⟨g,0,none⟩) (xs.length+1) cap) (xs ++ [y]) W (w1.setCell ⟨Bo,0,none⟩ (.slice (some ⟨g,0,none⟩) (xs.length+1) cap)) →
   wpListIn F nF Tryz.prog ops Q rest (a.put o.dst (.slice (some ⟨g,0,none⟩) (xs.length+1) cap)) w1):
  wpListIn F nF Tryz.prog ops Q (o :: rest) a (W.alloc (.cells #[.int .i64 y.1,.string y.2] 28)):=by
 obtain⟨i0,hi0,hz0,hz1,hz2⟩:=info_parts info_state;refine wpListIn_append_own_at _ hgd s x 31 ho n0 28 i0 _ 2 24 Tryz.underlying31 hi0 hz0 hz1 hz2 rfl (by omega) v xs.length (xs.flatMap stC) hs (World.ownsRow.alloc hrow _) ⟨W.heap.size,0,none⟩ 1 1 (stC y) hx rfl ?_ ?_ (by unfold maxLen;omega) (by omega) (by rw [World.size_alloc];omega) ?_
 ·intro j u hj;exact World.news_of_block (heap_alloc_new W (.cells #[.int .i64 y.1,.string y.2] 28)) j u (by simpa [stC] using hj)
 ·intro u hu;unfold stC at hu;rcases List.mem_cons.1 hu with rfl | hu
  ·rfl
  ·rcases List.mem_cons.1 hu with rfl | hu
   ·rfl
   ·cases hu
 ·intro v' w1 hown' hgrow _ hat;obtain⟨g,cap,rfl⟩:=ownsRow_succ hown';obtain⟨hv1,hv2,hr2,hk2,hb2⟩:=hv.appended (by decide) hrow hn0 hB hown' hgrow;refine h g cap w1 hv1 ⟨hv2,?_,hk2,⟨hb2,?_,?_⟩,hb2⟩
  ·unfold StR;rw [List.length_append,List.flatMap_append];simpa using hr2
  ·rw [rowAt_box hv2,rowAt_box hv];rcases hat with e | e
   ·exact Or.inl e
   ·right;intro r hr;rw [e,World.size_alloc] at hr;(injection hr with hr);omega
  ·intro b ob hb ho' hc hr;rw [rowAt_box hv] at hr;have hlt:=heap_lt ho';have e1:(W.alloc (.cells #[.int .i64 y.1,.string y.2] 28)).heap[b]?=some ob:=(Below.heap_alloc W _ b hlt).trans ho';have e2:=(hgrow.block b (heap_lt e1) (fun e=>hr e.symm)).trans e1;exact (Below.heap_setCell w1 _ _ b hb).trans e2
theorem binfo2:(Tryz.prog.info? 5).map (fun i=>(i.zero,i.size,i.bytes))=some (some (.int .u8 0),1,1):=by kernel_rfl
def ByR (w:World) (B:Nat) (v:Value) (acc:List UInt8):Prop:=w.ownsRow B 5 1 v acc.length (Lib.byteCells acc)
theorem own_string2 {w:World} {B:Nat} {v:Value} {b:List UInt8} (h:ByR w B v b):
  (convert 139 9 v).run Tryz.prog w=.ok (.string ⟨b.toArray⟩) w:=by
 rcases h.2 with⟨rfl,hx⟩ | ⟨g,cap,cur,rfl,_⟩
 ·have hb:b=[]:=List.length_eq_zero_iff.1 hx;subst hb;exact run_convert_bytes_nil (P:=Tryz.prog) (w:=w) 139 5 Tryz.underlying139 Tryz.underlying5 0 0 9 Tryz.underlying9
 ·refine run_convert_bytes_back w 139 9 5 ⟨g,0,none⟩ cap b Tryz.underlying139 Tryz.underlying5 Tryz.underlying9 ?_;intro j hj;refine (World.ownsRow.cells h (g:=g) rfl) j _ ?_;simp [Lib.byteCells,hj]
theorem wpList_byte {ops:Array Oper} {rest:List Oper} {o:Oper} {a:Act} {Q:Exit→Act→World→Prop} (hgd:o.guard=none) (s x:Operand)
  (ho:o.op=.call { callee:=.builtin .append,args:=#[s,x],argTypes:=#[139,139] })
  (B:Nat) (v:Value) (acc:List UInt8) (hs:a.eval s=v) (W:World) (c:UInt8) (hx:a.eval x=.slice (some ⟨W.heap.size,0,none⟩) 1 1) (hown:ByR W B v acc) (hB:B≤W.heap.size) (hl:acc.length≤1000000000)
  (h:∀ v' w',ByR w' B v' (acc ++ [c])→Below B W w'→wpList Tryz.prog ops Q rest (a.put o.dst v') w'):wpList Tryz.prog ops Q (o :: rest) a (W.alloc (.cells #[.int .u8 (c.toNat:Int)] 5)):=by
 obtain⟨i0,hi0,hz0,hz1,hz2⟩:=info_parts binfo2;refine wpList_append_own _ hgd s x 139 ho B 5 i0 (.int .u8 0) 1 1 Tryz.underlying139 hi0 hz0 hz1 hz2 rfl (by decide) v acc.length (Lib.byteCells acc) hs (World.ownsRow.alloc hown _) ⟨W.heap.size,0,none⟩ 1 1 [.int .u8 (c.toNat:Int)] hx rfl ?_ ?_ (by unfold maxLen;omega) (by omega) (by rw [World.size_alloc];omega) ?_
 ·intro j u hj;exact World.news_of_block (heap_alloc_new W (.cells #[.int .u8 (c.toNat:Int)] 5)) j u (by simpa using hj)
 ·intro u hu;rcases List.mem_cons.1 hu with rfl | hu
  ·rfl
  ·cases hu
 ·intro v' w' hown' hgrow _;refine h v' w' ?_ ?_
  ·unfold ByR;rw [List.length_append,Lib.byteCells_append];exact hown'
  ·exact ((Below.refl B W).alloc hB _).grown hgrow (by rw [World.size_alloc];omega) (fun g e=>(World.ownsRow.lt hown g e).1)
def StateR (_:World) (x:Int × ByteArray) (cs:List Value):Prop:=cs=stC x
def STV (w:World) (A:Option Addr) (l:List (Int × ByteArray)):Prop:=LView 2 StateR w A l
theorem STV.at {w:World} {A:Option Addr} {l:List (Int × ByteArray)} (h:STV w A l) {i:Nat} {x:Int × ByteArray} (hx:l[i]?=some x):∃ g o,A=some ⟨g,o,none⟩∧g<w.heap.size∧w.cell? ⟨g,o+i * 2,none⟩=some (.int .i64 x.1)∧w.cell? ⟨g,o+i * 2+1,none⟩=some (.string x.2):=by
 obtain⟨g,o,cs,hA,hg,hk,rfl,hc⟩:=h i x hx;exact⟨g,o,hA,hg,hc 0 _ rfl,hc 1 _ rfl⟩
theorem stCells_get:∀ (zs:List (Int × ByteArray)) (i:Nat) (z:Int × ByteArray) (f:Nat),zs[i]?=some z→f<2→(zs.flatMap stC)[i * 2+f]?=(stC z)[f]?
 | [],i,d,f,h,_=>by simp at h
 | x :: r,0,d,f,h,hf=>by
  simp at h;subst h;rw [List.flatMap_cons,List.getElem?_append_left (show 0 * 2+f<(stC x).length by show _<2;omega)];simp
 | x :: r,i+1,d,f,h,hf=>by
  have ih:=stCells_get r i d f (by simpa using h) hf;rw [List.flatMap_cons,List.getElem?_append_right (show (stC x).length≤(i+1) * 2+f by show 2≤_;omega)];have:(i+1) * 2+f - (stC x).length=i * 2+f:=by show (i+1) * 2+f - 2=_;omega
  rw [this];exact ih
theorem st_view {w:World} {B:Nat} {v:Value} {zs:List (Int × ByteArray)} (h:StR w B v zs):∃ A cap,v=.slice A zs.length cap∧STV w A zs:=by
 rcases h.2 with⟨rfl,hn⟩ | ⟨g,cap,cur,hv,hg,hh,hle,hcm,r⟩
 ·refine⟨none,0,by rw [hn],?_⟩;intro i d hd;have:zs=[]:=List.length_eq_zero_iff.1 hn;subst this;simp at hd
 ·refine⟨some ⟨g,0,none⟩,cap,hv,?_⟩;intro i z hz;refine⟨g,0,stC z,rfl,(World.ownsRow.lt h g (by rw [hv];rfl)).2,rfl,rfl,?_⟩;intro f u hu;have hf:f<2:=(List.getElem?_eq_some_iff.1 hu).1
  have hlt:i * 2+f<zs.length * 2:=by
   have:i<zs.length:=(List.getElem?_eq_some_iff.1 hz).1;omega
  have h2:w.ownsRow B 28 2 (.slice (some ⟨g,0,none⟩) zs.length cap) zs.length (zs.flatMap stC):=by rw [← hv];exact h
  rw [Nat.zero_add,h2.cellAt (i * 2+f) hlt,stCells_get zs i z f hz hf,hu]
theorem wpList_st {ops:Array Oper} {rest:List Oper} {o:Oper} {a:Act} {Q:Exit→Act→World→Prop} (hgd:o.guard=none) (s x:Operand)
  (ho:o.op=.call { callee:=.builtin .append,args:=#[s,x],argTypes:=#[31,31] })
  (B:Nat) (v:Value) (acc:List (Int × ByteArray)) (hs:a.eval s=v) (W:World) (c:Int × ByteArray) (hx:a.eval x=.slice (some ⟨W.heap.size,0,none⟩) 1 1) (hown:StR W B v acc) (hB:B≤W.heap.size) (hl:acc.length≤1000000000)
  (h:∀ v' w',StR w' B v' (acc ++ [c])→Below B W w'→(∀ (g:Nat) (T:TypeId) (cs:Array Value),T≠28→Blk W g T cs→Blk w' g T cs)→wpList Tryz.prog ops Q rest (a.put o.dst v') w'):wpList Tryz.prog ops Q (o :: rest) a (W.alloc (.cells #[.int .i64 c.1,.string c.2] 28)):=by
 obtain⟨i0,hi0,hz0,hz1,hz2⟩:=info_parts info_state;refine wpList_append_own _ hgd s x 31 ho B 28 i0 _ 2 24 Tryz.underlying31 hi0 hz0 hz1 hz2 rfl (by decide) v acc.length (acc.flatMap stC) hs (World.ownsRow.alloc hown _) ⟨W.heap.size,0,none⟩ 1 1 (stC c) hx rfl ?_ ?_ (by unfold maxLen;omega) (by omega) (by rw [World.size_alloc];omega) ?_
 ·intro j u hj;exact World.news_of_block (heap_alloc_new W (.cells #[.int .i64 c.1,.string c.2] 28)) j u (by simpa [stC] using hj)
 ·intro u hu;unfold stC at hu;rcases List.mem_cons.1 hu with rfl | hu
  ·rfl
  ·rcases List.mem_cons.1 hu with rfl | hu
   ·rfl
   ·cases hu
 ·intro v' w' hown' hgrow _;refine h v' w' ?_ ?_ ?_
  ·unfold StR;rw [List.length_append,List.flatMap_append];simpa using hown'
  rotate_left
  ·intro g T cs hT hk;refine (hk.alloc _).grown hgrow (fun e=>?_);obtain⟨c1,f1,h1⟩:=Lib.ownsRow_kind hown g e.symm;unfold Blk at hk;rw [hk] at h1;(injection h1 with h1);(injection h1 with _ h2);exact hT h2
  ·exact ((Below.refl B W).alloc hB _).grown hgrow (by rw [World.size_alloc];omega) (fun g e=>(World.ownsRow.lt hown g e).1)
end Go.Proofs.YthnamoedpnknmaaGreatDoor
