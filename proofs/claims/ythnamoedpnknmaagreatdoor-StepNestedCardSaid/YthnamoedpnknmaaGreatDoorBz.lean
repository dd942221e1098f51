/-
  Texts joined: Ux Ur Bl Bv By Bz.
-/
import Derived.Test.YthnamoedpnknmaaGreatDoorUw
import Derived.Laws.MakeOwn
import Derived.Deep.OwnRows
import Derived.Test.YthnamoedpnknmaaGreatDoorUb
set_option linter.unusedVariables false
set_option linter.unusedSimpArgs false
set_option maxRecDepth 100000
set_option maxHeartbeats 4000000
namespace Go.Proofs.YthnamoedpnknmaaGreatDoor
open Go.RowKit
theorem iinfo9:(Tryz.prog.info? 3).map (fun i=>(i.zero,i.size,i.bytes))=some (some (.int .i64 0),1,8):=by kernel_rfl
def RoomI (w:World) (B n:Nat) (l:List Int):Prop:=∃ f,w.rowIs B 3 (n+2) f∧(∀ (j:Nat) (d:Int),l[j]?=some d→f j=.int .i64 d)∧f n=.int .i64 (-4711)∧f (n+1)=.int .i64 (-4712)
def RoomT (w:World) (B n:Nat) (l:List ByteArray):Prop:=∃ f,w.rowIs B 9 (n+2) f∧(∀ (j:Nat) (d:ByteArray),l[j]?=some d→f j=.string d)∧f n=.string ⟨#[98,101,104,105,110,100,32,116,104,101,32,101,110,100]⟩∧f (n+1)=.string ⟨#[98,101,104,105,110,100,32,116,104,101,32,101,110,100,50]⟩
def MARK:ByteArray:=⟨#[98,101,104,105,110,100,32,116,104,101,32,101,110,100]⟩
def MARK2:ByteArray:=⟨#[98,101,104,105,110,100,32,116,104,101,32,101,110,100,50]⟩
def REntR (lo:Nat) (W:World) (e:Sp.Entry) (cs:List Value):Prop:=∃ g1 g2 g3,lo≤g1∧lo≤g2∧lo≤g3 ∧
 cs=[.string e.name,.slice (some ⟨g1,0,none⟩) e.ins.length (e.ins.length+2),.slice (some ⟨g2,0,none⟩) e.cubes.length (e.cubes.length+2),.string e.write,.slice (some ⟨g3,0,none⟩) e.outs.length (e.outs.length+2)] ∧
 RoomI W g1 e.ins.length e.ins∧RoomT W g2 e.cubes.length e.cubes∧RoomI W g3 e.outs.length e.outs
def RGrdR (lo:Nat) (W:World) (x:Sp.Guard) (cs:List Value):Prop:=∃ g,lo≤g∧cs=[.bool x.permit,.slice (some ⟨g,0,none⟩) x.cubes.length (x.cubes.length+2)]∧RoomT W g x.cubes.length x.cubes
def RowOf {α:Type} (k:Nat) (R:World→α→List Value→Prop) (W:World) (t:TypeId) (g m:Nat) (al:List α) (f:Nat→Value):Prop:=
 W.rowIs g t m f∧∀ (i:Nat) (a:α),al[i]?=some a→∃ cs,cs.length=k∧R W a cs∧∀ (j:Nat) (u:Value),cs[j]?=some u→f (i * k+j)=u
def RTab (lo:Nat) (W:World) (x:List Sp.Entry) (cs:List Value):Prop:=∃ g f,lo≤g∧cs=[.slice (some ⟨g,0,none⟩) x.length (x.length+2)]∧RowOf 5 (REntR lo) W 78 g ((x.length+2) * 5) x f ∧
 f (x.length * 5)=.string MARK∧f (x.length * 5+2)=.slice none 0 0∧f ((x.length+1) * 5)=.string MARK2∧f ((x.length+1) * 5+2)=.slice none 0 0
def RGrd (lo:Nat) (W:World) (x:List Sp.Guard) (cs:List Value):Prop:=∃ g f m1 m2 c1 c2,lo≤g∧lo≤m1∧lo≤m2∧cs=[.slice (some ⟨g,0,none⟩) x.length (x.length+2)]∧RowOf 2 (RGrdR lo) W 81 g ((x.length+2) * 2) x f ∧
 f (x.length * 2+1)=.slice (some ⟨m1,0,none⟩) 1 c1∧f ((x.length+1) * 2+1)=.slice (some ⟨m2,0,none⟩) 1 c2∧W.rowIs m1 9 1 (fun _=>.string MARK)∧W.rowIs m2 9 1 (fun _=>.string MARK2)
def OwnL (te:TypeId) (k:Nat) (w:World) (B:Nat) (v:Value) (L:List (List Value)):Prop:=(∀ c ∈ L,c.length=k)∧w.ownsRow B te k v L.length L.flatten
theorem OwnL.nil (te:TypeId) (k:Nat) (w:World) (B:Nat):OwnL te k w B (.slice none 0 0) []:=⟨fun c hc=>(by cases hc),World.ownsRow_nil _ _ _ _⟩
theorem OwnL.below {te:TypeId} {k:Nat} {w w':World} {B:Nat} {v:Value} {L:List (List Value)} (h:OwnL te k w B v L) (hb:Below w.heap.size w w'):OwnL te k w' B v L:=⟨h.1,ownsRow_below h.2 hb⟩
theorem OwnL.kept {te:TypeId} {k:Nat} {w w':World} {B:Nat} {v:Value} {L:List (List Value)} (h:OwnL te k w B v L) (hb:∀ g,v.ownBlock=some g→w'.heap[g]?=w.heap[g]?):OwnL te k w' B v L:=by
 refine⟨h.1,h.2.1,?_⟩;rcases h.2.2 with h0 | ⟨g,cap,cur,hv,hB,hg,r⟩
 ·exact Or.inl h0
 ·exact Or.inr ⟨g,cap,cur,hv,hB,(hb g (by rw [hv];rfl)).trans hg,r⟩
theorem OwnL.blk {te:TypeId} {k:Nat} {w:World} {B:Nat} {v:Value} {L:List (List Value)} (h:OwnL te k w B v L):∀ g,v.ownBlock=some g→B≤g∧g<w.heap.size∧∃ c,Blk w g te c:=by
 intro g hg;rcases h.2.2 with⟨rfl,_⟩ | ⟨g',cap,cur,rfl,hB,hgg,_⟩
 ·simp [Value.ownBlock] at hg
 ·simp [Value.ownBlock] at hg;subst hg;exact⟨hB,Blk.lt hgg,cur,hgg⟩
theorem OwnL.other {te tf:TypeId} {k:Nat} {w w':World} {B:Nat} {v:Value} {L:List (List Value)} (h:OwnL te k w B v L) (ht:te≠tf) (hk:∀ (g:Nat) (T:TypeId) (cs:Array Value),T≠tf→Blk w g T cs→Blk w' g T cs):OwnL te k w' B v L:=
 h.kept fun g hg=>by
  obtain⟨_,_,c,hc⟩:=h.blk g hg;exact (hk g te c ht hc).trans hc.symm
theorem OwnL.under {te:TypeId} {k:Nat} {w w':World} {B lo:Nat} {v:Value} {L:List (List Value)} (h:OwnL te k w B v L) (hv:∀ g,v.ownBlock=some g→g<lo) (hb:Below lo w w'):OwnL te k w' B v L:=
 h.kept fun g hg=>hb.block g (hv g hg)
theorem OwnL.lt {te:TypeId} {k:Nat} {w:World} {B:Nat} {v:Value} {L:List (List Value)} (h:OwnL te k w B v L):∀ g,v.ownBlock=some g→g<w.heap.size:=fun g hg=>(h.blk g hg).2.1
theorem OwnL.mono {te:TypeId} {k:Nat} {w:World} {B B':Nat} {v:Value} {L:List (List Value)} (h:OwnL te k w B v L) (hb:B'≤B):OwnL te k w B' v L:=by
 refine⟨h.1,h.2.1,?_⟩;rcases h.2.2 with h0 | ⟨g,cap,cur,hv,hB,r⟩
 ·exact Or.inl h0
 ·exact Or.inr ⟨g,cap,cur,hv,Nat.le_trans hb hB,r⟩
theorem flatten_at (k:Nat):∀ (L:List (List Value)),(∀ c ∈ L,c.length=k)→∀ (i:Nat) (c:List Value) (f:Nat),L[i]?=some c→f<k→L.flatten[i * k+f]?=c[f]?
 | [],_,i,c,f,h,_=>by simp at h
 | x :: r,hl,0,c,f,h,hf=>by
  simp at h;subst h;have:=hl x List.mem_cons_self;rw [List.flatten_cons,List.getElem?_append_left (by omega)];simp
 | x :: r,hl,i+1,c,f,h,hf=>by
  have hx:=hl x List.mem_cons_self;have ih:=flatten_at k r (fun c hc=>hl c (List.mem_cons_of_mem _ hc)) i c f (by simpa using h) hf;rw [List.flatten_cons,List.getElem?_append_right (by rw [Nat.succ_mul];omega),← ih];congr 1;rw [Nat.succ_mul];omega
def LowA (lo:Nat) (A:Option Addr):Prop:=∀ a,A=some a→lo≤a.block
theorem OwnL.lview {α:Type} {te:TypeId} {k:Nat} {w:World} {B:Nat} {v:Value} {L:List (List Value)} (h:OwnL te k w B v L) {R:World→α→List Value→Prop} {al:List α} (hl:al.length=L.length) (hR:∀ (i:Nat) (a:α) (c:List Value),al[i]?=some a→L[i]?=some c→R w a c):
  ∃ A cap,v=.slice A al.length cap∧LView k R w A al∧al.length≤cap∧LowA B A:=by
 rcases h.2.2 with⟨rfl,hn⟩ | ⟨g,cap,cur,hv,hg,hh,hle,hcm,r⟩
 ·refine⟨none,0,by rw [hl,hn],?_,by omega,fun a ha=>by cases ha⟩;intro i d hd;have:=(List.getElem?_eq_some_iff.1 hd).1;omega
 ·refine⟨some ⟨g,0,none⟩,cap,by rw [hv,hl],?_,by omega,fun a ha=>by injection ha with ha;rw [← ha];exact hg⟩;intro i a ha;have hi:i<L.length:=by have:=(List.getElem?_eq_some_iff.1 ha).1;omega
  obtain⟨c,hc⟩:∃ c,L[i]?=some c:=⟨_,List.getElem?_eq_getElem hi⟩
  have hck:=h.1 c (List.mem_of_getElem? hc);refine⟨g,0,c,rfl,h.lt g (by rw [hv];rfl),hck,hR i a c ha hc,?_⟩;intro f u hu;have hf:f<k:=by have:=(List.getElem?_eq_some_iff.1 hu).1;omega
  have h2:w.ownsRow B te k (.slice (some ⟨g,0,none⟩) L.length cap) L.length L.flatten:=by rw [← hv];exact h.2
  have hlt:i * k+f<L.length * k:=by
   have h5:(i+1) * k≤L.length * k:=Nat.mul_le_mul_right k hi;rw [Nat.succ_mul] at h5;omega
  rw [Nat.zero_add,h2.cellAt (i * k+f) hlt,flatten_at k L h.1 i c f hc hf,hu]
theorem wp_els {o:Oper} {a:Act} {K:Act→World→Prop} {Q:Exit→Act→World→Prop} (s x:Operand) {t te:TypeId}
  (ho:o.op=.call { callee:=.builtin .append,args:=#[s,x],argTypes:=#[t,t] }) (hu:Tryz.prog.underlying t=some (.slice te)) {z:Value} {k b:Nat} (hinfo:(Tryz.prog.info? te).map (fun i=>(i.zero,i.size,i.bytes))=some (some z,k,b)) (hzs:z.cells.size=k) (hk:0<k)
  (B:Nat) (v:Value) (L:List (List Value)) (hs:a.eval s=v) (W:World) (M:Nat) (c:List Value) (hc:c.length=k) (h1:∀ u ∈ c,u.oneCell'=true) (hx:a.eval x=.slice (some ⟨M,0,none⟩) 1 1) (hnew:Blk W M te c.toArray) (hown:OwnL te k W B v L) (hB:B≤W.heap.size) (hl:(L.length+1) * b≤140737488355328) (hm:L.length≤1000000000000000)
  (h:∀ v' w',OwnL te k w' B v' (L ++ [c])→Below B W w'→(∀ (g:Nat) (T:TypeId) (cs:Array Value),T≠te→Blk W g T cs→Blk w' g T cs)→W.grownBy w' v.ownBlock→K (a.put o.dst v') w'):o.wp Tryz.prog a W K Q:=by
 obtain⟨i0,hi0,hz0,hz1,hz2⟩:=info_parts hinfo;refine wp_append_own W s x t ho B te i0 z k b hu hi0 hz0 hz1 hz2 hzs hk v L.length L.flatten hs hown.2 ⟨M,0,none⟩ 1 1 c hx (by omega) ?_ h1 (by unfold maxLen;omega) hl hB ?_
 ·intro j u hj;exact World.news_of_block hnew j u (by simpa using hj)
 ·intro v' w' hown' hgrow _;refine h v' w' ⟨?_,?_⟩ ?_ ?_ hgrow
  ·intro c' hc';rcases List.mem_append.1 hc' with h9 | h9
   ·exact hown.1 c' h9
   ·rw [List.mem_singleton] at h9;subst h9;exact hc
  ·rw [List.length_append,List.flatten_append];simpa using hown'
  rotate_left
  ·intro g T cs hT hkk;refine hkk.grown hgrow (fun e=>?_);obtain⟨c1,f1,h1⟩:=Lib.ownsRow_kind hown.2 g e.symm;unfold Blk at hkk;rw [hkk] at h1;(injection h1 with h1);(injection h1 with _ h1);exact hT h1
  ·exact (Below.refl B W).grown hgrow hB (fun g e=>(World.ownsRow.lt hown.2 g e).1)
theorem wpList_els {ops:Array Oper} {rest:List Oper} {o:Oper} {a:Act} {Q:Exit→Act→World→Prop} (hgd:o.guard=none) (s x:Operand) {t te:TypeId}
  (ho:o.op=.call { callee:=.builtin .append,args:=#[s,x],argTypes:=#[t,t] }) (hu:Tryz.prog.underlying t=some (.slice te)) {z:Value} {k b:Nat} (hinfo:(Tryz.prog.info? te).map (fun i=>(i.zero,i.size,i.bytes))=some (some z,k,b)) (hzs:z.cells.size=k) (hk:0<k)
  (B:Nat) (v:Value) (L:List (List Value)) (hs:a.eval s=v) (W:World) (c:List Value) (hc:c.length=k) (h1:∀ u ∈ c,u.oneCell'=true) (hx:a.eval x=.slice (some ⟨W.heap.size,0,none⟩) 1 1) (hown:OwnL te k W B v L) (hB:B≤W.heap.size) (hl:(L.length+1) * b≤140737488355328) (hm:L.length≤1000000000000000)
  (h:∀ v' w',OwnL te k w' B v' (L ++ [c])→Below B W w'→(∀ (g:Nat) (T:TypeId) (cs:Array Value),T≠te→Blk W g T cs→Blk w' g T cs)→wpList Tryz.prog ops Q rest (a.put o.dst v') w'):wpList Tryz.prog ops Q (o :: rest) a (W.alloc (.cells c.toArray te)):=by
 refine wpList_plain hgd fun _ hK=>wp_els s x ho hu hinfo hzs hk B v L hs _ W.heap.size c hc h1 hx (Blk.new _ _ _) (hown.below ((Below.refl _ _).alloc (Nat.le_refl _) _)) (by rw [World.size_alloc];omega) hl hm ?_
 intro v' w' h2 h3 h4 _;exact hK _ _ (h v' w' h2 (((Below.refl B W).alloc hB _).trans h3) (fun g T cs hT hb=>h4 g T cs hT (hb.alloc _)))
theorem blk_at9 {w:World} {g:Nat} {t:TypeId} {cs:Array Value} (h:w.heap.size=g):Blk (w.alloc (.cells cs t)) g t cs:=by subst h;exact Blk.new _ _ _
theorem OwnL.set {te:TypeId} {k:Nat} {W:World} {B:Nat} {v:Value} {L:List (List Value)} (h:OwnL te k W B v L) {p:Addr} (hp:p.block<B) (u:Value):OwnL te k (W.setCell p u) B v L:=
 h.kept fun g hg=>Below.heap_setCell W p u g (by have:=(h.blk g hg).1;omega)
theorem OwnL.slice {te:TypeId} {k:Nat} {W:World} {B:Nat} {v:Value} {L:List (List Value)} (h:OwnL te k W B v L):∃ A c,v=.slice A L.length c:=by
 rcases h.2.2 with⟨rfl,h0⟩ | ⟨g,cap,cur,hv,_⟩
 ·exact⟨none,0,by rw [h0]⟩
 ·exact⟨_,_,hv⟩
end Go.Proofs.YthnamoedpnknmaaGreatDoor
