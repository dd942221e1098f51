/-
 Texts joined: Aa Af.
-/
import Derived.RangeFuncNested
import Derived.RangeFuncCalls
import Derived.RangeFuncLeaves
import Derived.Test.YtedfppbnkgffcaaGreatDoorAe
import Derived.Test.YtedfppbnkgffcaaGreatDoorMs
import Derived.BigRegionIn
import Derived.Deep.RegionHeld3
set_option linter.unusedVariables false
set_option linter.unusedSimpArgs false
set_option maxRecDepth 100000
set_option maxHeartbeats 8000000
namespace Go.Proofs.YtedfppbnkgffcaaGreatDoor
open Go.RowKit
def OwnT {β:Type} (T:Obj→Prop) (B:Nat) (I:β→World→Prop):Prop:=
 ∀ s W W' row,I s W→W.grownBy W' row→(∀ r,row=some r→B≤r∧∃ o:Obj,W.heap[r]?=some o∧T o)→I s W'
theorem OwnT.from {β:Type} {T:Obj→Prop} (hT:∀ o:Obj,o.isCells=false→T o) {B:Nat} {I:β→World→Prop} (h:OwnT T B I):OwnFrom B I:=fun s W W' row hs hg hr=>h s W W' row hs hg (fun r e=>by obtain⟨h1,o,h2,h3⟩:=hr r e;exact⟨h1,o,h2,hT o h3⟩)
theorem OwnT.later {β:Type} {T:Obj→Prop} {B B':Nat} {I:β→World→Prop} (h:OwnT T B I) (hB:B≤B'):OwnT T B' I:=fun s X Y row hs hg hr=>h s X Y row hs hg (fun r e=>⟨Nat.le_trans hB (hr r e).1,(hr r e).2⟩)
theorem OwnT.both {β:Type} {T:Obj→Prop} {B:Nat} {I I':β→World→Prop} (h:OwnT T B I) (h':OwnT T B I'):OwnT T B (fun s W=>I s W∧I' s W):=fun s W W' row hs hg hr=>⟨h s W W' row hs.1 hg hr,h' s W W' row hs.2 hg hr⟩
theorem OwnT.ex {β γ:Type} {T:Obj→Prop} {B:Nat} {I:γ→β→World→Prop} (h:∀ c,OwnT T B (I c)):OwnT T B (fun s W=>∃ c,I c s W):=fun s X Y row hs hg hr=>by
 obtain⟨c,hc⟩:=hs;exact⟨c,h c s X Y row hc hg hr⟩
theorem OwnT.heap {β:Type} {T:Obj→Prop} {B k:Nat} (hk:k<B) (o:Obj):OwnT T B (fun (_:β) W=>W.heap[k]?=some o):=fun _ X Y row hs hg hr=>
 (hg.block k (Array.getElem?_eq_some_iff.1 hs).1 (fun e=>by have:=(hr k e.symm).1;omega)).trans hs
theorem OwnT.pure {β:Type} {T:Obj→Prop} (B:Nat) (p:β→Prop):OwnT T B (fun s (_:World)=>p s):=fun _ _ _ _ hs _ _=>hs
def SeqAt {α:Type} (T:Obj→Prop) (F:Fence) (n:Nat) (P:Program) (g:Nat) (lb:Array Value) (encs:α→Array Value) (Kp:World→World→Prop) (At:α→World→Prop) (S Sp:List α→Prop) (w:World):Prop:=
 ∀ (l:Nat) (J Jx:List α→World→Prop) (W:World),Below w.heap.size w W→OwnT T W.heap.size J→OwnT T W.heap.size Jx →
  (∀ pre x W1,J pre W1→At x W1→YieldAt F (n - 1) P l (encs x) W1 fun e W'=>
   ((e=.returned (.bool true)∧J (pre ++ [x]) W')∨(e=.returned (.bool false)∧Jx (pre ++ [x]) W'))∧Kp W1 W'∧KeepsFrom W.heap.size W1 W') →
  J [] W →
  CallsIn F n P g (#[.func (.yield l) #[] #[]] ++ lb) W fun e W'=>(∃ v,e=.returned v)∧((∃ xs,S xs∧J xs W')∨(∃ pre,Sp pre∧Jx pre W'))
def atPost {α:Type} (B:Nat) (Kp:World→World→Prop) (I:List α→World→Prop) (Ix:Code→List α→World→Prop) (xs:List α) (W:World):Exit→Act→World→Prop
 | .normal,_,W'=>KeepsFrom B W W'∧Kp W W'∧I xs W'
 | .ret,_,W'=>KeepsFrom B W W'∧Kp W W'∧Ix .ret xs W'
 | .exit id,_,W'=>KeepsFrom B W W'∧Kp W W'∧Ix (.exit id) xs W'
 | .goto t,_,W'=>KeepsFrom B W W'∧Kp W W'∧Ix (.goto t) xs W'
 | .panic _,_,_=>False
 | .outgrown,_,_=>False
theorem keeps_putObj {B:Nat} {W W':World} (h:KeepsFrom B W W') {l:Nat} (hl:l<B∨W.heap.size≤l) (o:Obj):KeepsFrom B W (W'.putObj l o):=
 ⟨by simpa using h.size,fun k ob hk ho hc=>(World.putObj_heap_other (by have:=(Array.getElem?_eq_some_iff.1 ho).1;omega)).trans (h.same k ob hk ho hc)⟩
theorem keeps_later {B B':Nat} {W W':World} (h:KeepsFrom B W W') (hB:B≤B'):KeepsFrom B' W W':=⟨h.size,fun k ob hk ho hc=>h.same k ob (Nat.le_trans hB hk) ho hc⟩
theorem wpIn_rangeFunc_at {α:Type} {T:Obj→Prop} (hT:∀ o:Obj,o.isCells=false→T o) {F:Fence} {n:Nat} {P:Program} {g:Operand} {ps:Array Tmp} {assign body:Code} {Q:Exit→Act→World→Prop} {a:Act} {w:World}
  (hro:F.round=none) (h1:1≤n) {gf:Nat} {lb:Array Value} (hg:a.eval g=.func (.func gf) #[] lb) (hFg:F.fn gf) (eg:∀ args w,(callFunc gf args).run P w=.ok (.enter gf args) w)
  {encs:α→Array Value} {Kp:World→World→Prop} {At:α→World→Prop} {S Sp:List α→Prop} {w0:World} (hseq:SeqAt T F (n - 1) P gf lb encs Kp At S Sp w0)
  (hKt:∀ {A B C:World},Kp A B→Kp B C→Kp A C) (hKb:∀ (W:World) (l:Nat) (o o':Obj),w.heap.size≤l→W.heap[l]?=some o→o.isCells=false→o.isWalk=false→Kp W (W.putObj l o')) (hb0:Below w0.heap.size w0 w) (hps:∀ x,(encs x).size=ps.size)
  (I:List α→World→Prop) (Ix:Code→List α→World→Prop) (hIT:OwnT T (w.heap.size+2) I) (hIxT:∀ c,OwnT T (w.heap.size+2) (Ix c)) (hI:OwnFrom w.heap.size I) (hIx:∀ c,OwnFrom w.heap.size (Ix c)) (hAt:OwnFrom w.heap.size At) (h0:I [] w) (Ax:α→Act→World→Prop) (hAx:∀ x a',OwnFrom w.heap.size (fun (_:Unit) W=>Ax x a' W))
  (hassign:∀ (l:Nat) (pre:List α) (x:α) (W:World) (K:Act→World→Prop),I pre W→At x W→(∀ a' W',KeepsFrom w.heap.size W W'→Kp W W'→I pre W'→At x W'→Ax x a' W'→K a' W') →
   assign.wpIn (F.inRound l) (n - 1 - 1) P (Exit.then K (fun _ _ _=>False)) { tmps:=(ps.zip (encs x)).foldl (fun t (p,v)=>t.setIfInBounds p v) a.tmps,defers:=[] } W)
  (hbody:∀ (l:Nat) (pre:List α) (x:α) (a':Act) (W:World),w.heap.size≤l→(∃ r,W.heap[l]?=some (.loop r))→I pre W→At x W→Ax x a' W→body.wpIn (F.inRound l) (n - 1 - 1) P (atPost w.heap.size Kp I Ix (pre ++ [x]) W) a' W)
  (hdone:∀ (D:Nat) (xs:List α) (W:World),w.heap.size≤D→S xs→I xs W→W.heap[D]?=some (.deferred (some []))→Q .normal { a with defers:={ target:=.collected D,args:=#[] } :: a.defers } W)
  (hstop:∀ (D:Nat) (c:Code) (pre:List α) (W:World),w.heap.size≤D→Sp pre→Ix c pre W→W.heap[D]?=some (.deferred (some []))→c.wpIn F n P Q { a with defers:={ target:=.collected D,args:=#[] } :: a.defers } W):
  (Code.rangeFunc g ps assign body).wpIn F n P Q a w:=by
 refine wpIn_rangeFunc fun fn hfn=>?_
 rw [hro];obtain⟨D,hD⟩:=nM w.heap.size;rw [hD] at hI hIx hAt hAx hassign hbody hdone hstop hKb
 obtain⟨rc,hrc⟩:∃ rc:LoopState→Option Code→Loop,rc=fun st pe=>{ state:=st,pending:=pe,fn,tmps:=a.tmps,params:=ps,assign,body,defers:=w.heap.size }:=⟨_,rfl⟩
 obtain⟨V,hV⟩:=nM ((w.alloc (.deferred (some []))).alloc (.loop (rc .ready none)));have hVs:V.heap.size=D+2:=by rw [← hV];simp;omega
 have vL:V.heap[D+1]?=some (.loop (rc .ready none)):=by
  rw [← hV,← hD];have:=World.alloc_heap_new (w.alloc (.deferred (some []))) (.loop (rc .ready none));rwa [World.size_alloc] at this
 have vD:V.heap[D]?=some (.deferred (some [])):=by
  rw [← hV,← hD];exact (Below.heap_alloc _ _ _ (by simp)).trans (World.alloc_heap_new w _)
 have vI:I [] V:=by rw [← hV];exact hI.alloc _ (hI.alloc _ h0)
 have vB:Below w0.heap.size w0 V:=by
  rw [← hV];exact hb0.trans ((((Below.refl _ w).alloc (Nat.le_refl _) _).alloc (by simp) _).mono hb0.size)
 -- what is true of the two blocks of book-keeping
 have back:∀ {pre:List α} {W:World} (J:List α→World→Prop),OwnFrom D J→∀ (st st':LoopState) (pe pe':Option Code),J pre W→W.heap[D+1]?=some (.loop (rc st pe))→W.heap[D]?=some (.deferred (some [])) →
   J pre (W.putObj (D+1) (.loop (rc st' pe')))∧(W.putObj (D+1) (.loop (rc st' pe'))).heap[D+1]?=some (.loop (rc st' pe'))∧(W.putObj (D+1) (.loop (rc st' pe'))).heap[D]?=some (.deferred (some [])):=fun J hJ st st' pe pe' hj hl hk=>
  ⟨hJ.putObj _ hj (by omega) hl rfl,World.putObj_heap_same (Array.getElem?_eq_some_iff.1 hl).1,(World.putObj_heap_other (by omega)).trans hk⟩
 refine⟨D+1,[{ target:=.collected D,args:=#[] }],V,{ target:=.fn (.func gf) lb,args:=#[.func (.yield (D+1)) #[] #[]] },V,gf,#[.func (.yield (D+1)) #[] #[]] ++ lb,V,?_,?_,?_,?_,fun _=>h1,?_⟩
 ·rw [← hV,hrc,← hD];exact run_enterLoop_outer _ _ _ _ _
 ·simp only [resolve,hg];simp [go_sem]
 ·intro f' hf';simp [Target.leads] at hf';subst hf';exact hFg
 ·simp [invoke,go_sem,eg]
 refine (hseq (D+1)
  (fun pre W=>I pre W∧W.heap[D+1]?=some (.loop (rc .ready none))∧W.heap[D]?=some (.deferred (some [])))
  (fun pre W=>∃ c,Ix c pre W∧W.heap[D+1]?=some (.loop (rc .done (some c)))∧W.heap[D]?=some (.deferred (some [])))
  V vB
  (OwnT.both (hIT.later (by omega)) (OwnT.both (OwnT.heap (by omega) _) (OwnT.heap (by omega) _)))
  (OwnT.ex fun c=>OwnT.both ((hIxT c).later (by omega)) (OwnT.both (OwnT.heap (by omega) _) (OwnT.heap (by omega) _)))
  ?_ ⟨vI,vL,vD⟩).mono ?_
 ·rintro pre x W ⟨hi,hl,hk⟩ hax;have hy:=run_yield (P:=P) (args:=encs x) hl (by rw [hrc];exact hps x);rw [hrc] at hy;refine⟨fn,_,assign,body,hy,roundIn_of_wpIn hfn (hassign _ pre x W _ hi hax ?_)⟩;clear hy;intro a' W1 k1 p1 i1 x1 g1;have l1:=k1.same _ _ (by omega) hl rfl;have d1:=k1.same _ _ (Nat.le_refl _) hk rfl;refine⟨_,run_beginRound l1 (by rw [hrc]),?_⟩;obtain⟨W2,hW2⟩:=nM (W1.putObj (D+1) (.loop (rc .busy none)));obtain⟨i2,l2,d2⟩:=back I hI .ready .busy none none i1 l1 d1;have x2:At x W2:=by rw [← hW2];exact hAt.putObj _ x1 (by omega) l1 rfl
  have g2:Ax x a' W2:=by rw [← hW2];exact (hAx x a').putObj (s:=()) _ g1 (by omega) l1 rfl
  have p2:Kp W W2:=by rw [← hW2];exact hKt p1 (hKb _ _ _ _ (by omega) l1 rfl rfl)
  rw [hW2] at i2 l2 d2;have hbusy:({ rc .ready none with state:=.busy }:Loop)=rc .busy none:=by rw [hrc]
  rw [hbusy,hW2];refine wpIn_mono (hbody _ pre x a' W2 (by omega) ⟨_,l2⟩ i2 x2 g2) ?_
  have fin:∀ (jump:Option Code) (W3:World),KeepsFrom D W2 W3 →
    W3.heap[D+1]?=some (.loop (rc .busy none))∧W3.heap[D]?=some (.deferred (some [])) ∧
    (Instr.endRound (D+1) jump).run P W3=.ok (.bool jump.isNone) (W3.putObj (D+1) (.loop (rc (if jump.isNone then .ready else .done) jump))):=fun jump W3 h3=>by
   have l3:=h3.same _ _ (by omega) l2 rfl;have:=run_endRound (P:=P) jump l3;rw [hrc] at this ⊢;exact⟨by rw [hrc] at l3;exact l3,h3.same _ _ (Nat.le_refl _) d2 rfl,this⟩
  have ends:∀ (jump:Option Code) (st:LoopState) (W3:World),KeepsFrom D W2 W3→Kp W2 W3→W3.heap[D+1]?=some (.loop (rc .busy none)) →
    Kp W (W3.putObj (D+1) (.loop (rc st jump)))∧KeepsFrom V.heap.size W (W3.putObj (D+1) (.loop (rc st jump))):=fun jump st W3 h3 k3 l3=>by
   refine⟨hKt p2 (hKt k3 (hKb _ _ _ _ (by omega) l3 rfl rfl)),?_⟩;(have a1:KeepsFrom (D+2) W W2:=by rw [← hW2];exact keeps_putObj (keeps_later k1 (by omega)) (.inl (by omega)) _);rw [hVs];exact keeps_putObj (a1.trans (keeps_later h3 (by omega))) (.inl (by omega)) _
  have leave:∀ (c:Code) (W3:World),KeepsFrom D W2 W3→Kp W2 W3→Ix c (pre ++ [x]) W3→∃ v w',(Instr.endRound (D+1) (some c)).run P W3=.ok v w' ∧
    (((Ending.returned v=.returned (.bool true)∧(I (pre ++ [x]) w'∧w'.heap[D+1]?=some (.loop (rc .ready none))∧w'.heap[D]?=some (.deferred (some [])))) ∨
     (Ending.returned v=.returned (.bool false)∧∃ c,Ix c (pre ++ [x]) w'∧w'.heap[D+1]?=some (.loop (rc .done (some c)))∧w'.heap[D]?=some (.deferred (some []))))∧Kp W w'∧KeepsFrom V.heap.size W w'):=fun c W3 h3 k3 hx=>by
   obtain⟨l3,d3,r3⟩:=fin (some c) W3 h3;exact⟨_,_,r3,.inr ⟨rfl,c,back (Ix c) (hIx c) .busy .done none (some c) hx l3 d3⟩,ends (some c) .done W3 h3 k3 l3⟩
  rintro e a3 W3 hp
  cases e with
  | normal=>
   obtain⟨h3,k3,i3⟩:=hp;obtain⟨l3,d3,r3⟩:=fin none W3 h3;exact⟨_,_,r3,.inl ⟨rfl,back I hI .busy .ready none none i3 l3 d3⟩,ends none .ready W3 h3 k3 l3⟩
  | ret=>exact leave .ret W3 hp.1 hp.2.1 hp.2.2
  | exit id=>exact leave (.exit id) W3 hp.1 hp.2.1 hp.2.2
  | goto t=>exact leave (.goto t) W3 hp.1 hp.2.1 hp.2.2
  | panic ch=>exact hp.elim
  | outgrown=>exact hp.elim
 ·rintro e W ⟨⟨v,rfl⟩,(⟨xs,hS,hi,hl,hk⟩ | ⟨pre,hSp,c,hi,hl,hk⟩)⟩
  ·obtain⟨i2,_,d2⟩:=back I hI .ready .exhausted none none hi hl hk;refine⟨none,W.putObj (D+1) (.loop (rc .exhausted none)),?_,hdone D xs _ (Nat.le_refl _) hS i2 d2⟩;have:=run_endLoop (P:=P) hl (by rw [hrc];simp);rw [hrc] at this ⊢;exact this
  ·obtain⟨i2,_,d2⟩:=back (Ix c) (hIx c) .done .exhausted (some c) (some c) hi hl hk;refine⟨some c,W.putObj (D+1) (.loop (rc .exhausted (some c))),?_,hstop D c pre _ (Nat.le_refl _) hSp i2 d2⟩;have:=run_endLoop (P:=P) hl (by rw [hrc];simp);rw [hrc] at this ⊢;exact this
attribute [local go_sem] Oper.semAt_some
def TurnOk (o:Obj):Prop:=o.isCells=false∨∃ cs fr,o=.cells cs 4 fr
theorem turnOk_of (o:Obj) (h:o.isCells=false):TurnOk o:=.inl h
structure PathV where
 v1:Value
 v2:Value
 path:Sp.Path
def pvC (x:PathV):Value:=.agg #[x.v1,x.v2,.string x.path.header]
def PvAt (B:Nat) (x:PathV) (W:World):Prop:=InR W B x.v1 x.path.ports∧InR W B x.v2 x.path.entries
def XIn (X:World→Nat→Prop) (W:World):Prop:=∀ b,X W b→b<W.heap.size
theorem row_turn {B:Nat} {A C:World} {v:Value} {l:List Int} {row:Option Nat} (h:InR A B v l) (hg:A.grownBy C row) (hr:∀ r,row=some r→∃ o:Obj,A.heap[r]?=some o∧TurnOk o):InR C B v l:=by
 refine World.ownsRow.kept h hg ?_;rcases h.2 with⟨rfl,_⟩ | ⟨g,cap,cur,rfl,_,hgb,_⟩
 ·exact .inl rfl
 ·refine .inr fun e=>?_
  obtain⟨o,ho,hT⟩:=hr g e.symm;rw [hgb] at ho
  cases ho
  rcases hT with hT | ⟨cs,fr,hT⟩
  ·cases hT
  ·injection hT with _ hT
   exact absurd hT (by decide)
theorem blk_turn {A C:World} {g:Nat} {t:TypeId} {cs:Array Value} {row:Option Nat} (h:Blk A g t cs) (ht:t≠4) (hg:A.grownBy C row) (hr:∀ r,row=some r→∃ o:Obj,A.heap[r]?=some o∧TurnOk o):Blk C g t cs:=by
 refine h.grown hg (fun e=>?_);obtain⟨o,ho,hT⟩:=hr g e.symm;rw [show A.heap[g]?=_ from h] at ho
 cases ho
 rcases hT with hT | ⟨cs,fr,hT⟩
 ·cases hT
 ·injection hT with _ hT
  exact ht hT
theorem pvAt_own (B B':Nat):OwnT TurnOk B' (PvAt B):=fun s A C row hs hg hr=>⟨row_turn hs.1 hg (fun r e=>(hr r e).2),row_turn hs.2 hg (fun r e=>(hr r e).2)⟩
theorem pvAt_below {B:Nat} {x:PathV} {A C:World} (h:PvAt B x A) (hb:Below A.heap.size A C):PvAt B x C:=⟨in_below h.1 hb,in_below h.2 hb⟩
theorem kpx_row {n0:Nat} {X:World→Nat→Prop} {A C:World} {B:Nat} {v:Value} {l:List Int} (h:KpX n0 X A C) (hr:InR A B v l) (hx:∀ k,v.ownBlock=some k→¬ X A k):InR C B v l:=by
 refine⟨hr.1,?_⟩;rcases hr.2 with e | ⟨g,cap,cur,rfl,h2,h3,h4⟩
 ·exact .inl e
 ·exact .inr ⟨g,cap,cur,rfl,h2,h.keep g _ h3 rfl (hx g rfl),h4⟩
theorem kpx_blk {n0:Nat} {X:World→Nat→Prop} {A C:World} {g:Nat} {t:TypeId} {cs:Array Value} (h:KpX n0 X A C) (hk:Blk A g t cs) (hx:¬ X A g):Blk C g t cs:=h.keep g _ hk rfl hx
theorem kpx_setNew {n0 mX:Nat} {X:World→Nat→Prop} (hX:XLow mX X) {A C:World} (h:KpX n0 X A C) {b i:Nat} (hb:A.heap.size≤b) (hn:n0≤b) (hm:mX≤b) (v:Value):KpX n0 X A (C.setCell ⟨b,i,none⟩ v):=
 ⟨h.below.setCell (p:=⟨b,i,none⟩) hn v,fun k o ho hc hx=>(Below.heap_setCell C _ _ k (by have:=heap_lt ho;show k≠b;omega)).trans (h.keep k o ho hc hx),fun k hk=>h.own k (hX _ _ _ ((Below.refl mX C).setCell (p:=⟨b,i,none⟩) hm v) hk)⟩
theorem kpx_below {n0 mX:Nat} {X:World→Nat→Prop} (hX:XLow mX X) {A C D:World} (h:KpX n0 X A C) (hb:Below C.heap.size C D) (hn:n0≤C.heap.size) (hm:mX≤C.heap.size):KpX n0 X A D:=h.trans (KpX.of_below (XLow.ok hX) hb hn hm)
theorem xin_below {mX:Nat} {X:World→Nat→Prop} (hX:XLow mX X) {A C:World} (h:XIn X A) (hb:Below mX A C):XIn X C:=fun b hx=>Nat.lt_of_lt_of_le (h b (hX _ _ _ hb hx)) hb.size
theorem kpx_or {n0:Nat} {X:World→Nat→Prop} {A C:World} (t:TypeId) (h:KpX n0 X A C):KpX n0 (orT t X) A C:=by
 refine⟨h.below,fun b o ho hc hx=>h.keep b o ho hc (fun e=>hx (.inl e)),fun b hb=>?_⟩;rcases hb with e | ⟨cs,fr,e⟩
 ·exact (h.own b e).elim (fun e=>.inl (.inl e)) .inr
 ·refine Classical.byCases (fun hx:X A b=>.inl (.inl hx)) (fun hx=>Classical.byContradiction (fun hn=>?_));refine hn (.inr (fun o ho=>Classical.byContradiction (fun hc=>?_)));have hc':o.isCells=true:=by simpa using hc
  have h1:=h.keep b o ho hc' hx;rw [e] at h1;injection h1 with h1
  exact hn (.inl (.inr ⟨cs,fr,by rw [ho,← h1]⟩))
theorem kpx_flag {n0 mX:Nat} {X:World→Nat→Prop} (hX:XLow mX X) {A:World} {b i:Nat} {t:TypeId} {cs:Array Value} (hk:Blk A b t cs) (hn:n0≤b) (hm:mX≤b) (v:Value):KpX n0 (orT t X) A (A.setCell ⟨b,i,none⟩ v):=by
 refine⟨(Below.refl n0 A).setCell (p:=⟨b,i,none⟩) hn v,fun k o ho hc hx=>?_,fun k hk2=>?_⟩
 ·refine (Below.heap_setCell A _ _ k (fun e=>hx (.inr ?_))).trans ho;obtain rfl:k=b:=e;exact⟨_,_,hk⟩
 ·rcases hk2 with e | ⟨cs2,fr,e⟩
  ·exact .inl (.inl (hX _ _ _ ((Below.refl mX A).setCell (p:=⟨b,i,none⟩) hm v) e))
  ·by_cases hkb:k=b
   ·subst hkb;exact .inl (.inr ⟨_,_,hk⟩)
   ·exact .inl (.inr ⟨cs2,fr,(Below.heap_setCell A _ _ k hkb).symm.trans e⟩)
theorem wpIn_noPanic {F:Fence} {nF:Nat} {P:Program} {c:Code} {Q:Exit→Act→World→Prop} {a:Act} {w:World} (h:c.wpIn F nF P (NoPanic Q) a w):c.wpIn F nF P Q a w:=wpIn_mono h NoPanic.imp
theorem room_any {F:Fence} (hd:F.depth=none) (k:Nat):F.room k:=fun d h=>by rw [hd] at h;cases h
theorem callsIn_any {m m':Nat} {P:Program} {f:FuncId} {args:Array Value} {w:World} {R:Ending→World→Prop} (h:CallsIn Fence.wide m P f args w R):CallsIn Fence.wide m' P f args w R:=⟨h.1,fun cs _=>h.2 cs (room_any rfl _)⟩
theorem yieldAt_any {m m':Nat} {P:Program} {l:Nat} {args:Array Value} {W:World} {R:Ending→World→Prop} (h:YieldAt Fence.wide m P l args W R):YieldAt Fence.wide m' P l args W R:=by
 obtain⟨fn,tmps,assign,body,hy,hR⟩:=h;exact⟨fn,tmps,assign,body,hy,⟨hR.1,fun c cs _=>hR.2 c cs (room_any rfl _)⟩⟩
theorem results_cell1 {P:Program} {fn:Func} {p:Tmp} {ty:TypeId} (h:fn.results=#[.cell p ty]) (tmps:Array Value) (w:World) (g:Nat) (v:Value) (hp:tmps.getD p undef=.pointer (some ⟨g,0,none⟩)) (hg:w.cell? ⟨g,0,none⟩=some v) (ha:(isAgg ty).run P w=.ok false w):
  (results fn tmps).run P w=.ok v w:=by
 have hp':tmps[p]?.getD undef=.pointer (some ⟨g,0,none⟩):=by simpa using hp
 simp [results,h,hp',asAddr,loadVar,Sem.run_bind,ha,hg,go_sem]
variable {cs:List Value} {Wb:World}
structure WkEnv (n:Sp.Net) (hops:Int) (N B mX l:Nat) (X:World→Nat→Prop) (w0:World) (cs:List Value) (Wb:World) (J Jx:List PathV→World→Prop):Prop where
 net:Sp.NetOk n
 mem:NetR w0 n cs
 box:Blk Wb N 26 cs.toArray
 nN:¬ X Wb N
 mb:Below w0.heap.size w0 Wb
 low:XLow mX X
 jT:OwnT TurnOk B J
 jxT:OwnT TurnOk B Jx
 hops:0≤hops∧hops≤64
 base:w0.heap.size≤B
 mB:mX≤B
 yield:∀ m pre x W1,J pre W1→PvAt B x W1→XIn X W1→YieldAt Fence.wide m Tryz.prog l #[pvC x] W1 fun e W'=>
  ((e=.returned (.bool true)∧J (pre ++ [x]) W')∨(e=.returned (.bool false)∧Jx (pre ++ [x]) W'))∧(KpX w0.heap.size X W1 W'∧XIn X W')∧KeepsFrom B W1 W'
structure WkAt (B:Nat) (X:World→Nat→Prop) (w0 Wb:World) (p:PathV) (W:World):Prop where
 pv:PvAt B p W
 nx:∀ k,(p.v1.ownBlock=some k∨p.v2.ownBlock=some k)→¬ X W k
 kp0:KpX w0.heap.size X Wb W
 xin:XIn X W
 size:B≤W.heap.size
def WalkEnd (n:Sp.Net) (hops:Int) (B:Nat) (X:World→Nat→Prop) (w0:World) (J Jx:List PathV→World→Prop) (f:Nat) (p:PathV) (pre:List PathV) (W:World) (e:Ending) (W':World):Prop:=
 ((e=.returned (.bool true)∧∃ xs:List PathV,xs.map PathV.path=Sp.walkV n hops f p.path∧J (pre ++ xs) W')∨(e=.returned (.bool false)∧∃ xs:List PathV,xs.map PathV.path <+: Sp.walkV n hops f p.path∧Jx (pre ++ xs) W'))∧(KpX w0.heap.size X W W'∧XIn X W')∧KeepsFrom B W W'
theorem keeps_below {B:Nat} {A C:World} (h:Below A.heap.size A C):KeepsFrom B A C:=⟨h.size,fun k o _ ho _=>(h.block k (heap_lt ho)).trans ho⟩
theorem own_set {β:Type} {B:Nat} {J:β→World→Prop} (hJ:OwnT TurnOk B J) {s:β} {A:World} {g:Nat} {cs:Array Value} (hs:J s A) (hk:Blk A g 4 cs) (hg:B≤g) (v:Value):J s (A.setCell ⟨g,0,none⟩ v):=
 hJ s A _ (some g) hs (grownBy_setCell' A g v) (fun r e=>by cases e;exact⟨hg,_,hk,.inr ⟨_,_,rfl⟩⟩)
theorem own_grow {β:Type} {B:Nat} {J:β→World→Prop} (hJ:OwnT TurnOk B J) {s:β} {A C:World} (hs:J s A) (hb:Below A.heap.size A C):J s C:=hJ s A _ none hs (grown_of_below hb) (fun r e=>by cases e)
theorem own_put {β:Type} {B:Nat} {J:β→World→Prop} (hJ:OwnT TurnOk B J) {s:β} {A:World} {D:Nat} {o:Obj} (o':Obj) (hs:J s A) (hD:B≤D) (ho:A.heap[D]?=some o) (hc:o.isCells=false):J s (A.putObj D o'):=
 hJ s A _ (some D) hs (grownBy_putObj' A D o') (fun r e=>by cases e;exact⟨hD,o,ho,.inl hc⟩)
theorem xin_set {mX:Nat} {X:World→Nat→Prop} (hX:XLow mX X) {A:World} (h:XIn X A) {g i:Nat} (hg:mX≤g) (v:Value):XIn X (A.setCell ⟨g,i,none⟩ v):=
 xin_below hX h ((Below.refl mX A).setCell (p:=⟨g,i,none⟩) hg v)
theorem not_set {mX:Nat} {X:World→Nat→Prop} (hX:XLow mX X) {A:World} {g i k:Nat} (hg:mX≤g) (v:Value) (h:¬ X A k):¬ X (A.setCell ⟨g,i,none⟩ v) k:=fun e=>h (hX _ _ _ ((Below.refl mX A).setCell (p:=⟨g,i,none⟩) hg v) e)
theorem not_below {mX:Nat} {X:World→Nat→Prop} (hX:XLow mX X) {A C:World} {k:Nat} (hb:Below mX A C) (h:¬ X A k):¬ X C k:=fun e=>h (hX _ _ _ hb e)
theorem walkEnd_put {n:Sp.Net} {hops:Int} {N B mX l:Nat} {X:World→Nat→Prop} {w0:World} {J Jx:List PathV→World→Prop} (env:WkEnv n hops N B mX l X w0 cs Wb J Jx) {f:Nat} {p:PathV} {pre:List PathV} {W:World} {e:Ending} {W':World} (hB:B≤W.heap.size)
  (h:WalkEnd n hops B X w0 J Jx f p pre W e W') {D:Nat} {o:Obj} (o':Obj) (hD:W.heap.size≤D) (ho:W'.heap[D]?=some o) (hc:o.isCells=false) (hw:o.isWalk=false):WalkEnd n hops B X w0 J Jx f p pre W e (W'.putObj D o'):=by
 obtain⟨h1,⟨h2,h3⟩,h4⟩:=h;have hb:=env.base;have hm:=env.mB;refine⟨?_,⟨h2.trans (KpX.book (XLow.ok env.low) (w:=W) (by omega) (by omega) W' D o o' hD ho hc hw),?_⟩,keeps_putObj h4 (.inr hD) o'⟩
 ·rcases h1 with⟨e1,xs,e2,e3⟩ | ⟨e1,xs,e2,e3⟩
  ·exact .inl ⟨e1,xs,e2,own_put env.jT o' e3 (by omega) ho hc⟩
  ·exact .inr ⟨e1,xs,e2,own_put env.jxT o' e3 (by omega) ho hc⟩
 ·exact xin_below env.low h3 (belowK_b (w:=W) (by omega) W' D o o' hD ho hc hw)
theorem leaf_end {n:Sp.Net} {hops:Int} {N B mX l:Nat} {X:World→Nat→Prop} {w0:World} {J Jx:List PathV→World→Prop} (env:WkEnv n hops N B mX l X w0 cs Wb J Jx) {f:Nat} {p:PathV} {pre:List PathV} {W Wy V:World} (hB:B≤W.heap.size)
  (hl:Sp.leafB n hops p.path=true) (hK:KpX w0.heap.size X W Wy) (hF:KeepsFrom B W Wy) {r:Bool} (hy:(r=true∧J (pre ++ [p]) V)∨(r=false∧Jx (pre ++ [p]) V)) (hV:KpX w0.heap.size X Wy V∧XIn X V) (hFV:KeepsFrom B Wy V)
  {R:Nat} {cs:Array Value} (hk:Blk V R 4 cs) (hR:W.heap.size≤R):WalkEnd n hops B X w0 J Jx f p pre W (.returned (.bool r)) (V.setCell ⟨R,0,none⟩ (.bool r)):=by
 have hb:=env.base;have hm:=env.mB;refine⟨?_,⟨kpx_setNew env.low (hK.trans hV.1) hR (by omega) (by omega) _,xin_set env.low hV.2 (by omega) _⟩,(hF.trans hFV).trans ((KeepsOthers.setCell _ _ _).from _)⟩;have hwl:[p].map PathV.path=Sp.walkV n hops f p.path:=by rw [Sp.walkV_leaf hl];rfl
 rcases hy with⟨rfl,e⟩ | ⟨rfl,e⟩
 ·exact .inl ⟨rfl,[p],hwl,own_set env.jT e hk (by omega) _⟩
 ·exact .inr ⟨rfl,[p],by rw [hwl];exact List.prefix_refl _,own_set env.jxT e hk (by omega) _⟩
structure WkC (N M S l:Nat) (hops:Int) (vP vE:Value) (h:ByteArray) (r b:Bool) (W:World):Prop where
 c4:Blk W M 69 #[.pointer (some ⟨N,0,none⟩)]
 c5:Blk W (M+1) 31 #[vP,vE,.string h]
 c6:Blk W (M+1+1) 3 #[.int .i64 hops]
 c7:Blk W (M+1+1+1) 89 #[.func (.yield l) #[] #[]]
 c8:Blk W (M+1+1+1+1) 4 #[.bool r]
 c10:Blk W (S+1) 4 #[.bool b]
theorem WkC.below {N M S l:Nat} {hops:Int} {vP vE:Value} {h:ByteArray} {r b:Bool} {A C:World} (k:WkC N M S l hops vP vE h r b A) (hb:Below A.heap.size A C):WkC N M S l hops vP vE h r b C:=
 ⟨k.c4.below hb k.c4.lt,k.c5.below hb k.c5.lt,k.c6.below hb k.c6.lt,k.c7.below hb k.c7.lt,k.c8.below hb k.c8.lt,k.c10.below hb k.c10.lt⟩
structure NX (X:World→Nat→Prop) (M S:Nat) (A:World):Prop where
 n4:¬ X A M
 n5:¬ X A (M+1)
 n6:¬ X A (M+1+1)
 n7:¬ X A (M+1+1+1)
 n8:¬ X A (M+1+1+1+1)
 n10:¬ X A (S+1)
theorem NX.low {X:World→Nat→Prop} {M S mX:Nat} {A C:World} (h:NX X M S A) (hX:XLow mX X) (hb:Below mX A C):NX X M S C:=
 ⟨not_below hX hb h.n4,not_below hX hb h.n5,not_below hX hb h.n6,not_below hX hb h.n7,not_below hX hb h.n8,not_below hX hb h.n10⟩
theorem WkC.nx {N M S l:Nat} {hops:Int} {vP vE:Value} {h:ByteArray} {r b:Bool} {A C:World} {n0:Nat} {X:World→Nat→Prop} (k:WkC N M S l hops vP vE h r b A) (hK:KpX n0 X A C) (hx:NX X M S A):NX X M S C:=
 ⟨hK.not k.c4 rfl hx.n4,hK.not k.c5 rfl hx.n5,hK.not k.c6 rfl hx.n6,hK.not k.c7 rfl hx.n7,hK.not k.c8 rfl hx.n8,hK.not k.c10 rfl hx.n10⟩
theorem row_not {n0:Nat} {X:World→Nat→Prop} {A C:World} {B:Nat} {v:Value} {l:List Int} (h:KpX n0 X A C) (hr:InR A B v l) {g:Nat} (hg:v.ownBlock=some g) (hx:¬ X A g):¬ X C g:=by
 rcases hr.2 with⟨rfl,_⟩ | ⟨g',cap,cur,rfl,h2,h3,h4⟩
 ·cases hg
 ·injection hg with hg
  subst hg;exact h.not h3 rfl hx
theorem WkC.keep {N M S l:Nat} {hops:Int} {vP vE:Value} {h:ByteArray} {r b:Bool} {A C:World} {n0:Nat} {X:World→Nat→Prop} (k:WkC N M S l hops vP vE h r b A) (hK:KpX n0 X A C) (hx:NX X M S A):WkC N M S l hops vP vE h r b C:=
 ⟨kpx_blk hK k.c4 hx.n4,kpx_blk hK k.c5 hx.n5,kpx_blk hK k.c6 hx.n6,kpx_blk hK k.c7 hx.n7,kpx_blk hK k.c8 hx.n8,kpx_blk hK k.c10 hx.n10⟩
theorem WkC.turn {N M S l:Nat} {hops:Int} {vP vE:Value} {h:ByteArray} {r b:Bool} {A C:World} {row:Option Nat} (k:WkC N M S l hops vP vE h r b A) (hg:A.grownBy C row) (hr:∀ r,row=some r→∃ o:Obj,A.heap[r]?=some o∧o.isCells=false):WkC N M S l hops vP vE h r b C:=by
 have g:∀ {g:Nat} {t:TypeId} {cs:Array Value},Blk A g t cs→Blk C g t cs:=fun {g t cs} hk=>hk.grown hg (fun e=>by
  obtain⟨o,ho,hc⟩:=hr g e.symm;rw [show A.heap[g]?=_ from hk] at ho
  cases ho
  cases hc)
 exact⟨g k.c4,g k.c5,g k.c6,g k.c7,g k.c8,g k.c10⟩
theorem WkC.flag {N M S l:Nat} {hops:Int} {vP vE:Value} {h:ByteArray} {r b:Bool} {A:World} (k:WkC N M S l hops vP vE h r b A) (hMS:M+5≤S) (b':Bool):WkC N M S l hops vP vE h r b' (A.setCell ⟨S+1,0,none⟩ (.bool b')):=
 ⟨k.c4.far (by show M≠S+1;omega) _,k.c5.far (by show M+1≠S+1;omega) _,k.c6.far (by show M+1+1≠S+1;omega) _,k.c7.far (by show M+1+1+1≠S+1;omega) _,k.c8.far (by show M+1+1+1+1≠S+1;omega) _,k.c10.set_ 0 _⟩
structure WkI (n:Sp.Net) (hops:Int) (N B M S l f:Nat) (X:World→Nat→Prop) (w0 W:World) (J:List PathV→World→Prop) (p:PathV) (pre:List PathV) (ms:List Sp.Mv) (V:World):Prop where
 cells:WkC N M S l hops p.v1 p.v2 p.path.header false ms.isEmpty V
 pv:PvAt B p V
 come:∃ xs:List PathV,xs.map PathV.path=(ms.flatMap fun m=>Sp.walkV n hops f (Sp.onP p.path m))∧J (pre ++ xs) V
 kp:KpX w0.heap.size X W V
 xin:XIn X V
 keeps:KeepsFrom B W V
 nx:NX X M S V
 rx:∀ g,(p.v1.ownBlock=some g∨p.v2.ownBlock=some g)→¬ X V g
theorem kpx_turn {n0 mX:Nat} {X:World→Nat→Prop} (hX:XLow mX X) {W A C:World} {row:Option Nat} {b:Nat} (h:KpX n0 X W A) (hg:A.grownBy C row) (hn:n0≤b) (hm:mX≤b) (hs:b≤A.heap.size) (hr:∀ r,row=some r→b≤r∧∃ o:Obj,A.heap[r]?=some o∧o.isCells=false):KpX n0 X W C∧Below mX A C:=by
 have hb0:∀ {k:Nat},k≤b→Below k A C:=fun {k} hk=>(Below.refl k A).grown hg (by omega) (fun r e=>by have:=(hr r e).1;omega)
 refine⟨⟨h.below.trans (hb0 hn),fun k o ho hc hx=>?_,fun k hk=>h.own k (hX _ _ _ (hb0 hm) hk)⟩,hb0 hm⟩;have h1:=h.keep k o ho hc hx;refine (hg.block k (heap_lt h1) (fun e=>?_)).trans h1;obtain⟨_,o',ho',hc'⟩:=hr k e.symm;rw [h1] at ho'
 cases ho'
 rw [hc] at hc'
 cases hc'
theorem wkI_own {n:Sp.Net} {hops:Int} {N B mX M S l f:Nat} {X:World→Nat→Prop} {w0 W V:World} {J Jx:List PathV→World→Prop} {p:PathV} {pre:List PathV} (env:WkEnv n hops N B mX l X w0 cs Wb J Jx) (hB:B≤V.heap.size) (hWV:W.heap.size≤V.heap.size):
  OwnFrom V.heap.size (fun ms A=>WkI n hops N B M S l f X w0 W J p pre ms A∧V.heap.size≤A.heap.size):=by
 rintro ms A C row ⟨h,hVA⟩ hg hr;have hr2:∀ r,row=some r→∃ o:Obj,A.heap[r]?=some o∧TurnOk o:=fun r e=>by obtain⟨_,o,h1,h2⟩:=hr r e;exact⟨o,h1,.inl h2⟩
 have hb:=env.base;have hm:=env.mB;obtain⟨k1,k2⟩:=kpx_turn env.low h.kp hg (b:=V.heap.size) (by omega) (by omega) hVA hr;obtain⟨xs,e1,e2⟩:=h.come;refine⟨⟨h.cells.turn hg (fun r e=>(hr r e).2),⟨row_turn h.pv.1 hg hr2,row_turn h.pv.2 hg hr2⟩,⟨xs,e1,env.jT _ A C row e2 hg (fun r e=>⟨by have:=(hr r e).1;omega,hr2 r e⟩)⟩,k1,fun b hx=>Nat.lt_of_lt_of_le (h.xin b (env.low _ _ _ k2 hx)) hg.size,?_,h.nx.low env.low k2,fun g g1 e=>h.rx g g1 (env.low _ _ _ k2 e)⟩,Nat.le_trans hVA hg.size⟩;exact ownFrom_keepsFrom (β:=Unit) (B':=V.heap.size) hWV () A C row h.keeps hg hr
structure WkX (B R:Nat) (X:World→Nat→Prop) (w0 W:World) (Jx:List PathV→World→Prop) (pre:List PathV) (L:List Sp.Path) (V:World):Prop where
 come:∃ xs:List PathV,xs.map PathV.path <+: L∧Jx (pre ++ xs) V
 c8:Blk V R 4 #[.bool false]
 kp:KpX w0.heap.size X W V
 xin:XIn X V
 keeps:KeepsFrom B W V
theorem wkX_own {n:Sp.Net} {hops:Int} {N B mX R l:Nat} {X:World→Nat→Prop} {w0 W V:World} {J Jx:List PathV→World→Prop} {pre:List PathV} {L:List Sp.Path} (env:WkEnv n hops N B mX l X w0 cs Wb J Jx) (hB:B≤V.heap.size) (hWV:W.heap.size≤V.heap.size):
  OwnFrom V.heap.size (fun (_:Unit) A=>WkX B R X w0 W Jx pre L A∧V.heap.size≤A.heap.size):=by
 rintro ms A C row ⟨h,hVA⟩ hg hr;have hr2:∀ r,row=some r→∃ o:Obj,A.heap[r]?=some o∧TurnOk o:=fun r e=>by obtain⟨_,o,h1,h2⟩:=hr r e;exact⟨o,h1,.inl h2⟩
 have hb:=env.base;have hm:=env.mB;obtain⟨k1,k2⟩:=kpx_turn env.low h.kp hg (b:=V.heap.size) (by omega) (by omega) hVA hr;obtain⟨xs,e1,e2⟩:=h.come;refine⟨⟨⟨xs,e1,env.jxT _ A C row e2 hg (fun r e=>⟨by have:=(hr r e).1;omega,hr2 r e⟩)⟩,h.c8.grown hg (fun e=>?_),k1,fun b hx=>Nat.lt_of_lt_of_le (h.xin b (env.low _ _ _ k2 hx)) hg.size,?_⟩,Nat.le_trans hVA hg.size⟩
 ·obtain⟨_,o,ho,hc⟩:=hr R e.symm;rw [show A.heap[R]?=_ from h.c8] at ho
  cases ho
  cases hc
 ·exact ownFrom_keepsFrom (β:=Unit) (B':=V.heap.size) hWV () A C row h.keeps hg hr
theorem mv_kind {n:Sp.Net} (hn:Sp.NetOk n) {k:Nat} {h:ByteArray} {q:Sp.Port} (hq:n.ports[k]?=some q) {m:Sp.Mv} (hm:m ∈ Sp.movesV n k h):(m.entry<0∧m.out<0∧0≤m.inn)∨(0≤m.entry∧0≤m.out):=by
 cases hin:q.inn with
 | false=>
  rw [Sp.movesV_link hq hin] at hm;split at hm
  ·rename_i hd;(obtain rfl:m=⟨-1,-1,q.dst,h⟩:=by simpa using hm);exact .inl ⟨by show (-1:Int)<0;decide,by show (-1:Int)<0;decide,hd⟩
  ·cases hm
 | true=>
  have:=Sp.mvIn_of hn hq hin hm;exact .inr ⟨this.entry,this.out⟩
def FWk (M S Bx:Nat) (a:Act):Prop:=∃ u:Nat→Value,a={ tmps:=#[u 0,u 1,u 2,u 3,.pointer (some ⟨M,0,none⟩),.pointer (some ⟨M+1,0,none⟩),.pointer (some ⟨M+1+1,0,none⟩),.pointer (some ⟨M+1+1+1,0,none⟩),.pointer (some ⟨M+1+1+1+1,0,none⟩),u 9,.pointer (some ⟨S+1,0,none⟩),.pointer (some ⟨Bx,0,none⟩),u 12,u 13,u 14,u 15,u 16,u 17,u 18,u 19,u 20,u 21,u 22,u 23,u 24,u 25,u 26,u 27,u 28,u 29,u 30,u 31,u 32,u 33,u 34,u 35,u 36,u 37,u 38,u 39,u 40,u 41,u 42,u 43,u 44,u 45,u 46,u 47,u 48,u 49,u 50,u 51,u 52,u 53,u 54,u 55,u 56,u 57,u 58,u 59,u 60,u 61,u 62,u 63,u 64,u 65,u 66,u 67,u 68,u 69,u 70,u 71,u 72,u 73,u 74],defers:=[] }
theorem FWk.of {M S Bx:Nat} (v0 v1 v2 v3 v9 v12 v13 v14 v15 v16 v17 v18 v19 v20 v21 v22 v23 v24 v25 v26 v27 v28 v29 v30 v31 v32 v33 v34 v35 v36 v37 v38 v39 v40 v41 v42 v43 v44 v45 v46 v47 v48 v49 v50 v51 v52 v53 v54 v55 v56 v57 v58 v59 v60 v61 v62 v63 v64 v65 v66 v67 v68 v69 v70 v71 v72 v73 v74:Value):FWk M S Bx { tmps:=#[v0,v1,v2,v3,.pointer (some ⟨M,0,none⟩),.pointer (some ⟨M+1,0,none⟩),.pointer (some ⟨M+1+1,0,none⟩),.pointer (some ⟨M+1+1+1,0,none⟩),.pointer (some ⟨M+1+1+1+1,0,none⟩),v9,.pointer (some ⟨S+1,0,none⟩),.pointer (some ⟨Bx,0,none⟩),v12,v13,v14,v15,v16,v17,v18,v19,v20,v21,v22,v23,v24,v25,v26,v27,v28,v29,v30,v31,v32,v33,v34,v35,v36,v37,v38,v39,v40,v41,v42,v43,v44,v45,v46,v47,v48,v49,v50,v51,v52,v53,v54,v55,v56,v57,v58,v59,v60,v61,v62,v63,v64,v65,v66,v67,v68,v69,v70,v71,v72,v73,v74],defers:=[] }:=
 ⟨fun i=>([v0,v1,v2,v3,undef,undef,undef,undef,undef,v9,undef,undef,v12,v13,v14,v15,v16,v17,v18,v19,v20,v21,v22,v23,v24,v25,v26,v27,v28,v29,v30,v31,v32,v33,v34,v35,v36,v37,v38,v39,v40,v41,v42,v43,v44,v45,v46,v47,v48,v49,v50,v51,v52,v53,v54,v55,v56,v57,v58,v59,v60,v61,v62,v63,v64,v65,v66,v67,v68,v69,v70,v71,v72,v73,v74]:List Value).getD i undef,rfl⟩
end Go.Proofs.YtedfppbnkgffcaaGreatDoor
