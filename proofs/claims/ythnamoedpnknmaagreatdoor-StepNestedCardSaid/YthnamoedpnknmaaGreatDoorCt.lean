/-
  Texts joined: Co Cr Cs Ct.
-/
import Derived.Test.YthnamoedpnknmaaGreatDoorCn
import Derived.Test.YthnamoedpnknmaaGreatDoorAi
import Derived.Test.YthnamoedpnknmaaGreatDoorAf
import Derived.Test.YthnamoedpnknmaaGreatDoorCm
set_option linter.unusedVariables false
set_option linter.unusedSimpArgs false
set_option maxRecDepth 100000
set_option maxHeartbeats 8000000
namespace Go.Proofs.YthnamoedpnknmaaGreatDoor
open Go.RowKit
open Go.Lib (hid)
def Sp.withinP (k most:Int):Int:=if k<0 then 0 else if most<k then most else k
theorem law10_withinP (k most:Int) (w:World):Calls Tryz.prog 20 #[.int .i64 k,.int .i64 most] w fun e w'=>e=.returned (.int .i64 (Sp.withinP k most))∧w'=w:=by
 by_cases h1:k<0
 ·have t1:decide (k<0)=true:=decide_eq_true h1;have HV:=hid (show Sp.withinP k most=0 by unfold Sp.withinP;rw [if_pos h1]);clear h1;go_enter Tryz.func20,Tryz.ntmps20;go_wp2;go_ret;exact⟨by rw [HV.out];rfl,rfl⟩
 ·have t1:decide (k<0)=false:=decide_eq_false h1;by_cases h2:most<k
  ·have t2:decide (k > most)=true:=decide_eq_true h2;have HV:=hid (show Sp.withinP k most=most by unfold Sp.withinP;rw [if_neg h1,if_pos h2]);clear h1 h2;go_enter Tryz.func20,Tryz.ntmps20;go_wp2;go_ret;exact⟨by rw [HV.out];rfl,rfl⟩
  ·have t2:decide (k > most)=false:=decide_eq_false h2;have HV:=hid (show Sp.withinP k most=k by unfold Sp.withinP;rw [if_neg h1,if_neg h2]);clear h1 h2;go_enter Tryz.func20,Tryz.ntmps20;go_wp2;go_ret;exact⟨by rw [HV.out];rfl,rfl⟩
theorem Sp.paths_short {n:Sp.Net} {p:Int} {h:ByteArray} {hops:Int} {q:Sp.Path} (hq:q ∈ Sp.pathsV n p h hops):q.ports.length≤1000000∧q.entries.length≤1000000:=by
 obtain⟨hc,h0,h64⟩:=Sp.paths_check hq;obtain⟨hn,hs⟩:=Sp.checkE_zero hc
 obtain⟨s,rfl⟩:∃ k:Nat,p=k:=⟨p.toNat,by have:=hs.port;omega⟩
 have hw:=(Sp.paths_whole hq).ok;have h1:=hw.ents;have h2:=hw.len;omega
theorem Sp.withinP_nat (k:Int) (m:Nat):∃ j:Nat,Sp.withinP k (m:Int)=j∧j≤m:=by
 refine⟨(Sp.withinP k (m:Int)).toNat,?_,?_⟩ <;> (unfold Sp.withinP;split <;> (try split) <;> omega)
theorem pthl_view {B:Nat} {W:World} {v:Value} {ps:List Sp.Path} (h:PthL B W v ps):∃ A c,v=.slice A ps.length c∧LView 3 PthV W A ps:=by
 obtain⟨L,hL,hl,hr⟩:=h;obtain⟨A,c,e,hv,_,_⟩:=hL.lview (R:=PthV) hl.symm (fun i a cs ha hc=>(hr i a cs ha hc).view);exact⟨A,c,e,hv⟩
theorem lview_path_more {W W':World} {A:Option Addr} {l:List Sp.Path} (h:LView 3 PthV W A l) (hb:Below W.heap.size W W'):LView 3 PthV W' A l:=by
 intro i a ha;obtain⟨g,o,cs,e,hg,hc,hr,hf⟩:=h i a ha;exact⟨g,o,cs,e,Nat.lt_of_lt_of_le hg hb.size,hc,hr.more hb,fun f u hu=>by rw [hb.cell hg];exact hf f u hu⟩
theorem wpIn_rangeFunc_atN {α:Type} {T:Obj→Prop} (hT:∀ o:Obj,o.isCells=false→T o) {F:Fence} {n:Nat} {P:Program} {g:Operand} {ps:Array Tmp} {assign body:Code} {Q:Exit→Act→World→Prop} {a:Act} {w:World}
  {l₀:Nat} {r₀:Loop} (hro:F.round=some l₀) (hl₀:w.heap[l₀]?=some (.loop r₀)) (h1:1≤n) {gf:Nat} {lb:Array Value} (hg:a.eval g=.func (.func gf) #[] lb) (hFg:F.fn gf) (eg:∀ args w,(callFunc gf args).run P w=.ok (.enter gf args) w)
  {encs:α→Array Value} {Kp:World→World→Prop} {At:α→World→Prop} {S Sp:List α→Prop} {w0:World} (hseq:SeqAt T F (n - 1) P gf lb encs Kp At S Sp w0)
  (hKt:∀ {A B C:World},Kp A B→Kp B C→Kp A C) (hKb:∀ (W:World) (l:Nat) (o o':Obj),w.heap.size≤l→W.heap[l]?=some o→o.isCells=false→o.isWalk=false→Kp W (W.putObj l o')) (hb0:Below w0.heap.size w0 w) (hps:∀ x,(encs x).size=ps.size)
  (I:List α→World→Prop) (Ix:Code→List α→World→Prop) (hIT:OwnT T (w.heap.size+1) I) (hIxT:∀ c,OwnT T (w.heap.size+1) (Ix c)) (hI:OwnFrom w.heap.size I) (hIx:∀ c,OwnFrom w.heap.size (Ix c)) (hAt:OwnFrom w.heap.size At) (h0:I [] w) (Ax:α→Act→World→Prop) (hAx:∀ x a',OwnFrom w.heap.size (fun (_:Unit) W=>Ax x a' W))
  (hassign:∀ (l:Nat) (pre:List α) (x:α) (W:World) (K:Act→World→Prop),I pre W→At x W→(∀ a' W',KeepsFrom w.heap.size W W'→Kp W W'→I pre W'→At x W'→Ax x a' W'→K a' W') →
   assign.wpIn (F.inRound l) (n - 1 - 1) P (Exit.then K (fun _ _ _=>False)) { tmps:=(ps.zip (encs x)).foldl (fun t (p,v)=>t.setIfInBounds p v) a.tmps,defers:=[] } W)
  (hbody:∀ (l:Nat) (pre:List α) (x:α) (a':Act) (W:World),w.heap.size≤l→(∃ r,W.heap[l]?=some (.loop r))→I pre W→At x W→Ax x a' W→body.wpIn (F.inRound l) (n - 1 - 1) P (atPost w.heap.size Kp I Ix (pre ++ [x]) W) a' W)
  (hdone:∀ (xs:List α) (W:World),S xs→I xs W→Q .normal a W)
  (hstop:∀ (c:Code) (pre:List α) (W:World),Sp pre→Ix c pre W→c.wpIn F n P Q a W):
  (Code.rangeFunc g ps assign body).wpIn F n P Q a w:=by
 refine wpIn_rangeFunc fun fn hfn=>?_
 rw [hro];obtain⟨D,hD⟩:=nM w.heap.size;rw [hD] at hI hIx hAt hAx hassign hbody hKb
 obtain⟨rc,hrc⟩:∃ rc:LoopState→Option Code→Loop,rc=fun st pe=>{ state:=st,pending:=pe,fn,tmps:=a.tmps,params:=ps,assign,body,defers:=r₀.defers }:=⟨_,rfl⟩
 obtain⟨V,hV⟩:=nM (w.alloc (.loop (rc .ready none)));have hVs:V.heap.size=D+1:=by rw [← hV];simp;omega
 have vL:V.heap[D]?=some (.loop (rc .ready none)):=by
  rw [← hV,← hD];exact World.alloc_heap_new w _
 have vI:I [] V:=by rw [← hV];exact hI.alloc _ h0
 have vB:Below w0.heap.size w0 V:=by
  rw [← hV];exact hb0.trans (((Below.refl _ w).alloc (Nat.le_refl _) _).mono hb0.size)
 -- what is true of the two blocks of book-keeping
 have back:∀ {pre:List α} {W:World} (J:List α→World→Prop),OwnFrom D J→∀ (st st':LoopState) (pe pe':Option Code),J pre W→W.heap[D]?=some (.loop (rc st pe)) →
   J pre (W.putObj D (.loop (rc st' pe')))∧(W.putObj D (.loop (rc st' pe'))).heap[D]?=some (.loop (rc st' pe')):=fun J hJ st st' pe pe' hj hl=>
  ⟨hJ.putObj _ hj (by omega) hl rfl,World.putObj_heap_same (Array.getElem?_eq_some_iff.1 hl).1⟩
 refine⟨D,[],V,{ target:=.fn (.func gf) lb,args:=#[.func (.yield D) #[] #[]] },V,gf,#[.func (.yield D) #[] #[]] ++ lb,V,?_,?_,?_,?_,fun _=>h1,?_⟩
 ·rw [← hV,hrc,← hD];exact run_enterLoop_inner hl₀ _ _ _ _ _
 ·simp only [resolve,hg];simp [go_sem]
 ·intro f' hf';simp [Target.leads] at hf';subst hf';exact hFg
 ·simp [invoke,go_sem,eg]
 refine (hseq D
  (fun pre W=>I pre W∧W.heap[D]?=some (.loop (rc .ready none)))
  (fun pre W=>∃ c,Ix c pre W∧W.heap[D]?=some (.loop (rc .done (some c))))
  V vB
  (OwnT.both (hIT.later (by omega)) (OwnT.heap (by omega) _))
  (OwnT.ex fun c=>OwnT.both ((hIxT c).later (by omega)) (OwnT.heap (by omega) _))
  ?_ ⟨vI,vL⟩).mono ?_
 ·rintro pre x W ⟨hi,hl⟩ hax;have hy:=run_yield (P:=P) (args:=encs x) hl (by rw [hrc];exact hps x);rw [hrc] at hy;refine⟨fn,_,assign,body,hy,roundIn_of_wpIn hfn (hassign _ pre x W _ hi hax ?_)⟩;clear hy;intro a' W1 k1 p1 i1 x1 g1;have l1:=k1.same _ _ (by omega) hl rfl;refine⟨_,run_beginRound l1 (by rw [hrc]),?_⟩;obtain⟨W2,hW2⟩:=nM (W1.putObj D (.loop (rc .busy none)));obtain⟨i2,l2⟩:=back I hI .ready .busy none none i1 l1;have x2:At x W2:=by rw [← hW2];exact hAt.putObj _ x1 (by omega) l1 rfl
  have g2:Ax x a' W2:=by rw [← hW2];exact (hAx x a').putObj (s:=()) _ g1 (by omega) l1 rfl
  have p2:Kp W W2:=by rw [← hW2];exact hKt p1 (hKb _ _ _ _ (by omega) l1 rfl rfl)
  rw [hW2] at i2 l2;have hbusy:({ rc .ready none with state:=.busy }:Loop)=rc .busy none:=by rw [hrc]
  rw [hbusy,hW2];refine wpIn_mono (hbody _ pre x a' W2 (by omega) ⟨_,l2⟩ i2 x2 g2) ?_
  have fin:∀ (jump:Option Code) (W3:World),KeepsFrom D W2 W3 →
    W3.heap[D]?=some (.loop (rc .busy none)) ∧
    (Instr.endRound D jump).run P W3=.ok (.bool jump.isNone) (W3.putObj D (.loop (rc (if jump.isNone then .ready else .done) jump))):=fun jump W3 h3=>by
   have l3:=h3.same _ _ (by omega) l2 rfl;have:=run_endRound (P:=P) jump l3;rw [hrc] at this ⊢;exact⟨by rw [hrc] at l3;exact l3,this⟩
  have ends:∀ (jump:Option Code) (st:LoopState) (W3:World),KeepsFrom D W2 W3→Kp W2 W3→W3.heap[D]?=some (.loop (rc .busy none)) →
    Kp W (W3.putObj D (.loop (rc st jump)))∧KeepsFrom V.heap.size W (W3.putObj D (.loop (rc st jump))):=fun jump st W3 h3 k3 l3=>by
   refine⟨hKt p2 (hKt k3 (hKb _ _ _ _ (by omega) l3 rfl rfl)),?_⟩;(have a1:KeepsFrom (D+1) W W2:=by rw [← hW2];exact keeps_putObj (keeps_later k1 (by omega)) (.inl (by omega)) _);rw [hVs];exact keeps_putObj (a1.trans (keeps_later h3 (by omega))) (.inl (by omega)) _
  have leave:∀ (c:Code) (W3:World),KeepsFrom D W2 W3→Kp W2 W3→Ix c (pre ++ [x]) W3→∃ v w',(Instr.endRound D (some c)).run P W3=.ok v w' ∧
    (((Ending.returned v=.returned (.bool true)∧(I (pre ++ [x]) w'∧w'.heap[D]?=some (.loop (rc .ready none)))) ∨
     (Ending.returned v=.returned (.bool false)∧∃ c,Ix c (pre ++ [x]) w'∧w'.heap[D]?=some (.loop (rc .done (some c)))))∧Kp W w'∧KeepsFrom V.heap.size W w'):=fun c W3 h3 k3 hx=>by
   obtain⟨l3,r3⟩:=fin (some c) W3 h3;exact⟨_,_,r3,.inr ⟨rfl,c,back (Ix c) (hIx c) .busy .done none (some c) hx l3⟩,ends (some c) .done W3 h3 k3 l3⟩
  rintro e a3 W3 hp
  cases e with
  | normal=>
   obtain⟨h3,k3,i3⟩:=hp;obtain⟨l3,r3⟩:=fin none W3 h3;exact⟨_,_,r3,.inl ⟨rfl,back I hI .busy .ready none none i3 l3⟩,ends none .ready W3 h3 k3 l3⟩
  | ret=>exact leave .ret W3 hp.1 hp.2.1 hp.2.2
  | exit id=>exact leave (.exit id) W3 hp.1 hp.2.1 hp.2.2
  | goto t=>exact leave (.goto t) W3 hp.1 hp.2.1 hp.2.2
  | panic ch=>exact hp.elim
  | outgrown=>exact hp.elim
 ·rintro e W ⟨⟨v,rfl⟩,(⟨xs,hS,hi,hl⟩ | ⟨pre,hSp,c,hi,hl⟩)⟩
  ·obtain⟨i2,_⟩:=back I hI .ready .exhausted none none hi hl;refine⟨none,W.putObj D (.loop (rc .exhausted none)),?_,hdone xs _ hS i2⟩;have:=run_endLoop (P:=P) hl (by rw [hrc];simp);rw [hrc] at this ⊢;exact this
  ·obtain⟨i2,_⟩:=back (Ix c) (hIx c) .done .exhausted (some c) (some c) hi hl;refine⟨some c,W.putObj D (.loop (rc .exhausted (some c))),?_,hstop c pre _ hSp i2⟩;have:=run_endLoop (P:=P) hl (by rw [hrc];simp);rw [hrc] at this ⊢;exact this
theorem law10_intsN (A1 A2:Option Addr) (cap1 cap2:Nat) (l1 l2:List Int) (w:World) (k1:IV w A1 l1) (k2:IV w A2 l2) (hl:l2.length≤1000000) (hne:l1≠l2):
  Calls Tryz.prog 19 #[.slice A1 l1.length cap1,.slice A2 l2.length cap2] w fun e w'=>e=.returned (.bool false)∧Below w.heap.size w w':=by
 have K1:=hid k1;have K2:=hid k2;have HNE:=hid hne;by_cases hlen:l1.length=l2.length
 ·obtain⟨n,hn⟩:=nM l2.length;rw [hn] at hlen hl ⊢;rw [hlen];have HN1:=hid hlen;have HN:=hid hn;have HL:=hid hl;have q0:((n:Int) != (n:Int))=false:=by rw [bne_eq_false_iff_eq]
  have n1:(n:Int)≤4611686018427387904:=by omega
  clear k1 k2 hn hlen hl hne;go_enter Tryz.func19,Tryz.ntmps19;go_wp2_with fail;go_loopw [5] (fun v5 wr=>Below w.heap.size w wr∧∃ i:Nat,v5=.int .i64 (i:Int)∧i≤n∧Hid (∀ j,j<i→l1[j]?=l2[j]?)) (fun v5 _=>n - (intOf v5).toNat)
  case atStart=>exact⟨Below.refl _ _,0,rfl,by omega,hid (fun j hj=>by omega)⟩
  case round=>
   obtain⟨hb,i,rfl,hi,hsame⟩:=hrel;have HB:=hid hb;by_cases hlt:i<n
   ·have z1:decide ((i:Int)<n)=true:=dT;have z1b:decide (i<n)=true:=decide_eq_true hlt;(have z2:(i:Int)<n:=by omega);have z3:(0:Int)≤(i:Int):=by omega
    obtain⟨d1,hd1⟩:∃ d,l1[i]?=some d:=⟨_,List.getElem?_eq_getElem (by rw [HN1.out];exact hlt)⟩
    obtain⟨d2,hd2⟩:∃ d,l2[i]?=some d:=⟨_,List.getElem?_eq_getElem (by rw [HN.out];exact hlt)⟩
    obtain⟨g1,o1,rfl,hg1,a0⟩:=(K1.out.more hb).at hd1;obtain⟨g2,o2,rfl,hg2,b0⟩:=(K2.out.more hb).at hd2;by_cases hd:d1=d2
    ·subst hd
     have HS2:Hid (∀ j,j<i+1→l1[j]?=l2[j]?):=hid (fun j hj=>by
      rcases Nat.lt_or_ge j i with h9 | h9
      ·exact hsame.out j h9
      ·obtain rfl:j=i:=by omega
       rw [hd1,hd2])
     clear hb hd1 hd2 hg1 hg2 hsame;go_wp2_with fail;go_quiet (fail);go_wp2_with fail;go_roundw
     case rel=>exact⟨below_drewN HB.out _,i+1,by rfl,by omega,HS2⟩
     case measure=>simp [intOf];omega
    ·have z4:(d1 != d2)=true:=bne_iff_ne.2 hd;clear hb hd1 hd2 hg1 hg2 hsame hd;go_wp2_with fail;go_quiet (fail);go_wp2_with fail;go_ret;exact⟨rfl,below_drewN HB.out _⟩
   ·exfalso;refine HNE.out (List.ext_getElem? fun j=>?_);rcases Nat.lt_or_ge j i with h9 | h9
    ·exact hsame.out j h9
    ·rw [List.getElem?_eq_none (by rw [HN1.out];omega),List.getElem?_eq_none (by rw [HN.out];omega)]
 ·have q0:((l1.length:Int) != (l2.length:Int))=true:=bne_iff_ne.2 (by omega);clear k1 k2 hne hlen;go_enter Tryz.func19,Tryz.ntmps19;go_wp2_with fail;go_ret;exact⟨rfl,Below.refl _ _⟩
theorem law10_intsG (A1 A2:Option Addr) (cap1 cap2:Nat) (l1 l2:List Int) (w:World) (k1:IV w A1 l1) (k2:IV w A2 l2) (hl:l2.length≤1000000):
  Calls Tryz.prog 19 #[.slice A1 l1.length cap1,.slice A2 l2.length cap2] w fun e w'=>e=.returned (.bool (decide (l1=l2)))∧Below w.heap.size w w':=by
 by_cases h:l1=l2
 ·subst h;rw [decide_eq_true rfl];exact law10_ints A1 A2 cap1 cap2 l1 w k1 k2 (by omega)
 ·rw [decide_eq_false h];exact law10_intsN A1 A2 cap1 cap2 l1 l2 w k1 k2 hl h
def PTold (l1 l2 e1 e2:List Int) (h1 h2:ByteArray) (r:Ending):Prop:=∃ b:Bool,r=.returned (.bool b)∧(b=true↔l1=l2∧e1=e2∧h1=h2)
theorem law10_pathG (A1 A2 B1 B2:Option Addr) (c1 c2 d1 d2:Nat) (l1 l2 e1 e2:List Int) (h1 h2:ByteArray) (w:World) (k1:IV w A1 l1) (k2:IV w A2 l2) (k3:IV w B1 e1) (k4:IV w B2 e2) (hl:l2.length≤1000000) (he:e2.length≤1000000):
  Calls Tryz.prog 25 #[.agg #[.slice A1 l1.length c1,.slice B1 e1.length d1,.string h1],.agg #[.slice A2 l2.length c2,.slice B2 e2.length d2,.string h2]] w fun r w'=>PTold l1 l2 e1 e2 h1 h2 r∧Below w.heap.size w w':=by
 obtain⟨N,hN⟩:=nM w.heap.size;obtain⟨W2,hW2⟩:=nM ((w.alloc (.cells #[.slice A1 l1.length c1,.slice B1 e1.length d1,.string h1] 59)).alloc (.cells #[.slice A2 l2.length c2,.slice B2 e2.length d2,.string h2] 59));have hb2:Below N w W2:=by rw [← hW2,← hN];exact ((Below.refl _ _).alloc (Nat.le_refl _) _).alloc (by simp) _
 have hbw:Below w.heap.size w W2:=by rw [hN];exact hb2
 have hk1:Blk W2 N 59 #[.slice A1 l1.length c1,.slice B1 e1.length d1,.string h1]:=by rw [← hW2,← hN];exact (Blk.new w _ _).alloc _
 have hk2:Blk W2 (N+1) 59 #[.slice A2 l2.length c2,.slice B2 e2.length d2,.string h2]:=by rw [← hW2];exact blk_at (by rw [World.size_alloc];omega)
 have hi1:=law10_intsG A1 A2 c1 c2 l1 l2 W2 (k1.more hbw) (k2.more hbw) hl;have HI2:=hid (fun (W:World) (hb:Below N w W)=>law10_intsG B1 B2 d1 d2 e1 e2 W (k3.more (show Below w.heap.size w W by rw [hN];exact hb)) (k4.more (show Below w.heap.size w W by rw [hN];exact hb)) he)
 obtain⟨l1n,hl1n⟩:∃ z,l1.length=z:=⟨_,rfl⟩
 obtain⟨l2n,hl2n⟩:∃ z,l2.length=z:=⟨_,rfl⟩
 obtain⟨e1n,he1n⟩:∃ z,e1.length=z:=⟨_,rfl⟩
 obtain⟨e2n,he2n⟩:∃ z,e2.length=z:=⟨_,rfl⟩
 obtain⟨bl,hbl⟩:∃ z,decide (l1=l2)=z:=⟨_,rfl⟩
 obtain⟨be,hbe⟩:∃ z,decide (e1=e2)=z:=⟨_,rfl⟩
 rw [hl1n,he1n] at hk1;rw [hl2n,he2n] at hk2;rw [hl1n,hl2n,he1n,he2n] at hW2 ⊢;rw [hl1n,hl2n,hbl] at hi1;rw [he1n,he2n,hbe] at HI2;have HI1:=hid hi1;have HN:=hid hN;have HB2:=hid hb2;have HK1:=hid hk1;have HK2:=hid hk2;have HBL:=hid (show (bl=true↔l1=l2) by rw [← hbl,decide_eq_true_iff]);have HBE:=hid (show (be=true↔e1=e2) by rw [← hbe,decide_eq_true_iff]);have x0:W2.cell? ⟨N,0,none⟩=some (.slice A1 l1n c1):=hk1.cell 0;have x1:W2.cell? ⟨N+1,0,none⟩=some (.slice A2 l2n c2):=hk2.cell 0;have hsz:N+2≤W2.heap.size:=by have:=hk2.lt;omega
 have HSZ:=hid hsz;clear k1 k2 k3 k4 hl he hb2 hbw hi1 hl1n hl2n he1n he2n hbl hbe hk1 hk2 hsz;go_enter Tryz.func25,Tryz.ntmps25;go_wp2_with fail;go_at_call 19;refine HI1.out.mono ?_;rintro r W3 ⟨rfl,hb3⟩;have HB3:=hid (HB2.out.trans (hb3.mono (by have:=HSZ.out;omega)));have f1:=HK1.out.below hb3 HK1.out.lt;have f2:=HK2.out.below hb3 HK2.out.lt;have HE1:=hid f1;have HE2:=hid f2;clear x0 x1 hW2;have x0:W3.cell? ⟨N,1,none⟩=some (.slice B1 e1n d1):=f1.cell 1;have x1:W3.cell? ⟨N+1,1,none⟩=some (.slice B2 e2n d2):=f2.cell 1;clear f1 f2
 cases bl
 case false=>
  go_wp2_with fail;go_ret;exact⟨⟨false,rfl,⟨fun h=>(by cases h),fun h=>HBL.out.2 h.1⟩⟩,by rw [HN.out];exact HB3.out⟩
 case true=>
  go_wp2_with fail;go_at_call 19;refine (HI2.out W3 HB3.out).mono ?_;rintro r W4 ⟨rfl,hb4⟩;have HB4:=hid (HB3.out.trans (hb4.mono (by have:=HB3.out.size;have:=HN.out;omega)));have f1:=HE1.out.below hb4 HE1.out.lt;have f2:=HE2.out.below hb4 HE2.out.lt;clear x0 x1 hb3 hb4;have x0:W4.cell? ⟨N,2,none⟩=some (.string h1):=f1.cell 2;have x1:W4.cell? ⟨N+1,2,none⟩=some (.string h2):=f2.cell 2;clear f1 f2
  cases be
  case false=>
   go_wp2_with fail;go_ret;exact⟨⟨false,rfl,⟨fun h=>(by cases h),fun h=>HBE.out.2 h.2.1⟩⟩,by rw [HN.out];exact HB4.out⟩
  case true=>
   by_cases hh:h1=h2
   ·subst hh;(have z1:(h1.toList == h1.toList)=true:=by simp);go_wp2_with fail;go_ret;exact⟨⟨true,rfl,fun _=>⟨HBL.out.1 trivial,HBE.out.1 trivial,rfl⟩,fun _=>rfl⟩,by rw [HN.out];exact HB4.out⟩
   ·have z1:(h1.toList == h2.toList)=false:=by
     rw [Lib.toList_data,Lib.toList_data];exact beq_eq_false_iff_ne.2 (fun e=>hh (ByteArray.ext (Array.toList_inj.1 e)))
    have HHH:=hid hh;clear hh;go_wp2_with fail;go_ret;exact⟨⟨false,rfl,⟨fun h=>(by cases h),fun h=>absurd h.2.2 HHH.out⟩⟩,by rw [HN.out];exact HB4.out⟩
def cellX (b0 r:Nat) (_:World) (b:Nat):Prop:=b=b0∨b=r
theorem cellX_low (b0 r m:Nat):XLow m (cellX b0 r):=fun _ _ _ _ h=>h
theorem cellX_in {b0 r:Nat} {W:World} (h:b0<W.heap.size) (h2:r<W.heap.size):XIn (cellX b0 r) W:=fun b e=>by rcases e with e | e <;> (rw [e];assumption)
theorem pkp_set {n0 b0 r b:Nat} {A C:World} (h:Below A.heap.size A C) (hn:n0≤A.heap.size) (hx:b=b0∨b=r) (hb:n0≤b) (v:Value):PKp n0 (cellX b0 r) A (C.setCell ⟨b,0,none⟩ v):=by
 have h1:PKp n0 (cellX b0 r) A C:=PKp.of_below (cellX_low b0 r 0) h hn (Nat.zero_le _);exact⟨⟨h1.1.below.setCell (p:=⟨b,0,none⟩) hb v,fun k o ho hc hk=>(Below.heap_setCell C _ _ k (fun e=>hk (by rw [show k=b from e];exact hx))).trans (h1.1.keep k o ho hc hk),fun k hk=>.inl hk⟩,fun hx=>xin_set (cellX_low b0 r 0) (h1.2 hx) (Nat.zero_le _) v⟩
theorem keeps_set {B b0:Nat} {A C:World} (h:Below A.heap.size A C) (v:Value):KeepsFrom B A (C.setCell ⟨b0,0,none⟩ v):=(keeps_below h).trans ((KeepsOthers.setCell C _ v).from B)
theorem SeqAt.inRound {α:Type} {T:Obj→Prop} {F:Fence} {n:Nat} {P:Program} {g:Nat} {lb:Array Value} {encs:α→Array Value} {Kp:World→World→Prop} {At:α→World→Prop} {S Sp:List α→Prop} {w:World} (l:Nat) (h:SeqAt T F n P g lb encs Kp At S Sp w):SeqAt T (F.inRound l) n P g lb encs Kp At S Sp w:=h
theorem OwnT.or {β:Type} {T:Obj→Prop} {B:Nat} {I I':β→World→Prop} (h:OwnT T B I) (h':OwnT T B I'):OwnT T B (fun s W=>I s W∨I' s W):=fun s W W' row hs hg hr=>hs.elim (fun a=>.inl (h s W W' row a hg hr)) (fun a=>.inr (h' s W W' row a hg hr))
structure NsI (Bx:Nat) (PP:List Sp.Path) (V:World) (pre:List PathV) (W:World):Prop where
 below:Below Bx V W
 key:Blk W Bx 3 #[.int .i64 (pre.length:Int)]
 pfx:pre.map PathV.path <+: PP
theorem NsI.own {Bx B:Nat} {PP:List Sp.Path} {V:World} (hB:Bx≤B) (hV:Bx≤V.heap.size):OwnT TurnOk B (fun pre W=>NsI Bx PP V pre W):=by
 intro pre A C row h hg hr;have hr2:∀ r,row=some r→∃ o:Obj,A.heap[r]?=some o∧TurnOk o:=fun r e=>(hr r e).2
 exact⟨h.below.grown hg (Nat.le_trans hV h.below.size) (fun r e=>by have:=(hr r e).1;omega),blk_turn h.key (by decide) hg hr2,h.pfx⟩
def NsX (Bx:Nat) (PP:List Sp.Path) (id k:Nat) (V:World) (c:Code) (pre:List PathV) (W:World):Prop:=(c=.ret∧¬ (pre.map PathV.path <+: PP))∨(c=.exit id∧NsI Bx PP V pre W∧pre.length=k)
theorem NsX.own {Bx B id k:Nat} {PP:List Sp.Path} {V:World} (hB:Bx≤B) (hV:Bx≤V.heap.size) (c:Code):OwnT TurnOk B (fun pre W=>NsX Bx PP id k V c pre W):=
 OwnT.or (OwnT.both (OwnT.pure _ _) (OwnT.pure _ _)) (OwnT.both (OwnT.pure _ _) (OwnT.both (NsI.own hB hV) (OwnT.pure _ _)))
theorem pfx_next {PP:List Sp.Path} {k:Nat} {pre:List PathV} {x:PathV} (h:pre.map PathV.path <+: PP) (hlt:pre.length<k):(pre ++ [x]).map PathV.path <+: PP↔(PP.take k)[pre.length]?=some x.path:=by
 obtain⟨r,hr⟩:=h;rw [List.getElem?_take_of_lt hlt,← hr,List.getElem?_append_right (by rw [List.length_map];omega),List.length_map,Nat.sub_self,List.map_append,List.map_singleton]
 cases r with
 | nil=>
  simp only [List.append_nil,List.getElem?_nil];constructor
  ·intro h9;have:=h9.length_le;rw [List.length_append,List.length_map,List.length_singleton] at this;omega
  ·intro h9;cases h9
 | cons y r=>
  rw [List.getElem?_cons_zero,List.prefix_append_right_inj];constructor
  ·intro h9;obtain⟨t,ht⟩:=h9;rw [List.singleton_append] at ht;(injection ht with h1 _);rw [h1]
  ·intro h9;(injection h9 with h1);rw [h1];exact⟨r,rfl⟩
theorem take_len_done {PP:List Sp.Path} {k:Nat} {xs:List PathV} (h:xs.map PathV.path=PP) (hlt:xs.length<k):(PP.take k).length=xs.length:=by
 rw [← h,List.length_take,List.length_map];omega
theorem take_len_stop {PP:List Sp.Path} {k:Nat} {xs:List PathV} (h:xs.map PathV.path <+: PP) (hlt:xs.length=k):(PP.take k).length=xs.length:=by
 have:=h.length_le;rw [List.length_map] at this;rw [List.length_take];omega
end Go.Proofs.YthnamoedpnknmaaGreatDoor
