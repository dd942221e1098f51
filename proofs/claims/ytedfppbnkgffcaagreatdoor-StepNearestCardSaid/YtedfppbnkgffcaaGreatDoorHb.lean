/-
 THE WALK of step.Follow (chapter 10): a loop over ports; in each round a loop over the iterator of moves.
-/
import Derived.Test.YtedfppbnkgffcaaGreatDoorAe
import Derived.Test.YtedfppbnkgffcaaGreatDoorMw
import Derived.BigRegionIn
set_option linter.unusedVariables false
set_option linter.unusedSimpArgs false
set_option maxRecDepth 100000
set_option maxHeartbeats 8000000
namespace Go.Proofs.YtedfppbnkgffcaaGreatDoor
open Go.RowKit
open Go.Lib (hid)
attribute [local go_sem] Oper.semAt_some
theorem stepR_scope {P:Program} {b:Frame} {a:Act} {k:List Item} {cs:List Frame} {w:World} {c:Code}:step P (lone (b.atR a (.code (.scope c) :: k)) cs w)=.next (lone (b.atR a (.code c :: .inScope c :: k)) cs w):=
 step_lone_go (by simp [stepG,stepG.exec,Frame.atR])
theorem stepR_inScope {P:Program} {b:Frame} {a:Act} {k:List Item} {cs:List Frame} {w:World} {c:Code}:step P (lone (b.atR a (.inScope c :: k)) cs w)=.next (lone (b.atR a k) cs w):=
 step_lone_go (by simp [stepG,stepG.exec,Frame.atR])
theorem wpIn_scope_straight {F:Fence} {n:Nat} {P:Program} {Q:Exit→Act→World→Prop} {a:Act} {w:World} {c:Code} (h:c.wpIn F n P (Exit.noGoto Q) a w):(Code.scope c).wpIn F n P Q a w:=by
 intro b k cs hro hb hr;have h0:(lone (b.atR a (.code (.scope c) :: k)) cs w).fenced P F:=fenced_calm hb hr rfl;obtain⟨e,a₁,w₁,hq,harr⟩:=h b (.inScope c :: k) cs hro hb hr
 cases e with
 | normal=>exact⟨.normal,a₁,w₁,hq,StepsIn.head h0 stepR_scope (StepsIn.trans harr (.one (fenced_calm hb hr rfl) stepR_inScope))⟩
 | exit id=>
  refine⟨.exit id,a₁,w₁,hq,fun k' hk=>.head h0 stepR_scope (harr.1 k' (by simpa [exitTo] using hk)),fun hr' hk=>?_⟩;obtain⟨k₁,e1,s⟩:=harr.2 hr' (by simpa [exitTo] using hk);exact⟨k₁,e1,.head h0 stepR_scope s⟩
 | goto l=>exact hq.elim
 | ret=>exact⟨_,a₁,w₁,hq,.of_steps (.one h0 stepR_scope) harr⟩
 | panic ch=>exact⟨_,a₁,w₁,hq,.of_steps (.one h0 stepR_scope) harr⟩
 | outgrown=>exact⟨_,a₁,w₁,hq,.of_steps (.one h0 stepR_scope) harr⟩
def FollowEnd (n:Sp.Net) (p:Int) (h:ByteArray) (l:List Int) (w:World) (r:Ending) (w':World):Prop:=
 r=.returned (.tuple #[.string (Sp.followT n p h l).1,.int .i64 (Sp.followT n p h l).2.1,.int .i64 (Sp.followT n p h l).2.2])∧Below w.heap.size w w'
theorem FollowEnd.of {n:Sp.Net} {p:Int} {h:ByteArray} {l:List Int} {w w':World} {H:ByteArray} {a e:Int} (ht:Sp.followT n p h l=(H,a,e)) (hb:Below w.heap.size w w'):FollowEnd n p h l w (.returned (.tuple #[.string H,.int .i64 a,.int .i64 e])) w':=⟨by rw [ht],hb⟩
theorem leaves_all {F:Fence} {nf:Nat} {P:Program} {fn:Func} {tmps:Array Value} {R:Ending→World→Prop} {N:Nat} {w:World} (hw:w.heap.size=N):∀ (Ds:List Nat) (W:World),(∀ D ∈ Ds,N≤D∧W.heap[D]?=some (.deferred (some [])))→Ds.Nodup →
  (∀ W',Below N W W'→LeavesInM F nf P fn tmps R [] .returning W')→LeavesInM F nf P fn tmps R (Ds.map fun D=>{ target:=.collected D,args:=#[] }) .returning W
 | [],W,_,_,hR=>hR W (Below.refl _ _)
 | D :: Ds,W,hD,hn,hR=>by
  obtain⟨h1,h2⟩:=hD D List.mem_cons_self;rw [List.nodup_cons] at hn;have hb:Below N W (W.putObj D (.deferred none)):=belowK_b (w:=w) (by omega) W D _ _ (by omega) h2 rfl rfl;refine⟨by simp,.inl ⟨_,_,rfl,run_takeDeferred h2,?_⟩⟩;refine leaves_all hw Ds _ (fun D' hD'=>?_) hn.2 (fun W' hW'=>hR W' (hb.trans hW'));obtain⟨h3,h4⟩:=hD D' (List.mem_cons_of_mem _ hD');exact⟨h3,(World.putObj_heap_other (fun e=>hn.1 (by rw [← e];exact hD'))).trans h4⟩
def FFr (N Ba gl ol r kc k:Nat) (ds:List Deferred) (a:Act):Prop:=∃ u:Nat→Value,a={ tmps:=#[u 0,u 1,u 2,.pointer (some ⟨N,0,none⟩),.pointer (some ⟨N+1,0,none⟩),u 5,u 6,u 7,u 8,u 9,.pointer (some ⟨Ba,0,none⟩),u 11,u 12,u 13,u 14,u 15,u 16,u 17,u 18,u 19,u 20,u 21,u 22,u 23,u 24,u 25,u 26,u 27,u 28,u 29,u 30,u 31,u 32,u 33,.slice (some ⟨gl,ol+1,none⟩) r kc,.int .i64 (r:Int),.int .i64 (k:Int),u 37,u 38,u 39,u 40,u 41,u 42,u 43,u 44,u 45,u 46,u 47,u 48,u 49,u 50,u 51,u 52,u 53,u 54,u 55,u 56,u 57,u 58,u 59,u 60,u 61,u 62,u 63,u 64,u 65,u 66,u 67,u 68,u 69,u 70,u 71,u 72,u 73,u 74,u 75],defers:=ds }
theorem FFr.of {N Ba gl ol r kc k:Nat} {ds:List Deferred} (v0 v1 v2 v5 v6 v7 v8 v9 v11 v12 v13 v14 v15 v16 v17 v18 v19 v20 v21 v22 v23 v24 v25 v26 v27 v28 v29 v30 v31 v32 v33 v37 v38 v39 v40 v41 v42 v43 v44 v45 v46 v47 v48 v49 v50 v51 v52 v53 v54 v55 v56 v57 v58 v59 v60 v61 v62 v63 v64 v65 v66 v67 v68 v69 v70 v71 v72 v73 v74 v75:Value):FFr N Ba gl ol r kc k ds { tmps:=#[v0,v1,v2,.pointer (some ⟨N,0,none⟩),.pointer (some ⟨N+1,0,none⟩),v5,v6,v7,v8,v9,.pointer (some ⟨Ba,0,none⟩),v11,v12,v13,v14,v15,v16,v17,v18,v19,v20,v21,v22,v23,v24,v25,v26,v27,v28,v29,v30,v31,v32,v33,.slice (some ⟨gl,ol+1,none⟩) r kc,.int .i64 (r:Int),.int .i64 (k:Int),v37,v38,v39,v40,v41,v42,v43,v44,v45,v46,v47,v48,v49,v50,v51,v52,v53,v54,v55,v56,v57,v58,v59,v60,v61,v62,v63,v64,v65,v66,v67,v68,v69,v70,v71,v72,v73,v74,v75],defers:=ds }:=
 ⟨fun i=>([v0,v1,v2,undef,undef,v5,v6,v7,v8,v9,undef,v11,v12,v13,v14,v15,v16,v17,v18,v19,v20,v21,v22,v23,v24,v25,v26,v27,v28,v29,v30,v31,v32,v33,undef,undef,undef,v37,v38,v39,v40,v41,v42,v43,v44,v45,v46,v47,v48,v49,v50,v51,v52,v53,v54,v55,v56,v57,v58,v59,v60,v61,v62,v63,v64,v65,v66,v67,v68,v69,v70,v71,v72,v73,v74,v75]:List Value).getD i undef,rfl⟩
def FGr (N Ba Bq Bx:Nat) (a:Act):Prop:=∃ u:Nat→Value,a={ tmps:=#[u 0,u 1,u 2,.pointer (some ⟨N,0,none⟩),.pointer (some ⟨N+1,0,none⟩),u 5,u 6,u 7,u 8,u 9,.pointer (some ⟨Ba,0,none⟩),u 11,.pointer (some ⟨Bq,0,none⟩),.pointer (some ⟨Bx,0,none⟩),u 14,u 15,u 16,u 17,u 18,u 19,u 20,u 21,u 22,u 23,u 24,u 25,u 26,u 27,u 28,u 29,u 30,u 31,u 32,u 33,u 34,u 35,u 36,u 37,u 38,u 39,u 40,u 41,u 42,u 43,u 44,u 45,u 46,u 47,u 48,u 49,u 50,u 51,u 52,u 53,u 54,u 55,u 56,u 57,u 58,u 59,u 60,u 61,u 62,u 63,u 64,u 65,u 66,u 67,u 68,u 69,u 70,u 71,u 72,u 73,u 74,u 75],defers:=[] }
theorem FGr.of {N Ba Bq Bx:Nat} (v0 v1 v2 v5 v6 v7 v8 v9 v11 v14 v15 v16 v17 v18 v19 v20 v21 v22 v23 v24 v25 v26 v27 v28 v29 v30 v31 v32 v33 v34 v35 v36 v37 v38 v39 v40 v41 v42 v43 v44 v45 v46 v47 v48 v49 v50 v51 v52 v53 v54 v55 v56 v57 v58 v59 v60 v61 v62 v63 v64 v65 v66 v67 v68 v69 v70 v71 v72 v73 v74 v75:Value):FGr N Ba Bq Bx { tmps:=#[v0,v1,v2,.pointer (some ⟨N,0,none⟩),.pointer (some ⟨N+1,0,none⟩),v5,v6,v7,v8,v9,.pointer (some ⟨Ba,0,none⟩),v11,.pointer (some ⟨Bq,0,none⟩),.pointer (some ⟨Bx,0,none⟩),v14,v15,v16,v17,v18,v19,v20,v21,v22,v23,v24,v25,v26,v27,v28,v29,v30,v31,v32,v33,v34,v35,v36,v37,v38,v39,v40,v41,v42,v43,v44,v45,v46,v47,v48,v49,v50,v51,v52,v53,v54,v55,v56,v57,v58,v59,v60,v61,v62,v63,v64,v65,v66,v67,v68,v69,v70,v71,v72,v73,v74,v75],defers:=[] }:=
 ⟨fun i=>([v0,v1,v2,undef,undef,v5,v6,v7,v8,v9,undef,v11,undef,undef,v14,v15,v16,v17,v18,v19,v20,v21,v22,v23,v24,v25,v26,v27,v28,v29,v30,v31,v32,v33,v34,v35,v36,v37,v38,v39,v40,v41,v42,v43,v44,v45,v46,v47,v48,v49,v50,v51,v52,v53,v54,v55,v56,v57,v58,v59,v60,v61,v62,v63,v64,v65,v66,v67,v68,v69,v70,v71,v72,v73,v74,v75]:List Value).getD i undef,rfl⟩
def DsOk (N:Nat) (Ds:List Nat) (W:World):Prop:=∀ D ∈ Ds,N≤D∧W.heap[D]?=some (.deferred (some []))
def dsOf (Ds:List Nat):List Deferred:=Ds.map fun D=>{ target:=.collected D,args:=#[] }
structure FIn (n:Sp.Net) (hd:ByteArray) (w:World) (N Ba:Nat) (cn:Array Value) (p:Int) (hk:ByteArray) (ap:Int) (Ds:List Nat) (W:World):Prop where
 net:Blk W N 26 cn
 st:Blk W (N+1) 28 #[.int .i64 p,.string hk]
 box:Blk W Ba 3 #[.int .i64 ap]
 below:Below N w W
 ds:DsOk N Ds W
def FInv (n:Sp.Net) (hd:ByteArray) (w:World) (N Ba gl ol r kc:Nat) (cn:Array Value) (l':List Int) (RES:ByteArray × Int × Int) (a:Act) (W:World):Prop:=
 ∃ (k p:Nat) (hk:ByteArray) (ap:Int) (Ds:List Nat),FFr N Ba gl ol r kc k (dsOf Ds) a∧k≤r∧0≤ap∧ap≤(k:Int)∧FIn n hd w N Ba cn p hk ap Ds W∧Sp.StAt n hd p hk∧Sp.followV n p hk (l'.drop k) ((k:Int)+1) ap=RES∧Ds.Nodup
theorem blk_new_at2 {w:World} {g:Nat} {t:TypeId} {cs:Array Value} (h:w.heap.size=g):Blk (w.alloc (.cells cs t)) g t cs:=by subst h;exact Blk.new _ _ _
theorem own_blk {β:Type} (B g:Nat) (t:TypeId) (cs:Array Value):OwnFrom B (fun (_:β) W=>Blk W g t cs):=fun s A C row hs hg hr=>hs.grown hg (fun e=>by
 obtain⟨_,o,ho,hc⟩:=hr g e.symm;rw [show A.heap[g]?=_ from hs] at ho
 cases ho
 cases hc)
theorem own_ds {β:Type} {B N:Nat} {Ds:List Nat} (hB:∀ D ∈ Ds,D<B):OwnFrom B (fun (_:β) W=>DsOk N Ds W):=fun s A C row hs hg hr D hD=>by
 obtain⟨h1,h2⟩:=hs D hD;exact⟨h1,(hg.block D (heap_lt h2) (fun e=>by have:=(hr D e.symm).1;have:=hB D hD;omega)).trans h2⟩
theorem FIn.own {β:Type} {n:Sp.Net} {hd:ByteArray} {w:World} {N Ba B:Nat} {cn:Array Value} {p:Int} {hk:ByteArray} {ap:Int} {Ds:List Nat} (hN:N≤w.heap.size) (hNB:N≤B) (hB:∀ D ∈ Ds,D<B):OwnFrom B (fun (_:β) W=>FIn n hd w N Ba cn p hk ap Ds W):=fun s A C row hs hg hr=>
 ⟨own_blk B N _ _ s A C row hs.net hg hr,own_blk B (N+1) _ _ s A C row hs.st hg hr,own_blk B Ba _ _ s A C row hs.box hg hr,ownFrom_below hN hNB s A C row hs.below hg hr,own_ds hB s A C row hs.ds hg hr⟩
theorem FIn.bump {n:Sp.Net} {hd:ByteArray} {w:World} {N Ba:Nat} {cn:Array Value} {p:Int} {hk:ByteArray} {ap:Int} {Ds:List Nat} {W:World} (h:FIn n hd w N Ba cn p hk ap Ds W) (hB:N+1<Ba) (a':Int):FIn n hd w N Ba cn p hk a' Ds (W.setCell ⟨Ba,0,none⟩ (.int .i64 a')):=
 ⟨h.net.far (by show N≠Ba;omega) _,h.st.far (by show N+1≠Ba;omega) _,h.box.set_ 0 _,h.below.setCell (p:=⟨Ba,0,none⟩) (by show N≤Ba;omega) _,fun D hD=>⟨(h.ds D hD).1,(KeepsOthers.setCell W _ _).same D _ (h.ds D hD).2 rfl⟩⟩
theorem FIn.store {n:Sp.Net} {hd:ByteArray} {w:World} {N Ba:Nat} {cn:Array Value} {p:Int} {hk:ByteArray} {ap:Int} {Ds:List Nat} {W:World} (h:FIn n hd w N Ba cn p hk ap Ds W) (hB:N+1<Ba) (x:Int) (xh:ByteArray):FIn n hd w N Ba cn x xh ap Ds ((W.setCell ⟨N+1,0,none⟩ (.int .i64 x)).setCell ⟨N+1,1,none⟩ (.string xh)):=
 ⟨(h.net.far (by show N≠N+1;omega) _).far (by show N≠N+1;omega) _,(h.st.set_ 0 _).set_ 1 _,(h.box.far (by show Ba≠N+1;omega) _).far (by show Ba≠N+1;omega) _,(h.below.setCell (p:=⟨N+1,0,none⟩) (by show N≤N+1;omega) _).setCell (p:=⟨N+1,1,none⟩) (by show N≤N+1;omega) _,
  fun D hD=>⟨(h.ds D hD).1,(KeepsOthers.setCell _ _ _).same D _ ((KeepsOthers.setCell W _ _).same D _ (h.ds D hD).2 rfl) rfl⟩⟩
theorem hit_A {x xe xo xi:Int} {xh:ByteArray} (h1:xo=x) (h2:0≤xe) {ap:Int}:Sp.hitM x ⟨xe,xo,xi,xh⟩=true∧Sp.stepA x ⟨xe,xo,xi,xh⟩ ap=ap+1:=by
 unfold Sp.hitM Sp.stepA;simp [h1,h2]
theorem hit_D {x xe xo xi:Int} {xh:ByteArray} (h1:¬ (xo=x∧0≤xe)) (h2:xo<0) (h3:xi=x) {ap:Int}:Sp.hitM x ⟨xe,xo,xi,xh⟩=true∧Sp.stepA x ⟨xe,xo,xi,xh⟩ ap=ap:=by
 unfold Sp.hitM Sp.stepA;refine⟨by simp [h2,h3],?_⟩;rw [if_neg];intro e;simp only [Bool.and_eq_true,beq_iff_eq,decide_eq_true_eq] at e;exact h1 e
theorem hit_no {x xe xo xi:Int} {xh:ByteArray} (h1:¬ (xo=x∧0≤xe)) (h2:¬ (xo<0∧xi=x)):Sp.hitM x ⟨xe,xo,xi,xh⟩=false:=by
 rw [Bool.eq_false_iff];intro e;unfold Sp.hitM at e;simp only [Bool.or_eq_true,Bool.and_eq_true,beq_iff_eq,decide_eq_true_eq] at e;rcases e with e | e
 ·exact h1 e
 ·exact h2 e
def NoHit (x:Int) (pre:List Sp.Mv):Prop:=∀ y ∈ pre,Sp.hitM x y=false
theorem NoHit.snoc {x:Int} {pre:List Sp.Mv} {m:Sp.Mv} (h:NoHit x pre) (hm:Sp.hitM x m=false):NoHit x (pre ++ [m]):=fun y hy=>by
 rcases List.mem_append.1 hy with h1 | h1
 ·exact h y h1
 ·rw [List.mem_singleton.1 h1];exact hm
def FIx (n:Sp.Net) (hd:ByteArray) (w:World) (N Ba:Nat) (cn:Array Value) (x:Int) (ap:Int) (Ds:List Nat) (c:Code) (pre:List Sp.Mv) (W':World):Prop:=c=.exit 1∧∃ pre' m',pre=pre' ++ [m']∧NoHit x pre'∧Sp.hitM x m'=true∧FIn n hd w N Ba cn x m'.header (Sp.stepA x m' ap) Ds W'
theorem FIn.alloc {n:Sp.Net} {hd:ByteArray} {w:World} {N Ba:Nat} {cn:Array Value} {p:Int} {hk:ByteArray} {ap:Int} {Ds:List Nat} {W:World} (h:FIn n hd w N Ba cn p hk ap Ds W) (hN:N≤W.heap.size) (o:Obj):FIn n hd w N Ba cn p hk ap Ds (W.alloc o):=
 ⟨h.net.alloc o,h.st.alloc o,h.box.alloc o,h.below.alloc hN o,fun D hD=>⟨(h.ds D hD).1,(Below.heap_alloc W o D (heap_lt (h.ds D hD).2)).trans (h.ds D hD).2⟩⟩
theorem step_Follow (n:Sp.Net) (A1 A2 A3:Option Addr) (c1 c2 c3:Nat) (p:Int) (hd:ByteArray) (Ap:Option Addr) (kp:Nat) (l:List Int) (w:World) (hG:Gn w)
  (hnr:NetR w n [.int .i64 n.bits,.slice A1 n.ports.length c1,.slice A2 n.tables.length c2,.slice A3 n.guards.length c3]) (hsz:Sp.Szd n) (hh:hd.size≤9223372036854775807) (hv:IV w Ap l) (hlk:l.length≤kp) (hl:l.length≤4611686018427387904):
  Calls Tryz.prog 14 #[.agg #[.int .i64 n.bits,.slice A1 n.ports.length c1,.slice A2 n.tables.length c2,.slice A3 n.guards.length c3],.agg #[.int .i64 p,.string hd],.slice Ap l.length kp] w (FollowEnd n p hd l w):=by
 obtain⟨N,hN⟩:=nM w.heap.size;have hnet0:NetAt (w.alloc (.cells #[.int .i64 n.bits,.slice A1 n.ports.length c1,.slice A2 n.tables.length c2,.slice A3 n.guards.length c3] 26)) w.heap.size n:=net_box hnr 26;obtain⟨W2,hW2⟩:=nM ((w.alloc (.cells #[.int .i64 n.bits,.slice A1 n.ports.length c1,.slice A2 n.tables.length c2,.slice A3 n.guards.length c3] 26)).alloc (.cells #[.int .i64 p,.string hd] 28));have hb2:Below N w W2:=by rw [← hW2,← hN];exact ((Below.refl _ _).alloc (Nat.le_refl _) _).alloc (by simp) _
 have hs2:W2.heap.size=N+2:=by rw [← hW2,← hN];simp
 have hnet2:NetAt W2 N n:=by rw [← hW2,← hN];exact hnet0.more ((Below.refl _ _).alloc (Nat.le_refl _) _)
 have hkN:Blk W2 N 26 #[.int .i64 n.bits,.slice A1 n.ports.length c1,.slice A2 n.tables.length c2,.slice A3 n.guards.length c3]:=by rw [← hW2,← hN];exact (Blk.new _ _ _).alloc _
 have hkS:Blk W2 (N+1) 28 #[.int .i64 p,.string hd]:=by
  rw [← hW2,← hN];have:=Blk.new (w.alloc (.cells #[.int .i64 n.bits,.slice A1 n.ports.length c1,.slice A2 n.tables.length c2,.slice A3 n.guards.length c3] 26)) 28 #[.int .i64 p,.string hd];rw [World.size_alloc] at this;exact this
 have x0:W2.cell? ⟨N+1,0,none⟩=some (.int .i64 p):=hkS.cell 0;have x1:W2.cell? ⟨N+1,1,none⟩=some (.string hd):=hkS.cell 1;have hG2:Gn W2:=hG.below (by rw [← hN] at hb2;exact hb2);have hC:=step_check N n p hd W2 hG2 hnet2 hsz hh;obtain⟨E,hE⟩:=nM (Sp.checkE n p hd);rw [hE] at hC;have HNR:=hid hnr;obtain⟨b,hbi⟩:=nM n.bits;obtain⟨np,hnp⟩:=nM n.ports.length;obtain⟨nt,hnt⟩:=nM n.tables.length;obtain⟨ng,hng⟩:=nM n.guards.length;obtain⟨m,hm⟩:=nM l.length;have HKN:=hid hkN;rw [hbi,hnp,hnt,hng] at hW2 ⊢;rw [hm] at hlk hl ⊢;have HE:=hid hE;have HN:=hid hN;have HB2:=hid hb2;have HNET:=hid hnet2;have HKS:=hid hkS;have HC:=hid hC;have HS2:=hid hs2;have HNP:=hid hnp;have HM:=hid hm;have HV:=hid hv;clear hE hb2 hnet2 hkS hC hs2 hnet0 hnr hG hG2 hbi hnp hnt hng hsz hm hkN hv;refine (callsIn_wide (n:=9)).1 ?_;by_cases h130:130<m
 case pos=>
  have t1:decide ((m:Int) > 130)=true:=dT;have t1':decide (130<m)=true:=decide_eq_true h130;have HT:Hid (Sp.followT n p hd l=(⟨#[]⟩,0,2)):=hid (by unfold Sp.followT;rw [if_pos (by rw [HM.out];exact h130)]);clear h130;refine callsIn_of_wp_marks Tryz.func14 rfl trivial ?_ rfl;simp only [Tryz.ntmps14,List.size_toArray,List.length_cons,List.length_nil,Nat.reduceAdd,Nat.reduceSub,Array.replicate_succ,Array.replicate_zero,List.push_toArray,List.append_toArray,List.nil_append,List.cons_append];gi_wp2;refine wpIn_scope_straight ?_;gi_wp2;exact⟨_,results_tmp3 rfl _ _ _,FollowEnd.of HT.out (by rw [HN.out];exact HB2.out)⟩
 have t1:decide ((m:Int) > 130)=false:=dF;have t1':decide (130<m)=false:=decide_eq_false h130;by_cases hz:E=0
 case neg=>
  have te:(E != 0)=true:=bne_iff_ne.2 hz;have HT:Hid (Sp.followT n p hd l=(⟨#[]⟩,0,E)):=hid (by unfold Sp.followT;rw [if_neg (by rw [HM.out];exact h130),HE.out,if_neg hz]);clear hz h130;refine callsIn_of_wp_marks Tryz.func14 rfl trivial ?_ rfl;simp only [Tryz.ntmps14,List.size_toArray,List.length_cons,List.length_nil,Nat.reduceAdd,Nat.reduceSub,Array.replicate_succ,Array.replicate_zero,List.push_toArray,List.append_toArray,List.nil_append,List.cons_append];gi_wp2;refine wpIn_scope_straight ?_;gi_wp2;refine⟨trivial,?_⟩;refine (callsIn_wide.2 HC.out).mono ?_;rintro e W3 ⟨rfl,hb3⟩;have HB3:=hid (HB2.out.trans (hb3.mono (by have:=HS2.out;omega)));clear hb3;gi_wp2;exact⟨_,results_tmp3 rfl _ _ _,FollowEnd.of HT.out (by rw [HN.out];exact HB3.out)⟩
 subst hz;have te:((0:Int) != 0)=false:=rfl
 obtain⟨HOK,HST⟩:Hid (Sp.NetOk n)∧Hid (Sp.StateOk n p hd):=⟨hid (Sp.checkE_zero HE.out).1,hid (Sp.checkE_zero HE.out).2⟩
 obtain⟨pn,rfl⟩:∃ k:Nat,p=k:=⟨p.toNat,by have:=HST.out.port;omega⟩
 have HT0:Hid (Sp.followT n pn hd l=(match l with
  | []=>(⟨#[]⟩,0,101)
  | x :: r=>if (pn:Int)=x then Sp.followV n pn hd r 1 0 else (⟨#[]⟩,0,101))):=hid (by
   unfold Sp.followT;rw [if_neg (by rw [HM.out];exact h130),HE.out,if_pos rfl]
   cases l <;> rfl)
 have H130:=hid h130;clear h130;refine callsIn_of_wp_marks Tryz.func14 rfl trivial ?_ rfl;simp only [Tryz.ntmps14,List.size_toArray,List.length_cons,List.length_nil,Nat.reduceAdd,Nat.reduceSub,Array.replicate_succ,Array.replicate_zero,List.push_toArray,List.append_toArray,List.nil_append,List.cons_append];gi_wp2;refine wpIn_scope_straight ?_
 cases l with
 | nil=>
  obtain rfl:m=0:=HM.out.symm;have HT:Hid (Sp.followT n pn hd []=(⟨#[]⟩,0,101)):=HT0;gi_wp2;refine⟨trivial,?_⟩;refine (callsIn_wide.2 HC.out).mono ?_;rintro e W3 ⟨rfl,hb3⟩;have HB3:=hid (HB2.out.trans (hb3.mono (by have:=HS2.out;omega)));clear hb3;gi_wp2;exact⟨_,results_tmp3 rfl _ _ _,FollowEnd.of HT.out (by rw [HN.out];exact HB3.out)⟩
 | cons x l'=>
  have hm0:0<m:=by rw [← HM.out,List.length_cons];omega
  have t2:(m == 0)=false:=beq_eq_false_iff_ne.2 (by omega);have t2':((m:Int) == 0)=false:=beq_eq_false_iff_ne.2 (by omega);have t3:(0:Int)<(m:Int):=by omega
  obtain⟨gl,ol,rfl,hgl,v0⟩:=HV.out.at (i:=0) rfl;rw [Nat.add_zero] at v0;have HGL:=hid (show gl<N by have:=HN.out;omega);have HV0:=hid v0;clear v0 hgl;gi_wp2;refine⟨trivial,?_⟩;refine (callsIn_wide.2 HC.out).mono ?_;rintro e W3 ⟨rfl,hb3⟩;clear HC hW2 x0 x1;have HNET3:=hid (HNET.out.more hb3);have hkS3:=HKS.out.below hb3 HKS.out.lt;have HKN3:=hid (HKN.out.below hb3 HKN.out.lt);have HKS3:=hid hkS3;have HB3:=hid (HB2.out.trans (hb3.mono (by have:=HS2.out;omega)));have HS3:=hid (show N+2≤W3.heap.size by have:=HS2.out;have:=hb3.size;omega);have y0:W3.cell? ⟨N+1,0,none⟩=some (.int .i64 (pn:Int)):=hkS3.cell 0;have y1:W3.cell? ⟨N+1,1,none⟩=some (.string hd):=hkS3.cell 1;have y2:W3.cell? ⟨gl,ol,none⟩=some (.int .i64 x):=(HB3.out.cell (p:=⟨gl,ol,none⟩) HGL.out).trans HV0.out;clear hb3 hkS3 HNET HKS HKN;by_cases hx:(pn:Int)=x
  case neg=>
   have t4:((pn:Int) == x)=false:=beq_eq_false_iff_ne.2 hx;have t4':((pn:Int) != x)=true:=bne_iff_ne.2 hx;have HT:Hid (Sp.followT n pn hd (x :: l')=(⟨#[]⟩,0,101)):=hid (by rw [HT0.out];show (if (pn:Int)=x then _ else _)=_;rw [if_neg hx]);clear hx;gi_wp2;gi_region;gi_wp2;exact⟨_,results_tmp3 rfl _ _ _,FollowEnd.of HT.out (by rw [HN.out];exact HB3.out.drew)⟩
  subst hx;have HTV:Hid (Sp.followT n pn hd ((pn:Int) :: l')=Sp.followV n pn hd l' 1 0):=hid (by rw [HT0.out];show (if (pn:Int)=pn then _ else _)=_;rw [if_pos rfl]);have z1:IntKind.i64.wrap 1=1:=by rw [IntKind.wrap_i64];rfl
  have hlk2:(m:Int)≤(kp:Int):=by omega
  have hm1:(1:Int)≤(m:Int):=by omega
  clear HT0 HV0;have hv3:Below W3.heap.size W3 (W3.alloc (.cells #[.int .i64 0] 3)).drew:=((Below.refl _ _).alloc (Nat.le_refl _) _).drew;have HV3:=hid hv3;have HBV:=hid (HB3.out.trans (hv3.mono (by have:=HS3.out;omega)));clear hv3
  by_cases hl0:l'=[]
  case pos=>
   subst hl0;obtain rfl:m=1:=HM.out.symm;have HT:Hid (Sp.followT n pn hd [(pn:Int)]=(hd,0,0)):=hid (by rw [HTV.out];rfl);rcases (show kp=1∨(kp=1)=False by by_cases hk:kp=1;exact Or.inl hk;exact Or.inr (eq_false hk)) with hk | hk
   all_goals
    (try subst hk)
    gi_wp2;gi_region;gi_wp2;refine wpIn_label ?_;gi_wp2;have v1:(W3.alloc (.cells #[.int .i64 0] 3)).drew.cell? ⟨N+1,1,none⟩=some (.string hd):=(HV3.out.cell (p:=⟨N+1,1,none⟩) (by have:=HS3.out;show N+1<_;omega)).trans y1;have v2:(W3.alloc (.cells #[.int .i64 0] 3)).drew.cell? ⟨W3.heap.size,0,none⟩=some (.int .i64 0):=cell_one_new4 W3 _ _ 0 _ rfl;obtain⟨V,hV⟩:=nM ((W3.alloc (.cells #[.int .i64 0] 3)).drew);rw [hV] at v1 v2 HBV ⊢;clear hV;refine wpIn_loop_once ?_;gi_wp2;gi_region;gi_wp2;exact⟨_,results_tmp3 rfl _ _ _,FollowEnd.of HT.out (by rw [HN.out];exact HBV.out.drew)⟩
  case neg=>
   have hm2:2≤m:=by
    have h1:=HM.out;rw [List.length_cons] at h1;(have:l'.length≠0:=fun e=>hl0 (List.length_eq_zero_iff.1 e));omega
   have hk1:(kp=1)=False:=eq_false (by omega);have HR:=hid (show l'.length=m - 1 by have h1:=HM.out;rw [List.length_cons] at h1;omega);clear hl0;gi_wp2;gi_region;gi_wp2;refine wpIn_label ?_;gi_wp2;obtain⟨V,hV⟩:=nM ((W3.alloc (.cells #[.int .i64 0] 3)).drew);obtain⟨Ba,hBa⟩:=nM W3.heap.size;obtain⟨r,hr⟩:=nM (m - 1);obtain⟨kc,hkc⟩:=nM (kp - 1);(have hbox:Blk V Ba 3 #[.int .i64 0]:=by rw [← hV,← hBa];exact (Blk.new W3 _ _).drewN 1);have hv3:=HV3.out;rw [hV] at hv3 HBV ⊢;rw [hr] at HR ⊢;rw [hkc,hBa]
   have hin0:FIn n hd w N Ba #[.int .i64 n.bits,.slice A1 n.ports.length c1,.slice A2 n.tables.length c2,.slice A3 n.guards.length c3] pn hd 0 [] V:=⟨HKN3.out.below hv3 HKN3.out.lt,HKS3.out.below hv3 HKS3.out.lt,hbox,HBV.out,fun D hD=>by cases hD⟩
   obtain⟨cn,hcn⟩:∃ cn:Array Value,#[.int .i64 n.bits,.slice A1 n.ports.length c1,.slice A2 n.tables.length c2,.slice A3 n.guards.length c3]=cn:=⟨_,rfl⟩
   rw [hcn] at hin0;have HCN:=hid hcn;clear hcn;(have hr129:r≤129:=by have:=H130.out;omega);have HIN0:=hid hin0;have HBA2:=hid (show N+1<Ba by have:=HS3.out;omega);clear hV hBa hr hkc hbox hv3 hin0 HKN3 HKS3 HV3 HBV HNET3 HS3 HB3 HS2 HB2 y0 y1 y2 hlk hlk2 hm1 t1 t1' te t2 t2' t3 hm0 hm2 hk1 hl H130;refine wpIn_loop (FInv n hd w N Ba gl ol r kc cn l' (Sp.followV n pn hd l' 1 0)) (fun a' _=>r - (intOf (a'.tmps.getD 36 undef)).toNat) ⟨0,pn,hd,0,[],FFr.of _ _ _ _ _ _ _ _ _ _ _ _ _ _ _ _ _ _ _ _ _ _ _ _ _ _ _ _ _ _ _ _ _ _ _ _ _ _ _ _ _ _ _ _ _ _ _ _ _ _ _ _ _ _ _ _ _ _ _ _ _ _ _ _ _ _ _ _ _ _,Nat.zero_le _,by decide,by decide,HIN0.out,Sp.StAt.first HST.out,rfl,List.nodup_nil⟩ ?_;rintro a' W ⟨k,p,hk,ap,Ds,⟨u,rfl⟩,hkr,ha0,hak,hfi,hst,hfv,hnd⟩;have HFI:=hid hfi;have HSA:=hid hst;have HFV:=hid hfv;have HND:=hid hnd;have HAP:=hid (show 0≤ap∧ap≤(k:Int) from⟨ha0,hak⟩);(have k0:(0:Int)≤(k:Int):=by omega);by_cases hlt:k<r
   case neg=>
    have s1:decide ((k:Int)<(r:Int))=false:=dF;have s1':decide (k<r)=false:=decide_eq_false hlt;have w1:W.cell? ⟨N+1,1,none⟩=some (.string hk):=hfi.st.cell 1;have w2:W.cell? ⟨Ba,0,none⟩=some (.int .i64 ap):=hfi.box.cell 0
    have HT:Hid (Sp.followT n pn hd ((pn:Int) :: l')=(hk,ap,0)):=hid (by
     rw [HTV.out,← hfv,List.drop_eq_nil_of_le (by rw [HR.out];omega)]
     rfl)
    clear hfi hst hfv hnd hlt hkr ha0 hak;gi_wp2;gi_region;gi_wp2;refine leaves_all HN.out Ds _ (fun D hD=>HFI.out.ds D hD) HND.out (fun W' hW'=>?_);exact⟨_,results_tmp3 rfl _ _ _,FollowEnd.of HT.out (by rw [HN.out];exact HFI.out.below.drew.trans hW')⟩
   case pos=>
    have s1:decide ((k:Int)<(r:Int))=true:=dT;have s1':decide (k<r)=true:=decide_eq_true hlt;(have s2:(k:Int)<(r:Int):=by omega);(have zk:IntKind.i64.wrap ((k:Int)+1)=(k:Int)+1:=by rw [IntKind.wrap_i64];omega);have za:IntKind.i64.wrap (ap+1)=ap+1:=by rw [IntKind.wrap_i64];omega
    obtain⟨x,hx⟩:∃ x,l'[k]?=some x:=⟨_,List.getElem?_eq_getElem (by rw [HR.out];exact hlt)⟩
    have hdr:l'.drop k=x :: l'.drop (k+1):=by
     have h1:=List.drop_eq_getElem_cons (show k<l'.length by rw [HR.out];exact hlt);rw [List.getElem?_eq_getElem (show k<l'.length by rw [HR.out];exact hlt)] at hx;(injection hx with hx);rw [h1,hx]
    rw [hdr] at hfv;obtain⟨g2,o2,hgo,hg2,v0⟩:=HV.out.at (i:=k+1) (show ((pn:Int) :: l')[k+1]?=some x from hx);obtain⟨rfl,rfl⟩:gl=g2∧ol=o2:=by injection hgo with hy;injection hy with h1 h2;exact⟨h1,h2⟩
    have v1:W.cell? ⟨gl,ol+1+k,none⟩=some (.int .i64 x):=by
     rw [show ol+1+k=ol+(k+1) by omega];exact (hfi.below.cell (p:=⟨gl,ol+(k+1),none⟩) HGL.out).trans v0
    obtain⟨Bq,hBq⟩:=nM W.heap.size;obtain⟨W1,hW1⟩:=nM (W.alloc (.cells #[.int .i64 x] 3));(have hNW:N≤W.heap.size:=by have:=hfi.below.size;have:=HN.out;omega);(have hf1:FIn n hd w N Ba cn p hk ap Ds W1:=by rw [← hW1];exact hfi.alloc hNW _);(have hq1:Blk W1 Bq 3 #[.int .i64 x]:=by rw [← hW1,← hBq];exact Blk.new _ _ _);(have hs1:W1.heap.size=Bq+1:=by rw [← hW1,← hBq];simp);have w0:W1.cell? ⟨N+1,0,none⟩=some (.int .i64 (p:Int)):=hf1.st.cell 0;have w1:W1.cell? ⟨N+1,1,none⟩=some (.string hk):=hf1.st.cell 1;obtain⟨W6,hW6⟩:=nM ((W1.alloc (.cells #[.pointer (some ⟨N,0,none⟩)] 69)).alloc (.cells #[.int .i64 (p:Int),.string hk] 28));(have hN1:N≤W1.heap.size:=by omega);(have hf6:FIn n hd w N Ba cn p hk ap Ds W6:=by rw [← hW6];exact (hf1.alloc hN1 _).alloc (by rw [World.size_alloc];omega) _);(have hq6:Blk W6 Bq 3 #[.int .i64 x]:=by rw [← hW6];exact (hq1.alloc _).alloc _);(have bN:Blk W6 (Bq+1) 69 #[.pointer (some ⟨N,0,none⟩)]:=by rw [← hW6];exact (blk_new_at2 hs1).alloc _);(have bS:Blk W6 (Bq+1+1) 28 #[.int .i64 (p:Int),.string hk]:=by rw [← hW6];exact blk_new_at2 (by rw [World.size_alloc];omega));(have hb6:Below W.heap.size W W6:=by rw [← hW6,← hW1];exact (((Below.refl _ _).alloc (Nat.le_refl _) _).alloc (by simp) _).alloc (by simp;omega) _);have hs6:W6.heap.size=Bq+3:=by rw [← hW6];simp;omega
    have hnet:NetAt W N n:=by
     obtain⟨B1,d1,B2,d2,B3,d3,hc,hn⟩:=(HNR.out.more (show Below w.heap.size w W by rw [HN.out];exact hfi.below))
     exact⟨_,⟨B1,d1,B2,d2,B3,d3,hc,hn⟩,hfi.net.lt,fun f u hf=>by rw [hfi.net.cell f,← HCN.out,← Array.getElem?_toList];exact hf⟩
    have hst6:=moves_stops 8 N (Bq+1) (Bq+1+1) Bq n p hk (hst.mvOk HOK.out HST.out) W W6 (by omega) hnet hb6 (by omega) (by omega) (by omega) (by omega) (by unfold rowAt;rw [show W6.cell? ⟨Bq,0,none⟩=some (.int .i64 x) from hq6.cell 0]) (bN.cell 0) (bS.cell 0) (bS.cell 1);rw [hBq] at hst6 hb6;have HST6:=hid hst6;have HF6:=hid hf6;have HQ6:=hid hq6;have HB6:=hid hb6;have HS6:=hid hs6;have HFX:=hid hfv;have HDL:=hid (show ∀ D ∈ Ds,D<W6.heap.size from fun D hD=>heap_lt (hf6.ds D hD).2);have HNB:=hid (show N≤Bq by omega);have HBB:=hid (show Ba<Bq by have:=hfi.box.lt;omega);have HLT:=hid (show k+1≤r by omega);clear hfi hst hfv hnd hlt hkr ha0 hak hx hdr hgo hg2 v0 hNW hf1 hq1 hN1 hf6 hq6 bN bS hb6 hs6 hnet hst6 HFV;gi_wp2;refine⟨trivial,?_⟩;refine (step_moves _ N p hk _).mono ?_;rintro e w' ⟨rfl,rfl⟩;gi_wp2;have hst6:=HST6.out;clear hs1 hW6 hW1 hBq HST6
    refine wpIn_rangeFunc_ownH rfl (by omega) (gf:=47) (lb:=#[.pointer (some ⟨Bq+1,0,none⟩),.pointer (some ⟨Bq+1+1,0,none⟩)]) rfl trivial (enters_of Tryz.func47 (by kernel_rfl) rfl)
     hst6 SaveRow.trans (SaveRow.book (by have:=HS6.out;omega) (by have:=HS6.out;omega)) (Below.refl _ _) (fun _=>rfl)
     (fun pre W'=>(FIn n hd w N Ba cn p hk ap Ds W'∧Blk W' Bq 3 #[.int .i64 x])∧NoHit x pre)
     (fun c pre W'=>FIx n hd w N Ba cn x ap Ds c pre W')
     (OwnFrom.and (OwnFrom.and (FIn.own (by have:=HN.out;omega) (by have:=HS6.out;have:=HNB.out;omega) HDL.out) (own_blk _ _ _ _)) (ownFrom_pure _ _))
     (fun c s A C row hs hg hr=>by obtain⟨e1,pre',m',e2,e3,e4,e5⟩:=hs;exact⟨e1,pre',m',e2,e3,e4,FIn.own (β:=Unit) (by have:=HN.out;omega) (by have:=HS6.out;have:=HNB.out;omega) HDL.out () A C row e5 hg hr⟩)
     ⟨⟨HF6.out,HQ6.out⟩,fun y hy=>by cases hy⟩
     (fun y a' W'=>∃ Bx,Bq<Bx∧Blk W' Bx 77 #[.int .i64 y.entry,.int .i64 y.out,.int .i64 y.inn,.string y.header]∧FGr N Ba Bq Bx a')
     (fun y a' _ X Y row hs hg hr=>by obtain⟨Bx,h1,h2,h3⟩:=hs;exact⟨Bx,h1,own_blk (β:=Unit) _ Bx _ _ () X Y row h2 hg hr,h3⟩)
     ?assign ?body ?done ?stop
    case assign=>
     rintro l2 pre ⟨xe,xo,xi,xh⟩ W' K ⟨⟨hf,hq⟩,hno⟩ hK;dsimp only [mvC];gi_wp2;exact hK _ _ ((KeepsOthers.alloc _ _).from _) (SaveRow.of_below ((Below.refl _ W').alloc (Nat.le_refl _) _) (by have:=hq.lt;omega) hq.lt) ⟨⟨hf.alloc (by have:=hq.lt;have:=HNB.out;omega) _,hq.alloc _⟩,hno⟩ ⟨W'.heap.size,hq.lt,Blk.new _ _ _,FGr.of _ _ _ _ _ _ _ _ _ _ _ _ _ _ _ _ _ _ _ _ _ _ _ _ _ _ _ _ _ _ _ _ _ _ _ _ _ _ _ _ _ _ _ _ _ _ _ _ _ _ _ _ _ _ _ _ _ _ _ _ _ _ _ _ _ _ _ _ _ _ _⟩
    case body=>
     rintro l2 pre ⟨xe,xo,xi,xh⟩ a' W' hl2 _ ⟨⟨hf,hq⟩,hno⟩ ⟨Bx,hBx,hkx,⟨u2,rfl⟩⟩ hlen;have hkx':Blk W' Bx 77 #[.int .i64 xe,.int .i64 xo,.int .i64 xi,.string xh]:=hkx;have b1:W'.cell? ⟨Bx,0,none⟩=some (.int .i64 xe):=hkx'.cell 0;have b2:W'.cell? ⟨Bx,1,none⟩=some (.int .i64 xo):=hkx'.cell 1;have b3:W'.cell? ⟨Bx,2,none⟩=some (.int .i64 xi):=hkx'.cell 2;have b4:W'.cell? ⟨Bx,3,none⟩=some (.string xh):=hkx'.cell 3;have b5:W'.cell? ⟨Bq,0,none⟩=some (.int .i64 x):=hq.cell 0;have b6:W'.cell? ⟨Ba,0,none⟩=some (.int .i64 ap):=hf.box.cell 0;have b7:W'.cell? ⟨N+1,0,none⟩=some (.int .i64 (p:Int)):=hf.st.cell 0;have b8:W'.cell? ⟨N+1,1,none⟩=some (.string hk):=hf.st.cell 1;have g6:=hf.box.frozen 0;have g7:=hf.st.frozen 0;have g8:=hf.st.frozen 1;have HF:=hid hf;have HQ2:=hid hq;have HKX:=hid hkx';have HNO:=hid hno;have HBX:=hid hBx;clear hf hq hno hkx hkx' hBx hlen hl2 hst6 w0 w1 v1 s1 s1' s2;by_cases hA:xo=x∧0≤xe
     ·have t1:(xo == x)=true:=beq_iff_eq.2 hA.1;have t2:decide (xe ≥ 0)=true:=decide_eq_true hA.2;obtain⟨h1,h2⟩:=hit_A (xi:=xi) (xh:=xh) hA.1 hA.2 (ap:=ap);obtain⟨Wb,hWb⟩:=nM (W'.setCell ⟨Ba,0,none⟩ (.int .i64 (ap+1)));(have hfb:FIn n hd w N Ba cn p hk (ap+1) Ds Wb:=by rw [← hWb];exact HF.out.bump HBA2.out (ap+1));(have hqb:Blk Wb Bq 3 #[.int .i64 x]:=by rw [← hWb];exact HQ2.out.far (by have:=HBB.out;show Bq≠Ba;omega) _);(have hxb:Blk Wb Bx 77 #[.int .i64 xe,.int .i64 xo,.int .i64 xi,.string xh]:=by rw [← hWb];exact HKX.out.far (by have:=HBB.out;have:=HBX.out;show Bx≠Ba;omega) _);(have hko:KeepsOthers W' Wb:=by rw [← hWb];exact KeepsOthers.setCell _ _ _);have d4:Wb.cell? ⟨Bx,3,none⟩=some (.string xh):=hxb.cell 3;have d5:Wb.cell? ⟨Bq,0,none⟩=some (.int .i64 x):=hqb.cell 0;have d7:Wb.cell? ⟨N+1,0,none⟩=some (.int .i64 (p:Int)):=hfb.st.cell 0;have d8:Wb.cell? ⟨N+1,1,none⟩=some (.string hk):=hfb.st.cell 1;have f7:=hfb.st.frozen 0;have f8:=hfb.st.frozen 1;have hfin:=hfb.store HBA2.out x xh;have HFIN:=hid hfin;have HKO:=hid hko;have HH:=hid h1;have HS2:=hid h2;clear hA hfin h1 h2 hfb hqb hxb hko;gi_wp2;exact⟨((HKO.out.trans (KeepsOthers.setCell _ _ _)).trans (KeepsOthers.setCell _ _ _)).from _,rfl,pre,_,rfl,HNO.out,HH.out,by rw [HS2.out];exact HFIN.out⟩
     ·have hc:((xo == x)=false)∨((xo == x)=true∧decide (xe ≥ 0)=false):=by
       by_cases e1:xo=x
       ·exact Or.inr ⟨beq_iff_eq.2 e1,decide_eq_false (fun e2=>hA ⟨e1,e2⟩)⟩
       ·exact Or.inl (beq_eq_false_iff_ne.2 e1)
      by_cases hD:xo<0∧xi=x
      ·have t3:decide (xo ≥ 0)=false:=dF;(have t4:(xi != x)=false:=by rw [bne_eq_false_iff_eq];exact hD.2);obtain⟨h1,h2⟩:=hit_D (xh:=xh) hA hD.1 hD.2 (ap:=ap);have hfin:=HF.out.store HBA2.out x xh;have HFIN:=hid hfin;have HH:=hid h1;have HS2:=hid h2;clear hA hD hfin h1 h2;rcases hc with t1 | ⟨t1,t2⟩
       all_goals
        gi_wp2;exact⟨((KeepsOthers.setCell _ _ _).trans (KeepsOthers.setCell _ _ _)).from _,rfl,pre,_,rfl,HNO.out,HH.out,by rw [HS2.out];exact HFIN.out⟩
      ·have HH:=hid (hit_no (xh:=xh) hA hD)
       have hc2:(decide (xo ≥ 0)=true)∨(decide (xo ≥ 0)=false∧(xi != x)=true):=by
        by_cases e1:0≤xo
        ·exact Or.inl (decide_eq_true e1)
        ·exact Or.inr ⟨decide_eq_false e1,bne_iff_ne.2 (fun e2=>hD ⟨by omega,e2⟩)⟩
       clear hA hD;rcases hc with t1 | ⟨t1,t2⟩ <;> rcases hc2 with t3 | ⟨t3,t4⟩
       all_goals
        gi_wp2;exact⟨KeepsFrom.refl _ _,⟨Below.refl _ _,.inl rfl,fun _ _ _ ho _ _=>ho⟩,⟨⟨HF.out,HQ2.out⟩,HNO.out.snoc HH.out⟩⟩
    case done=>
     rintro D ys W' hDW rfl ⟨⟨hf,hq⟩,hno⟩ hK;have HT:Hid (Sp.followT n pn hd ((pn:Int) :: l')=(⟨#[]⟩,(k:Int)+1,101)):=hid (by rw [HTV.out,← HFX.out];exact Sp.followV_none hno);have HF:=hid hf;have HDW:=hid hDW;have HKD:=hid hK;clear hf hq hno hDW hst6 w0 w1 v1 s1 s1' s2;gi_wp2;refine leaves_all HN.out (D :: Ds) _ (fun D' hD'=>?_) (List.nodup_cons.2 ⟨fun hm=>by have:=HDL.out D hm;have:=HDW.out;omega,HND.out⟩) (fun W2 hW2=>?_)
     ·rcases List.mem_cons.1 hD' with rfl | hm
      ·exact⟨by have:=HDW.out;have:=HS6.out;have:=HNB.out;omega,HKD.out⟩
      ·exact HF.out.ds D' hm
     ·exact⟨_,results_tmp3 rfl _ _ _,FollowEnd.of HT.out (by rw [HN.out];exact HF.out.below.trans hW2)⟩
    case stop=>
     rintro D c pre W' hDW hpre ⟨rfl,pre',m',rfl,hno,hhit,hf⟩ hK;have hmem:m' ∈ Sp.movesV n p hk:=hpre.subset (by simp);have hxr:=Sp.hit_lt (Sp.movesV_fine HOK.out hmem) hhit;have hnx:=HSA.out.next HOK.out hmem hhit;(have hfx:Sp.followV n x.toNat m'.header (l'.drop (k+1)) ((k:Int)+1+1) (Sp.stepA x m' ap)=Sp.followV n pn hd l' 1 0:=by rw [← HFX.out];exact (Sp.followV_some hpre hno hhit).symm);have hap:0≤Sp.stepA x m' ap∧Sp.stepA x m' ap≤((k+1:Nat):Int):=by have:=HAP.out;unfold Sp.stepA;split <;> omega
     obtain⟨xn,rfl⟩:∃ xn:Nat,x=xn:=⟨x.toNat,by omega⟩
     rw [Int.toNat_natCast] at hnx hfx
     have hds:DsOk N (D :: Ds) W':=fun D' hD'=>by
      rcases List.mem_cons.1 hD' with rfl | hm
      ·exact⟨by have:=HS6.out;have:=HNB.out;omega,hK⟩
      ·exact hf.ds D' hm
     have hnd2:(D :: Ds).Nodup:=List.nodup_cons.2 ⟨fun hm=>by have:=HDL.out D hm;omega,HND.out⟩;have HFN:=hid hf;have HNX:=hid hnx;have HFX2:=hid hfx;have HAP2:=hid hap;have HDS:=hid hds;have HND2:=hid hnd2;clear hst6 w0 w1 v1 s1 s1' s2 hf hnx hfx hap hds hnd2 hmem hpre hno hhit hxr hDW hK;gi_wp2;refine⟨⟨k+1,xn,m'.header,Sp.stepA xn m' ap,D :: Ds,FFr.of _ _ _ _ _ _ _ _ _ _ _ _ _ _ _ _ _ _ _ _ _ _ _ _ _ _ _ _ _ _ _ _ _ _ _ _ _ _ _ _ _ _ _ _ _ _ _ _ _ _ _ _ _ _ _ _ _ _ _ _ _ _ _ _ _ _ _ _ _ _,HLT.out,HAP2.out.1,HAP2.out.2,⟨HFN.out.net,HFN.out.st,HFN.out.box,HFN.out.below,HDS.out⟩,HNX.out,HFX2.out,HND2.out⟩,?_⟩;have:=HLT.out;simp [intOf];omega
end Go.Proofs.YtedfppbnkgffcaaGreatDoor
