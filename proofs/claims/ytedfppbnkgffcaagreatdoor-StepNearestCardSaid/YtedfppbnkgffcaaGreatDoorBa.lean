/-
 THE WALK of step.Loop (chapter 10).
-/
import Derived.Test.YtedfppbnkgffcaaGreatDoorAy
set_option linter.unusedVariables false
set_option linter.unusedSimpArgs false
set_option maxRecDepth 100000
set_option maxHeartbeats 8000000
namespace Go.Proofs.YtedfppbnkgffcaaGreatDoor
open Go.RowKit
attribute [local go_sem] Oper.semAt_some
theorem Sp.bounds_ok {n:Sp.Net} {p:Int} {h:ByteArray} {tp hops:Int} (hb:Sp.boundsE n p h tp hops=0):Sp.checkE n p h=0∧0≤hops∧hops≤64:=by
 unfold Sp.boundsE at hb;by_cases h1:Sp.checkE n p h=0
 ·rw [if_neg (fun e=>e h1)] at hb;by_cases h2:tp<0
  ·rw [if_pos h2] at hb;omega
  ·rw [if_neg h2] at hb;by_cases h3:(n.ports.length:Int)≤tp
   ·rw [if_pos h3] at hb;omega
   ·rw [if_neg h3] at hb;by_cases h4:hops<0
    ·rw [if_pos h4] at hb;omega
    ·rw [if_neg h4] at hb;by_cases h5:64<hops
     ·rw [if_pos h5] at hb;omega
     ·exact⟨h1,by omega,by omega⟩
 ·rw [if_pos h1] at hb;exact absurd hb h1
structure LpC (M:Nat) (v1 v2 v3:Value) (ok:Bool) (e:Int) (W:World):Prop where
 c2:Blk W (M+1+1) 31 #[v1,v2,v3]
 c3:Blk W (M+1+1+1) 4 #[.bool ok]
 c4:Blk W (M+1+1+1+1) 32 #[.int .i64 e]
theorem LpC.below {M:Nat} {v1 v2 v3:Value} {ok:Bool} {e:Int} {W W':World} (k:LpC M v1 v2 v3 ok e W) (hb:Below W.heap.size W W'):LpC M v1 v2 v3 ok e W':=⟨k.c2.below hb k.c2.lt,k.c3.below hb k.c3.lt,k.c4.below hb k.c4.lt⟩
def lpSet (M:Nat) (u1 u2 u3:Value) (ok:Bool) (e:Int) (W:World):World:=((((W.setCell ⟨M+1+1,0,none⟩ u1).setCell ⟨M+1+1,1,none⟩ u2).setCell ⟨M+1+1,2,none⟩ u3).setCell ⟨M+1+1+1,0,none⟩ (.bool ok)).setCell ⟨M+1+1+1+1,0,none⟩ (.int .i64 e)
theorem LpC.set {M:Nat} {v1 v2 v3:Value} {ok:Bool} {e:Int} {W:World} (k:LpC M v1 v2 v3 ok e W) (u1 u2 u3:Value) (ok':Bool) (e':Int):LpC M u1 u2 u3 ok' e' (lpSet M u1 u2 u3 ok' e' W):=
 ⟨((((k.c2.set_ 0 u1).set_ 1 u2).set_ 2 u3).far (by show M+1+1≠M+1+1+1;omega) _).far (by show M+1+1≠M+1+1+1+1;omega) _,
  ((((k.c3.far (by show M+1+1+1≠M+1+1;omega) _).far (by show M+1+1+1≠M+1+1;omega) _).far (by show M+1+1+1≠M+1+1;omega) _).set_ 0 _).far (by show M+1+1+1≠M+1+1+1+1;omega) _,
  ((((k.c4.far (by show M+1+1+1+1≠M+1+1;omega) _).far (by show M+1+1+1+1≠M+1+1;omega) _).far (by show M+1+1+1+1≠M+1+1;omega) _).far (by show M+1+1+1+1≠M+1+1+1;omega) _).set_ 0 _⟩
theorem lpSet_below {M N:Nat} {u1 u2 u3:Value} {ok:Bool} {e:Int} {A W:World} (hb:Below N A W) (hN:N≤M):Below N A (lpSet M u1 u2 u3 ok e W):=
 ((((hb.setCell (p:=⟨M+1+1,0,none⟩) (by show N≤M+1+1;omega) _).setCell (p:=⟨M+1+1,1,none⟩) (by show N≤M+1+1;omega) _).setCell (p:=⟨M+1+1,2,none⟩) (by show N≤M+1+1;omega) _).setCell (p:=⟨M+1+1+1,0,none⟩) (by show N≤M+1+1+1;omega) _).setCell (p:=⟨M+1+1+1+1,0,none⟩) (by show N≤M+1+1+1+1;omega) _
def KC (W W':World):Prop:=∀ (b:Nat) (o:Obj),W.heap[b]?=some o→o.isCells=true→W'.heap[b]?=some o
theorem KC.trans {A B C:World} (h:KC A B) (k:KC B C):KC A C:=fun b o ho hc=>k b o (h b o ho hc) hc
theorem kc_put {W:World} {D:Nat} {o:Obj} (o':Obj) (h:W.heap[D]?=some o) (hc:o.isCells=false):KC W (W.putObj D o'):=fun b ob hb hob=>by
 have hne:b≠D:=by rintro rfl;rw [h] at hb;cases hb;rw [hc] at hob;cases hob
 exact (World.putObj_heap_other hne).trans hb
theorem Blk.kc {W W':World} {g:Nat} {t:TypeId} {cs:Array Value} (h:Blk W g t cs) (k:KC W W'):Blk W' g t cs:=k g _ h rfl
theorem LpC.kc {M:Nat} {v1 v2 v3:Value} {ok:Bool} {e:Int} {W W':World} (h:LpC M v1 v2 v3 ok e W) (k:KC W W'):LpC M v1 v2 v3 ok e W':=⟨h.c2.kc k,h.c3.kc k,h.c4.kc k⟩
theorem in_kc {W W':World} {b:Nat} {v:Value} {l:List Int} (h:InR W b v l) (k:KC W W'):InR W' b v l:=by
 refine⟨h.1,?_⟩;rcases h.2 with e | ⟨g,cap,cur,hv,hb,hg,r⟩
 ·exact .inl e
 ·exact .inr ⟨g,cap,cur,hv,hb,k g _ hg rfl,r⟩
theorem leaves_keep {F:Fence} {nf:Nat} {P:Program} {fn:Func} {tmps:Array Value} {R:Ending→World→Prop} {N:Nat} {w:World} (hw:w.heap.size=N):∀ (Ds:List Nat) (W:World),(∀ D ∈ Ds,N≤D∧W.heap[D]?=some (.deferred (some [])))→Ds.Nodup →
  (∀ W',Below N W W'→KC W W'→LeavesInM F nf P fn tmps R [] .returning W')→LeavesInM F nf P fn tmps R (Ds.map fun D=>{ target:=.collected D,args:=#[] }) .returning W
 | [],W,_,_,hR=>hR W (Below.refl _ _) (fun _ _ h _=>h)
 | D :: Ds,W,hD,hn,hR=>by
  obtain⟨h1,h2⟩:=hD D List.mem_cons_self;rw [List.nodup_cons] at hn;have hb:Below N W (W.putObj D (.deferred none)):=belowK_b (w:=w) (by omega) W D _ _ (by omega) h2 rfl rfl;refine⟨by simp,.inl ⟨_,_,rfl,run_takeDeferred h2,?_⟩⟩;refine leaves_keep hw Ds _ (fun D' hD'=>?_) hn.2 (fun W' hW' hk=>hR W' (hb.trans hW') ((kc_put _ h2 rfl).trans hk));obtain⟨h3,h4⟩:=hD D' (List.mem_cons_of_mem _ hD');exact⟨h3,(World.putObj_heap_other (fun e=>hn.1 (by rw [← e];exact hD'))).trans h4⟩
theorem ptr_slice {W:World} {B:Nat} {v:Value} {xs:List PathV} (h:PtR W B v xs):∃ A c,v=.slice A xs.length c:=by
 rcases h.2 with⟨rfl,h0⟩ | ⟨g,cap,cur,rfl,_⟩
 ·exact⟨none,0,by rw [h0]⟩
 ·exact⟨_,_,rfl⟩
theorem in_far {W:World} {b g:Nat} {v:Value} {l:List Int} {t:TypeId} {cs:Array Value} (h:InR W b v l) (hk:Blk W g t cs) (ht:t≠3):∀ k,v.ownBlock=some k→g≠k:=by
 rintro k hk2 rfl;rcases h.2 with⟨rfl,_⟩ | ⟨g',cap,cur,rfl,_,h3,_⟩
 ·cases hk2
 ·have hk2:some g'=some g:=hk2;injection hk2 with hk2
  subst hk2;rw [show W.heap[g']?=_ from hk] at h3;injection h3 with h3
  injection h3 with _ h3
  exact ht h3
theorem in_lpSet {M b:Nat} {u1 u2 u3:Value} {ok:Bool} {e:Int} {W:World} {v:Value} {l:List Int} (h:InR W b v l) (hb:M+5≤b):InR (lpSet M u1 u2 u3 ok e W) M v l:=
 in_mono (in_set (in_set (in_set (in_set (in_set h (p:=⟨M+1+1,0,none⟩) (by show M+1+1<b;omega) _) (p:=⟨M+1+1,1,none⟩) (by show M+1+1<b;omega) _) (p:=⟨M+1+1,2,none⟩) (by show M+1+1<b;omega) _) (p:=⟨M+1+1+1,0,none⟩) (by show M+1+1+1<b;omega) _) (p:=⟨M+1+1+1+1,0,none⟩) (by show M+1+1+1+1<b;omega) _) (by omega)
theorem lpSet_others {M:Nat} {u1 u2 u3:Value} {ok:Bool} {e:Int} (W:World):KeepsOthers W (lpSet M u1 u2 u3 ok e W):=
 ((((KeepsOthers.setCell _ _ _).trans (KeepsOthers.setCell _ _ _)).trans (KeepsOthers.setCell _ _ _)).trans (KeepsOthers.setCell _ _ _)).trans (KeepsOthers.setCell _ _ _)
end Go.Proofs.YtedfppbnkgffcaaGreatDoor
