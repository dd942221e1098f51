/-
 reachlaw10.ints on lists that differ; THE LAW StepWhole (chapter 10).
-/
import Derived.Test.YtedfppbnkgffcaaGreatDoorAj
set_option linter.unusedVariables false
set_option linter.unusedSimpArgs false
set_option maxRecDepth 100000
set_option maxHeartbeats 8000000
namespace Go.Proofs.YtedfppbnkgffcaaGreatDoor
open Go.RowKit
theorem pts_flat:∀ (xs:List PathV) (i:Nat) (x:PathV),xs[i]?=some x→∀ j,j<3→(xs.flatMap ptC)[i * 3+j]?=(ptC x)[j]?
 | [],i,x,h,j,hj=>by simp at h
 | y :: r,0,x,h,j,hj=>by
  obtain rfl:y=x:=by simpa using h
  rw [List.flatMap_cons,List.getElem?_append_left (by show 0 * 3+j<3;omega),Nat.zero_mul,Nat.zero_add]
 | y :: r,i+1,x,h,j,hj=>by
  rw [List.flatMap_cons,List.getElem?_append_right (by show 3≤(i+1) * 3+j;omega)];rw [show (i+1) * 3+j - (ptC y).length=i * 3+j by show (i+1) * 3+j - 3=_;omega];exact pts_flat r i x (by simpa using h) j hj
theorem pts_at {B:Nat} {v:Value} {xs:List PathV} {w:World} (h:PtsAt B v xs w) (hne:xs≠[]):∃ g o c,v=.slice (some ⟨g,o,none⟩) xs.length c∧∀ W,Below w.heap.size w W→∀ (i:Nat) (x:PathV),xs[i]?=some x→∃ A1 k1 A2 k2,W.cell? ⟨g,o+i * 3,none⟩=some (.slice A1 x.path.ports.length k1)∧W.cell? ⟨g,o+i * 3+1,none⟩=some (.slice A2 x.path.entries.length k2)∧W.cell? ⟨g,o+i * 3+2,none⟩=some (.string x.path.header)∧IV W A1 x.path.ports∧x.path.ports.length≤k1:=by
 have hrow:=h.row;unfold PtR at hrow;rcases hrow.2 with⟨_,h0⟩ | ⟨g,cv,cur,rfl,hg2,hg3,_,_,_,_⟩
 ·exact absurd (List.length_eq_zero_iff.1 h0) hne
 have hg:=(Array.getElem?_eq_some_iff.1 hg3).1;refine⟨g,0,cv,rfl,fun W hW i x hx=>?_⟩;obtain⟨hp,he⟩:=h.each x (List.mem_of_getElem? hx);obtain⟨A1,k1,e1,hk1,hv1⟩:=in_view hp;obtain⟨A2,k2,e2,hk2,hv2⟩:=in_view he;have hi:i<xs.length:=(List.getElem?_eq_some_iff.1 hx).1;have hc:∀ j,j<3→w.cell? ⟨g,i * 3+j,none⟩=(ptC x)[j]?:=fun j hj=>by rw [hrow.cellAt (i * 3+j) (by omega),pts_flat xs i x hx j hj]
 have h0:=hc 0 (by omega);have h1:=hc 1 (by omega);have h2:=hc 2 (by omega);refine⟨A1,k1,A2,k2,?_,?_,?_,hv1.more hW,hk1⟩
 ·rw [hW.cell hg,Nat.zero_add];rw [Nat.add_zero] at h0;rw [h0];show some x.v1=_;rw [e1]
 ·rw [hW.cell hg,Nat.zero_add,h1];show some x.v2=_;rw [e2]
 ·rw [hW.cell hg,Nat.zero_add,h2];rfl
theorem pts_slice {B:Nat} {v:Value} {xs:List PathV} {w:World} (h:PtsAt B v xs w):∃ A c,v=.slice A xs.length c:=by
 rcases h.row.2 with⟨rfl,h0⟩ | ⟨g,cap,cur,rfl,_⟩
 ·exact⟨none,0,by rw [h0]⟩
 ·exact⟨_,_,rfl⟩
theorem pv_in {w:World} {g o:Nat} {l:List Sp.Port} (h:PV w (some ⟨g,o,none⟩) l) {i:Nat} {x:Sp.Port} (hx:l[i]?=some x):w.cell? ⟨g,o+i * 4+2,none⟩=some (.bool x.inn):=by
 obtain⟨g2,o2,e,_,_,_,h3,_⟩:=h.at hx;injection e with e
 injection e with e1 e2
 subst e1;subst e2;exact h3
end Go.Proofs.YtedfppbnkgffcaaGreatDoor
