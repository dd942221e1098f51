/-
 THE WALK of step.bounds (chapter 10).
-/
import Derived.Test.YtedfppbnkgffcaaGreatDoorAo
set_option linter.unusedVariables false
set_option linter.unusedSimpArgs false
set_option maxRecDepth 100000
set_option maxHeartbeats 8000000
namespace Go.Proofs.YtedfppbnkgffcaaGreatDoor
open Go.RowKit
open Go.Lib (hid)
noncomputable def Sp.boundsE (n:Sp.Net) (p:Int) (h:ByteArray) (tp hops:Int):Int:=if Sp.checkE n p h≠0 then Sp.checkE n p h else if tp<0 then 120 else if (n.ports.length:Int)≤tp then 120 else if hops<0 then 1 else if 64<hops then 1 else 0
theorem step_bounds (N:Nat) (n:Sp.Net) (p:Int) (h:ByteArray) (tp hops:Int) (w:World) (hG:Gn w) (hn:NetAt w N n) (hsz:Sp.Szd n) (hh:h.size≤9223372036854775807):
  Calls Tryz.prog 28 #[.pointer (some ⟨N,0,none⟩),.agg #[.int .i64 p,.string h],.int .i64 tp,.int .i64 hops] w fun r w'=>r=.returned (.int .i64 (Sp.boundsE n p h tp hops))∧Below w.heap.size w w':=by
 obtain⟨W1,hW1⟩:=nM (w.alloc (.cells #[.int .i64 p,.string h] 28));have hb1:Below w.heap.size w W1:=by rw [← hW1];exact (Below.refl _ _).alloc (Nat.le_refl _) _
 have hk:Blk W1 w.heap.size 28 #[.int .i64 p,.string h]:=by rw [← hW1];exact Blk.new _ _ _
 have hn1:=hn.more hb1;have hck:=step_check N n p h W1 (hG.below hb1) hn1 hsz hh;obtain⟨A1,c1,A2,c2,A3,c3,hlt,n0,n1,n2,n3,_⟩:=hn1.at;obtain⟨np,hnp⟩:=nM n.ports.length;obtain⟨E,hE⟩:=nM (Sp.checkE n p h);obtain⟨S,hS⟩:=nM w.heap.size;obtain⟨v,hv⟩:=nM (Sp.boundsE n p h tp hops);rw [hv];unfold Sp.boundsE at hv;rw [hE,hnp] at hv;rw [hE] at hck;rw [hnp] at n1;rw [hS] at hk hb1 ⊢;have x0:W1.cell? ⟨S,0,none⟩=some (.int .i64 p):=hk.cell 0;have x1:W1.cell? ⟨S,1,none⟩=some (.string h):=hk.cell 1;have HCK:=hid hck;have HB1:=hid hb1;have HLT:=hid hlt;clear hG hn hsz hh hb1 hk hn1 hck hlt n0 n2 n3 hnp hE;have hor:E≠0∨(E=0∧tp<0)∨(E=0∧¬ tp<0∧(np:Int)≤tp)∨(E=0∧¬ tp<0∧¬ (np:Int)≤tp∧hops<0)∨(E=0∧¬ tp<0∧¬ (np:Int)≤tp∧¬ hops<0∧64<hops)∨(E=0∧¬ tp<0∧¬ (np:Int)≤tp∧¬ hops<0∧¬ 64<hops):=by omega
 rcases hor with a1 | ⟨a1,a2⟩ | ⟨a1,a2,a3⟩ | ⟨a1,a2,a3,a4⟩ | ⟨a1,a2,a3,a4,a5⟩ | ⟨a1,a2,a3,a4,a5⟩
 ·have t1:(E != 0)=true:=bne_iff_ne.2 a1;rw [if_pos a1] at hv;have HV:=hid hv;clear hv a1;go_enter Tryz.func28,Tryz.ntmps28
  go_wp2_with (go_at_call 37;refine HCK.out.mono ?_;rintro e W4 ⟨rfl,hb4⟩;have HB4:=hid hb4;have u1:=(hb4.cell (p:=⟨N,1,none⟩) HLT.out).trans n1;clear hb4)
  go_ret;exact⟨by rw [← HV.out] <;> rfl,HB1.out.trans (HB4.out.mono (by have:=HB1.out.size;omega))⟩
 ·have t1:(E != 0)=false:=bne_eq_false_iff_eq.2 a1;have t2:decide (tp<0)=true:=dT;rw [if_neg (fun e=>e a1),if_pos a2] at hv;have HV:=hid hv;clear hv a1 a2;go_enter Tryz.func28,Tryz.ntmps28
  go_wp2_with (go_at_call 37;refine HCK.out.mono ?_;rintro e W4 ⟨rfl,hb4⟩;have HB4:=hid hb4;have u1:=(hb4.cell (p:=⟨N,1,none⟩) HLT.out).trans n1;clear hb4)
  go_ret;exact⟨by rw [← HV.out] <;> rfl,HB1.out.trans (HB4.out.mono (by have:=HB1.out.size;omega))⟩
 ·have t1:(E != 0)=false:=bne_eq_false_iff_eq.2 a1;have t2:decide (tp<0)=false:=dF;have t3:decide (tp ≥ (np:Int))=true:=dT;rw [if_neg (fun e=>e a1),if_neg a2,if_pos a3] at hv;have HV:=hid hv;clear hv a1 a2 a3;go_enter Tryz.func28,Tryz.ntmps28
  go_wp2_with (go_at_call 37;refine HCK.out.mono ?_;rintro e W4 ⟨rfl,hb4⟩;have HB4:=hid hb4;have u1:=(hb4.cell (p:=⟨N,1,none⟩) HLT.out).trans n1;clear hb4)
  go_ret;exact⟨by rw [← HV.out] <;> rfl,HB1.out.trans (HB4.out.mono (by have:=HB1.out.size;omega))⟩
 ·have t1:(E != 0)=false:=bne_eq_false_iff_eq.2 a1;have t2:decide (tp<0)=false:=dF;have t3:decide (tp ≥ (np:Int))=false:=dF;have t4:decide (hops<0)=true:=dT;rw [if_neg (fun e=>e a1),if_neg a2,if_neg a3,if_pos a4] at hv;have HV:=hid hv;clear hv a1 a2 a3 a4;go_enter Tryz.func28,Tryz.ntmps28
  go_wp2_with (go_at_call 37;refine HCK.out.mono ?_;rintro e W4 ⟨rfl,hb4⟩;have HB4:=hid hb4;have u1:=(hb4.cell (p:=⟨N,1,none⟩) HLT.out).trans n1;clear hb4)
  go_ret;exact⟨by rw [← HV.out] <;> rfl,HB1.out.trans (HB4.out.mono (by have:=HB1.out.size;omega))⟩
 ·have t1:(E != 0)=false:=bne_eq_false_iff_eq.2 a1;have t2:decide (tp<0)=false:=dF;have t3:decide (tp ≥ (np:Int))=false:=dF;have t4:decide (hops<0)=false:=dF;have t5:decide (hops > 64)=true:=dT;rw [if_neg (fun e=>e a1),if_neg a2,if_neg a3,if_neg a4,if_pos a5] at hv;have HV:=hid hv;clear hv a1 a2 a3 a4 a5;go_enter Tryz.func28,Tryz.ntmps28
  go_wp2_with (go_at_call 37;refine HCK.out.mono ?_;rintro e W4 ⟨rfl,hb4⟩;have HB4:=hid hb4;have u1:=(hb4.cell (p:=⟨N,1,none⟩) HLT.out).trans n1;clear hb4)
  go_ret;exact⟨by rw [← HV.out] <;> rfl,HB1.out.trans (HB4.out.mono (by have:=HB1.out.size;omega))⟩
 ·have t1:(E != 0)=false:=bne_eq_false_iff_eq.2 a1;have t2:decide (tp<0)=false:=dF;have t3:decide (tp ≥ (np:Int))=false:=dF;have t4:decide (hops<0)=false:=dF;have t5:decide (hops > 64)=false:=dF;rw [if_neg (fun e=>e a1),if_neg a2,if_neg a3,if_neg a4,if_neg a5] at hv;have HV:=hid hv;clear hv a1 a2 a3 a4 a5;go_enter Tryz.func28,Tryz.ntmps28
  go_wp2_with (go_at_call 37;refine HCK.out.mono ?_;rintro e W4 ⟨rfl,hb4⟩;have HB4:=hid hb4;have u1:=(hb4.cell (p:=⟨N,1,none⟩) HLT.out).trans n1;clear hb4)
  go_ret;exact⟨by rw [← HV.out] <;> rfl,HB1.out.trans (HB4.out.mono (by have:=HB1.out.size;omega))⟩
end Go.Proofs.YtedfppbnkgffcaaGreatDoor
