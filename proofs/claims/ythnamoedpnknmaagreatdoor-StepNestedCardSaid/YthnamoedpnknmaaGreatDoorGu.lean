/-
 A network that came in: its lists are no longer than 2^44 (reachBytes is below 2^47, no element is smaller than 8 bytes).
-/
import Derived.Test.YthnamoedpnknmaaGreatDoorGn
import Derived.Test.YthnamoedpnknmaaGreatDoorBn
set_option linter.unusedVariables false
set_option linter.unusedSimpArgs false
set_option maxRecDepth 100000
set_option maxHeartbeats 4000000
namespace Go.Proofs.YthnamoedpnknmaaGreatDoor
open Go.ChangeShapes Go.WideShapes Go.ChangeAt Go.RowKit
namespace Sp
structure SzdT (n:Net):Prop where
 np:n.ports.length≤3518437208780
 nt:n.tables.length≤5864062014634
 ng:n.guards.length≤5864062014634
 ports:∀ p ∈ n.ports,p.name.size≤9223372036854775807
 guards:∀ g ∈ n.guards,g.length≤4398046511104∧∀ l ∈ g,l.cubes.length≤8796093022208∧∀ s ∈ l.cubes,s.size≤9223372036854775807
 tables:∀ t ∈ n.tables,t.length≤1353245080300∧∀ e ∈ t,e.name.size≤9223372036854775807∧e.write.size≤9223372036854775807∧e.ins.length≤17592186044416∧e.cubes.length≤8796093022208∧e.outs.length≤17592186044416∧∀ s ∈ e.cubes,s.size≤9223372036854775807
theorem SzdT.szd {n:Net} (h:SzdT n):Szd n:=
 ⟨by have:=h.np;omega,by have:=h.nt;omega,by have:=h.ng;omega,h.ports,
  fun g hg=>⟨by have:=(h.guards g hg).1;omega,fun l hl=>⟨by have:=((h.guards g hg).2 l hl).1;omega,((h.guards g hg).2 l hl).2⟩⟩,
  fun t ht=>⟨by have:=(h.tables t ht).1;omega,fun e he=>by
   obtain⟨a,b,c,d,f,k⟩:=(h.tables t ht).2 e he
   exact⟨a,b,by omega,by omega,by omega,k⟩⟩⟩
theorem SzdT.szt {n:Net} (h:SzdT n):Szt n:=
 ⟨fun g hg=>⟨by have:=(h.guards g hg).1;omega,fun l hl=>by have:=((h.guards g hg).2 l hl).1;omega⟩,
  fun t ht=>⟨by have:=(h.tables t ht).1;omega,fun e he=>by
   obtain⟨a,b,c,d,f,k⟩:=(h.tables t ht).2 e he
   exact⟨by omega,by omega⟩⟩⟩
end Sp
section
variable {H:Type} {enc:TypeId × Value→H} {w:World} {base:Nat} {spare:Nat→Bool} {held:Bool}
theorem reach_lenB {n b:Nat} (B m:Nat) (hm:reachBytes<(m+1) * B) (hB:B≤b) (h:n * b≤reachBytes):n≤m:=by
 have h1:n * B≤n * b:=Nat.mul_le_mul_left _ hB;refine Nat.le_of_lt_succ (Nat.lt_of_not_le fun h2=>?_);have h3:(m+1) * B≤n * B:=Nat.mul_le_mul_right _ h2;exact absurd (Nat.le_trans h3 (Nat.le_trans h1 h)) (Nat.not_le.2 hm)
theorem guard_openT:∀ fuel cs x,DataW.trod enc Tryz.prog w base spare held fuel 81 cs=some x→cs.length=2→∃ p:Sp.Guard,GuardR w p cs∧(Light Tryz.prog 81 x.1→p.cubes.length≤8796093022208∧∀ s ∈ p.cubes,s.size≤9223372036854775807):=by
 intro fuel cs x h _;obtain⟨xs,n,_,hx,hl,hxl,hf⟩:=DataW.trod_struct Tryz.underlying81 h;have hcn:Tryz.prog.cellsOf 81=2:=by kernel_rfl
 have hc0:Tryz.prog.cellsOf 4=1:=by kernel_rfl
 have hc1:Tryz.prog.cellsOf 76=1:=by kernel_rfl
 rw [hcn] at hl
 match cs,hl,xs,hxl with
 | [c0,c1],_,[x0,x1],_=>
  have e0:DataW.trod enc Tryz.prog w base spare held n 4 (([c0,c1].drop 0).take (Tryz.prog.cellsOf 4))=some x0:=hf 0 _ rfl;rw [hc0] at e0;simp only [List.drop_zero,List.drop_succ_cons,List.take_succ_cons,List.take_zero] at e0;have e1:DataW.trod enc Tryz.prog w base spare held n 76 (([c0,c1].drop 1).take (Tryz.prog.cellsOf 76))=some x1:=hf 1 _ rfl;rw [hc1] at e1;simp only [List.drop_zero,List.drop_succ_cons,List.take_succ_cons,List.take_zero] at e1;obtain⟨v0,h0,_⟩:=DataW.trod_bool Tryz.underlying4 (x:=x0) e0;injection h0 with h0
  subst h0;obtain⟨A1,p1,v1,h1,q1,_,r1,_,z1⟩:=texts_open e1;injection h1 with h1
  subst h1;have L0:Light Tryz.prog 81 x.1→Light Tryz.prog 4 x0.1:=fun hL=>by rw [hx] at hL;exact light_field Tryz.underlying81 hL (j:=0) rfl rfl
  have L1:Light Tryz.prog 81 x.1→Light Tryz.prog 76 x1.1:=fun hL=>by rw [hx] at hL;exact light_field Tryz.underlying81 hL (j:=1) rfl rfl
  exact⟨⟨v0,v1⟩,⟨A1,p1,rfl,r1,q1⟩,fun hL=>⟨reach_lenB 16 8796093022208 (by unfold reachBytes;omega) (by have e:Tryz.prog.bytesOf 9=16:=(by kernel_rfl);omega) (z1 (L1 hL)).1,fun s hs=>reach_le ((z1 (L1 hL)).2 s hs)⟩⟩
theorem entry_openT:∀ fuel cs x,DataW.trod enc Tryz.prog w base spare held fuel 78 cs=some x→cs.length=5→∃ e:Sp.Entry,EntryR w e cs∧(Light Tryz.prog 78 x.1→e.name.size≤9223372036854775807∧e.write.size≤9223372036854775807∧e.ins.length≤17592186044416∧e.cubes.length≤8796093022208∧e.outs.length≤17592186044416∧∀ s ∈ e.cubes,s.size≤9223372036854775807):=by
 intro fuel cs x h _;obtain⟨xs,n,_,hx,hl,hxl,hf⟩:=DataW.trod_struct Tryz.underlying78 h;have hcn:Tryz.prog.cellsOf 78=5:=by kernel_rfl
 have hc0:Tryz.prog.cellsOf 9=1:=by kernel_rfl
 have hc1:Tryz.prog.cellsOf 42=1:=by kernel_rfl
 have hc2:Tryz.prog.cellsOf 76=1:=by kernel_rfl
 rw [hcn] at hl
 match cs,hl,xs,hxl with
 | [c0,c1,c2,c3,c4],_,[x0,x1,x2,x3,x4],_=>
  have e0:DataW.trod enc Tryz.prog w base spare held n 9 (([c0,c1,c2,c3,c4].drop 0).take (Tryz.prog.cellsOf 9))=some x0:=hf 0 _ rfl;rw [hc0] at e0;simp only [List.drop_zero,List.drop_succ_cons,List.take_succ_cons,List.take_zero] at e0;have e1:DataW.trod enc Tryz.prog w base spare held n 42 (([c0,c1,c2,c3,c4].drop 1).take (Tryz.prog.cellsOf 42))=some x1:=hf 1 _ rfl;rw [hc1] at e1;simp only [List.drop_zero,List.drop_succ_cons,List.take_succ_cons,List.take_zero] at e1;have e2:DataW.trod enc Tryz.prog w base spare held n 76 (([c0,c1,c2,c3,c4].drop 2).take (Tryz.prog.cellsOf 76))=some x2:=hf 2 _ rfl;rw [hc2] at e2;simp only [List.drop_zero,List.drop_succ_cons,List.take_succ_cons,List.take_zero] at e2;have e3:DataW.trod enc Tryz.prog w base spare held n 9 (([c0,c1,c2,c3,c4].drop 3).take (Tryz.prog.cellsOf 9))=some x3:=hf 3 _ rfl;rw [hc0] at e3;simp only [List.drop_zero,List.drop_succ_cons,List.take_succ_cons,List.take_zero] at e3;have e4:DataW.trod enc Tryz.prog w base spare held n 42 (([c0,c1,c2,c3,c4].drop 4).take (Tryz.prog.cellsOf 42))=some x4:=hf 4 _ rfl;rw [hc1] at e4;simp only [List.drop_zero,List.drop_succ_cons,List.take_succ_cons,List.take_zero] at e4;obtain⟨v0,h0,z0⟩:=string_open (enc:=enc) (base:=base) (spare:=spare) (held:=held) (w:=w) Tryz.underlying9 n _ x0 e0 rfl;injection h0 with h0
  subst h0;obtain⟨A1,p1,v1,h1,q1,_,r1,_,z1⟩:=ints_open e1;injection h1 with h1
  subst h1;obtain⟨A2,p2,v2,h2,q2,_,r2,_,z2⟩:=texts_open e2;injection h2 with h2
  subst h2;obtain⟨v3,h3,z3⟩:=string_open (enc:=enc) (base:=base) (spare:=spare) (held:=held) (w:=w) Tryz.underlying9 n _ x3 e3 rfl;injection h3 with h3
  subst h3;obtain⟨A4,p4,v4,h4,q4,_,r4,_,z4⟩:=ints_open e4;injection h4 with h4
  subst h4;have L0:Light Tryz.prog 78 x.1→Light Tryz.prog 9 x0.1:=fun hL=>by rw [hx] at hL;exact light_field Tryz.underlying78 hL (j:=0) rfl rfl
  have L1:Light Tryz.prog 78 x.1→Light Tryz.prog 42 x1.1:=fun hL=>by rw [hx] at hL;exact light_field Tryz.underlying78 hL (j:=1) rfl rfl
  have L2:Light Tryz.prog 78 x.1→Light Tryz.prog 76 x2.1:=fun hL=>by rw [hx] at hL;exact light_field Tryz.underlying78 hL (j:=2) rfl rfl
  have L3:Light Tryz.prog 78 x.1→Light Tryz.prog 9 x3.1:=fun hL=>by rw [hx] at hL;exact light_field Tryz.underlying78 hL (j:=3) rfl rfl
  have L4:Light Tryz.prog 78 x.1→Light Tryz.prog 42 x4.1:=fun hL=>by rw [hx] at hL;exact light_field Tryz.underlying78 hL (j:=4) rfl rfl
  have b8:Tryz.prog.bytesOf 3=8:=by kernel_rfl
  exact⟨⟨v0,v1,v2,v3,v4⟩,⟨A1,p1,A2,p2,A4,p4,rfl,r1,r2,r4,q1,q2,q4⟩,fun hL=>⟨reach_le (z0 (L0 hL)),reach_le (z3 (L3 hL)),reach_lenB 8 17592186044416 (by unfold reachBytes;omega) (by omega) (z1 (L1 hL)).1,reach_lenB 16 8796093022208 (by unfold reachBytes;omega) (by have e:Tryz.prog.bytesOf 9=16:=(by kernel_rfl);omega) (z2 (L2 hL)).1,reach_lenB 8 17592186044416 (by unfold reachBytes;omega) (by omega) (z4 (L4 hL)).1,fun s hs=>reach_le ((z2 (L2 hL)).2 s hs)⟩⟩
theorem ports_openT {fuel:Nat} {cs:List Value} {x:DataW H × List MemPlace} (h:DataW.trod enc Tryz.prog w base spare held fuel 22 cs=some x):
  ∃ (A:Option Addr) (cap:Nat) (al:List Sp.Port),cs=[.slice A al.length cap]∧al.length≤cap∧cap≤maxLen∧PV w A al∧(al=[]→A=none∨True)∧(Light Tryz.prog 22 x.1→al.length * Tryz.prog.bytesOf 74≤reachBytes∧∀ p ∈ al,p.name.size≤9223372036854775807):=
 slice_open Tryz.underlying22 (k:=4) (by kernel_rfl) (by decide) PortR _ port_open h
def SzGT (l:Sp.Guard):Prop:=l.cubes.length≤8796093022208∧∀ s ∈ l.cubes,s.size≤9223372036854775807
def SzET (e:Sp.Entry):Prop:=e.name.size≤9223372036854775807∧e.write.size≤9223372036854775807∧e.ins.length≤17592186044416∧e.cubes.length≤8796093022208∧e.outs.length≤17592186044416∧∀ s ∈ e.cubes,s.size≤9223372036854775807
theorem guard1_openT:∀ fuel cs x,DataW.trod enc Tryz.prog w base spare held fuel 70 cs=some x→cs.length=1→∃ a:List Sp.Guard,GuardsR w a cs∧(Light Tryz.prog 70 x.1→a.length≤4398046511104∧∀ l ∈ a,SzGT l):=by
 intro fuel cs x h _;obtain⟨A,cap,al,h1,h2,_,h3,_,h4⟩:=slice_open Tryz.underlying70 (k:=2) (by kernel_rfl) (by decide) GuardR SzGT guard_openT h;refine⟨al,⟨A,cap,h1,h3,h2⟩,fun hL=>⟨reach_lenB 32 4398046511104 (by unfold reachBytes;omega) (by have e:Tryz.prog.bytesOf 81=32:=(by kernel_rfl);omega) (h4 hL).1,(h4 hL).2⟩⟩
theorem table1_openT:∀ fuel cs x,DataW.trod enc Tryz.prog w base spare held fuel 68 cs=some x→cs.length=1→∃ a:List Sp.Entry,TableR w a cs∧(Light Tryz.prog 68 x.1→a.length≤1353245080300∧∀ e ∈ a,SzET e):=by
 intro fuel cs x h _;obtain⟨A,cap,al,h1,h2,_,h3,_,h4⟩:=slice_open Tryz.underlying68 (k:=5) (by kernel_rfl) (by decide) EntryR SzET entry_openT h;refine⟨al,⟨A,cap,h1,h3,h2⟩,fun hL=>⟨reach_lenB 104 1353245080300 (by unfold reachBytes;omega) (by have e:Tryz.prog.bytesOf 78=104:=(by kernel_rfl);omega) (h4 hL).1,(h4 hL).2⟩⟩
theorem guards_openT {fuel:Nat} {cs:List Value} {x:DataW H × List MemPlace} (h:DataW.trod enc Tryz.prog w base spare held fuel 24 cs=some x):
  ∃ (A:Option Addr) (cap:Nat) (al:List (List Sp.Guard)),cs=[.slice A al.length cap]∧al.length≤cap∧cap≤maxLen∧GGV w A al∧(al=[]→A=none∨True)∧(Light Tryz.prog 24 x.1→al.length * Tryz.prog.bytesOf 70≤reachBytes∧∀ g ∈ al,g.length≤4398046511104∧∀ l ∈ g,SzGT l):=
 slice_open Tryz.underlying24 (k:=1) (by kernel_rfl) (by decide) GuardsR _ guard1_openT h
theorem tables_openT {fuel:Nat} {cs:List Value} {x:DataW H × List MemPlace} (h:DataW.trod enc Tryz.prog w base spare held fuel 23 cs=some x):
  ∃ (A:Option Addr) (cap:Nat) (al:List (List Sp.Entry)),cs=[.slice A al.length cap]∧al.length≤cap∧cap≤maxLen∧TTV w A al∧(al=[]→A=none∨True)∧(Light Tryz.prog 23 x.1→al.length * Tryz.prog.bytesOf 68≤reachBytes∧∀ t ∈ al,t.length≤1353245080300∧∀ e ∈ t,SzET e):=
 slice_open Tryz.underlying23 (k:=1) (by kernel_rfl) (by decide) TableR _ table1_openT h
theorem net_openT:∀ fuel cs x,DataW.trod enc Tryz.prog w base spare held fuel 26 cs=some x→cs.length=4→∃ (n:Sp.Net) (A1 A2 A3:Option Addr) (k1 k2 k3:Nat),cs=[.int .i64 n.bits,.slice A1 n.ports.length k1,.slice A2 n.tables.length k2,.slice A3 n.guards.length k3]∧NetR w n cs∧(Light Tryz.prog 26 x.1→Sp.SzdT n):=by
 intro fuel cs x h _;obtain⟨xs,n,_,hx,hl,hxl,hf⟩:=DataW.trod_struct Tryz.underlying26 h;have hcn:Tryz.prog.cellsOf 26=4:=by kernel_rfl
 have hc0:Tryz.prog.cellsOf 3=1:=by kernel_rfl
 have hc1:Tryz.prog.cellsOf 22=1:=by kernel_rfl
 have hc2:Tryz.prog.cellsOf 23=1:=by kernel_rfl
 have hc3:Tryz.prog.cellsOf 24=1:=by kernel_rfl
 rw [hcn] at hl
 match cs,hl,xs,hxl with
 | [c0,c1,c2,c3],_,[x0,x1,x2,x3],_=>
  have e0:DataW.trod enc Tryz.prog w base spare held n 3 (([c0,c1,c2,c3].drop 0).take (Tryz.prog.cellsOf 3))=some x0:=hf 0 _ rfl;rw [hc0] at e0;simp only [List.drop_zero,List.drop_succ_cons,List.take_succ_cons,List.take_zero] at e0;have e1:DataW.trod enc Tryz.prog w base spare held n 22 (([c0,c1,c2,c3].drop 1).take (Tryz.prog.cellsOf 22))=some x1:=hf 1 _ rfl;rw [hc1] at e1;simp only [List.drop_zero,List.drop_succ_cons,List.take_succ_cons,List.take_zero] at e1;have e2:DataW.trod enc Tryz.prog w base spare held n 23 (([c0,c1,c2,c3].drop 2).take (Tryz.prog.cellsOf 23))=some x2:=hf 2 _ rfl;rw [hc2] at e2;simp only [List.drop_zero,List.drop_succ_cons,List.take_succ_cons,List.take_zero] at e2;have e3:DataW.trod enc Tryz.prog w base spare held n 24 (([c0,c1,c2,c3].drop 3).take (Tryz.prog.cellsOf 24))=some x3:=hf 3 _ rfl;rw [hc3] at e3;simp only [List.drop_zero,List.drop_succ_cons,List.take_succ_cons,List.take_zero] at e3;obtain⟨v0,h0,_⟩:=DataW.trod_int Tryz.underlying3 (x:=x0) e0;injection h0 with h0
  subst h0;obtain⟨A1,p1,v1,h1,q1,_,r1,_,z1⟩:=ports_openT e1;injection h1 with h1
  subst h1;obtain⟨A2,p2,v2,h2,q2,_,r2,_,z2⟩:=tables_openT e2;injection h2 with h2
  subst h2;obtain⟨A3,p3,v3,h3,q3,_,r3,_,z3⟩:=guards_openT e3;injection h3 with h3
  subst h3;have L0:Light Tryz.prog 26 x.1→Light Tryz.prog 3 x0.1:=fun hL=>by rw [hx] at hL;exact light_field Tryz.underlying26 hL (j:=0) rfl rfl
  have L1:Light Tryz.prog 26 x.1→Light Tryz.prog 22 x1.1:=fun hL=>by rw [hx] at hL;exact light_field Tryz.underlying26 hL (j:=1) rfl rfl
  have L2:Light Tryz.prog 26 x.1→Light Tryz.prog 23 x2.1:=fun hL=>by rw [hx] at hL;exact light_field Tryz.underlying26 hL (j:=2) rfl rfl
  have L3:Light Tryz.prog 26 x.1→Light Tryz.prog 24 x3.1:=fun hL=>by rw [hx] at hL;exact light_field Tryz.underlying26 hL (j:=3) rfl rfl
  exact⟨⟨v0,v1,v2,v3⟩,A1,A2,A3,p1,p2,p3,rfl,⟨A1,p1,A2,p2,A3,p3,rfl,r1,r2,r3,q1,q2,q3⟩,fun hL=>
   ⟨reach_lenB 40 3518437208780 (by unfold reachBytes;omega) (by have e:Tryz.prog.bytesOf 74=40:=(by kernel_rfl);omega) (z1 (L1 hL)).1,reach_lenB 24 5864062014634 (by unfold reachBytes;omega) (by have e:Tryz.prog.bytesOf 68=24:=(by kernel_rfl);omega) (z2 (L2 hL)).1,reach_lenB 24 5864062014634 (by unfold reachBytes;omega) (by have e:Tryz.prog.bytesOf 70=24:=(by kernel_rfl);omega) (z3 (L3 hL)).1,
    (z1 (L1 hL)).2,(z3 (L3 hL)).2,(z2 (L2 hL)).2⟩⟩
end
end Go.Proofs.YthnamoedpnknmaaGreatDoor
