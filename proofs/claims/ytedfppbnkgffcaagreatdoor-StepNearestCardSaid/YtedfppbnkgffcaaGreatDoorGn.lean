/-
  Texts joined: Gm Gn.
-/
import Derived.Test.YtedfppbnkgffcaaGreatDoorMa
import Derived.Test.YtedfppbnkgffcaaGreatDoorYa
import Derived.OpenShut
import Derived.Test.YtedfppbnkgffcaaGreatDoorMj
import Derived.Carry
import Derived.ChangeArms
import Derived.Deep.Slices
import Derived.SizedLaws
set_option linter.unusedVariables false
set_option linter.unusedSimpArgs false
set_option maxRecDepth 100000
set_option maxHeartbeats 8000000
namespace Go.Proofs.YtedfppbnkgffcaaGreatDoor
open Go.ChangeShapes Go.WideShapes Go.ChangeAt Go.RowKit
/-- A variable that is an array of strings. -/
theorem strings_var {W:World} {name:String} {l:List (List UInt8)} {g t e:Nat} (hg:Tryz.prog.globalNamed name=some g) (hty:(Tryz.prog.globals[g]?).map (·.type)=some t) (ht:Tryz.prog.underlying t=some (.array l.length e)) (he:Tryz.prog.underlying e=some .string) (hc:Tryz.prog.cellsOf e=1) (hct:Tryz.prog.cellsOf t=l.length)
  (h:Lib.VarReads Tryz.prog W name (.agg (l.map fun b=>.lit (.string b)))):∃ ty fr,W.heap[g]?=some (.cells (l.map fun b=>Value.string ⟨b.toArray⟩).toArray ty fr):=by
 obtain⟨g',t',cs,fuel,p,h1,h2,h3,h4⟩:=h;obtain rfl:=Option.some.inj (hg.symm.trans h1);obtain rfl:=Option.some.inj (hty.symm.trans h2);obtain⟨xs,m,_,hx,hlen,hxl,hel⟩:=DataW.trod_array ht h4
 have hcs:cs.toList=l.map fun b=>Value.string ⟨b.toArray⟩:=by
  apply List.ext_getElem?;intro i;rcases Nat.lt_or_ge i l.length with hi | hi
  ·have hb:=hel i hi;rw [hc,Nat.mul_one] at hb;(have hix:i<xs.length:=by omega);(have hic:i<cs.toList.length:=by omega);rw [List.getElem?_eq_getElem hix] at hb;obtain⟨s,hs1,hs2,_⟩:=DataW.trod_string he hb
   have hd:(cs.toList.drop i).take 1=[cs.toList[i]'hic]:=by
    rw [List.drop_eq_getElem_cons hic];rfl
   rw [hd] at hs1;have hs1':cs.toList[i]'hic=.string s:=by injection hs1
   have hd2:(xs.map (·.1))[i]?=((l.map fun b=>DataW.lit (.string b)):List (DataW Unit))[i]?:=by
    have:=congrArg Prod.fst hx;(injection this with this);rw [this]
   rw [List.getElem?_map,List.getElem?_map,List.getElem?_eq_getElem hix,List.getElem?_eq_getElem hi,hs2] at hd2;simp only [Option.map_some,Option.some.injEq] at hd2;(injection hd2 with hd2);(injection hd2 with hd2);rw [List.getElem?_map,List.getElem?_eq_getElem hic,List.getElem?_eq_getElem hi,hs1',← hd2];rfl
  ·rw [List.getElem?_eq_none (by omega),List.getElem?_eq_none (by rw [List.length_map];exact hi)]
 unfold World.var? at h3;rw [hg] at h3;simp only [Option.bind_some] at h3;split at h3
 ·rename_i cs' ty fr hh;injection h3 with h3
  refine⟨ty,fr,?_⟩;rw [hh,h3];congr 2;apply Array.toList_inj.1;rw [hcs]
 ·cases h3
theorem signs_eq:(Rows.laid_reach_scan_signs:DataW Unit)=.agg (SIGNL.map fun b=>.lit (.string b)):=rfl
theorem gs_of {laid:List (String × DataW Unit)} {W:World} (hL:laidMetH Tryz.prog laid W) (hp:(laid.all fun x=>x.2.handleName?.isNone)=true) (hsh:W.ShapedOpen Tryz.prog)
  (m1 : ("unicode/utf8.first", Rows.laid_unicode_utf8_first) ∈ laid) (m2 : ("unicode/utf8.acceptRanges", Rows.laid_unicode_utf8_acceptRanges) ∈ laid)
  (m3 : ("strconv.ErrSyntax", Rows.laid_strconv_ErrSyntax) ∈ laid) (m4 : ("strconv.ErrRange", Rows.laid_strconv_ErrRange) ∈ laid) (m5 : ("reach/scan.signs", Rows.laid_reach_scan_signs) ∈ laid) : Gs W := by
 have hG:=gl_of hL hp hsh m1 m2 m3 m4;rw [MakeChecks.laidMetH_plain _ _ _ hp] at hL;have r:=Lib.laidMet.reads hL m5;rw [signs_eq] at r;exact { toGl:=hG,signs:=strings_var (l:=SIGNL) (t:=190) (e:=9) (by kernel_rfl) (by kernel_rfl) Tryz.underlying190 Tryz.underlying9 (by kernel_rfl) (by kernel_rfl) r }
open Go.ChangeShapes Go.WideShapes Go.ChangeAt Go.RowKit
section
variable {H:Type} {enc:TypeId × Value→H} {w:World} {base:Nat} {spare:Nat→Bool} {held:Bool}
theorem light_field {P:Program} {t:TypeId} {fs:Array Field} (hu:P.underlying t=some (.struct fs)) {parts:List (DataW H)} (h:Light P t (.agg parts)) {j:Nat} {tj:TypeId} {d:DataW H} (ht:(fs.toList.map (·.type))[j]?=some tj) (hd:parts[j]?=some d):Light P tj d:=fun n hn=>h n (by
 rw [DataW.weights,hu]
 exact DataW.weights_mem_each ht hd n hn)
theorem reach_le {n:Nat} (h:n≤reachBytes):n≤9223372036854775807:=by unfold reachBytes at h;omega
theorem reach_len {n b:Nat} (hb:1≤b) (h:n * b≤reachBytes):n≤4611686018427387904:=by
 have:n * 1≤n * b:=Nat.mul_le_mul_left _ hb;unfold reachBytes at h;omega
theorem ints_open {fuel:Nat} {cs:List Value} {x:DataW H × List MemPlace} (h:DataW.trod enc Tryz.prog w base spare held fuel 29 cs=some x):
  ∃ (A:Option Addr) (cap:Nat) (al:List Int),cs=[.slice A al.length cap]∧al.length≤cap∧cap≤maxLen∧IV w A al∧(al=[]→A=none∨True)∧(Light Tryz.prog 29 x.1→al.length * Tryz.prog.bytesOf 3≤reachBytes∧∀ a ∈ al,True):=
 slice_open Tryz.underlying29 (k:=1) (by kernel_rfl) (by decide) IntR (fun _=>True) (fun fuel cs x h _=>by
  obtain⟨k,hk,_⟩:=DataW.trod_int Tryz.underlying3 (x:=x) h
  exact⟨k,hk,fun _=>trivial⟩) h
theorem texts_open {fuel:Nat} {cs:List Value} {x:DataW H × List MemPlace} (h:DataW.trod enc Tryz.prog w base spare held fuel 92 cs=some x):
  ∃ (A:Option Addr) (cap:Nat) (al:List ByteArray),cs=[.slice A al.length cap]∧al.length≤cap∧cap≤maxLen∧SV w A al∧(al=[]→A=none∨True)∧(Light Tryz.prog 92 x.1→al.length * Tryz.prog.bytesOf 9≤reachBytes∧∀ a ∈ al,a.size≤reachBytes):=
 slice_open Tryz.underlying92 (k:=1) (by kernel_rfl) (by decide) StrR (fun s=>s.size≤reachBytes) (fun fuel cs x h hl=>string_open Tryz.underlying9 fuel cs x h hl) h
theorem port_open:∀ fuel cs x,DataW.trod enc Tryz.prog w base spare held fuel 85 cs=some x→cs.length=4→∃ p:Sp.Port,PortR w p cs∧(Light Tryz.prog 85 x.1→p.name.size≤9223372036854775807):=by
 intro fuel cs x h _;obtain⟨xs,n,_,hx,hl,hxl,hf⟩:=DataW.trod_struct Tryz.underlying85 h;have hcn:Tryz.prog.cellsOf 85=4:=by kernel_rfl
 have hc0:Tryz.prog.cellsOf 9=1:=by kernel_rfl
 have hc1:Tryz.prog.cellsOf 3=1:=by kernel_rfl
 have hc2:Tryz.prog.cellsOf 4=1:=by kernel_rfl
 rw [hcn] at hl
 match cs,hl,xs,hxl with
 | [c0,c1,c2,c3],_,[x0,x1,x2,x3],_=>
  have e0:DataW.trod enc Tryz.prog w base spare held n 9 (([c0,c1,c2,c3].drop 0).take (Tryz.prog.cellsOf 9))=some x0:=hf 0 _ rfl;rw [hc0] at e0;simp only [List.drop_zero,List.drop_succ_cons,List.take_succ_cons,List.take_zero] at e0;have e1:DataW.trod enc Tryz.prog w base spare held n 3 (([c0,c1,c2,c3].drop 1).take (Tryz.prog.cellsOf 3))=some x1:=hf 1 _ rfl;rw [hc1] at e1;simp only [List.drop_zero,List.drop_succ_cons,List.take_succ_cons,List.take_zero] at e1;have e2:DataW.trod enc Tryz.prog w base spare held n 4 (([c0,c1,c2,c3].drop 2).take (Tryz.prog.cellsOf 4))=some x2:=hf 2 _ rfl;rw [hc2] at e2;simp only [List.drop_zero,List.drop_succ_cons,List.take_succ_cons,List.take_zero] at e2;have e3:DataW.trod enc Tryz.prog w base spare held n 3 (([c0,c1,c2,c3].drop 3).take (Tryz.prog.cellsOf 3))=some x3:=hf 3 _ rfl;rw [hc1] at e3;simp only [List.drop_zero,List.drop_succ_cons,List.take_succ_cons,List.take_zero] at e3;obtain⟨v0,h0,z0⟩:=string_open (enc:=enc) (base:=base) (spare:=spare) (held:=held) (w:=w) Tryz.underlying9 n _ x0 e0 rfl;injection h0 with h0
  subst h0;obtain⟨v1,h1,_⟩:=DataW.trod_int Tryz.underlying3 (x:=x1) e1;injection h1 with h1
  subst h1;obtain⟨v2,h2,_⟩:=DataW.trod_bool Tryz.underlying4 (x:=x2) e2;injection h2 with h2
  subst h2;obtain⟨v3,h3,_⟩:=DataW.trod_int Tryz.underlying3 (x:=x3) e3;injection h3 with h3
  subst h3;have L0:Light Tryz.prog 85 x.1→Light Tryz.prog 9 x0.1:=fun hL=>by rw [hx] at hL;exact light_field Tryz.underlying85 hL (j:=0) rfl rfl
  have L1:Light Tryz.prog 85 x.1→Light Tryz.prog 3 x1.1:=fun hL=>by rw [hx] at hL;exact light_field Tryz.underlying85 hL (j:=1) rfl rfl
  have L2:Light Tryz.prog 85 x.1→Light Tryz.prog 4 x2.1:=fun hL=>by rw [hx] at hL;exact light_field Tryz.underlying85 hL (j:=2) rfl rfl
  have L3:Light Tryz.prog 85 x.1→Light Tryz.prog 3 x3.1:=fun hL=>by rw [hx] at hL;exact light_field Tryz.underlying85 hL (j:=3) rfl rfl
  exact⟨⟨v0,v1,v2,v3⟩,rfl,fun hL=>reach_le (z0 (L0 hL))⟩
theorem guard_open:∀ fuel cs x,DataW.trod enc Tryz.prog w base spare held fuel 96 cs=some x→cs.length=2→∃ p:Sp.Guard,GuardR w p cs∧(Light Tryz.prog 96 x.1→p.cubes.length≤4611686018427387904∧∀ s ∈ p.cubes,s.size≤9223372036854775807):=by
 intro fuel cs x h _;obtain⟨xs,n,_,hx,hl,hxl,hf⟩:=DataW.trod_struct Tryz.underlying96 h;have hcn:Tryz.prog.cellsOf 96=2:=by kernel_rfl
 have hc0:Tryz.prog.cellsOf 4=1:=by kernel_rfl
 have hc1:Tryz.prog.cellsOf 92=1:=by kernel_rfl
 rw [hcn] at hl
 match cs,hl,xs,hxl with
 | [c0,c1],_,[x0,x1],_=>
  have e0:DataW.trod enc Tryz.prog w base spare held n 4 (([c0,c1].drop 0).take (Tryz.prog.cellsOf 4))=some x0:=hf 0 _ rfl;rw [hc0] at e0;simp only [List.drop_zero,List.drop_succ_cons,List.take_succ_cons,List.take_zero] at e0;have e1:DataW.trod enc Tryz.prog w base spare held n 92 (([c0,c1].drop 1).take (Tryz.prog.cellsOf 92))=some x1:=hf 1 _ rfl;rw [hc1] at e1;simp only [List.drop_zero,List.drop_succ_cons,List.take_succ_cons,List.take_zero] at e1;obtain⟨v0,h0,_⟩:=DataW.trod_bool Tryz.underlying4 (x:=x0) e0;injection h0 with h0
  subst h0;obtain⟨A1,p1,v1,h1,q1,_,r1,_,z1⟩:=texts_open e1;injection h1 with h1
  subst h1;have L0:Light Tryz.prog 96 x.1→Light Tryz.prog 4 x0.1:=fun hL=>by rw [hx] at hL;exact light_field Tryz.underlying96 hL (j:=0) rfl rfl
  have L1:Light Tryz.prog 96 x.1→Light Tryz.prog 92 x1.1:=fun hL=>by rw [hx] at hL;exact light_field Tryz.underlying96 hL (j:=1) rfl rfl
  exact⟨⟨v0,v1⟩,⟨A1,p1,rfl,r1,q1⟩,fun hL=>⟨reach_len (by rw [show Tryz.prog.bytesOf 9=16 by kernel_rfl];omega) (z1 (L1 hL)).1,fun s hs=>reach_le ((z1 (L1 hL)).2 s hs)⟩⟩
theorem entry_open:∀ fuel cs x,DataW.trod enc Tryz.prog w base spare held fuel 94 cs=some x→cs.length=5→∃ e:Sp.Entry,EntryR w e cs∧(Light Tryz.prog 94 x.1→e.name.size≤9223372036854775807∧e.write.size≤9223372036854775807∧e.ins.length≤4611686018427387904∧e.cubes.length≤4611686018427387904∧e.outs.length≤4611686018427387904∧∀ s ∈ e.cubes,s.size≤9223372036854775807):=by
 intro fuel cs x h _;obtain⟨xs,n,_,hx,hl,hxl,hf⟩:=DataW.trod_struct Tryz.underlying94 h;have hcn:Tryz.prog.cellsOf 94=5:=by kernel_rfl
 have hc0:Tryz.prog.cellsOf 9=1:=by kernel_rfl
 have hc1:Tryz.prog.cellsOf 29=1:=by kernel_rfl
 have hc2:Tryz.prog.cellsOf 92=1:=by kernel_rfl
 rw [hcn] at hl
 match cs,hl,xs,hxl with
 | [c0,c1,c2,c3,c4],_,[x0,x1,x2,x3,x4],_=>
  have e0:DataW.trod enc Tryz.prog w base spare held n 9 (([c0,c1,c2,c3,c4].drop 0).take (Tryz.prog.cellsOf 9))=some x0:=hf 0 _ rfl;rw [hc0] at e0;simp only [List.drop_zero,List.drop_succ_cons,List.take_succ_cons,List.take_zero] at e0;have e1:DataW.trod enc Tryz.prog w base spare held n 29 (([c0,c1,c2,c3,c4].drop 1).take (Tryz.prog.cellsOf 29))=some x1:=hf 1 _ rfl;rw [hc1] at e1;simp only [List.drop_zero,List.drop_succ_cons,List.take_succ_cons,List.take_zero] at e1;have e2:DataW.trod enc Tryz.prog w base spare held n 92 (([c0,c1,c2,c3,c4].drop 2).take (Tryz.prog.cellsOf 92))=some x2:=hf 2 _ rfl;rw [hc2] at e2;simp only [List.drop_zero,List.drop_succ_cons,List.take_succ_cons,List.take_zero] at e2;have e3:DataW.trod enc Tryz.prog w base spare held n 9 (([c0,c1,c2,c3,c4].drop 3).take (Tryz.prog.cellsOf 9))=some x3:=hf 3 _ rfl;rw [hc0] at e3;simp only [List.drop_zero,List.drop_succ_cons,List.take_succ_cons,List.take_zero] at e3;have e4:DataW.trod enc Tryz.prog w base spare held n 29 (([c0,c1,c2,c3,c4].drop 4).take (Tryz.prog.cellsOf 29))=some x4:=hf 4 _ rfl;rw [hc1] at e4;simp only [List.drop_zero,List.drop_succ_cons,List.take_succ_cons,List.take_zero] at e4;obtain⟨v0,h0,z0⟩:=string_open (enc:=enc) (base:=base) (spare:=spare) (held:=held) (w:=w) Tryz.underlying9 n _ x0 e0 rfl;injection h0 with h0
  subst h0;obtain⟨A1,p1,v1,h1,q1,_,r1,_,z1⟩:=ints_open e1;injection h1 with h1
  subst h1;obtain⟨A2,p2,v2,h2,q2,_,r2,_,z2⟩:=texts_open e2;injection h2 with h2
  subst h2;obtain⟨v3,h3,z3⟩:=string_open (enc:=enc) (base:=base) (spare:=spare) (held:=held) (w:=w) Tryz.underlying9 n _ x3 e3 rfl;injection h3 with h3
  subst h3;obtain⟨A4,p4,v4,h4,q4,_,r4,_,z4⟩:=ints_open e4;injection h4 with h4
  subst h4;have L0:Light Tryz.prog 94 x.1→Light Tryz.prog 9 x0.1:=fun hL=>by rw [hx] at hL;exact light_field Tryz.underlying94 hL (j:=0) rfl rfl
  have L1:Light Tryz.prog 94 x.1→Light Tryz.prog 29 x1.1:=fun hL=>by rw [hx] at hL;exact light_field Tryz.underlying94 hL (j:=1) rfl rfl
  have L2:Light Tryz.prog 94 x.1→Light Tryz.prog 92 x2.1:=fun hL=>by rw [hx] at hL;exact light_field Tryz.underlying94 hL (j:=2) rfl rfl
  have L3:Light Tryz.prog 94 x.1→Light Tryz.prog 9 x3.1:=fun hL=>by rw [hx] at hL;exact light_field Tryz.underlying94 hL (j:=3) rfl rfl
  have L4:Light Tryz.prog 94 x.1→Light Tryz.prog 29 x4.1:=fun hL=>by rw [hx] at hL;exact light_field Tryz.underlying94 hL (j:=4) rfl rfl
  have b8:Tryz.prog.bytesOf 3=8:=by kernel_rfl
  exact⟨⟨v0,v1,v2,v3,v4⟩,⟨A1,p1,A2,p2,A4,p4,rfl,r1,r2,r4,q1,q2,q4⟩,fun hL=>⟨reach_le (z0 (L0 hL)),reach_le (z3 (L3 hL)),reach_len (by rw [b8];omega) (z1 (L1 hL)).1,reach_len (by rw [show Tryz.prog.bytesOf 9=16 by kernel_rfl];omega) (z2 (L2 hL)).1,reach_len (by rw [b8];omega) (z4 (L4 hL)).1,fun s hs=>reach_le ((z2 (L2 hL)).2 s hs)⟩⟩
theorem ports_open {fuel:Nat} {cs:List Value} {x:DataW H × List MemPlace} (h:DataW.trod enc Tryz.prog w base spare held fuel 22 cs=some x):
  ∃ (A:Option Addr) (cap:Nat) (al:List Sp.Port),cs=[.slice A al.length cap]∧al.length≤cap∧cap≤maxLen∧PV w A al∧(al=[]→A=none∨True)∧(Light Tryz.prog 22 x.1→al.length * Tryz.prog.bytesOf 85≤reachBytes∧∀ p ∈ al,p.name.size≤9223372036854775807):=
 slice_open Tryz.underlying22 (k:=4) (by kernel_rfl) (by decide) PortR _ port_open h
def SzG (l:Sp.Guard):Prop:=l.cubes.length≤4611686018427387904∧∀ s ∈ l.cubes,s.size≤9223372036854775807
def SzE (e:Sp.Entry):Prop:=e.name.size≤9223372036854775807∧e.write.size≤9223372036854775807∧e.ins.length≤4611686018427387904∧e.cubes.length≤4611686018427387904∧e.outs.length≤4611686018427387904∧∀ s ∈ e.cubes,s.size≤9223372036854775807
theorem guard1_open:∀ fuel cs x,DataW.trod enc Tryz.prog w base spare held fuel 65 cs=some x→cs.length=1→∃ a:List Sp.Guard,GuardsR w a cs∧(Light Tryz.prog 65 x.1→a.length≤4611686018427387904∧∀ l ∈ a,SzG l):=by
 intro fuel cs x h _;obtain⟨A,cap,al,h1,h2,_,h3,_,h4⟩:=slice_open Tryz.underlying65 (k:=2) (by kernel_rfl) (by decide) GuardR SzG guard_open h;refine⟨al,⟨A,cap,h1,h3,h2⟩,fun hL=>⟨reach_len ?_ (h4 hL).1,(h4 hL).2⟩⟩;rw [show Tryz.prog.bytesOf 96=32 by kernel_rfl];omega
theorem table1_open:∀ fuel cs x,DataW.trod enc Tryz.prog w base spare held fuel 63 cs=some x→cs.length=1→∃ a:List Sp.Entry,TableR w a cs∧(Light Tryz.prog 63 x.1→a.length≤4611686018427387904∧∀ e ∈ a,SzE e):=by
 intro fuel cs x h _;obtain⟨A,cap,al,h1,h2,_,h3,_,h4⟩:=slice_open Tryz.underlying63 (k:=5) (by kernel_rfl) (by decide) EntryR SzE entry_open h;refine⟨al,⟨A,cap,h1,h3,h2⟩,fun hL=>⟨reach_len ?_ (h4 hL).1,(h4 hL).2⟩⟩;rw [show Tryz.prog.bytesOf 94=104 by kernel_rfl];omega
theorem guards_open {fuel:Nat} {cs:List Value} {x:DataW H × List MemPlace} (h:DataW.trod enc Tryz.prog w base spare held fuel 24 cs=some x):
  ∃ (A:Option Addr) (cap:Nat) (al:List (List Sp.Guard)),cs=[.slice A al.length cap]∧al.length≤cap∧cap≤maxLen∧GGV w A al∧(al=[]→A=none∨True)∧(Light Tryz.prog 24 x.1→al.length * Tryz.prog.bytesOf 65≤reachBytes∧∀ g ∈ al,g.length≤4611686018427387904∧∀ l ∈ g,SzG l):=
 slice_open Tryz.underlying24 (k:=1) (by kernel_rfl) (by decide) GuardsR _ guard1_open h
theorem tables_open {fuel:Nat} {cs:List Value} {x:DataW H × List MemPlace} (h:DataW.trod enc Tryz.prog w base spare held fuel 23 cs=some x):
  ∃ (A:Option Addr) (cap:Nat) (al:List (List Sp.Entry)),cs=[.slice A al.length cap]∧al.length≤cap∧cap≤maxLen∧TTV w A al∧(al=[]→A=none∨True)∧(Light Tryz.prog 23 x.1→al.length * Tryz.prog.bytesOf 63≤reachBytes∧∀ t ∈ al,t.length≤4611686018427387904∧∀ e ∈ t,SzE e):=
 slice_open Tryz.underlying23 (k:=1) (by kernel_rfl) (by decide) TableR _ table1_open h
theorem net_open:∀ fuel cs x,DataW.trod enc Tryz.prog w base spare held fuel 26 cs=some x→cs.length=4→∃ (n:Sp.Net) (A1 A2 A3:Option Addr) (k1 k2 k3:Nat),cs=[.int .i64 n.bits,.slice A1 n.ports.length k1,.slice A2 n.tables.length k2,.slice A3 n.guards.length k3]∧NetR w n cs∧(Light Tryz.prog 26 x.1→Sp.Szd n):=by
 intro fuel cs x h _;obtain⟨xs,n,_,hx,hl,hxl,hf⟩:=DataW.trod_struct Tryz.underlying26 h;have hcn:Tryz.prog.cellsOf 26=4:=by kernel_rfl
 have hc0:Tryz.prog.cellsOf 3=1:=by kernel_rfl
 have hc1:Tryz.prog.cellsOf 22=1:=by kernel_rfl
 have hc2:Tryz.prog.cellsOf 23=1:=by kernel_rfl
 have hc3:Tryz.prog.cellsOf 24=1:=by kernel_rfl
 rw [hcn] at hl
 match cs,hl,xs,hxl with
 | [c0,c1,c2,c3],_,[x0,x1,x2,x3],_=>
  have e0:DataW.trod enc Tryz.prog w base spare held n 3 (([c0,c1,c2,c3].drop 0).take (Tryz.prog.cellsOf 3))=some x0:=hf 0 _ rfl;rw [hc0] at e0;simp only [List.drop_zero,List.drop_succ_cons,List.take_succ_cons,List.take_zero] at e0;have e1:DataW.trod enc Tryz.prog w base spare held n 22 (([c0,c1,c2,c3].drop 1).take (Tryz.prog.cellsOf 22))=some x1:=hf 1 _ rfl;rw [hc1] at e1;simp only [List.drop_zero,List.drop_succ_cons,List.take_succ_cons,List.take_zero] at e1;have e2:DataW.trod enc Tryz.prog w base spare held n 23 (([c0,c1,c2,c3].drop 2).take (Tryz.prog.cellsOf 23))=some x2:=hf 2 _ rfl;rw [hc2] at e2;simp only [List.drop_zero,List.drop_succ_cons,List.take_succ_cons,List.take_zero] at e2;have e3:DataW.trod enc Tryz.prog w base spare held n 24 (([c0,c1,c2,c3].drop 3).take (Tryz.prog.cellsOf 24))=some x3:=hf 3 _ rfl;rw [hc3] at e3;simp only [List.drop_zero,List.drop_succ_cons,List.take_succ_cons,List.take_zero] at e3;obtain⟨v0,h0,_⟩:=DataW.trod_int Tryz.underlying3 (x:=x0) e0;injection h0 with h0
  subst h0;obtain⟨A1,p1,v1,h1,q1,_,r1,_,z1⟩:=ports_open e1;injection h1 with h1
  subst h1;obtain⟨A2,p2,v2,h2,q2,_,r2,_,z2⟩:=tables_open e2;injection h2 with h2
  subst h2;obtain⟨A3,p3,v3,h3,q3,_,r3,_,z3⟩:=guards_open e3;injection h3 with h3
  subst h3;have L0:Light Tryz.prog 26 x.1→Light Tryz.prog 3 x0.1:=fun hL=>by rw [hx] at hL;exact light_field Tryz.underlying26 hL (j:=0) rfl rfl
  have L1:Light Tryz.prog 26 x.1→Light Tryz.prog 22 x1.1:=fun hL=>by rw [hx] at hL;exact light_field Tryz.underlying26 hL (j:=1) rfl rfl
  have L2:Light Tryz.prog 26 x.1→Light Tryz.prog 23 x2.1:=fun hL=>by rw [hx] at hL;exact light_field Tryz.underlying26 hL (j:=2) rfl rfl
  have L3:Light Tryz.prog 26 x.1→Light Tryz.prog 24 x3.1:=fun hL=>by rw [hx] at hL;exact light_field Tryz.underlying26 hL (j:=3) rfl rfl
  exact⟨⟨v0,v1,v2,v3⟩,A1,A2,A3,p1,p2,p3,rfl,⟨A1,p1,A2,p2,A3,p3,rfl,r1,r2,r3,q1,q2,q3⟩,fun hL=>
   ⟨reach_len (by rw [show Tryz.prog.bytesOf 85=40 by kernel_rfl];omega) (z1 (L1 hL)).1,reach_len (by rw [show Tryz.prog.bytesOf 63=24 by kernel_rfl];omega) (z2 (L2 hL)).1,reach_len (by rw [show Tryz.prog.bytesOf 65=24 by kernel_rfl];omega) (z3 (L3 hL)).1,
    (z1 (L1 hL)).2,(z3 (L3 hL)).2,(z2 (L2 hL)).2⟩⟩
theorem state_open:∀ fuel cs x,DataW.trod enc Tryz.prog w base spare held fuel 28 cs=some x→cs.length=2→∃ (p:Int) (h:ByteArray),cs=[.int .i64 p,.string h]∧(Light Tryz.prog 28 x.1→h.size≤reachBytes):=by
 intro fuel cs x h _;obtain⟨xs,n,_,hx,hl,hxl,hf⟩:=DataW.trod_struct Tryz.underlying28 h;have hcn:Tryz.prog.cellsOf 28=2:=by kernel_rfl
 have hc0:Tryz.prog.cellsOf 3=1:=by kernel_rfl
 have hc1:Tryz.prog.cellsOf 9=1:=by kernel_rfl
 rw [hcn] at hl
 match cs,hl,xs,hxl with
 | [c0,c1],_,[x0,x1],_=>
  have e0:DataW.trod enc Tryz.prog w base spare held n 3 (([c0,c1].drop 0).take (Tryz.prog.cellsOf 3))=some x0:=hf 0 _ rfl;rw [hc0] at e0;simp only [List.drop_zero,List.drop_succ_cons,List.take_succ_cons,List.take_zero] at e0;have e1:DataW.trod enc Tryz.prog w base spare held n 9 (([c0,c1].drop 1).take (Tryz.prog.cellsOf 9))=some x1:=hf 1 _ rfl;rw [hc1] at e1;simp only [List.drop_zero,List.drop_succ_cons,List.take_succ_cons,List.take_zero] at e1;obtain⟨v0,h0,_⟩:=DataW.trod_int Tryz.underlying3 (x:=x0) e0;injection h0 with h0
  subst h0;obtain⟨v1,h1,z1⟩:=string_open (enc:=enc) (base:=base) (spare:=spare) (held:=held) (w:=w) Tryz.underlying9 n _ x1 e1 rfl;injection h1 with h1
  subst h1;have L0:Light Tryz.prog 28 x.1→Light Tryz.prog 3 x0.1:=fun hL=>by rw [hx] at hL;exact light_field Tryz.underlying28 hL (j:=0) rfl rfl
  have L1:Light Tryz.prog 28 x.1→Light Tryz.prog 9 x1.1:=fun hL=>by rw [hx] at hL;exact light_field Tryz.underlying28 hL (j:=1) rfl rfl
  exact⟨v0,v1,rfl,fun hL=>z1 (L1 hL)⟩
end
theorem space_eq:(Rows.laid_strings_asciiSpace:DataW Unit)=Lib.tabData .u8 Lib.asciiSpaceTab:=by kernel_rfl
theorem white_eq:(Rows.laid_unicode_White_Space:DataW Unit)=Lib.whiteData:=by kernel_rfl
theorem gn_of {laid:List (String × DataW Unit)} {W:World} (hL:laidMetH Tryz.prog laid W) (hp:(laid.all fun x=>x.2.handleName?.isNone)=true) (hsh:W.ShapedOpen Tryz.prog)
  (m1 : ("unicode/utf8.first", Rows.laid_unicode_utf8_first) ∈ laid) (m2 : ("unicode/utf8.acceptRanges", Rows.laid_unicode_utf8_acceptRanges) ∈ laid)
  (m3 : ("strconv.ErrSyntax", Rows.laid_strconv_ErrSyntax) ∈ laid) (m4 : ("strconv.ErrRange", Rows.laid_strconv_ErrRange) ∈ laid) (m5 : ("reach/scan.signs", Rows.laid_reach_scan_signs) ∈ laid)
  (m6 : ("strings.asciiSpace", Rows.laid_strings_asciiSpace) ∈ laid) (m7 : ("unicode.White_Space", Rows.laid_unicode_White_Space) ∈ laid) : Gn W := by
 have hG:=gs_of hL hp hsh m1 m2 m3 m4 m5;rw [MakeChecks.laidMetH_plain _ _ _ hp] at hL;have r6:=Lib.laidMet.reads hL m6;have r7:=Lib.laidMet.reads hL m7;rw [space_eq] at r6;rw [white_eq] at r7;refine { toGs:=hG,space:=?_,white:=whiteTab_of_reads Tryz.lays199 ⟨by kernel_rfl,by kernel_rfl,by kernel_rfl,by kernel_rfl,by kernel_rfl,by kernel_rfl,by kernel_rfl,by kernel_rfl⟩ r7 };obtain⟨g',t',cs,fuel,p,h1,h2,h3,h4⟩:=r6
 have hg : Tryz.prog.globalNamed "strings.asciiSpace" = some 0 := by kernel_rfl
 have hty:(Tryz.prog.globals[0]?).map (·.type)=some 147:=by kernel_rfl
 obtain rfl:=Option.some.inj (hg.symm.trans h1);obtain rfl:=Option.some.inj (hty.symm.trans h2);unfold Lib.TabIs;rw [h3,← Lib.cells_of_tab (n:=256) Tryz.underlying147 Tryz.underlying5 (by kernel_rfl) (by kernel_rfl) h4]
end Go.Proofs.YtedfppbnkgffcaaGreatDoor
