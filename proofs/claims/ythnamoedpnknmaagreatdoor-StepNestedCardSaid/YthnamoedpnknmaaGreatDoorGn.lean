/-
  Texts joined: Gm Gn.
-/
import Derived.Test.YthnamoedpnknmaaGreatDoorMa
import Derived.Test.YthnamoedpnknmaaGreatDoorYa
import Derived.OpenShut
import Derived.Test.YthnamoedpnknmaaGreatDoorMj
import Derived.Carry
import Derived.ChangeArms
import Derived.Deep.Slices
import Derived.SizedLaws
set_option linter.unusedVariables false
set_option linter.unusedSimpArgs false
set_option maxRecDepth 100000
set_option maxHeartbeats 8000000
namespace Go.Proofs.YthnamoedpnknmaaGreatDoor
open Go.ChangeShapes Go.WideShapes Go.ChangeAt Go.RowKit
/-- A variable that is an array of strings. -/
theorem strings_var {W:World} {name:String} {l:List (List UInt8)} {g t e:Nat} (hg:Tryz.prog.globalNamed name=some g) (hty:(Tryz.prog.globals[g]?).map (·.type)=some t) (ht:Tryz.prog.underlying t=some (.array l.length e)) (he:Tryz.prog.underlying e=some .string) (hc:Tryz.prog.cellsOf e=1) (hct:Tryz.prog.cellsOf t=l.length)
  (h:Lib.VarReads Tryz.prog W name (.agg (l.map fun b=>.lit (.string b)))):∃ ty fr,W.heap[g]?=some (.cells (l.map fun b=>Value.string ⟨b.toArray⟩).toArray ty fr):=by
 obtain⟨g',t',cs,fuel,p,h1,h2,h3,h4⟩:=h;obtain rfl:=Option.some.inj (hg.symm.trans h1);obtain rfl:=Option.some.inj (hty.symm.trans h2);obtain⟨xs,m,_,hx,hlen,hxl,hel⟩:=DataW.trod_array ht h4
 have hcs:cs.toList=l.map fun b=>Value.string ⟨b.toArray⟩:=by
  apply List.ext_getElem?;intro i;rcases Nat.lt_or_ge i l.length with hi | hi
  ·have hb:=hel i hi;rw [hc,Nat.mul_one] at hb;(have hix:i<xs.length:=by omega);(have hic:i<cs.toList.length:=by omega);rw [List.getElem?_eq_getElem hix] at hb;obtain⟨s,hs1,hs2,_⟩:=DataW.trod_string he hb
   have hd:(cs.toList.drop i).take 1=[cs.toList[i]'hic]:=by
    rw [List.drop_eq_getElem_cons hic];rfl
   rw [hd] at hs1;have hs1':cs.toList[i]'hic=.string s:=by injection hs1
   have hd2:(xs.map (·.1))[i]?=((l.map fun b=>DataW.lit (.string b)):List (DataW Unit))[i]?:=by
    have:=congrArg Prod.fst hx;(injection this with this);rw [this]
   rw [List.getElem?_map,List.getElem?_map,List.getElem?_eq_getElem hix,List.getElem?_eq_getElem hi,hs2] at hd2;simp only [Option.map_some,Option.some.injEq] at hd2;(injection hd2 with hd2);(injection hd2 with hd2);rw [List.getElem?_map,List.getElem?_eq_getElem hic,List.getElem?_eq_getElem hi,hs1',← hd2];rfl
  ·rw [List.getElem?_eq_none (by omega),List.getElem?_eq_none (by rw [List.length_map];exact hi)]
 unfold World.var? at h3;rw [hg] at h3;simp only [Option.bind_some] at h3;split at h3
 ·rename_i cs' ty fr hh;injection h3 with h3
  refine⟨ty,fr,?_⟩;rw [hh,h3];congr 2;apply Array.toList_inj.1;rw [hcs]
 ·cases h3
theorem signs_eq:(Rows.laid_reach_scan_signs:DataW Unit)=.agg (SIGNL.map fun b=>.lit (.string b)):=rfl
theorem gs_of {laid:List (String × DataW Unit)} {W:World} (hL:laidMetH Tryz.prog laid W) (hp:(laid.all fun x=>x.2.handleName?.isNone)=true) (hsh:W.ShapedOpen Tryz.prog)
  (m1 : ("unicode/utf8.first", Rows.laid_unicode_utf8_first) ∈ laid) (m2 : ("unicode/utf8.acceptRanges", Rows.laid_unicode_utf8_acceptRanges) ∈ laid)
  (m3 : ("strconv.ErrSyntax", Rows.laid_strconv_ErrSyntax) ∈ laid) (m4 : ("strconv.ErrRange", Rows.laid_strconv_ErrRange) ∈ laid) (m5 : ("reach/scan.signs", Rows.laid_reach_scan_signs) ∈ laid) : Gs W := by
 have hG:=gl_of hL hp hsh m1 m2 m3 m4;rw [MakeChecks.laidMetH_plain _ _ _ hp] at hL;have r:=Lib.laidMet.reads hL m5;rw [signs_eq] at r;exact { toGl:=hG,signs:=strings_var (l:=SIGNL) (t:=199) (e:=9) (by kernel_rfl) (by kernel_rfl) Tryz.underlying199 Tryz.underlying9 (by kernel_rfl) (by kernel_rfl) r }
open Go.ChangeShapes Go.WideShapes Go.ChangeAt Go.RowKit
section
variable {H:Type} {enc:TypeId × Value→H} {w:World} {base:Nat} {spare:Nat→Bool} {held:Bool}
theorem light_field {P:Program} {t:TypeId} {fs:Array Field} (hu:P.underlying t=some (.struct fs)) {parts:List (DataW H)} (h:Light P t (.agg parts)) {j:Nat} {tj:TypeId} {d:DataW H} (ht:(fs.toList.map (·.type))[j]?=some tj) (hd:parts[j]?=some d):Light P tj d:=fun n hn=>h n (by
 rw [DataW.weights,hu]
 exact DataW.weights_mem_each ht hd n hn)
theorem reach_le {n:Nat} (h:n≤reachBytes):n≤9223372036854775807:=by unfold reachBytes at h;omega
theorem ints_open {fuel:Nat} {cs:List Value} {x:DataW H × List MemPlace} (h:DataW.trod enc Tryz.prog w base spare held fuel 42 cs=some x):
  ∃ (A:Option Addr) (cap:Nat) (al:List Int),cs=[.slice A al.length cap]∧al.length≤cap∧cap≤maxLen∧IV w A al∧(al=[]→A=none∨True)∧(Light Tryz.prog 42 x.1→al.length * Tryz.prog.bytesOf 3≤reachBytes∧∀ a ∈ al,True):=
 slice_open Tryz.underlying42 (k:=1) (by kernel_rfl) (by decide) IntR (fun _=>True) (fun fuel cs x h _=>by
  obtain⟨k,hk,_⟩:=DataW.trod_int Tryz.underlying3 (x:=x) h
  exact⟨k,hk,fun _=>trivial⟩) h
theorem texts_open {fuel:Nat} {cs:List Value} {x:DataW H × List MemPlace} (h:DataW.trod enc Tryz.prog w base spare held fuel 76 cs=some x):
  ∃ (A:Option Addr) (cap:Nat) (al:List ByteArray),cs=[.slice A al.length cap]∧al.length≤cap∧cap≤maxLen∧SV w A al∧(al=[]→A=none∨True)∧(Light Tryz.prog 76 x.1→al.length * Tryz.prog.bytesOf 9≤reachBytes∧∀ a ∈ al,a.size≤reachBytes):=
 slice_open Tryz.underlying76 (k:=1) (by kernel_rfl) (by decide) StrR (fun s=>s.size≤reachBytes) (fun fuel cs x h hl=>string_open Tryz.underlying9 fuel cs x h hl) h
theorem port_open:∀ fuel cs x,DataW.trod enc Tryz.prog w base spare held fuel 74 cs=some x→cs.length=4→∃ p:Sp.Port,PortR w p cs∧(Light Tryz.prog 74 x.1→p.name.size≤9223372036854775807):=by
 intro fuel cs x h _;obtain⟨xs,n,_,hx,hl,hxl,hf⟩:=DataW.trod_struct Tryz.underlying74 h;have hcn:Tryz.prog.cellsOf 74=4:=by kernel_rfl
 have hc0:Tryz.prog.cellsOf 9=1:=by kernel_rfl
 have hc1:Tryz.prog.cellsOf 3=1:=by kernel_rfl
 have hc2:Tryz.prog.cellsOf 4=1:=by kernel_rfl
 rw [hcn] at hl
 match cs,hl,xs,hxl with
 | [c0,c1,c2,c3],_,[x0,x1,x2,x3],_=>
  have e0:DataW.trod enc Tryz.prog w base spare held n 9 (([c0,c1,c2,c3].drop 0).take (Tryz.prog.cellsOf 9))=some x0:=hf 0 _ rfl;rw [hc0] at e0;simp only [List.drop_zero,List.drop_succ_cons,List.take_succ_cons,List.take_zero] at e0;have e1:DataW.trod enc Tryz.prog w base spare held n 3 (([c0,c1,c2,c3].drop 1).take (Tryz.prog.cellsOf 3))=some x1:=hf 1 _ rfl;rw [hc1] at e1;simp only [List.drop_zero,List.drop_succ_cons,List.take_succ_cons,List.take_zero] at e1;have e2:DataW.trod enc Tryz.prog w base spare held n 4 (([c0,c1,c2,c3].drop 2).take (Tryz.prog.cellsOf 4))=some x2:=hf 2 _ rfl;rw [hc2] at e2;simp only [List.drop_zero,List.drop_succ_cons,List.take_succ_cons,List.take_zero] at e2;have e3:DataW.trod enc Tryz.prog w base spare held n 3 (([c0,c1,c2,c3].drop 3).take (Tryz.prog.cellsOf 3))=some x3:=hf 3 _ rfl;rw [hc1] at e3;simp only [List.drop_zero,List.drop_succ_cons,List.take_succ_cons,List.take_zero] at e3;obtain⟨v0,h0,z0⟩:=string_open (enc:=enc) (base:=base) (spare:=spare) (held:=held) (w:=w) Tryz.underlying9 n _ x0 e0 rfl;injection h0 with h0
  subst h0;obtain⟨v1,h1,_⟩:=DataW.trod_int Tryz.underlying3 (x:=x1) e1;injection h1 with h1
  subst h1;obtain⟨v2,h2,_⟩:=DataW.trod_bool Tryz.underlying4 (x:=x2) e2;injection h2 with h2
  subst h2;obtain⟨v3,h3,_⟩:=DataW.trod_int Tryz.underlying3 (x:=x3) e3;injection h3 with h3
  subst h3;have L0:Light Tryz.prog 74 x.1→Light Tryz.prog 9 x0.1:=fun hL=>by rw [hx] at hL;exact light_field Tryz.underlying74 hL (j:=0) rfl rfl
  have L1:Light Tryz.prog 74 x.1→Light Tryz.prog 3 x1.1:=fun hL=>by rw [hx] at hL;exact light_field Tryz.underlying74 hL (j:=1) rfl rfl
  have L2:Light Tryz.prog 74 x.1→Light Tryz.prog 4 x2.1:=fun hL=>by rw [hx] at hL;exact light_field Tryz.underlying74 hL (j:=2) rfl rfl
  have L3:Light Tryz.prog 74 x.1→Light Tryz.prog 3 x3.1:=fun hL=>by rw [hx] at hL;exact light_field Tryz.underlying74 hL (j:=3) rfl rfl
  exact⟨⟨v0,v1,v2,v3⟩,rfl,fun hL=>reach_le (z0 (L0 hL))⟩
theorem state_open:∀ fuel cs x,DataW.trod enc Tryz.prog w base spare held fuel 28 cs=some x→cs.length=2→∃ (p:Int) (h:ByteArray),cs=[.int .i64 p,.string h]∧(Light Tryz.prog 28 x.1→h.size≤reachBytes):=by
 intro fuel cs x h _;obtain⟨xs,n,_,hx,hl,hxl,hf⟩:=DataW.trod_struct Tryz.underlying28 h;have hcn:Tryz.prog.cellsOf 28=2:=by kernel_rfl
 have hc0:Tryz.prog.cellsOf 3=1:=by kernel_rfl
 have hc1:Tryz.prog.cellsOf 9=1:=by kernel_rfl
 rw [hcn] at hl
 match cs,hl,xs,hxl with
 | [c0,c1],_,[x0,x1],_=>
  have e0:DataW.trod enc Tryz.prog w base spare held n 3 (([c0,c1].drop 0).take (Tryz.prog.cellsOf 3))=some x0:=hf 0 _ rfl;rw [hc0] at e0;simp only [List.drop_zero,List.drop_succ_cons,List.take_succ_cons,List.take_zero] at e0;have e1:DataW.trod enc Tryz.prog w base spare held n 9 (([c0,c1].drop 1).take (Tryz.prog.cellsOf 9))=some x1:=hf 1 _ rfl;rw [hc1] at e1;simp only [List.drop_zero,List.drop_succ_cons,List.take_succ_cons,List.take_zero] at e1;obtain⟨v0,h0,_⟩:=DataW.trod_int Tryz.underlying3 (x:=x0) e0;injection h0 with h0
  subst h0;obtain⟨v1,h1,z1⟩:=string_open (enc:=enc) (base:=base) (spare:=spare) (held:=held) (w:=w) Tryz.underlying9 n _ x1 e1 rfl;injection h1 with h1
  subst h1;have L0:Light Tryz.prog 28 x.1→Light Tryz.prog 3 x0.1:=fun hL=>by rw [hx] at hL;exact light_field Tryz.underlying28 hL (j:=0) rfl rfl
  have L1:Light Tryz.prog 28 x.1→Light Tryz.prog 9 x1.1:=fun hL=>by rw [hx] at hL;exact light_field Tryz.underlying28 hL (j:=1) rfl rfl
  exact⟨v0,v1,rfl,fun hL=>z1 (L1 hL)⟩
end
theorem space_eq:(Rows.laid_strings_asciiSpace:DataW Unit)=Lib.tabData .u8 Lib.asciiSpaceTab:=by kernel_rfl
theorem white_eq:(Rows.laid_unicode_White_Space:DataW Unit)=Lib.whiteData:=by kernel_rfl
theorem gn_of {laid:List (String × DataW Unit)} {W:World} (hL:laidMetH Tryz.prog laid W) (hp:(laid.all fun x=>x.2.handleName?.isNone)=true) (hsh:W.ShapedOpen Tryz.prog)
  (m1 : ("unicode/utf8.first", Rows.laid_unicode_utf8_first) ∈ laid) (m2 : ("unicode/utf8.acceptRanges", Rows.laid_unicode_utf8_acceptRanges) ∈ laid)
  (m3 : ("strconv.ErrSyntax", Rows.laid_strconv_ErrSyntax) ∈ laid) (m4 : ("strconv.ErrRange", Rows.laid_strconv_ErrRange) ∈ laid) (m5 : ("reach/scan.signs", Rows.laid_reach_scan_signs) ∈ laid)
  (m6 : ("strings.asciiSpace", Rows.laid_strings_asciiSpace) ∈ laid) (m7 : ("unicode.White_Space", Rows.laid_unicode_White_Space) ∈ laid) : Gn W := by
 have hG:=gs_of hL hp hsh m1 m2 m3 m4 m5;rw [MakeChecks.laidMetH_plain _ _ _ hp] at hL;have r6:=Lib.laidMet.reads hL m6;have r7:=Lib.laidMet.reads hL m7;rw [space_eq] at r6;rw [white_eq] at r7;refine { toGs:=hG,space:=?_,white:=whiteTab_of_reads Tryz.lays199 ⟨by kernel_rfl,by kernel_rfl,by kernel_rfl,by kernel_rfl,by kernel_rfl,by kernel_rfl,by kernel_rfl,by kernel_rfl⟩ r7 };obtain⟨g',t',cs,fuel,p,h1,h2,h3,h4⟩:=r6
 have hg : Tryz.prog.globalNamed "strings.asciiSpace" = some 0 := by kernel_rfl
 have hty:(Tryz.prog.globals[0]?).map (·.type)=some 157:=by kernel_rfl
 obtain rfl:=Option.some.inj (hg.symm.trans h1);obtain rfl:=Option.some.inj (hty.symm.trans h2);unfold Lib.TabIs;rw [h3,← Lib.cells_of_tab (n:=256) Tryz.underlying157 Tryz.underlying5 (by kernel_rfl) (by kernel_rfl) h4]
end Go.Proofs.YthnamoedpnknmaaGreatDoor
