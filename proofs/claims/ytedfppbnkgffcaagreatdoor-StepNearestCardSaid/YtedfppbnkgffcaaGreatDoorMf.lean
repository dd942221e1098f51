/-
 THE WALKS of tern.row.put, tern.Parse (its error alone), lower.validCube, validCubes (chapters 1, 9, 10).
-/
import Derived.Test.YtedfppbnkgffcaaGreatDoorMe
import Derived.Test.YtedfppbnkgffcaaGreatDoorTa
set_option linter.unusedVariables false
set_option linter.unusedSimpArgs false
set_option maxRecDepth 100000
set_option maxHeartbeats 4000000
namespace Go.Proofs.YtedfppbnkgffcaaGreatDoor
open Go.RowKit
open Go.Lib (hid)
def PutEnd (w:World) (B a:Nat) (e:Ending) (w':World):Prop:=∃ y:Int,e=.returned (.tuple #[])∧w'=(w.setCell ⟨B,a,none⟩ (.int .u64 y)).drew
theorem row_put (B o i q r:Nat) (x:Int) (w:World) (hi:i=64 * q+r) (hr:r<64) (hq:q<4) (hc:w.cell? ⟨B,o+q,none⟩=some (.int .u64 x)) (hf:w.frozen? ⟨B,o+q,none⟩=false):
  Calls Tryz.prog 112 #[.pointer (some ⟨B,o,none⟩),.int .i64 (i:Int)] w fun e w'=>PutEnd w B (o+q) e w':=by
 have i0:(0:Int)≤(i:Int):=by omega
 have i1:(i:Int)<256:=by omega
 have y1:(i:Int) / 64=(q:Int):=by omega
 have y2:(i:Int).tdiv 64=(q:Int):=by rw [Int.tdiv_eq_ediv_of_nonneg i0];exact y1
 have y3:(i:Int) % 64=(r:Int):=by omega
 have y4:(i:Int).tmod 64=(r:Int):=by rw [Int.tmod_eq_emod_of_nonneg i0];exact y3
 have q0:(0:Int)≤(q:Int):=by omega
 have q1:(q:Int)<4:=by omega
 have r0:(0:Int)≤(r:Int):=by omega
 have r1:(r:Int)<64:=by omega
 have z1:IntKind.i64.wrap (q:Int)=(q:Int):=by rw [IntKind.wrap_i64];omega
 have z2:IntKind.i64.wrap (r:Int)=(r:Int):=by rw [IntKind.wrap_i64];omega
 clear hi hr hq;go_enter Tryz.func112,Tryz.ntmps112;go_wp2;refine wp_region_K 12 (fun w'=>w'.cell? ⟨B,o+q,none⟩=some (.int .u64 x)∧w'.frozen? ⟨B,o+q,none⟩=false) (by kernel_rfl) (fun hcl=>?_);refine mS (⟨hc,hf⟩) (fun hS=>?_);refine tk 0 hcl hS ?_;clear hcl;intro hcl;simp only [tkl];refine tk 1 hcl hS ?_;clear hcl;intro hcl;simp only [tkl];refine tk 2 hcl hS ?_;clear hcl;intro hcl;simp only [tkl];refine tk 3 hcl hS ?_;clear hcl;intro hcl;simp only [tkl];refine tk 4 hcl hS ?_;clear hcl;intro hcl;simp only [tkl];refine tk 5 hcl hS ?_;clear hcl;intro hcl;simp only [tkl];refine tk 6 hcl hS ?_;clear hcl;intro hcl;simp only [tkl];refine tk 7 hcl hS ?_;clear hcl;intro hcl;simp only [tkl];refine tk 8 hcl hS ?_;clear hcl;intro hcl;simp only [tkl];refine tk 9 hcl hS ?_;clear hcl;intro hcl;simp only [tkl];refine tk 10 hcl hS ?_;clear hcl;intro hcl;simp only [tkl];refine tk 11 hcl hS ?_;clear hcl;intro hcl;simp only [tkl];obtain⟨s0,s1⟩:=hS;refine on1 12 hcl (fun K hK=>?_);go_simp;refine hK.out _ _ (Or.inl (by kernel_rfl)) (fun hcl2=>?_);clear hK K hcl hcl2;refine wpAnyK_done (by kernel_rfl) ?_ _;go_wp2;go_end0;exact⟨_,rfl,rfl⟩
namespace Sp
def cubeE (s:List UInt8):Int:=if 256<s.length then 2 else if s=[] then 10 else if s.all (fun c=>c == 48 || c == 49 || c == 120)=true then 0 else 10
end Sp
def CubeC (cs:Array Value):Prop:=∃ a u1 u2 u3 u4 u5 u6 u7 u8:Int,cs=#[.int .i64 a,.int .u64 u1,.int .u64 u2,.int .u64 u3,.int .u64 u4,.int .u64 u5,.int .u64 u6,.int .u64 u7,.int .u64 u8]
theorem CubeC.put {cs:Array Value} (h:CubeC cs) {a:Nat} (h1:1≤a) (h2:a≤8) (y:Int):CubeC (cs.setIfInBounds a (.int .u64 y)):=by
 obtain⟨b,u1,u2,u3,u4,u5,u6,u7,u8,rfl⟩:=h;rcases (show a=1∨a=2∨a=3∨a=4∨a=5∨a=6∨a=7∨a=8 by omega) with rfl | rfl | rfl | rfl | rfl | rfl | rfl | rfl <;> exact⟨_,_,_,_,_,_,_,_,_,rfl⟩
theorem CubeC.at {cs:Array Value} (h:CubeC cs) {a:Nat} (h1:1≤a) (h2:a≤8):∃ x:Int,cs[a]?=some (.int .u64 x):=by
 obtain⟨b,u1,u2,u3,u4,u5,u6,u7,u8,rfl⟩:=h;rcases (show a=1∨a=2∨a=3∨a=4∨a=5∨a=6∨a=7∨a=8 by omega) with rfl | rfl | rfl | rfl | rfl | rfl | rfl | rfl <;> exact⟨_,rfl⟩
theorem row_put_cube {w:World} {B:Nat} {cs:Array Value} (hk:Blk w B 156 cs) (hc:CubeC cs) (o i:Nat) (ho:o=1∨o=5) (hi:i<256):
  Calls Tryz.prog 112 #[.pointer (some ⟨B,o,none⟩),.int .i64 (i:Int)] w fun e w'=>e=.returned (.tuple #[])∧∃ cs',CubeC cs'∧Blk w' B 156 cs'∧w.grownBy w' (some B):=by
 obtain⟨x,hx⟩:=hc.at (a:=o+i / 64) (by omega) (by omega);refine (row_put B o i (i / 64) (i % 64) x w (by omega) (by omega) (by omega) ((hk.cell _).trans hx) (hk.frozen _)).mono ?_;rintro e w' ⟨y,rfl,rfl⟩;exact⟨rfl,_,hc.put (by omega) (by omega) y,(hk.set_ (o+i / 64) (.int .u64 y)),only_drew (only_setCell (World.grownBy.refl w _) (p:=⟨B,o+i / 64,none⟩) (Or.inl rfl) _)⟩
theorem tern_parse (s:ByteArray) (w:World) (hs:s.size≤9223372036854775807):
  Calls Tryz.prog 98 #[.string s] w fun e w'=>∃ cs,CubeC cs∧e=.returned (.tuple #[.agg cs,.int .i64 (Sp.cubeE s.data.toList)])∧Below w.heap.size w w':=by
 obtain⟨n,hn⟩:=nM s.size;rw [hn] at hs;have HN:=hid hn;by_cases h256:256<n
 ·have p1:decide ((n:Int) > 256)=true:=dT;have p2:decide (256<n)=true:=decide_eq_true h256
  have hE:Sp.cubeE s.data.toList=2:=by
   unfold Sp.cubeE;rw [if_pos (show 256<s.data.toList.length by show 256<s.size;omega)]
  rw [hE];clear hE h256;go_enter Tryz.func98,Tryz.ntmps98;go_wp2;exact bodyPost_ret (v:=.tuple #[.agg #[.int .i64 0,.int .u64 0,.int .u64 0,.int .u64 0,.int .u64 0,.int .u64 0,.int .u64 0,.int .u64 0,.int .u64 0],.int .i64 2]) (by simp [results,Tryz.results98,go_sem]) rfl ⟨_,⟨0,0,0,0,0,0,0,0,0,rfl⟩,rfl,(Below.refl _ _).alloc (Nat.le_refl _) _⟩
 ·have p1:decide ((n:Int) > 256)=false:=dF;have p2:decide (256<n)=false:=decide_eq_false h256;by_cases h0:n=0
  ·have e1:s.toList.isEmpty=true:=by
    (have:s.toList=[]:=by rw [Lib.toList_data];exact List.eq_nil_of_length_eq_zero (show s.size=0 by omega));rw [this];rfl
   have hE:Sp.cubeE s.data.toList=10:=by
    unfold Sp.cubeE;rw [if_neg (show ¬ 256<s.data.toList.length by show ¬ 256<s.size;omega),if_pos (List.eq_nil_of_length_eq_zero (show s.size=0 by omega))]
   rw [hE];clear hE h256 h0;go_enter Tryz.func98,Tryz.ntmps98;go_wp2;exact bodyPost_ret (v:=.tuple #[.agg #[.int .i64 0,.int .u64 0,.int .u64 0,.int .u64 0,.int .u64 0,.int .u64 0,.int .u64 0,.int .u64 0,.int .u64 0],.int .i64 10]) (by simp [results,Tryz.results98,go_sem]) rfl ⟨_,⟨0,0,0,0,0,0,0,0,0,rfl⟩,rfl,(Below.refl _ _).alloc (Nat.le_refl _) _⟩
  ·have e1:s.toList.isEmpty=false:=by
    rw [Lib.toList_data];have:s.data.toList≠[]:=fun e=>h0 (by rw [← hn];show s.data.toList.length=0;rw [e];rfl)
    cases hl:s.data.toList with
    | nil=>exact absurd hl this
    | cons a b=>rfl
   have hE:Sp.cubeE s.data.toList=if s.data.toList.all (fun c=>c == 48 || c == 49 || c == 120)=true then 0 else 10:=by
    unfold Sp.cubeE;rw [if_neg (show ¬ 256<s.data.toList.length by show ¬ 256<s.size;omega),if_neg (fun e=>h0 (by rw [← hn];show s.data.toList.length=0;rw [e];rfl))]
   obtain⟨E,hE2⟩:∃ E:Int,Sp.cubeE s.data.toList=E:=⟨_,rfl⟩
   rw [hE2];rw [hE2] at hE;have HE:=hid hE;clear hE hE2;go_enter Tryz.func98,Tryz.ntmps98;go_wp2;have HN256:=hid (show n≤256 by omega);clear hn h0 h256;have hb0:Below w.heap.size w ((w.alloc (.cells #[.int .i64 0,.int .u64 0,.int .u64 0,.int .u64 0,.int .u64 0,.int .u64 0,.int .u64 0,.int .u64 0,.int .u64 0] 156)).alloc (.cells #[.int .i64 (n:Int),.int .u64 0,.int .u64 0,.int .u64 0,.int .u64 0,.int .u64 0,.int .u64 0,.int .u64 0,.int .u64 0] 156)):=((Below.refl _ _).alloc (Nat.le_refl _) _).alloc (by simp) _;have hr0:Blk ((w.alloc (.cells #[.int .i64 0,.int .u64 0,.int .u64 0,.int .u64 0,.int .u64 0,.int .u64 0,.int .u64 0,.int .u64 0,.int .u64 0] 156)).alloc (.cells #[.int .i64 (n:Int),.int .u64 0,.int .u64 0,.int .u64 0,.int .u64 0,.int .u64 0,.int .u64 0,.int .u64 0,.int .u64 0] 156)) w.heap.size 156 #[.int .i64 0,.int .u64 0,.int .u64 0,.int .u64 0,.int .u64 0,.int .u64 0,.int .u64 0,.int .u64 0,.int .u64 0]:=(Blk.new w _ _).alloc _;(have hk0:Blk ((w.alloc (.cells #[.int .i64 0,.int .u64 0,.int .u64 0,.int .u64 0,.int .u64 0,.int .u64 0,.int .u64 0,.int .u64 0,.int .u64 0] 156)).alloc (.cells #[.int .i64 (n:Int),.int .u64 0,.int .u64 0,.int .u64 0,.int .u64 0,.int .u64 0,.int .u64 0,.int .u64 0,.int .u64 0] 156)) (w.heap.size+1) 156 #[.int .i64 (n:Int),.int .u64 0,.int .u64 0,.int .u64 0,.int .u64 0,.int .u64 0,.int .u64 0,.int .u64 0,.int .u64 0]:=by have:=Blk.new (w.alloc (.cells #[.int .i64 0,.int .u64 0,.int .u64 0,.int .u64 0,.int .u64 0,.int .u64 0,.int .u64 0,.int .u64 0,.int .u64 0] 156)) 156 #[.int .i64 (n:Int),.int .u64 0,.int .u64 0,.int .u64 0,.int .u64 0,.int .u64 0,.int .u64 0,.int .u64 0,.int .u64 0];rw [World.size_alloc] at this;exact this);have HB0:=hid hb0;have HR0:=hid hr0;have HK0:=hid hk0;clear hb0 hr0 hk0;go_loopw [18] (fun v18 wr=>∃ i:Nat,v18=.int .i64 (i:Int)∧i≤n∧Below w.heap.size w wr∧Blk wr w.heap.size 156 #[.int .i64 0,.int .u64 0,.int .u64 0,.int .u64 0,.int .u64 0,.int .u64 0,.int .u64 0,.int .u64 0,.int .u64 0]∧(∃ cs,CubeC cs∧Blk wr (w.heap.size+1) 156 cs)∧Hid (∀ (j:Nat) (x:UInt8),j<i→s.data.toList[j]?=some x→(x == 48 || x == 49 || x == 120)=true)) (fun v18 _=>n - (intOf v18).toNat)
   case atStart=>exact⟨0,rfl,Nat.zero_le _,HB0.out,HR0.out,⟨_,⟨_,_,_,_,_,_,_,_,_,rfl⟩,HK0.out⟩,hid (fun j x hj=>by omega)⟩
   case round=>
    obtain⟨i,rfl,hi,hb,hr,⟨cs,hcc,hk⟩,hok⟩:=hrel;have HB:=hid hb;have HR:=hid hr;have HK:=hid hk;(have i0:(0:Int)≤(i:Int):=by omega);have hnz:=HN.out;by_cases hlt:i<n
    ·have q1:decide ((i:Int)<(n:Int))=true:=dT;have q2:decide (i<n)=true:=decide_eq_true hlt;(have q3:(i:Int)<(n:Int):=by omega);(have his:i<s.size:=by omega);(have q4:(i:Int)<(s.size:Int):=by omega);(have z1:IntKind.i64.wrap ((i:Int)+1)=(i:Int)+1:=by rw [IntKind.wrap_i64];omega);(have hget:s.data.toList[i]?=some (s[i]'his):=by rw [List.getElem?_eq_getElem (show i<s.data.toList.length from his)];rfl);obtain⟨c,hc⟩:=nM (s[i]'his)
     have hnext:(c == 48 || c == 49 || c == 120)=true→∀ (j:Nat) (x:UInt8),j<i+1→s.data.toList[j]?=some x→(x == 48 || x == 49 || x == 120)=true:=by
      intro hcy j x hj hx;by_cases hji:j=i
      ·subst hji;rw [hget,hc] at hx;(injection hx with hx);rw [← hx];exact hcy
      ·exact hok.out j x (by omega) hx
     have HNX:=hid hnext;have HI:=hid (show i+1≤n by omega);(have hput:=fun (o:Nat) (ho:o=1∨o=5)=>row_put_cube hk hcc o i ho (by have:=HN256.out;omega));have HPUT:=hid hput;clear hnext hput;by_cases h1:c=49
     ·have a1:(((s[i]'his).toNat:Int) == 49)=true:=by rw [hc,h1];rfl
      have HY:=hid (HNX.out (by rw [h1];rfl));have H256:=hid (show i<256 by have:=HN256.out;omega);clear hb hr hk hi hlt hget hc hcc hok h1 hnz;go_wp2_with fail;refine (HPUT.out 5 (Or.inr rfl)).mono ?_;rintro e w1 ⟨rfl,cs1,hc1,hk1,hg1⟩;have H2:=hid (row_put_cube hk1 hc1 1 i (Or.inl rfl) H256.out);have HR1:=hid (HR.out.grown hg1 (by intro e;injection e with e;omega));have HB1:=hid (HB.out.grown hg1 HB.out.size (fun g e=>by injection e with e;omega));clear hc1 hk1 hg1;go_wp2_with fail;refine H2.out.mono ?_;rintro e w2 ⟨rfl,cs2,hc2,hk2,hg2⟩;have HR2:=hid (HR1.out.grown hg2 (by intro e;injection e with e;omega));have HB2:=hid (HB1.out.grown hg2 HB1.out.size (fun g e=>by injection e with e;omega));have HC2:=hid hc2;have HK2:=hid hk2;clear hc2 hk2 hg2;go_wp2_with fail;go_roundw
      case rel=>exact⟨i+1,by rfl,HI.out,HB2.out,HR2.out,⟨_,HC2.out,HK2.out⟩,HY⟩
      case measure=>have:=HI.out;simp [intOf];omega
     ·have a1:(((s[i]'his).toNat:Int) == 49)=false:=beq_eq_false_iff_ne.2 (fun e=>h1 (by rw [← hc];exact UInt8.toNat_inj.1 (by rw [show (49:UInt8).toNat=49 from rfl];omega)));by_cases h2:c=48
      ·have a2:(((s[i]'his).toNat:Int) == 48)=true:=by rw [hc,h2];rfl
       have HY:=hid (HNX.out (by rw [h2];rfl));clear hb hr hk hi hlt hget hc hcc hok h1 h2 hnz;go_wp2_with fail;refine (HPUT.out 1 (Or.inl rfl)).mono ?_;rintro e w2 ⟨rfl,cs2,hc2,hk2,hg2⟩;have HR2:=hid (HR.out.grown hg2 (by intro e;injection e with e;omega));have HB2:=hid (HB.out.grown hg2 HB.out.size (fun g e=>by injection e with e;omega));have HC2:=hid hc2;have HK2:=hid hk2;clear hc2 hk2 hg2;go_wp2_with fail;go_roundw
       case rel=>exact⟨i+1,by rfl,HI.out,HB2.out,HR2.out,⟨_,HC2.out,HK2.out⟩,HY⟩
       case measure=>have:=HI.out;simp [intOf];omega
      ·have a2:(((s[i]'his).toNat:Int) == 48)=false:=beq_eq_false_iff_ne.2 (fun e=>h2 (by rw [← hc];exact UInt8.toNat_inj.1 (by rw [show (48:UInt8).toNat=48 from rfl];omega)));by_cases h3:c=120
       ·have a3:(((s[i]'his).toNat:Int) == 120)=true:=by rw [hc,h3];rfl
        have HY:=hid (HNX.out (by rw [h3];rfl));have HCC:=hid hcc;clear hb hr hk hi hlt hget hc hcc hok h1 h2 h3 hnz;go_wp2_with fail;go_roundw
        case rel=>exact⟨i+1,by rfl,HI.out,HB.out,HR.out,⟨_,HCC.out,HK.out⟩,HY⟩
        case measure=>have:=HI.out;simp [intOf];omega
       ·have a3:(((s[i]'his).toNat:Int) == 120)=false:=beq_eq_false_iff_ne.2 (fun e=>h3 (by rw [← hc];exact UInt8.toNat_inj.1 (by rw [show (120:UInt8).toNat=120 from rfl];omega)))
        have hall:s.data.toList.all (fun c=>c == 48 || c == 49 || c == 120)=false:=by
         rw [List.all_eq_false];refine⟨c,List.mem_of_getElem? (by rw [hget,hc]),?_⟩;rw [beq_eq_false_iff_ne.2 h2,beq_eq_false_iff_ne.2 h1,beq_eq_false_iff_ne.2 h3];decide
        have HALL:=hid hall;have hblk:=hr;have r0:wr.cell? ⟨w.heap.size,0,none⟩=some (.int .i64 0):=hblk.cell 0;have r1:wr.cell? ⟨w.heap.size,1,none⟩=some (.int .u64 0):=hblk.cell 1;have r2:wr.cell? ⟨w.heap.size,2,none⟩=some (.int .u64 0):=hblk.cell 2;have r3:wr.cell? ⟨w.heap.size,3,none⟩=some (.int .u64 0):=hblk.cell 3;have r4:wr.cell? ⟨w.heap.size,4,none⟩=some (.int .u64 0):=hblk.cell 4;have r5:wr.cell? ⟨w.heap.size,5,none⟩=some (.int .u64 0):=hblk.cell 5;have r6:wr.cell? ⟨w.heap.size,6,none⟩=some (.int .u64 0):=hblk.cell 6;have r7:wr.cell? ⟨w.heap.size,7,none⟩=some (.int .u64 0):=hblk.cell 7;have r8:wr.cell? ⟨w.heap.size,8,none⟩=some (.int .u64 0):=hblk.cell 8;have f0:wr.frozen? ⟨w.heap.size,0,none⟩=false:=hr.frozen 0;have f1:wr.frozen? ⟨w.heap.size,1,none⟩=false:=hr.frozen 1;have f2:wr.frozen? ⟨w.heap.size,2,none⟩=false:=hr.frozen 2;have f3:wr.frozen? ⟨w.heap.size,3,none⟩=false:=hr.frozen 3;have f4:wr.frozen? ⟨w.heap.size,4,none⟩=false:=hr.frozen 4;have f5:wr.frozen? ⟨w.heap.size,5,none⟩=false:=hr.frozen 5;have f6:wr.frozen? ⟨w.heap.size,6,none⟩=false:=hr.frozen 6;have f7:wr.frozen? ⟨w.heap.size,7,none⟩=false:=hr.frozen 7;have f8:wr.frozen? ⟨w.heap.size,8,none⟩=false:=hr.frozen 8;clear hb hr hk hi hlt hget hc hcc hok h1 h2 h3 hnz hall hblk;have hE2:=HE.out;rw [HALL.out] at hE2;have HE3:=hid (show E=10 from hE2);clear hE2 HE
        have hbz:Below w.heap.size w (((((((((wr.setCell ⟨w.heap.size,0,none⟩ (.int .i64 0)).setCell ⟨w.heap.size,1,none⟩ (.int .u64 0)).setCell ⟨w.heap.size,2,none⟩ (.int .u64 0)).setCell ⟨w.heap.size,3,none⟩ (.int .u64 0)).setCell ⟨w.heap.size,4,none⟩ (.int .u64 0)).setCell ⟨w.heap.size,5,none⟩ (.int .u64 0)).setCell ⟨w.heap.size,6,none⟩ (.int .u64 0)).setCell ⟨w.heap.size,7,none⟩ (.int .u64 0)).setCell ⟨w.heap.size,8,none⟩ (.int .u64 0)):=
         (((((((((HB.out.setCell (p:=⟨w.heap.size,0,none⟩) (Nat.le_refl _) _).setCell (p:=⟨w.heap.size,1,none⟩) (Nat.le_refl _) _).setCell (p:=⟨w.heap.size,2,none⟩) (Nat.le_refl _) _).setCell (p:=⟨w.heap.size,3,none⟩) (Nat.le_refl _) _).setCell (p:=⟨w.heap.size,4,none⟩) (Nat.le_refl _) _).setCell (p:=⟨w.heap.size,5,none⟩) (Nat.le_refl _) _).setCell (p:=⟨w.heap.size,6,none⟩) (Nat.le_refl _) _).setCell (p:=⟨w.heap.size,7,none⟩) (Nat.le_refl _) _).setCell (p:=⟨w.heap.size,8,none⟩) (Nat.le_refl _) _)
        have HBZ:=hid hbz;clear hbz;go_wp2_with fail;exact bodyPost_ret (v:=.tuple #[.agg #[.int .i64 0,.int .u64 0,.int .u64 0,.int .u64 0,.int .u64 0,.int .u64 0,.int .u64 0,.int .u64 0,.int .u64 0],.int .i64 10]) (by simp [results,Tryz.results98,go_sem,r0,r1,r2,r3,r4,r5,r6,r7,r8]) rfl ⟨_,⟨0,0,0,0,0,0,0,0,0,rfl⟩,by rw [HE3.out],HBZ.out⟩
    ·have q1:decide ((i:Int)<(n:Int))=false:=dF;have q2:decide (i<n)=false:=decide_eq_false hlt
     have hall:s.data.toList.all (fun c=>c == 48 || c == 49 || c == 120)=true:=by
      rw [List.all_eq_true];intro x hx;obtain⟨j,hj⟩:=List.mem_iff_getElem?.1 hx;exact hok.out j x (by have h1:j<s.size:=(List.getElem?_eq_some_iff.1 hj).1;omega) hj
     have hE2:=HE.out;rw [hall] at hE2;have HE3:=hid (show E=0 from hE2);obtain⟨a0,u1,u2,u3,u4,u5,u6,u7,u8,rfl⟩:=hcc;have c0:wr.cell? ⟨w.heap.size+1,0,none⟩=some (.int .i64 a0):=hk.cell 0;have c1:wr.cell? ⟨w.heap.size+1,1,none⟩=some (.int .u64 u1):=hk.cell 1;have c2:wr.cell? ⟨w.heap.size+1,2,none⟩=some (.int .u64 u2):=hk.cell 2;have c3:wr.cell? ⟨w.heap.size+1,3,none⟩=some (.int .u64 u3):=hk.cell 3;have c4:wr.cell? ⟨w.heap.size+1,4,none⟩=some (.int .u64 u4):=hk.cell 4;have c5:wr.cell? ⟨w.heap.size+1,5,none⟩=some (.int .u64 u5):=hk.cell 5;have c6:wr.cell? ⟨w.heap.size+1,6,none⟩=some (.int .u64 u6):=hk.cell 6;have c7:wr.cell? ⟨w.heap.size+1,7,none⟩=some (.int .u64 u7):=hk.cell 7;have c8:wr.cell? ⟨w.heap.size+1,8,none⟩=some (.int .u64 u8):=hk.cell 8;have r0:wr.cell? ⟨w.heap.size,0,none⟩=some (.int .i64 0):=hr.cell 0;have r1:wr.cell? ⟨w.heap.size,1,none⟩=some (.int .u64 0):=hr.cell 1;have r2:wr.cell? ⟨w.heap.size,2,none⟩=some (.int .u64 0):=hr.cell 2;have r3:wr.cell? ⟨w.heap.size,3,none⟩=some (.int .u64 0):=hr.cell 3;have r4:wr.cell? ⟨w.heap.size,4,none⟩=some (.int .u64 0):=hr.cell 4;have r5:wr.cell? ⟨w.heap.size,5,none⟩=some (.int .u64 0):=hr.cell 5;have r6:wr.cell? ⟨w.heap.size,6,none⟩=some (.int .u64 0):=hr.cell 6;have r7:wr.cell? ⟨w.heap.size,7,none⟩=some (.int .u64 0):=hr.cell 7;have r8:wr.cell? ⟨w.heap.size,8,none⟩=some (.int .u64 0):=hr.cell 8;have f0:wr.frozen? ⟨w.heap.size,0,none⟩=false:=hr.frozen 0;have f1:wr.frozen? ⟨w.heap.size,1,none⟩=false:=hr.frozen 1;have f2:wr.frozen? ⟨w.heap.size,2,none⟩=false:=hr.frozen 2;have f3:wr.frozen? ⟨w.heap.size,3,none⟩=false:=hr.frozen 3;have f4:wr.frozen? ⟨w.heap.size,4,none⟩=false:=hr.frozen 4;have f5:wr.frozen? ⟨w.heap.size,5,none⟩=false:=hr.frozen 5;have f6:wr.frozen? ⟨w.heap.size,6,none⟩=false:=hr.frozen 6;have f7:wr.frozen? ⟨w.heap.size,7,none⟩=false:=hr.frozen 7;have f8:wr.frozen? ⟨w.heap.size,8,none⟩=false:=hr.frozen 8;have HBZ:Hid (Below w.heap.size w (((((((((wr.setCell ⟨w.heap.size,0,none⟩ (.int .i64 a0)).setCell ⟨w.heap.size,1,none⟩ (.int .u64 u1)).setCell ⟨w.heap.size,2,none⟩ (.int .u64 u2)).setCell ⟨w.heap.size,3,none⟩ (.int .u64 u3)).setCell ⟨w.heap.size,4,none⟩ (.int .u64 u4)).setCell ⟨w.heap.size,5,none⟩ (.int .u64 u5)).setCell ⟨w.heap.size,6,none⟩ (.int .u64 u6)).setCell ⟨w.heap.size,7,none⟩ (.int .u64 u7)).setCell ⟨w.heap.size,8,none⟩ (.int .u64 u8))):=hid (((((((((HB.out.setCell (p:=⟨w.heap.size,0,none⟩) (Nat.le_refl _) _).setCell (p:=⟨w.heap.size,1,none⟩) (Nat.le_refl _) _).setCell (p:=⟨w.heap.size,2,none⟩) (Nat.le_refl _) _).setCell (p:=⟨w.heap.size,3,none⟩) (Nat.le_refl _) _).setCell (p:=⟨w.heap.size,4,none⟩) (Nat.le_refl _) _).setCell (p:=⟨w.heap.size,5,none⟩) (Nat.le_refl _) _).setCell (p:=⟨w.heap.size,6,none⟩) (Nat.le_refl _) _).setCell (p:=⟨w.heap.size,7,none⟩) (Nat.le_refl _) _).setCell (p:=⟨w.heap.size,8,none⟩) (Nat.le_refl _) _);clear hE2 HE hall hb hr hk hi hlt hok hnz;go_wp2_with fail;exact bodyPost_ret (v:=.tuple #[.agg #[.int .i64 a0,.int .u64 u1,.int .u64 u2,.int .u64 u3,.int .u64 u4,.int .u64 u5,.int .u64 u6,.int .u64 u7,.int .u64 u8],.int .i64 0]) (by simp [results,Tryz.results98,go_sem,r0,r1,r2,r3,r4,r5,r6,r7,r8]) rfl ⟨_,⟨a0,u1,u2,u3,u4,u5,u6,u7,u8,rfl⟩,by rw [HE3.out],HBZ.out⟩
end Go.Proofs.YtedfppbnkgffcaaGreatDoor
