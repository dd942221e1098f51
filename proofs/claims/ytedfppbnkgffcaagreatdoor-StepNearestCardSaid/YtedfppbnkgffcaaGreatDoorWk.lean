/-
 Texts joined: Wk Wl Wm Wn.
-/
import Derived.Test.YtedfppbnkgffcaaGreatDoorWh
import Derived.Test.YtedfppbnkgffcaaGreatDoorPa
import Derived.Lib.OthersKept
set_option linter.unusedVariables false
set_option linter.unusedSimpArgs false
set_option maxRecDepth 100000
set_option maxHeartbeats 8000000
namespace Go.Proofs.YtedfppbnkgffcaaGreatDoor
open Go.RowKit
open Go.Lib (hid)
def LET:ByteArray:=⟨#[34,92,110,114,116]⟩
def NewBytes (W:World) (b:List UInt8) (v:Value) (w':World):Prop:=∃ g cap,v=.slice (some ⟨g,0,none⟩) b.length cap∧W.heap.size≤g∧(∀ j u,(Lib.byteCells b)[j]?=some u→w'.cell? ((⟨g,0,none⟩:Addr).add j)=some u)
def EscEnd (l:List UInt8) (W:World) (e:Ending) (w':World):Prop:=
 match Sp.escV l with
 | none=>e=.returned (.tuple #[.slice none 0 0,.int .i64 0])∧Below W.heap.size W w'
 | some (k,b)=>∃ v,e=.returned (.tuple #[v,.int .i64 (k:Nat)])∧NewBytes W b v w'∧Below W.heap.size W w'
theorem EscEnd_none {l:List UInt8} {W:World} (h:Sp.escV l=none):∀ e w',(e=Ending.returned (.tuple #[.slice none 0 0,.int .i64 0])∧Below W.heap.size W w')→EscEnd l W e w':=by
 intro e w' hh;unfold EscEnd;rw [h];exact hh
theorem EscEnd_one {l:List UInt8} {W:World} {k:Nat} {y:UInt8} (h:Sp.escV l=some (k,[y])) {z:Int} (hz:z=y.toNat) (kk:Int) (hk:kk=k) {w':World} (hb:Below W.heap.size W w') {g cap:Nat} (hg:W.heap.size≤g) (hc:w'.cell? ⟨g,0,none⟩=some (.int .u8 z)):
  EscEnd l W (.returned (.tuple #[.slice (some ⟨g,0,none⟩) 1 cap,.int .i64 kk])) w':=by
 unfold EscEnd;rw [h];subst hk;refine⟨_,rfl,⟨g,cap,rfl,hg,?_⟩,hb⟩;intro j u hu;rcases j with _ | j
 ·simp [Lib.byteCells] at hu;subst hu;rw [← hz];simpa [Addr.add] using hc
 ·simp [Lib.byteCells] at hu
theorem scan_escape_end (s:ByteArray) (w:World) (h1:¬ 1<s.size):
  Calls Tryz.prog 136 #[.string s] w fun e w'=>e=.returned (.tuple #[.slice none 0 0,.int .i64 0])∧Below w.heap.size w w':=by
 go_enter Tryz.func136,Tryz.ntmps136;go_wp2;go_ret2;exact⟨rfl,Below.refl _ _⟩
theorem idx_let (c:UInt8) (w:World):Calls Tryz.prog 144 #[.string LET,.int .u8 c.toNat] w fun e w'=>e=.returned (.int .i64 (Lib.indexByte [34,92,110,114,116] c))∧w'=w:=by
 have h:=Tryz.strings_IndexByte LET c.toNat w;have e:((c.toNat:Int)).toNat.toUInt8=c:=by simp
 rw [e] at h;exact h
theorem scan_escape_34 (s:ByteArray) (w:World) (h1:1<s.size) (hc:(s[1]'h1).toNat=34):
  Calls Tryz.prog 136 #[.string s] w fun e w'=>∃ g cap,e=.returned (.tuple #[.slice (some ⟨g,0,none⟩) 1 cap,.int .i64 2])∧w.heap.size≤g∧w'.cell? ⟨g,0,none⟩=some (.int .u8 34)∧Below w.heap.size w w':=by
 have hi:=fun W=>idx_let (s[1]'h1) W
 have hcc:s[1]'h1=34:=UInt8.toNat_inj.1 hc;have hv:Lib.indexByte [34,92,110,114,116] (s[1]'h1)=0:=by rw [hcc];rfl
 simp only [hv] at hi;have HI:=hid hi;have h1':(1:Int)<s.size:=by omega
 clear hi hv hcc hc;go_enter Tryz.func136,Tryz.ntmps136
 go_wp2_with (go_at_call 144;refine (HI.out _).mono ?_;rintro e w' ⟨rfl,rfl⟩)
 go_ret2;exact⟨_,_,rfl,Nat.le_refl _,by rw [World.cell?_alloc_mark];rfl,(Below.refl _ _).alloc (Nat.le_refl _) _⟩
theorem scan_escape_92 (s:ByteArray) (w:World) (h1:1<s.size) (hc:(s[1]'h1).toNat=92):
  Calls Tryz.prog 136 #[.string s] w fun e w'=>∃ g cap,e=.returned (.tuple #[.slice (some ⟨g,0,none⟩) 1 cap,.int .i64 2])∧w.heap.size≤g∧w'.cell? ⟨g,0,none⟩=some (.int .u8 92)∧Below w.heap.size w w':=by
 have hi:=fun W=>idx_let (s[1]'h1) W
 have hcc:s[1]'h1=92:=UInt8.toNat_inj.1 hc;have hv:Lib.indexByte [34,92,110,114,116] (s[1]'h1)=1:=by rw [hcc];rfl
 simp only [hv] at hi;have HI:=hid hi;have h1':(1:Int)<s.size:=by omega
 clear hi hv hcc hc;go_enter Tryz.func136,Tryz.ntmps136
 go_wp2_with (go_at_call 144;refine (HI.out _).mono ?_;rintro e w' ⟨rfl,rfl⟩)
 go_ret2;exact⟨_,_,rfl,Nat.le_refl _,by rw [World.cell?_alloc_mark];rfl,(Below.refl _ _).alloc (Nat.le_refl _) _⟩
theorem scan_escape_110 (s:ByteArray) (w:World) (h1:1<s.size) (hc:(s[1]'h1).toNat=110):
  Calls Tryz.prog 136 #[.string s] w fun e w'=>∃ g cap,e=.returned (.tuple #[.slice (some ⟨g,0,none⟩) 1 cap,.int .i64 2])∧w.heap.size≤g∧w'.cell? ⟨g,0,none⟩=some (.int .u8 10)∧Below w.heap.size w w':=by
 have hi:=fun W=>idx_let (s[1]'h1) W
 have hcc:s[1]'h1=110:=UInt8.toNat_inj.1 hc;have hv:Lib.indexByte [34,92,110,114,116] (s[1]'h1)=2:=by rw [hcc];rfl
 simp only [hv] at hi;have HI:=hid hi;have h1':(1:Int)<s.size:=by omega
 clear hi hv hcc hc;go_enter Tryz.func136,Tryz.ntmps136
 go_wp2_with (go_at_call 144;refine (HI.out _).mono ?_;rintro e w' ⟨rfl,rfl⟩)
 go_ret2;exact⟨_,_,rfl,Nat.le_refl _,by rw [World.cell?_alloc_mark];rfl,(Below.refl _ _).alloc (Nat.le_refl _) _⟩
theorem scan_escape_114 (s:ByteArray) (w:World) (h1:1<s.size) (hc:(s[1]'h1).toNat=114):
  Calls Tryz.prog 136 #[.string s] w fun e w'=>∃ g cap,e=.returned (.tuple #[.slice (some ⟨g,0,none⟩) 1 cap,.int .i64 2])∧w.heap.size≤g∧w'.cell? ⟨g,0,none⟩=some (.int .u8 13)∧Below w.heap.size w w':=by
 have hi:=fun W=>idx_let (s[1]'h1) W
 have hcc:s[1]'h1=114:=UInt8.toNat_inj.1 hc;have hv:Lib.indexByte [34,92,110,114,116] (s[1]'h1)=3:=by rw [hcc];rfl
 simp only [hv] at hi;have HI:=hid hi;have h1':(1:Int)<s.size:=by omega
 clear hi hv hcc hc;go_enter Tryz.func136,Tryz.ntmps136
 go_wp2_with (go_at_call 144;refine (HI.out _).mono ?_;rintro e w' ⟨rfl,rfl⟩)
 go_ret2;exact⟨_,_,rfl,Nat.le_refl _,by rw [World.cell?_alloc_mark];rfl,(Below.refl _ _).alloc (Nat.le_refl _) _⟩
theorem scan_escape_116 (s:ByteArray) (w:World) (h1:1<s.size) (hc:(s[1]'h1).toNat=116):
  Calls Tryz.prog 136 #[.string s] w fun e w'=>∃ g cap,e=.returned (.tuple #[.slice (some ⟨g,0,none⟩) 1 cap,.int .i64 2])∧w.heap.size≤g∧w'.cell? ⟨g,0,none⟩=some (.int .u8 9)∧Below w.heap.size w w':=by
 have hi:=fun W=>idx_let (s[1]'h1) W
 have hcc:s[1]'h1=116:=UInt8.toNat_inj.1 hc;have hv:Lib.indexByte [34,92,110,114,116] (s[1]'h1)=4:=by rw [hcc];rfl
 simp only [hv] at hi;have HI:=hid hi;have h1':(1:Int)<s.size:=by omega
 clear hi hv hcc hc;go_enter Tryz.func136,Tryz.ntmps136
 go_wp2_with (go_at_call 144;refine (HI.out _).mono ?_;rintro e w' ⟨rfl,rfl⟩)
 go_ret2;exact⟨_,_,rfl,Nat.le_refl _,by rw [World.cell?_alloc_mark];rfl,(Below.refl _ _).alloc (Nat.le_refl _) _⟩
theorem idx_none {c:UInt8} (h34:c.toNat≠34) (h92:c.toNat≠92) (h110:c.toNat≠110) (h114:c.toNat≠114) (h116:c.toNat≠116):Lib.indexByte [34,92,110,114,116] c=-1:=by
 rw [Sp.indexByte_tw,if_pos];simp only [List.all_cons,List.all_nil,Bool.and_true,Bool.and_eq_true,decide_eq_true_eq];refine⟨?_,?_,?_,?_,?_⟩ <;> (rintro rfl;simp at h34 h92 h110 h114 h116)
theorem hasP (s:ByteArray) (w:World) (b:Bool) (hb:decide (3≤s.size∧Sp.bt s.data.toList 0=92∧Sp.bt s.data.toList 1=117∧Sp.bt s.data.toList 2=123)=b):
  Calls Tryz.prog 145 #[.string s,.string ⟨#[92,117,123]⟩] w fun e w'=>e=.returned (.bool b)∧w'=w:=by
 have h:=Tryz.strings_HasPrefix s ⟨#[92,117,123]⟩ w
 have e:Lib.hasPrefix s.data.toList (⟨#[92,117,123]⟩:ByteArray).data.toList=b:=by
  rw [← hb,Lib.size_eq];exact Sp.hasP3 s.data.toList 92 117 123
 rw [e] at h;exact h
theorem scan_escape_no (s:ByteArray) (w:World) (h1:1<s.size) (h34:(s[1]'h1).toNat≠34) (h92:(s[1]'h1).toNat≠92) (h110:(s[1]'h1).toNat≠110) (h114:(s[1]'h1).toNat≠114) (h116:(s[1]'h1).toNat≠116) (h120:(s[1]'h1).toNat≠120)
  (hno:¬ (3≤s.size∧(s[1]'h1).toNat=117∧Sp.bt s.data.toList 2=123)):
  Calls Tryz.prog 136 #[.string s] w fun e w'=>e=.returned (.tuple #[.slice none 0 0,.int .i64 0])∧Below w.heap.size w w':=by
 have hi:=fun W=>idx_let (s[1]'h1) W
 have hv:=idx_none h34 h92 h110 h114 h116;simp only [hv] at hi;have HI:=hid hi;have hp:=fun W=>hasP s W false (decide_eq_false (by rintro⟨a,b,c,d⟩;exact hno ⟨a,by rw [Sp.bt_idx s 1 h1];exact c,d⟩))
 have HP:=hid hp;have q1:(((s[1]'h1).toNat:Int) == 120)=false:=beq_eq_false_iff_ne.2 (by omega);have h1':(1:Int)<s.size:=by omega
 clear hi hv hp hno h34 h92 h110 h114 h116 h120;go_enter Tryz.func136,Tryz.ntmps136
 go_wp2_with (first | (go_at_call 144;refine (HI.out _).mono ?_;rintro e w' ⟨rfl,rfl⟩) | (go_at_call 145;refine (HP.out _).mono ?_;rintro e w' ⟨rfl,rfl⟩))
 go_ret2;exact⟨rfl,Below.refl _ _⟩
theorem basedV_two (x y:UInt8):Sp.basedV 16 2 [x,y]=if Sp.hexv x<16∧Sp.hexv y<16 then some (16 * Sp.hexv x+Sp.hexv y) else none:=by
 unfold Sp.basedV;by_cases h:Sp.hexv x<16∧Sp.hexv y<16
 ·rw [if_pos h,if_neg]
  ·simp [Sp.digitsV]
  ·simp [h.1,h.2]
 ·rw [if_neg h,if_pos];right;right;rw [List.all_eq_false];by_cases hx:Sp.hexv x<16
  ·exact⟨y,by simp,by simp;omega⟩
  ·exact⟨x,by simp,by simp;omega⟩
theorem piece_two (s:ByteArray) (h3:3<s.size):(s.extract 2 4).data.toList=[s[2]'(by omega),s[3]'h3]:=by
 rw [Lib.extract_data,Sp.drop_cons s 2 (by omega),Sp.drop_cons s 3 h3];rfl
theorem scan_escape_x_no (s:ByteArray) (w:World) (hG:Gl w) (hs:s.size≤1073741824) (h1:1<s.size) (h120:(s[1]'h1).toNat=120) (hno:∀ h3:3<s.size,¬ (Sp.hexv (s[2]'(by omega))<16∧Sp.hexv (s[3]'h3)<16)):
  Calls Tryz.prog 136 #[.string s] w fun e w'=>e=.returned (.tuple #[.slice none 0 0,.int .i64 0])∧Below w.heap.size w w':=by
 have hi:=fun W=>idx_let (s[1]'h1) W
 have hv:=idx_none (c:=s[1]'h1) (by omega) (by omega) (by omega) (by omega) (by omega);simp only [hv] at hi;have HI:=hid hi;have hp:=fun W=>hasP s W false (decide_eq_false (by rintro⟨a,b,c,d⟩;rw [← Sp.bt_idx s 1 h1] at c;omega))
 have HP:=hid hp;have q1:(((s[1]'h1).toNat:Int) == 120)=true:=beq_iff_eq.2 (by omega);have h1':(1:Int)<s.size:=by omega
 have hb:=fun W hW=>scan_based (s.extract 2 4) 16 2 W hW (by rw [ByteArray.size_extract];omega) (by omega) (Or.inl ⟨rfl,by omega⟩)
 by_cases h3:3<s.size
 ·have q2:decide ((4:Int)≤s.size)=true:=dT
  have hk:∀ W,Gl W→Calls Tryz.prog 134 #[.string (s.extract 2 4),.int .i64 16,.int .i64 2] W fun e w'=>e=.returned (.tuple #[.int .i64 0,.bool false])∧Below W.heap.size W w':=by
   intro W hW;have h:=hb W hW;rw [okV_none (by rw [piece_two s h3];show Sp.basedV 16 2 _=none;rw [basedV_two,if_neg (hno h3)])] at h;exact h
  have HB:=hid hk;have HG:=hid hG;clear hi hv hp hno h120 hb hk hG;go_enter Tryz.func136,Tryz.ntmps136
  go_wp2_with (first | (go_at_call 144;refine (HI.out _).mono ?_;rintro e w' ⟨rfl,rfl⟩) | (go_at_call 145;refine (HP.out _).mono ?_;rintro e w' ⟨rfl,rfl⟩) | (go_at_call 134;refine (HB.out _ HG.out).mono ?_;rintro e w1 ⟨rfl,hb1⟩))
  go_ret2;exact⟨rfl,by assumption⟩
 ·have q2:decide ((4:Int)≤s.size)=false:=dF;clear hi hv hp hno h120 hb hG;go_enter Tryz.func136,Tryz.ntmps136
  go_wp2_with (first | (go_at_call 144;refine (HI.out _).mono ?_;rintro e w' ⟨rfl,rfl⟩) | (go_at_call 145;refine (HP.out _).mono ?_;rintro e w' ⟨rfl,rfl⟩))
  go_ret2;exact⟨rfl,Below.refl _ _⟩
theorem scan_escape_x (s:ByteArray) (w:World) (hG:Gl w) (hs:s.size≤1073741824) (h1:1<s.size) (h120:(s[1]'h1).toNat=120) (h3:3<s.size) (h2:2<s.size) (ha:Sp.hexv (s[2]'h2)<16) (hb2:Sp.hexv (s[3]'h3)<16):
  Calls Tryz.prog 136 #[.string s] w fun e w'=>∃ g cap,e=.returned (.tuple #[.slice (some ⟨g,0,none⟩) 1 cap,.int .i64 4])∧w.heap.size≤g∧w'.cell? ⟨g,0,none⟩=some (.int .u8 (16 * Sp.hexv (s[2]'h2)+Sp.hexv (s[3]'h3):Nat))∧Below w.heap.size w w':=by
 have hi:=fun W=>idx_let (s[1]'h1) W
 have hv:=idx_none (c:=s[1]'h1) (by omega) (by omega) (by omega) (by omega) (by omega);simp only [hv] at hi;have HI:=hid hi;have q1:(((s[1]'h1).toNat:Int) == 120)=true:=beq_iff_eq.2 (by omega);have h1':(1:Int)<s.size:=by omega
 have q2:decide ((4:Int)≤s.size)=true:=dT;have hb:=fun W hW=>scan_based (s.extract 2 4) 16 2 W hW (by rw [ByteArray.size_extract];omega) (by omega) (Or.inl ⟨rfl,by omega⟩)
 obtain⟨z,hz⟩:∃ z:Int,((16 * Sp.hexv (s[2]'h2)+Sp.hexv (s[3]'h3):Nat):Int)=z:=⟨_,rfl⟩
 have hz0:0≤z:=by omega
 have hz1:z<256:=by omega
 have hk:∀ W,Gl W→Calls Tryz.prog 134 #[.string (s.extract 2 4),.int .i64 16,.int .i64 2] W fun e w'=>e=.returned (.tuple #[.int .i64 z,.bool true])∧Below W.heap.size W w':=by
  intro W hW;have h:=hb W hW;rw [okV_some (by rw [piece_two s h3];show Sp.basedV 16 2 _=_;rw [basedV_two,if_pos ⟨ha,hb2⟩]),hz] at h;exact h
 rw [hz];have HB:=hid hk;have HG:=hid hG;clear hi hv h120 hb hk hG hz ha hb2;go_enter Tryz.func136,Tryz.ntmps136
 go_wp2_with (first | (go_at_call 144;refine (HI.out _).mono ?_;rintro e w' ⟨rfl,rfl⟩) | (go_at_call 134;refine (HB.out _ HG.out).mono ?_;rintro e w1 ⟨rfl,hb1⟩))
 go_ret2;exact⟨_,_,rfl,hb1.size,by rw [World.cell?_alloc_mark];rfl,hb1.alloc hb1.size _⟩
theorem ownsRowF_some {w:World} {B:Nat} {v:Value} {n:Nat} {xs:List Value} (h:w.ownsRowF B 5 1 v n xs) (hn:0<n):
  ∃ g cap,v=.slice (some ⟨g,0,none⟩) n cap∧B≤g∧∀ j u,xs[j]?=some u→w.cell? ((⟨g,0,none⟩:Addr).add j)=some u:=by
 rcases h.2 with⟨rfl,rfl⟩ | ⟨g,cap,cur,fz,rfl,hbg,_⟩
 ·have:=h.1;simp at this;omega
 ·exact⟨g,cap,rfl,hbg,h.cells (g:=g) rfl⟩
theorem app_nil (v:Nat) (hv:v≤1114111) (w:World):
  Calls Tryz.prog 138 #[.slice none 0 0,.int .i32 v] w fun e w'=>∃ g cap,e=.returned (.slice (some ⟨g,0,none⟩) (Lib.encodeRune (v:Nat)).length cap)∧w.heap.size≤g ∧
   (∀ j u,(Lib.byteCells (Lib.encodeRune (v:Nat)))[j]?=some u→w'.cell? ((⟨g,0,none⟩:Addr).add j)=some u)∧Below w.heap.size w w':=by
 refine (Tryz.utf8_AppendRune_row w.heap.size (.slice none 0 0) 0 [] (v:Int) (by omega) (by omega) w (World.ownsRowF_nil _ _ _ _) (by omega) (Nat.le_refl _)).mono ?_;rintro e w' ⟨v',rfl,hown,o,hg⟩;have hl:=Lib.runeCells_le (v:Nat);obtain⟨g,cap,rfl,h1,h2⟩:=ownsRowF_some hown (by omega);rw [Nat.zero_add,Lib.runeCells_length];rw [List.nil_append,← Lib.byteCells_encodeRune] at h2;refine⟨g,cap,rfl,h1,h2,?_⟩;exact ((Below.refl _ _).alloc (Nat.le_refl _) o).grown hg (by simp) (fun k hk=>by simp [Value.ownBlock] at hk)
theorem scan_escape_u (s:ByteArray) (w:World) (hG:Gl w) (hs:s.size≤1073741824) (h1:1<s.size) (h0:Sp.bt s.data.toList 0=92) (hc:(s[1]'h1).toNat=117) (h2:3≤s.size) (hc2:Sp.bt s.data.toList 2=123):
  Calls Tryz.prog 136 #[.string s] w (EscEnd s.data.toList w):=by
 have hO:Sp.brO s.data.toList=Sp.bracedV (s.data.toList.drop 3):=by
  unfold Sp.brO;rw [if_pos ⟨by rw [← Lib.size_eq];omega,hc2⟩]
 have hE:Sp.escV s.data.toList=match Sp.bracedV (s.data.toList.drop 3) with | none=>none | some (k,v)=>some (k,Lib.encodeRune (v:Nat)):=by
  have hl:¬ s.data.toList.length<2:=by rw [← Lib.size_eq];omega
  have hb:Sp.bt s.data.toList 1=117:=by rw [← Sp.bt_idx s 1 h1];exact hc
  rw [Sp.escV_eq,if_neg hl,hb,hO];simp only [Nat.reduceEqDiff,if_false,if_true]
  cases Sp.bracedV (s.data.toList.drop 3) <;> rfl
 have hi:=fun W=>idx_let (s[1]'h1) W
 have hv:=idx_none (c:=s[1]'h1) (by omega) (by omega) (by omega) (by omega) (by omega);simp only [hv] at hi;have HI:=hid hi;have hp:=fun W=>hasP s W true (decide_eq_true ⟨by omega,h0,by rw [← Sp.bt_idx s 1 h1];exact hc,hc2⟩)
 have HP:=hid hp;have q1:(((s[1]'h1).toNat:Int) == 120)=false:=beq_eq_false_iff_ne.2 (by omega);have h1':(1:Int)<s.size:=by omega
 have h3':(3:Int)≤s.size:=by omega
 obtain⟨m,hm⟩:=nM (s.data.toList.drop 3);rw [hm] at hE;have hsz:(s.extract 3 s.size).size=s.size - 3:=by rw [ByteArray.size_extract];omega
 have hml:m.length=s.size - 3:=by rw [← hm,List.length_drop,← Lib.size_eq]
 have hdat:(s.extract 3 s.size).data.toList=m:=by
  rw [Lib.extract_data,List.take_of_length_le (by rw [List.length_drop,← Lib.size_eq];omega),hm]
 obtain⟨mx,hmx⟩:=hG.maxLen;have hcut:=Tryz.strings_Cut (s.extract 3 s.size) ⟨#[125]⟩ mx w (by omega) hmx;have hcut1:Lib.cut (s.extract 3 s.size).data.toList (⟨#[125]⟩:ByteArray).data.toList=Lib.cut m [125]:=by rw [hdat]
 rw [hcut1,Sp.cut_one] at hcut;by_cases hall:m.all (fun x=>decide (x≠125))=true
 ·rw [if_pos hall] at hcut;have hB:Sp.bracedV m=none:=by unfold Sp.bracedV;rw [if_pos hall]
  rw [hB] at hE;refine Calls.mono ?_ (EscEnd_none hE);have HC:=hid hcut;clear hcut hcut1 hall hE hB hO hi hv hp h0 hc hc2 hm hml hdat hmx hsz hG;go_enter Tryz.func136,Tryz.ntmps136
  go_wp2_with (first | (go_at_call 144;refine (HI.out _).mono ?_;rintro e w' ⟨rfl,rfl⟩) | (go_at_call 145;refine (HP.out _).mono ?_;rintro e w' ⟨rfl,rfl⟩) | (go_at_call 146;refine HC.out.mono ?_;rintro e w1 ⟨rfl,nd,rfl⟩))
  go_ret2;exact⟨rfl,below_drewN' (Below.refl _ _) _⟩
 ·rw [if_neg hall] at hcut;obtain⟨tw,htw⟩:=nM (m.takeWhile (fun x=>decide (x≠125)));have htl:tw.length≤m.length:=by rw [← htw];exact (List.takeWhile_sublist _).length_le
  rw [htw] at hcut;have hbas:=fun W hW=>scan_based ⟨tw.toArray⟩ 16 6 W hW (by show tw.toArray.size≤_;simp;omega) (by omega) (Or.inl ⟨rfl,by omega⟩)
  have hbe:(⟨tw.toArray⟩:ByteArray).data.toList=tw:=by simp
  simp only [hbe] at hbas
  have hB:Sp.bracedV m=match Sp.basedV 16 6 tw with | none=>none | some v=>if Sp.validRune v then some (tw.length+4,v) else none:=by
   unfold Sp.bracedV;rw [if_neg hall,htw]
   cases Sp.basedV 16 6 tw <;> rfl
  have hbb:∀ n,Below w.heap.size w (w.drewN n):=fun n=>below_drewN' (Below.refl _ _) n
  have HBB:=hid hbb;rcases hv6:Sp.basedV 16 6 tw with _ | v
  ·rw [hv6] at hB;rw [hB] at hE;refine Calls.mono ?_ (EscEnd_none hE)
   have hk:∀ W,Gl W→Calls Tryz.prog 134 #[.string ⟨tw.toArray⟩,.int .i64 16,.int .i64 6] W fun e w'=>e=.returned (.tuple #[.int .i64 0,.bool false])∧Below W.heap.size W w':=by
    intro W hW;have h:=hbas W hW;rw [okV_none (by exact hv6)] at h;exact h
   have HC:=hid hcut;have HK:=hid hk;have HG:=hid hG;clear hcut hcut1 hall hE hB hO hi hv hp h0 hc hc2 hm hml hdat hmx hsz hG hk hbas hbe hv6 htw htl hbb;go_enter Tryz.func136,Tryz.ntmps136
   go_wp2_with (first | (go_at_call 144;refine (HI.out _).mono ?_;rintro e w' ⟨rfl,rfl⟩) | (go_at_call 145;refine (HP.out _).mono ?_;rintro e w' ⟨rfl,rfl⟩) | (go_at_call 146;refine HC.out.mono ?_;rintro e w1 ⟨rfl,nd,rfl⟩) | (go_at_call 134;refine (HK.out _ (HG.out.below (HBB.out _))).mono ?_;rintro e w2 ⟨rfl,hb2⟩))
   go_ret2;exact⟨rfl,(HBB.out _).trans hb2⟩
  ·rw [hv6] at hB;have hlt:=Sp.basedV_lt (by omega) hv6;(have h16:(16:Nat) ^ 6=16777216:=by decide);rw [h16] at hlt
   have hk:∀ W,Gl W→Calls Tryz.prog 134 #[.string ⟨tw.toArray⟩,.int .i64 16,.int .i64 6] W fun e w'=>e=.returned (.tuple #[.int .i64 v,.bool true])∧Below W.heap.size W w':=by
    intro W hW;have h:=hbas W hW;rw [okV_some (by exact hv6)] at h;exact h
   (have hvr:=fun W=>Tryz.utf8_ValidRune (v:Int) W);simp only [Sp.valid_rune] at hvr
   obtain⟨z,hz⟩:∃ z:Int,(v:Int)=z:=⟨_,rfl⟩
   (have hz0:0≤z:=by omega);(have hz1:z<16777216:=by omega);(have hB:Sp.bracedV m=if Sp.validRune v=true then some (tw.length+4,v) else none:=hB);rcases hval:Sp.validRune v with _ | _
   ·rw [hval] at hB hvr;rw [show (if false=true then some (tw.length+4,v) else none)=(none:Option (Nat × Nat)) from rfl] at hB;rw [hB] at hE;refine Calls.mono ?_ (EscEnd_none hE);simp only [hz] at hk hvr;have HC:=hid hcut;have HK:=hid hk;have HG:=hid hG;have HV:=hid hvr;clear hcut hcut1 hall hE hB hO hi hv hp h0 hc hc2 hm hml hdat hmx hsz hG hk hbas hbe hv6 htw htl hbb hvr hlt hz hval;go_enter Tryz.func136,Tryz.ntmps136
    go_wp2_with (first | (go_at_call 144;refine (HI.out _).mono ?_;rintro e w' ⟨rfl,rfl⟩) | (go_at_call 145;refine (HP.out _).mono ?_;rintro e w' ⟨rfl,rfl⟩) | (go_at_call 146;refine HC.out.mono ?_;rintro e w1 ⟨rfl,nd,rfl⟩) | (go_at_call 134;refine (HK.out _ (HG.out.below (HBB.out _))).mono ?_;rintro e w2 ⟨rfl,hb2⟩) | (go_at_call 147;refine (HV.out _).mono ?_;rintro e w' ⟨rfl,rfl⟩))
    go_ret2;exact⟨rfl,(HBB.out _).trans hb2⟩
   ·rw [hval] at hB hvr;rw [show (if true=true then some (tw.length+4,v) else none)=some (tw.length+4,v) from rfl] at hB;rw [hB] at hE;(have hvm:v≤1114111:=by have:=of_decide_eq_true hval;omega);(have happ:=fun W=>app_nil v hvm W);simp only [hz] at hk hvr happ;unfold EscEnd;rw [hE];have HC:=hid hcut;have HK:=hid hk;have HG:=hid hG;have HV:=hid hvr;have HA:=hid happ;(have hz2:z≤1114111:=by omega);have HZ:=hid hz;clear hcut hcut1 hall hE hB hO hi hv hp h0 hc hc2 hm hdat hmx hsz hG hk hbas hbe hv6 htw hbb hvr hlt hz hval happ;(have htl2:(tw.length:Int)≤1073741824:=by omega);clear htl hml;go_enter Tryz.func136,Tryz.ntmps136
    go_wp2_with (first | (go_at_call 144;refine (HI.out _).mono ?_;rintro e w' ⟨rfl,rfl⟩) | (go_at_call 145;refine (HP.out _).mono ?_;rintro e w' ⟨rfl,rfl⟩) | (go_at_call 146;refine HC.out.mono ?_;rintro e w1 ⟨rfl,nd,rfl⟩) | (go_at_call 134;refine (HK.out _ (HG.out.below (HBB.out _))).mono ?_;rintro e w2 ⟨rfl,hb2⟩) | (go_at_call 147;refine (HV.out _).mono ?_;rintro e w' ⟨rfl,rfl⟩) | (go_at_call 138;refine (HA.out _).mono ?_;rintro e w3 ⟨g,cap,rfl,hg1,hg2,hb3⟩))
    go_ret2;obtain rfl:=HZ.out;exact⟨_,ret_pair rfl (congrArg (Value.int .i64) (by simp)),⟨g,cap,rfl,Nat.le_trans ((HBB.out nd).trans hb2).size hg1,hg2⟩,((HBB.out _).trans hb2).trans (hb3.mono ((HBB.out nd).trans hb2).size)⟩
theorem EscEnd_of (s:ByteArray) (w:World) {k:Nat} {y:UInt8} (hE:Sp.escV s.data.toList=some (k,[y])) {z kk:Int} (hz:z=y.toNat) (hk:kk=k)
  (h:Calls Tryz.prog 136 #[.string s] w fun e w'=>∃ g cap,e=.returned (.tuple #[.slice (some ⟨g,0,none⟩) 1 cap,.int .i64 kk])∧w.heap.size≤g∧w'.cell? ⟨g,0,none⟩=some (.int .u8 z)∧Below w.heap.size w w'):
  Calls Tryz.prog 136 #[.string s] w (EscEnd s.data.toList w):=by
 refine h.mono ?_;rintro e w' ⟨g,cap,rfl,hg,hc,hb⟩;exact EscEnd_one hE hz kk hk hb hg hc
theorem scan_escape (s:ByteArray) (w:World) (hG:Gl w) (hs:s.size≤1073741824) (h0:Sp.bt s.data.toList 0=92):
  Calls Tryz.prog 136 #[.string s] w (EscEnd s.data.toList w):=by
 have hE:=Sp.escV_eq s.data.toList;rw [← Lib.size_eq] at hE;by_cases h1:1<s.size
 ·have hb:=Sp.bt_idx s 1 h1;rw [if_neg (by omega),← hb] at hE;by_cases c1:(s[1]'h1).toNat=34
  ·rw [if_pos c1] at hE;exact EscEnd_of s w hE rfl rfl (scan_escape_34 s w h1 c1)
  rw [if_neg c1] at hE;by_cases c2:(s[1]'h1).toNat=92
  ·rw [if_pos c2] at hE;exact EscEnd_of s w hE rfl rfl (scan_escape_92 s w h1 c2)
  rw [if_neg c2] at hE;by_cases c3:(s[1]'h1).toNat=110
  ·rw [if_pos c3] at hE;exact EscEnd_of s w hE rfl rfl (scan_escape_110 s w h1 c3)
  rw [if_neg c3] at hE;by_cases c4:(s[1]'h1).toNat=114
  ·rw [if_pos c4] at hE;exact EscEnd_of s w hE rfl rfl (scan_escape_114 s w h1 c4)
  rw [if_neg c4] at hE;by_cases c5:(s[1]'h1).toNat=116
  ·rw [if_pos c5] at hE;exact EscEnd_of s w hE rfl rfl (scan_escape_116 s w h1 c5)
  rw [if_neg c5] at hE;by_cases c6:(s[1]'h1).toNat=120
  ·rw [if_pos c6] at hE
   have g2:∀ h2:2<s.size,s.data.toList.getD 2 0=s[2]'h2:=fun h2=>by
    rw [Sp.get_idx s 2 h2 (by rw [← Lib.size_eq];exact h2),List.getD_eq_getElem?_getD,List.getElem?_eq_getElem];rfl
   have g3:∀ h3:3<s.size,s.data.toList.getD 3 0=s[3]'h3:=fun h3=>by
    rw [Sp.get_idx s 3 h3 (by rw [← Lib.size_eq];exact h3),List.getD_eq_getElem?_getD,List.getElem?_eq_getElem];rfl
   by_cases hx:3<s.size∧Sp.hexv (s.data.toList.getD 2 0)<16∧Sp.hexv (s.data.toList.getD 3 0)<16
   ·rw [if_pos hx] at hE;obtain⟨h3,ha,hb'⟩:=hx;(have h2:2<s.size:=by omega);rw [g2 h2] at ha hE;rw [g3 h3] at hb' hE;exact EscEnd_of s w hE (by rw [UInt8.toNat_ofNat'];congr 1;omega) rfl (scan_escape_x s w hG hs h1 c6 h3 h2 ha hb')
   ·rw [if_neg hx] at hE;refine (scan_escape_x_no s w hG hs h1 c6 ?_).mono (EscEnd_none hE);rintro h3 ⟨ha,hb'⟩;exact hx ⟨h3,by rw [g2 (by omega)];exact ha,by rw [g3 h3];exact hb'⟩
  rw [if_neg c6] at hE;by_cases c7:3≤s.size∧(s[1]'h1).toNat=117∧Sp.bt s.data.toList 2=123
  ·exact scan_escape_u s w hG hs h1 h0 c7.2.1 c7.1 c7.2.2
  ·have hE2:Sp.escV s.data.toList=none:=by
    rw [hE];by_cases c8:(s[1]'h1).toNat=117
    ·rw [if_pos c8]
     have hO:Sp.brO s.data.toList=none:=by
      unfold Sp.brO;rw [if_neg];rintro⟨a,b⟩;rw [← Lib.size_eq] at a;exact c7 ⟨a,c8,b⟩
     rw [hO]
    ·rw [if_neg c8]
   exact (scan_escape_no s w h1 c1 c2 c3 c4 c5 c6 c7).mono (EscEnd_none hE2)
 ·rw [if_pos (by omega)] at hE;exact (scan_escape_end s w h1).mono (EscEnd_none hE)
theorem wp_scope_again {P:Program} {a:Act} {w:World} {Q:Exit→Act→World→Prop} {first R:Code} (l:Nat) (J:Act→World→Prop) (μ:Act→World→Nat)
  (hf:findLabel (first.seq ((Code.label l).seq R)) l=some (Code.skip.seq R))
  (h0:first.wp P (Exit.then J fun _ _ _=>False) a w)
  (pass:∀ a w,J a w→R.wp P (Exit.jump l (fun a' w'=>J a' w'∧μ a' w'<μ a w) Q) a w):(Code.scope (first.seq ((Code.label l).seq R))).wp P Q a w:=by
 refine wp_scope_jumps l J μ hf ?_ ?_
 ·refine wp_seq (Code.wp_mono ?_ h0);intro e a' w' h
  cases e with
  | normal=>
   refine wp_seq (wp_label ?_);refine Code.wp_mono ?_ (pass a' w' h);intro e2 a2 w2 h2
   cases e2 with
   | goto l'=>exact⟨h2.1,h2.2.1⟩
   | _=>exact h2
  | _=>exact h.elim
 ·intro a' w' hJ;exact wp_seq (wp_skip (pass a' w' hJ))
theorem ownsRowF_keep {w w':World} {B:Nat} {v:Value} {n:Nat} {xs:List Value} {e:TypeId} (h:w.ownsRowF B e 1 v n xs) (hk:∀ g,v.ownBlock=some g→w'.heap[g]?=w.heap[g]?):w'.ownsRowF B e 1 v n xs:=by
 obtain⟨h1,h2⟩:=h;refine⟨h1,?_⟩;rcases h2 with h2 | ⟨g,cap,cur,fz,rfl,hbg,hg,r⟩
 ·exact Or.inl h2
 ·exact Or.inr ⟨g,cap,cur,fz,rfl,hbg,(hk g rfl).trans hg,r⟩
theorem ownsRowF_below {w w':World} {B:Nat} {v:Value} {n:Nat} {xs:List Value} {e:TypeId} (h:w.ownsRowF B e 1 v n xs) (hb:Below w.heap.size w w'):w'.ownsRowF B e 1 v n xs:=
 ownsRowF_keep h fun g hg=>hb.block g (h.lt g hg).2
theorem ownsRowF_iterAt {w:World} {B:Nat} {v:Value} {n:Nat} {xs:List Value} {e:TypeId} (h:w.ownsRowF B e 1 v n xs) {k:Nat} {t:ByteArray} {pos p':Nat} (hi:w.heap[k]?=some (.stringIter t pos)):(w.iterAt k t p').ownsRowF B e 1 v n xs:=by
 refine ownsRowF_keep h fun g hg=>?_
 obtain⟨c,fz,hc⟩:=Lib.ownsRowF_kind h g hg;have hne:g≠k:=by rintro rfl;rw [hi] at hc;cases hc
 exact Lib.iterAt_other w k g t p' hne
theorem iter_grown {w w':World} {B:Nat} {v:Value} {n:Nat} {xs:List Value} {e:TypeId} {k:Nat} {t:ByteArray} {pos:Nat} (h:w.ownsRowF B e 1 v n xs) (hi:w.heap[k]?=some (.stringIter t pos)) {o:Obj} (hg:(w.alloc o).grownBy w' v.ownBlock):w'.heap[k]?=some (.stringIter t pos):=by
 have hk:k<w.heap.size:=(Array.getElem?_eq_some_iff.1 hi).1;have h1:(w.alloc o).heap[k]?=w.heap[k]?:=Below.heap_alloc w o k hk;rw [hg.block k (by simp;omega) ?_,h1,hi];intro e';obtain⟨c,fz,hc⟩:=Lib.ownsRowF_kind h k e'.symm;rw [hi] at hc
 cases hc
theorem below_grownF {w w' a:World} {B:Nat} {v:Value} {n:Nat} {xs:List Value} {e:TypeId} (hb:Below B a w) (hB:B≤w.heap.size) (h:w.ownsRowF B e 1 v n xs) {o:Obj} (hg:(w.alloc o).grownBy w' v.ownBlock):Below B a w':=
 (hb.alloc hB o).grown hg (by simp;omega) (fun k hk=>(h.lt k hk).1)
theorem iter_below {w w':World} {k:Nat} {t:ByteArray} {pos:Nat} (hi:w.heap[k]?=some (.stringIter t pos)) (hb:Below w.heap.size w w'):w'.heap[k]?=some (.stringIter t pos):=
 (hb.block k (Array.getElem?_eq_some_iff.1 hi).1).trans hi
theorem dec_tests (l:List UInt8) (c:UInt8) (r:List UInt8) (h:l=c :: r) (n:Nat) (hn:n<128):((Sp.dec l).1=n↔c.toNat=n)∧((Sp.dec l).1<n↔c.toNat<n):=by
 subst h;rcases Nat.lt_or_ge c.toNat 128 with hc | hc
 ·rw [Sp.dec_ascii c r hc];exact⟨Iff.rfl,Iff.rfl⟩
 ·have:=Sp.dec_high c r hc;omega
def SpkEnd (s:ByteArray) (lines:Bool) (W:World) (e:Ending) (w':World):Prop:=
 ((Sp.speakV lines s.data.toList).1=0→∃ v,e=.returned (.tuple #[v,.int .i64 (Sp.speakV lines s.data.toList).2.2,.int .i64 0])∧w'.ownsRowF W.heap.size 5 1 v (Sp.speakV lines s.data.toList).2.1.length (Lib.byteCells (Sp.speakV lines s.data.toList).2.1)∧Below W.heap.size W w') ∧
 ((Sp.speakV lines s.data.toList).1≠0→e=.returned (.tuple #[.slice none 0 0,.int .i64 (Sp.speakV lines s.data.toList).2.2,.int .i64 (Sp.speakV lines s.data.toList).1])∧Below W.heap.size W w')
theorem SpkEnd_bad {s:ByteArray} {lines:Bool} {W w':World} {c p:Nat} {b:List UInt8} (h:Sp.speakV lines s.data.toList=(c,b,p)) (hc:c≠0) {x y:Int} (hx:x=p) (hy:y=c) (hb:Below W.heap.size W w'):
  SpkEnd s lines W (.returned (.tuple #[.slice none 0 0,.int .i64 x,.int .i64 y])) w':=by
 subst hx;subst hy;unfold SpkEnd;rw [h];exact⟨fun h0=>absurd h0 hc,fun _=>⟨rfl,hb⟩⟩
theorem SpkEnd_ok {s:ByteArray} {lines:Bool} {W w':World} {p:Nat} {b:List UInt8} {v:Value} (h:Sp.speakV lines s.data.toList=(0,b,p)) {x:Int} (hx:x=p) (ho:w'.ownsRowF W.heap.size 5 1 v b.length (Lib.byteCells b)) (hb:Below W.heap.size W w'):
  SpkEnd s lines W (.returned (.tuple #[v,.int .i64 x,.int .i64 0])) w':=by
 subst hx;unfold SpkEnd;rw [h];exact⟨fun _=>⟨v,rfl,ho,hb⟩,fun h0=>absurd rfl h0⟩
def SpkJ (s:ByteArray) (lines:Bool) (W:World) (v:Value) (at_:Nat) (acc:List UInt8) (w':World):Prop:=
 1≤at_∧at_≤s.size∧acc.length≤at_∧w'.ownsRowF W.heap.size 5 1 v acc.length (Lib.byteCells acc)∧Below W.heap.size W w' ∧
  ∃ f,s.size - at_≤f∧Sp.speakF lines f (s.data.toList.drop at_) at_ acc=Sp.speakV lines s.data.toList
def SpkA (s:ByteArray) (lines:Bool) (W:World) (a:Act) (w':World):Prop:=
 ∃ (n:Nat) (acc:List UInt8) (v u8 u9 u10 u11 u12 u13 u14 u15 u16 u17 u18 u19 u20 u21 u22 u23 u24 u25 u26 u27 u28 u29 u30 u31 u32 u33 u34 u35 u36 u37 u38 u39 u40 u41 u42 u43 u44 u45 u46 u47 u48 u49 u50 u51 u52 u53 u54 u55 u56 u57 u58 u59 u60 u61 u62 u63 u64 u65 u66 u67 u68 u69 u70 u71 u72 u73:Value),a={ tmps:=#[.string s,.bool lines,undef,undef,v,.int .i64 0,.int .i64 0,.int .i64 (n:Int),u8,u9,u10,u11,u12,u13,u14,u15,u16,u17,u18,u19,u20,u21,u22,u23,u24,u25,u26,u27,u28,u29,u30,u31,u32,u33,u34,u35,u36,u37,u38,u39,u40,u41,u42,u43,u44,u45,u46,u47,u48,u49,u50,u51,u52,u53,u54,u55,u56,u57,u58,u59,u60,u61,u62,u63,u64,u65,u66,u67,u68,u69,u70,u71,u72,u73],defers:=[] }∧SpkJ s lines W v n acc w'
theorem uinfo:(Tryz.prog.info? 5).map (fun i=>(i.zero,i.size,i.bytes))=some (some (.int .u8 0),1,1):=by kernel_rfl
theorem hG_below {w w':World} (hG:Gl w) (hb:Below w.heap.size w w'):Gl w':=hG.below hb
theorem ownsRowF_below' {w w':World} {B:Nat} {v:Value} {n:Nat} {xs:List Value} {e:TypeId} (h:w.ownsRowF B e 1 v n xs) (hb:Below w.heap.size w w') (_:B≤w.heap.size):w'.ownsRowF B e 1 v n xs:=ownsRowF_below h hb
theorem scan_speak (s:ByteArray) (lines:Bool) (w:World) (hG:Gl w) (hs:s.size≤1073741824) (h1:1≤s.size):
  Calls Tryz.prog 127 #[.string s,.bool lines] w (SpkEnd s lines w):=by
 obtain⟨i0,hi0,hz0,hz1,hz2⟩:=info_parts uinfo;have HG:=hid hG;have HI0:=hid hi0;have HZ0:=hid hz0;have HZ1:=hid hz1;have HZ2:=hid hz2;clear hG hi0 hz0 hz1 hz2;go_enter Tryz.func127,Tryz.ntmps127;go_wp2;refine wp_scope_again 0 (SpkA s lines w) (fun a' _=>s.size - (intOf (a'.tmps.getD 7 undef)).toNat) rfl ?_ ?_
 ·go_wp2;exact⟨1,[],.slice none 0 0,_,_,_,_,_,_,_,_,_,_,_,_,_,_,_,_,_,_,_,_,_,_,_,_,_,_,_,_,_,_,_,_,_,_,_,_,_,_,_,_,_,_,_,_,_,_,_,_,_,_,_,_,_,_,_,_,_,_,_,_,_,_,_,_,_,_,rfl,Nat.le_refl _,h1,by simp,World.ownsRowF_nil _ _ _ _,Below.refl _ _,s.data.toList.length,by rw [← Lib.size_eq];omega,rfl⟩
 ·rintro a0 w0 ⟨n,acc0,v0,u8,u9,u10,u11,u12,u13,u14,u15,u16,u17,u18,u19,u20,u21,u22,u23,u24,u25,u26,u27,u28,u29,u30,u31,u32,u33,u34,u35,u36,u37,u38,u39,u40,u41,u42,u43,u44,u45,u46,u47,u48,u49,u50,u51,u52,u53,u54,u55,u56,u57,u58,u59,u60,u61,u62,u63,u64,u65,u66,u67,u68,u69,u70,u71,u72,u73,rfl,hn1,hn2,hal0,hown0,hbw0,H0⟩;have HJ:=hid H0;clear H0;have hn1':(1:Int)≤n:=by omega
  have hn2':(n:Int)≤s.size:=by omega
  go_wp2
  have hdl:(s.extract n s.size).data.toList=s.data.toList.drop n:=by
   rw [Lib.extract_data,List.take_of_length_le (by rw [List.length_drop,← Lib.size_eq];omega)]
  have htsz:(s.extract n s.size).size=s.size - n:=by rw [ByteArray.size_extract];omega
  obtain⟨t,ht⟩:=nM (s.extract n s.size);rw [ht] at hdl htsz;simp only [ht];go_loopw [4,5,6,7] (fun v4 v5 v6 v7 wr=>v5=.int .i64 0∧v6=.int .i64 0∧v7=.int .i64 (n:Int)∧∃ (pos:Nat) (acc:List UInt8),wr.heap[w0.heap.size]?=some (.stringIter t pos)∧wr.ownsRowF w.heap.size 5 1 v4 acc.length (Lib.byteCells acc)∧Below w.heap.size w wr∧acc.length≤n+pos∧n+pos≤s.size∧Hid (∃ f,s.size - (n+pos)≤f∧Sp.speakF lines f (s.data.toList.drop (n+pos)) (n+pos) acc=Sp.speakV lines s.data.toList)) (fun _ _ _ _ wr=>s.size - wr.iterPos w0.heap.size)
  case atStart=>exact⟨rfl,rfl,rfl,0,acc0,World.iter_heap w0 t 0,hown0.alloc _,hbw0.alloc (hbw0.size) _,hal0,hn2,HJ.out⟩
  case round=>
   obtain⟨rfl,rfl,rfl,pos,acc,hit,hown,hbw,hal,hps,HF⟩:=hrel;have hpos0:=iterPos_of hit;by_cases hp:pos<t.size
   ·obtain⟨l,hl⟩:=nM (s.data.toList.drop (n+pos));(have hlt:t.data.toList.drop pos=l:=by rw [hdl,List.drop_drop,hl]);(have hnx:=fun ty=>Lib.run_next_any_at (P:=Tryz.prog) wr w0.heap.size t pos ty hit hp);simp only [Sp.dec_at,hlt] at hnx
    obtain⟨c,hc⟩:∃ c:Nat,(Sp.dec l).1=c:=⟨_,rfl⟩
    obtain⟨k,hk⟩:∃ k:Nat,(Sp.dec l).2=k:=⟨_,rfl⟩
    have hit2:=Lib.iterAt_heap wr w0.heap.size t pos (pos+k) hit;have hown2:=ownsRowF_iterAt hown hit (p':=pos+k);have hbw2:=Lib.below_iterAt hbw (k:=w0.heap.size) (hbw0.size) t (pos+k);rw [hc,hk] at hnx;obtain⟨W2,hW2⟩:=nM (wr.iterAt w0.heap.size t (pos+k));rw [hW2] at hnx hit2 hown2 hbw2;(have hi0:(0:Int)≤(pos:Int)+n:=by omega);(have hi1:(pos:Int)+n≤1073741824:=by omega);(have hi2:(pos:Int)+n<s.size:=by omega);have hG2:Gl W2:=hG_below HG.out hbw2;have HG2:=hid hG2;have HIT2:=hid hit2;have hsz2:=hbw2.size;have hlne:l≠[]:=by rw [← hl];intro e;have:=congrArg List.length e;rw [List.length_drop,← Lib.size_eq] at this;simp at this;omega
    obtain⟨b0,r,hbr⟩:∃ b0 r,l=b0 :: r:=by
     cases l with
     | nil=>exact absurd rfl hlne
     | cons b0 r=>exact⟨b0,r,rfl⟩
    (have htst:=fun m hm=>dec_tests l b0 r hbr m hm);rw [hc] at htst;have hkp:=Sp.dec_pos l hlne;have hkl:=Sp.dec_len l hlne;rw [hk] at hkp hkl;(have hll:l.length=s.size - (n+pos):=by rw [← hl,List.length_drop,← Lib.size_eq]);have hcle:c≤2147483647:=by rw [← hc,← hlt,← Sp.dec_at];exact decode_le t pos
    have hFF:∃ f,s.size - (n+pos)≤f+1∧Sp.speakF lines (f+1) (b0 :: r) (n+pos) acc=Sp.speakV lines s.data.toList:=by
     obtain⟨f,hf1,hf2⟩:=HF.out;rw [hl,hbr] at hf2
     obtain⟨f,rfl⟩:∃ g,f=g+1:=⟨f - 1,by omega⟩
     exact⟨f,hf1,hf2⟩
    have HF2:=hid hFF;clear hFF hit hown hbw HF;have h34:=(htst 34 (by omega)).1;have h92:=(htst 92 (by omega)).1;have h10:=(htst 10 (by omega)).1;have h32:=(htst 32 (by omega)).2;have h127:=(htst 127 (by omega)).1;clear htst;by_cases c1:c=34
    ·have q1:((c:Int) == 34)=true:=beq_iff_eq.2 (by omega);have HB:=hid hbw2;have HO:=hid hown2;clear hbw2 hown2;go_wp2;go_ret3;obtain⟨f,hf1,hf2⟩:=HF2.out;rw [Sp.speakF_quote lines f b0 r _ _ (h34.1 c1)] at hf2;exact SpkEnd_ok hf2.symm (by omega) HO.out HB.out
    have q1:((c:Int) == 34)=false:=beq_eq_false_iff_ne.2 (by omega);by_cases c2:c=92
    ·have q2:((c:Int) == 92)=true:=beq_iff_eq.2 (by omega);(have hxd:(s.extract (pos+n) s.size).data.toList=l:=by rw [Lib.extract_data,List.take_of_length_le (by rw [List.length_drop,← Lib.size_eq];omega),Nat.add_comm pos n,hl]);have hesc:=scan_escape (s.extract (pos+n) s.size) W2 hG2 (by rw [ByteArray.size_extract];omega) (by rw [hxd,hbr];exact h92.1 c2);rw [hxd] at hesc;obtain⟨f,hf1,hf2⟩:=HF2.out;rw [Sp.speakF_esc lines f b0 r _ _ (h92.1 c2),← hbr] at hf2;rcases hEV:Sp.escV l with _ | ⟨kk,b⟩
     ·have hE2:Calls Tryz.prog 136 #[.string (s.extract (pos+n) s.size)] W2 (fun e w'=>e=.returned (.tuple #[.slice none 0 0,.int .i64 0])∧Below W2.heap.size W2 w'):=hesc.mono (fun e w' h=>by unfold EscEnd at h;rw [hEV] at h;exact h);rw [hEV] at hf2;have HE:=hid hE2;have HV:=hid hf2;have HB:=hid hbw2;clear hesc hE2 hxd hbw2 hown2 hf2
      go_wp2_with (go_at_call 136;refine HE.out.mono ?_;rintro e W3 ⟨rfl,hb3⟩)
      go_ret3;exact SpkEnd_bad HV.out.symm (by omega) (by omega) rfl (HB.out.trans (hb3.mono hsz2))
     ·have hE2:Calls Tryz.prog 136 #[.string (s.extract (pos+n) s.size)] W2 (fun e w'=>∃ v,e=.returned (.tuple #[v,.int .i64 (kk:Nat)])∧NewBytes W2 b v w'∧Below W2.heap.size W2 w'):=hesc.mono (fun e w' h=>by unfold EscEnd at h;rw [hEV] at h;exact h);rw [hEV] at hf2;have hkk:=Sp.escV_len hEV;have HE:=hid hE2;have HV:=hid hf2;have HB:=hid hbw2;have HO:=hid hown2;have q3:((kk:Int) == 0)=false:=beq_eq_false_iff_ne.2 (by omega);(have hk1:(kk:Int)≤1073741824:=by omega);clear hesc hE2 hxd hbw2 hown2 hf2
      go_wp2_with (first
       | (go_at_call 136;refine HE.out.mono ?_;rintro e W3 ⟨v3,rfl,⟨g,cap,rfl,hg,hcl⟩,hb3⟩
          have hO3:=ownsRowF_below' HO.out hb3 (HB.out.size))
       | (at_builtin;refine wpList_append_ownF _ rfl _ _ 125 rfl w.heap.size 5 i0 (.int .u8 0) 1 1 Tryz.underlying125 HI0.out HZ0.out HZ1.out HZ2.out rfl (by decide) _ _ _ rfl hO3 ⟨g,0,none⟩ b.length cap (Lib.byteCells b) rfl (by rw [Lib.byteCells_length];omega) hcl (Lib.byteCells_one b) (by unfold maxLen;omega) (by omega) (by have:=HB.out.size;have:=hb3.size;omega) ?_;intro v' w4 hown' hgrow4 hnil4))
      have hgr:W3.grownBy w4 u4.ownBlock:=hgrow4;have hb4:Below w.heap.size w w4:=(HB.out.trans (hb3.mono hsz2)).grown hgr (by have:=hb3.size;omega) (fun j hj=>(hO3.lt j hj).1);(have ecast:((pos:Int)+n+kk)=((pos+n+kk:Nat):Int):=by omega);clear hgrow4 hnil4;go_step3;rw [ecast];refine⟨rfl,⟨pos+n+kk,acc ++ b,v',_,_,_,_,_,_,_,_,_,_,_,_,_,_,_,_,_,_,_,_,_,_,_,_,_,_,_,_,_,_,_,_,_,_,_,_,_,_,_,_,_,_,_,_,_,_,_,_,_,_,_,_,_,_,_,_,_,_,_,_,_,_,_,_,_,_,rfl,by omega,by omega,by simp;omega,?_,hb4,f,by omega,?_⟩,?_⟩
      ·rw [List.length_append,Lib.byteCells_append];exact hown'
      ·have e:=HV.out;rw [← hl,List.drop_drop] at e;rw [Nat.add_comm pos n];exact e
      ·show s.size - ((pos+n+kk:Nat):Int).toNat<s.size - ((n:Nat):Int).toNat;omega
    have q2:((c:Int) == 92)=false:=beq_eq_false_iff_ne.2 (by omega);have HB:=hid hbw2;have HO:=hid hown2;by_cases c3:c=10∧lines=true
    ·have q3:((c:Int) == 10)=true:=beq_iff_eq.2 (by omega);obtain⟨f,hf1,hf2⟩:=HF2.out;have q4:lines=true:=c3.2;subst q4;rw [Sp.speakF_nl f b0 r _ _ (h10.1 c3.1)] at hf2;have HV:=hid hf2;clear hbw2 hown2 hf2;go_wp2;go_ret3;exact SpkEnd_bad HV.out.symm (by omega) (by omega) rfl HB.out
    (have hlo:=fun (W:World) (hW:Gl W)=>scan_loose s ((pos:Int)+n) W hW hi0 hi2 (by omega));(have ei:((pos:Int)+n).toNat=n+pos:=by omega);simp only [ei,hl,hc] at hlo;have HLo:=hid hlo;clear hlo;by_cases c4:c<32∨c=127∨Sp.looseB l=true
    ·obtain⟨f,hf1,hf2⟩:=HF2.out
     have c4':b0.toNat<32∨b0.toNat=127∨Sp.looseB (b0 :: r)=true:=by
      rcases c4 with h | h | h
      ·exact Or.inl (h32.1 h)
      ·exact Or.inr (Or.inl (h127.1 h))
      ·exact Or.inr (Or.inr (by rw [← hbr];exact h))
     rw [Sp.speakF_bad lines f b0 r _ _ (by omega) (by omega) (by intro h e;exact c3 ⟨h10.2 e,h⟩) c4'] at hf2;have HV:=hid hf2;clear hbw2 hown2 hf2;by_cases c5:c<32
     ·have q5:decide ((c:Int)<32)=true:=dT;by_cases c10:c=10
      ·have q3:((c:Int) == 10)=true:=beq_iff_eq.2 (by omega)
       have ql:lines=false:=by
        cases lines
        ·rfl
        ·exact absurd ⟨c10,rfl⟩ c3
       subst ql;go_wp2;go_ret3;exact SpkEnd_bad (c:=33) (b:=[]) (p:=n+pos) HV.out.symm (by omega) (by omega) rfl HB.out
      ·have q3:((c:Int) == 10)=false:=beq_eq_false_iff_ne.2 (by omega);go_wp2;go_ret3;exact SpkEnd_bad (c:=33) (b:=[]) (p:=n+pos) HV.out.symm (by omega) (by omega) rfl HB.out
     have q3:((c:Int) == 10)=false:=beq_eq_false_iff_ne.2 (by omega);have q5:decide ((c:Int)<32)=false:=dF;by_cases c6:c=127
     ·have q6:((c:Int) == 127)=true:=beq_iff_eq.2 (by omega);go_wp2;go_ret3;exact SpkEnd_bad (c:=33) (b:=[]) (p:=n+pos) HV.out.symm (by omega) (by omega) rfl HB.out
     have q6:((c:Int) == 127)=false:=beq_eq_false_iff_ne.2 (by omega)
     have c7:Sp.looseB l=true:=by
      rcases c4 with h | h | h
      ·exact absurd h c5
      ·exact absurd h c6
      ·exact h
     simp only [c7] at HLo
     go_wp2_with (go_at_call 137;refine (HLo.out _ HG2.out).mono ?_;rintro e w3 ⟨rfl,hb3⟩)
     go_ret3;exact SpkEnd_bad (c:=33) (b:=[]) (p:=n+pos) HV.out.symm (by omega) (by omega) rfl (HB.out.trans (hb3.mono hsz2))
    ·obtain⟨f,hf1,hf2⟩:=HF2.out
     have c4':¬ (b0.toNat<32∨b0.toNat=127∨Sp.looseB (b0 :: r)=true):=by
      rintro (h | h | h)
      ·exact c4 (Or.inl (h32.2 h))
      ·exact c4 (Or.inr (Or.inl (h127.2 h)))
      ·exact c4 (Or.inr (Or.inr (by rw [hbr];exact h)))
     rw [Sp.speakF_char lines f b0 r _ _ (by omega) (by omega) c4',← hbr,hk] at hf2
     have c7:Sp.looseB l=false:=by
      cases h:Sp.looseB l
      ·rfl
      ·exact absurd (Or.inr (Or.inr h)) c4
     have q3:((c:Int) == 10)=false:=beq_eq_false_iff_ne.2 (by omega);have q5:decide ((c:Int)<32)=false:=dF;have q6:((c:Int) == 127)=false:=beq_eq_false_iff_ne.2 (by omega)
     have hrc:Lib.runeCells (c:Int)=Lib.byteCells (l.take k):=by
      have e:=Sp.enc_dec l hlne c7;rw [hc,hk] at e;rw [← e,Lib.byteCells_encodeRune]
     have HRC:=hid hrc;have HV:=hid hf2;simp only [c7] at HLo;clear hbw2 hown2 hf2 hrc
     go_wp2_with (first
      | (go_at_call 137;refine (HLo.out _ HG2.out).mono ?_;rintro e w3 ⟨rfl,hb3⟩
         have hO3:=ownsRowF_below' HO.out hb3 (HB.out.size))
      | (go_at_call 138;refine (Tryz.utf8_AppendRune_row w.heap.size _ acc.length (Lib.byteCells acc) (c:Int) (by omega) (by omega) _ hO3 (by omega) (by have:=HB.out.size;have:=hb3.size;omega)).mono ?_;rintro e w4 ⟨v',rfl,hown',o,hgr⟩))
     have hit3:=iter_below HIT2.out hb3;have hit4:=iter_grown hO3 hit3 hgr;have hb4:Below w.heap.size w w4:=below_grownF (HB.out.trans (hb3.mono hsz2)) (by have:=hb3.size;omega) hO3 hgr;have hrc:=HRC.out;rw [hrc,Lib.byteCells_length,← Lib.byteCells_append,← List.length_append] at hown';go_roundw
     case rel=>
      refine⟨rfl,rfl,rfl,pos+k,acc ++ l.take k,hit4,hown',hb4,by rw [List.length_append,List.length_take];omega,by omega,f,by omega,?_⟩;have e:=HV.out;rw [← hl,List.drop_drop] at e;rw [← Nat.add_assoc,← hl];exact e
     case measure=>
      rw [iterPos_of hit4,hpos0];omega
   ·have hnx:=fun ty=>Lib.run_next_end_at (P:=Tryz.prog) wr w0.heap.size t pos ty hit hp
    go_wp2;go_ret3;refine SpkEnd_bad (p:=s.size) (c:=32) (b:=[]) ?_ (by omega) rfl rfl hbw;obtain⟨f,hf1,hf2⟩:=HF.out;rw [← hf2,List.drop_eq_nil_of_le (by rw [← Lib.size_eq];omega),Sp.speakF_nil];congr 2;omega
end Go.Proofs.YtedfppbnkgffcaaGreatDoor
