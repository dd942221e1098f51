/-
  Texts joined: Ut Uc.
-/
import Derived.Test.YtedfppbnkgffcaaGreatDoorMs
import Derived.Test.YtedfppbnkgffcaaGreatDoorUb
import Derived.Test.YtedfppbnkgffcaaGreatDoorMw
set_option linter.unusedVariables false
set_option linter.unusedSimpArgs false
set_option maxRecDepth 100000
set_option maxHeartbeats 4000000
namespace Go.Proofs.YtedfppbnkgffcaaGreatDoor
open Go.RowKit
namespace Sp
def tinyN:Net where
 bits:=1
 ports:=[⟨⟨#[82,46,97]⟩,0,true,-1⟩,⟨⟨#[82,46,98]⟩,0,false,0⟩]
 tables:=[[⟨⟨#[101]⟩,[0],[⟨#[120]⟩],⟨#[48]⟩,[1]⟩]]
 guards:=[[],[]]
def tinyH:ByteArray:=⟨#[49]⟩
theorem tiny_two {α:Type} {a b x:α} {i:Nat} (h:[a,b][i]?=some x):(i=0∧x=a)∨(i=1∧x=b):=by
 match i,h with
 | 0,h=>simp at h;exact Or.inl ⟨rfl,h.symm⟩
 | 1,h=>simp at h;exact Or.inr ⟨rfl,h.symm⟩
 | i+2,h=>simp at h
theorem tiny_one {α:Type} {a x:α} {i:Nat} (h:[a][i]?=some x):i=0∧x=a:=by
 match i,h with
 | 0,h=>simp at h;exact⟨rfl,h.symm⟩
 | i+1,h=>simp at h
theorem tiny_tok1:TokenOk ⟨#[82,46,97]⟩:=⟨by decide,by decide,by decide,by decide,(1,[10],1,4),1,1,by decide⟩
theorem tiny_tok2:TokenOk ⟨#[82,46,98]⟩:=⟨by decide,by decide,by decide,by decide,(1,[10],1,4),1,1,by decide⟩
theorem tiny_ports:PortsOk tinyN:=by
 intro i p hp;rcases tiny_two hp with⟨rfl,rfl⟩ | ⟨rfl,rfl⟩
 ·exact⟨tiny_tok1,by decide,Or.inl rfl,fun j r hj=>absurd hj (by omega)⟩
 ·refine⟨tiny_tok2,by decide,Or.inr ⟨rfl,by decide,_,rfl,rfl⟩,fun j r hj hr=>?_⟩;rcases tiny_two hr with⟨rfl,rfl⟩ | ⟨rfl,rfl⟩
  ·intro e;exact absurd (congrArg (fun b:ByteArray=>b.data.toList) e) (by decide)
  ·omega
theorem tiny_guards:GuardsOk tinyN:=by
 refine⟨by decide,fun g hg=>?_⟩
 have:g=[]:=by
  rcases List.mem_cons.1 hg with h | h
  ·exact h
  ·rcases List.mem_cons.1 h with h | h
   ·exact h
   ·cases h
 subst this;exact⟨by decide,fun l hl=>by cases hl⟩
theorem tiny_cubes:CubesOk 1 [⟨#[120]⟩]:=by
 refine⟨by decide,fun c hc=>?_⟩;obtain rfl:c=⟨#[120]⟩:=by simpa using hc
 exact⟨by decide,by decide⟩
theorem tiny_entry:EntryOk tinyN 0 ⟨⟨#[101]⟩,[0],[⟨#[120]⟩],⟨#[48]⟩,[1]⟩ where
 name:=by decide
 nouts:=by decide
 cubes:=tiny_cubes
 word:=⟨by decide,by decide⟩
 ins:=fun i p hp=>by
  obtain⟨rfl,rfl⟩:=tiny_one hp;exact⟨⟨by decide,_,rfl,rfl,rfl⟩,fun p' h0=>absurd h0 (by omega)⟩
 outs:=fun i q hq=>by
  obtain⟨rfl,rfl⟩:=tiny_one hq;exact⟨⟨by decide,_,rfl,rfl,rfl⟩,fun j hj=>absurd hj (by omega)⟩
theorem tiny_tables:TablesOk tinyN:=by
 refine⟨by decide,fun b t ht=>?_⟩;obtain⟨rfl,rfl⟩:=tiny_one ht;refine⟨by decide,fun e he=>?_⟩;obtain rfl:e=⟨⟨#[101]⟩,[0],[⟨#[120]⟩],⟨#[48]⟩,[1]⟩:=by simpa using he
 exact tiny_entry
theorem tiny_ok:NetOk tinyN where
 bits:=by decide
 ntables:=by decide
 nports:=by decide
 nguards:=rfl
 ports:=tiny_ports
 guards:=tiny_guards
 tables:=tiny_tables
theorem tiny_state:StateOk tinyN 0 tinyH where
 port:=by decide
 bits:=by decide
 digits:=fun i c hc=>by
  obtain⟨rfl,rfl⟩:=tiny_one (a:=(49:UInt8)) hc;exact Or.inr rfl
theorem tiny_check:checkE tinyN 0 tinyH=0:=by unfold checkE;rw [tb_yes tiny_ok,tb_yes tiny_state];rfl
theorem tiny_entryV:entryV tinyN 0 tinyH=0:=by decide
theorem tiny_states:stV (movesV tinyN 0 tinyH)=[(1,⟨#[48]⟩),(0,⟨#[48]⟩)]:=by rfl
theorem tiny_szd:Szd tinyN where
 np:=by decide
 nt:=by decide
 ng:=by decide
 ports:=fun p hp=>by
  rcases List.mem_cons.1 hp with h | h
  ·subst h;decide
  ·rcases List.mem_cons.1 h with h | h
   ·subst h;decide
   ·cases h
 guards:=fun g hg=>by
  have:g=[]:=by
   rcases List.mem_cons.1 hg with h | h
   ·exact h
   ·rcases List.mem_cons.1 h with h | h
    ·exact h
    ·cases h
  subst this;exact⟨by decide,fun l hl=>by cases hl⟩
 tables:=fun t ht=>by
  obtain rfl:t=[⟨⟨#[101]⟩,[0],[⟨#[120]⟩],⟨#[48]⟩,[1]⟩]:=by
   rcases List.mem_cons.1 ht with h | h
   ·exact h
   ·cases h
  refine⟨by decide,fun e he=>?_⟩
  obtain rfl:e=⟨⟨#[101]⟩,[0],[⟨#[120]⟩],⟨#[48]⟩,[1]⟩:=by
   rcases List.mem_cons.1 he with h | h
   ·exact h
   ·cases h
  refine⟨by decide,by decide,by decide,by decide,by decide,fun s hs=>?_⟩
  obtain rfl:s=⟨#[120]⟩:=by
   rcases List.mem_cons.1 hs with h | h
   ·exact h
   ·cases h
  decide
end Sp
def tinyW (w:World):World:=((((((((w.alloc (.cells #[.int .i64 1,.slice (some ⟨w.heap.size+1,0,none⟩) 2 2,.slice (some ⟨w.heap.size+1+1+1+1+1+1,0,none⟩) 1 1,.slice (some ⟨w.heap.size+1+1+1+1+1+1+1,0,none⟩) 2 2] 26)).alloc (.cells #[.string ⟨#[82,46,97]⟩,.int .i64 0,.bool true,.int .i64 (-1),.string ⟨#[82,46,98]⟩,.int .i64 0,.bool false,.int .i64 0] 85)).alloc (.cells #[.int .i64 0] 3)).alloc (.cells #[.string ⟨#[120]⟩] 9)).alloc (.cells #[.int .i64 1] 3)).alloc (.cells #[.string ⟨#[101]⟩,.slice (some ⟨w.heap.size+1+1,0,none⟩) 1 1,.slice (some ⟨w.heap.size+1+1+1,0,none⟩) 1 1,.string ⟨#[48]⟩,.slice (some ⟨w.heap.size+1+1+1+1,0,none⟩) 1 1] 94)).alloc (.cells #[.slice (some ⟨w.heap.size+1+1+1+1+1,0,none⟩) 1 1] 63)).alloc (.cells #[.slice none 0 0,.slice none 0 0] 65))
theorem blk_new_at {w:World} {g:Nat} {t:TypeId} {cs:Array Value} (h:w.heap.size=g):Blk (w.alloc (.cells cs t)) g t cs:=by subst h;exact Blk.new _ _ _
theorem tinyW_blk0 (w:World):Blk (tinyW w) (w.heap.size) 26 #[.int .i64 1,.slice (some ⟨w.heap.size+1,0,none⟩) 2 2,.slice (some ⟨w.heap.size+1+1+1+1+1+1,0,none⟩) 1 1,.slice (some ⟨w.heap.size+1+1+1+1+1+1+1,0,none⟩) 2 2]:=by
 unfold tinyW;refine Blk.alloc (Blk.alloc (Blk.alloc (Blk.alloc (Blk.alloc (Blk.alloc (Blk.alloc (?_) _) _) _) _) _) _) _;exact blk_new_at (by simp)
theorem tinyW_blk1 (w:World):Blk (tinyW w) (w.heap.size+1) 85 #[.string ⟨#[82,46,97]⟩,.int .i64 0,.bool true,.int .i64 (-1),.string ⟨#[82,46,98]⟩,.int .i64 0,.bool false,.int .i64 0]:=by
 unfold tinyW;refine Blk.alloc (Blk.alloc (Blk.alloc (Blk.alloc (Blk.alloc (Blk.alloc (?_) _) _) _) _) _) _;exact blk_new_at (by simp)
theorem tinyW_blk2 (w:World):Blk (tinyW w) (w.heap.size+1+1) 3 #[.int .i64 0]:=by
 unfold tinyW;refine Blk.alloc (Blk.alloc (Blk.alloc (Blk.alloc (Blk.alloc (?_) _) _) _) _) _;exact blk_new_at (by simp)
theorem tinyW_blk3 (w:World):Blk (tinyW w) (w.heap.size+1+1+1) 9 #[.string ⟨#[120]⟩]:=by
 unfold tinyW;refine Blk.alloc (Blk.alloc (Blk.alloc (Blk.alloc (?_) _) _) _) _;exact blk_new_at (by simp)
theorem tinyW_blk4 (w:World):Blk (tinyW w) (w.heap.size+1+1+1+1) 3 #[.int .i64 1]:=by
 unfold tinyW;refine Blk.alloc (Blk.alloc (Blk.alloc (?_) _) _) _;exact blk_new_at (by simp)
theorem tinyW_blk5 (w:World):Blk (tinyW w) (w.heap.size+1+1+1+1+1) 94 #[.string ⟨#[101]⟩,.slice (some ⟨w.heap.size+1+1,0,none⟩) 1 1,.slice (some ⟨w.heap.size+1+1+1,0,none⟩) 1 1,.string ⟨#[48]⟩,.slice (some ⟨w.heap.size+1+1+1+1,0,none⟩) 1 1]:=by
 unfold tinyW;refine Blk.alloc (Blk.alloc (?_) _) _;exact blk_new_at (by simp)
theorem tinyW_blk6 (w:World):Blk (tinyW w) (w.heap.size+1+1+1+1+1+1) 63 #[.slice (some ⟨w.heap.size+1+1+1+1+1,0,none⟩) 1 1]:=by
 unfold tinyW;refine Blk.alloc (?_) _;exact blk_new_at (by simp)
theorem tinyW_blk7 (w:World):Blk (tinyW w) (w.heap.size+1+1+1+1+1+1+1) 65 #[.slice none 0 0,.slice none 0 0]:=by
 unfold tinyW;refine ?_;exact blk_new_at (by simp)
theorem tinyW_below (w:World):Below w.heap.size w (tinyW w):=by
 unfold tinyW;exact ((((((((Below.refl _ w).alloc (Nat.le_refl _) _).alloc (by simp) _).alloc (by simp;omega) _).alloc (by simp;omega) _).alloc (by simp;omega) _).alloc (by simp;omega) _).alloc (by simp;omega) _).alloc (by simp;omega) _
theorem view_one {α:Type} {k:Nat} {R:World→α→List Value→Prop} {W:World} {g:Nat} {t:TypeId} {cs:Array Value} {a:α} (hb:Blk W g t cs) (hk:cs.size=k) (h:R W a cs.toList):LView k R W (some ⟨g,0,none⟩) [a]:=by
 intro i x hx;obtain⟨rfl,rfl⟩:=Sp.tiny_one hx;refine⟨g,0,cs.toList,rfl,hb.lt,by simpa using hk,h,fun f u hf=>?_⟩;rw [Nat.zero_mul,Nat.zero_add,hb.cell f];simpa using hf
theorem view_two {α:Type} {k:Nat} {R:World→α→List Value→Prop} {W:World} {g:Nat} {t:TypeId} {cs:Array Value} {a b:α} (hb:Blk W g t cs) (l1 l2:List Value) (hc:cs.toList=l1 ++ l2) (hk:l1.length=k) (hk2:l2.length=k) (h1:R W a l1) (h2:R W b l2):LView k R W (some ⟨g,0,none⟩) [a,b]:=by
 intro i x hx;rcases Sp.tiny_two hx with⟨rfl,rfl⟩ | ⟨rfl,rfl⟩
 ·refine⟨g,0,l1,rfl,hb.lt,hk,h1,fun f u hf=>?_⟩;rw [Nat.zero_mul,Nat.zero_add,hb.cell f,← Array.getElem?_toList,hc,List.getElem?_append_left (List.getElem?_eq_some_iff.1 hf).1];exact hf
 ·refine⟨g,0,l2,rfl,hb.lt,hk2,h2,fun f u hf=>?_⟩;rw [Nat.zero_add,Nat.one_mul,hb.cell (k+f),← Array.getElem?_toList,hc,List.getElem?_append_right (by omega),hk,Nat.add_sub_cancel_left];exact hf
theorem tinyW_net (w:World):NetR (tinyW w) Sp.tinyN [.int .i64 1,.slice (some ⟨w.heap.size+1,0,none⟩) 2 2,.slice (some ⟨w.heap.size+1+1+1+1+1+1,0,none⟩) 1 1,.slice (some ⟨w.heap.size+1+1+1+1+1+1+1,0,none⟩) 2 2]:=by
 have vi:IV (tinyW w) (some ⟨w.heap.size+1+1,0,none⟩) [0]:=view_one (tinyW_blk2 w) rfl rfl;have vs:SV (tinyW w) (some ⟨w.heap.size+1+1+1,0,none⟩) [⟨#[120]⟩]:=view_one (tinyW_blk3 w) rfl rfl;have vo:IV (tinyW w) (some ⟨w.heap.size+1+1+1+1,0,none⟩) [1]:=view_one (tinyW_blk4 w) rfl rfl;have ve:EV (tinyW w) (some ⟨w.heap.size+1+1+1+1+1,0,none⟩) [⟨⟨#[101]⟩,[0],[⟨#[120]⟩],⟨#[48]⟩,[1]⟩]:=view_one (tinyW_blk5 w) rfl ⟨_,1,_,1,_,1,rfl,vi,vs,vo,Nat.le_refl _,Nat.le_refl _,Nat.le_refl _⟩;have vt:TTV (tinyW w) (some ⟨w.heap.size+1+1+1+1+1+1,0,none⟩) Sp.tinyN.tables:=view_one (tinyW_blk6 w) rfl ⟨_,1,rfl,ve,Nat.le_refl _⟩;have vp:PV (tinyW w) (some ⟨w.heap.size+1,0,none⟩) Sp.tinyN.ports:=view_two (tinyW_blk1 w) [.string ⟨#[82,46,97]⟩,.int .i64 0,.bool true,.int .i64 (-1)] [.string ⟨#[82,46,98]⟩,.int .i64 0,.bool false,.int .i64 0] rfl rfl rfl rfl rfl;have vg0:GV (tinyW w) none []:=fun i x hx=>by simp at hx
 have vg:GGV (tinyW w) (some ⟨w.heap.size+1+1+1+1+1+1+1,0,none⟩) Sp.tinyN.guards:=view_two (tinyW_blk7 w) [.slice none 0 0] [.slice none 0 0] rfl rfl rfl ⟨none,0,rfl,vg0,Nat.le_refl _⟩ ⟨none,0,rfl,vg0,Nat.le_refl _⟩;exact⟨_,2,_,1,_,2,rfl,vp,vt,vg,Nat.le_refl _,Nat.le_refl _,Nat.le_refl _⟩
theorem law10_tiny (w:World):Calls Tryz.prog 35 #[] w fun e w'=>∃ A1 A2 A3,
  e=.returned (.agg #[.int .i64 1,.slice A1 2 2,.slice A2 1 1,.slice A3 2 2])∧NetR w' Sp.tinyN [.int .i64 1,.slice A1 2 2,.slice A2 1 1,.slice A3 2 2]∧Below w.heap.size w w':=by
 have hin:(Tryz.prog.info? 26).map (·.size)=some 4:=by kernel_rfl
 have HIN:=Lib.hid hin;clear hin;go_enter Tryz.func35,Tryz.ntmps35;go_wp2;refine bodyPost_ret (results_cell_row rfl _ _ w.heap.size 26 _ (0,0) _ rfl (tinyW_blk0 w) Tryz.underlying26 rfl HIN.out) rfl ?_;exact⟨_,_,_,rfl,tinyW_net w,tinyW_below w⟩
theorem law10_known (w:World) (hG:Gn w):Calls Tryz.prog 9 #[] w fun e w'=>e=.returned (.bool true)∧Below w.heap.size w w':=by
 have hN:=fun (W:World) A1 A2 A3 (hb:Below w.heap.size w W) (hr:NetR W Sp.tinyN [.int .i64 1,.slice A1 2 2,.slice A2 1 1,.slice A3 2 2])=>step_Next Sp.tinyN A1 A2 A3 2 1 2 0 Sp.tinyH W (hG.below hb) hr Sp.tiny_szd (by decide)
 have HN:=Lib.hid hN;clear hN hG;go_enter Tryz.func9,Tryz.ntmps9;go_wp2_with fail;refine (law10_tiny w).mono ?_;rintro e W1 ⟨A1,A2,A3,rfl,hr,hb1⟩;have HB1:=Lib.hid hb1;have HC:=Lib.hid (HN.out W1 A1 A2 A3 hb1 hr);clear hb1 hr HN;go_wp2_with fail;refine HC.out.mono ?_;rintro e w' ⟨v,rfl,hst,hb2⟩;have e1:Sp.nextE Sp.tinyN 0 Sp.tinyH=0:=by unfold Sp.nextE;rw [Sp.tiny_check,if_pos rfl];exact Sp.tiny_entryV
 have e2:Sp.nextS Sp.tinyN 0 Sp.tinyH=[(1,⟨#[48]⟩),(0,⟨#[48]⟩)]:=by unfold Sp.nextS;rw [Sp.tiny_check,if_pos rfl];exact Sp.tiny_states
 rw [e2] at hst;rw [e1,Sp.tiny_check];obtain⟨A,cap,rfl,hv⟩:=st_view hst;obtain⟨g,o,rfl,hg,a0,a1⟩:=hv.at (i:=0) rfl;obtain⟨g',o',hx,hg',b0,b1⟩:=hv.at (i:=1) rfl;obtain⟨rfl,rfl⟩:g=g'∧o=o':=by injection hx with hx;injection hx with h1 h2;exact⟨h1,h2⟩
 have HBZ:=Lib.hid (HB1.out.trans (hb2.mono HB1.out.size));simp only [Nat.zero_mul,Nat.add_zero,Nat.one_mul] at a0 a1 b0 b1;have b2:w'.cell? ⟨g,o+3,none⟩=some (.string ⟨#[48]⟩):=b1;clear HB1 HC hb2 hst hv e1 e2 hx hg'
 go_wp2_with (go_at_call 8;refine (law10_num _ _).mono ?_;rintro e _ ⟨rfl,rfl⟩)
 go_ret;exact⟨rfl,HBZ.out⟩
end Go.Proofs.YtedfppbnkgffcaaGreatDoor
