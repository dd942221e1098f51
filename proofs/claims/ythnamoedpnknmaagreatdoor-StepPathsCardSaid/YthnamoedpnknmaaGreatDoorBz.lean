/-
  Texts joined: Ux Ur Bl Bv By Bz.
-/
import Derived.Test.YthnamoedpnknmaaGreatDoorUw
import Derived.Laws.MakeOwn
import Derived.Deep.OwnRows
import Derived.Test.YthnamoedpnknmaaGreatDoorUb
set_option linter.unusedVariables false
set_option linter.unusedSimpArgs false
set_option maxRecDepth 100000
set_option maxHeartbeats 4000000
namespace Go.Proofs.YthnamoedpnknmaaGreatDoor
open Go.RowKit
open Go.Lib (hid)
theorem iinfo9:(Tryz.prog.info? 3).map (fun i=>(i.zero,i.size,i.bytes))=some (some (.int .i64 0),1,8):=by kernel_rfl
theorem run_make_ints (kl kc:IntKind) (L:Int) (n:Nat) (hL:L=(n:Int)) (h:n≤35184372088832) (w:World):
  (Instr.makeSlice 42 (.int kl L) (.int kc L)).run Tryz.prog w=.ok (.slice (some ⟨w.heap.size,0,none⟩) n n) (w.alloc (.cells (madeCells #[.int .i64 0] n) 3)):=by
 obtain⟨i,hi,hz,h4,h40⟩:=info_parts iinfo9;subst hL;have hb:(i.bytes:Int) * (n:Int)≤281474976710656:=by rw [h40];omega
 have hr:=run_make (P:=Tryz.prog) w 42 3 i _ Tryz.underlying42 hi hz kl kc n n (by omega) (by omega) hb (by omega);simp only [Int.toNat_natCast,h4,Nat.mul_one] at hr;exact hr
def RoomI (w:World) (B n:Nat) (l:List Int):Prop:=∃ f,w.rowIs B 3 (n+2) f∧(∀ (j:Nat) (d:Int),l[j]?=some d→f j=.int .i64 d)∧f n=.int .i64 (-4711)∧f (n+1)=.int .i64 (-4712)
theorem ref9_roomInts (A:Option Addr) (cap:Nat) (l:List Int) (w:World) (hv:IV w A l) (hl:l.length≤17592186044416):
  Calls Tryz.prog 56 #[.slice A l.length cap] w fun e w'=>e=.returned (.slice (some ⟨w.heap.size,0,none⟩) l.length (l.length+2))∧Below w.heap.size w w'∧RoomI w' w.heap.size l.length l:=by
 obtain⟨n,hn⟩:=nM l.length;rw [hn] at hl ⊢;have HN:=hid hn;have HV:=hid hv;have hmk2:=run_make_ints .i64 .i64 ((n:Int)+2) (n+2) (by omega) (by omega) w;have k1:=World.rowIs_made w (.int .i64 0) (n+2) 3;have k2:Below w.heap.size w (w.alloc (.cells (madeCells #[.int .i64 0] (n+2)) 3)):=(Below.refl _ _).alloc (Nat.le_refl _) _;obtain⟨W2,hW2⟩:=nM (w.alloc (.cells (madeCells #[.int .i64 0] (n+2)) 3));rw [hW2] at hmk2 k1 k2;have K1:=hid k1;have K2:=hid k2;clear hn hv hW2 k1 k2;go_enter Tryz.func56,Tryz.ntmps56;go_wp2;clear hmk2;go_loopw [4] (fun v4 wr=>∃ i:Nat,v4=.int .i64 (i:Int)∧i≤n∧Below w.heap.size w wr∧∃ f,Hid (wr.rowIs w.heap.size 3 (n+2) f)∧Hid (∀ (j:Nat) (d:Int),j<i→l[j]?=some d→f j=.int .i64 d)) (fun v4 _=>n - (intOf v4).toNat)
 case atStart=>exact⟨0,rfl,Nat.zero_le _,K2.out,_,K1,hid (fun j d hj=>by omega)⟩
 case round=>
  obtain⟨i,rfl,hi,hb,f,hr,hf⟩:=hrel;have HB:=hid hb;have i0:(0:Int)≤(i:Int):=by omega
  by_cases hlt:i<n
  ·have p1:decide ((i:Int)<(n:Int))=true:=dT;have p2:decide (i<n)=true:=decide_eq_true hlt;(have p3:(i:Int)<(n:Int):=by omega);(have p4:(i:Int)<(n:Int)+2:=by omega);have p5:i<n+2:=by omega
   obtain⟨d,hd⟩:∃ d,l[i]?=some d:=⟨_,List.getElem?_eq_getElem (by rw [HN.out];exact hlt)⟩
   obtain⟨g,o,rfl,hg,a0⟩:=(HV.out.more hb).at hd;have c0:=hr.out.cell p5;have f0:=hr.out.frozen i;(have z1:IntKind.i64.wrap ((i:Int)+1)=(i:Int)+1:=by rw [IntKind.wrap_i64];omega);have HI:=hid (show i+1≤n by omega)
   have hnx:∀ (j:Nat) (d2:Int),j<i+1→l[j]?=some d2→(fun j=>if j=i then Value.int .i64 d else f j) j=.int .i64 d2:=by
    intro j d2 hj hj2;show (if j=i then Value.int .i64 d else f j)=_;by_cases hji:j=i
    ·subst hji;rw [if_pos rfl];rw [hd] at hj2;(injection hj2 with e);rw [e]
    ·rw [if_neg hji];exact hf.out j d2 (by omega) hj2
   have HNX:=hid hnx;clear hb hi hlt hd hnx hg;go_wp2;go_roundw
   case rel=>exact⟨i+1,by rfl,HI.out,HB.out.setCell (p:=⟨w.heap.size,i,none⟩) (Nat.le_refl _) _,_,hid (hr.out.set i _),HNX⟩
   case measure=>have:=HI.out;simp [intOf];omega
  ·have p1:decide ((i:Int)<(n:Int))=false:=dF;have p2:decide (i<n)=false:=decide_eq_false hlt;(have hin:i=n:=by omega);subst hin;(have p5:i<i+2:=by omega);(have p6:i+1<i+2:=by omega);(have p7:(i:Int)<(i:Int)+2:=by omega);(have p8:(i:Int)+1<(i:Int)+2:=by omega);have c0:=hr.out.cell p5;have f0:=hr.out.frozen i;have c1:=hr.out.cell p6;have f1:=hr.out.frozen (i+1);clear hb hi hlt;go_wp2;go_ret;refine⟨by rfl,(HB.out.setCell (p:=⟨w.heap.size,i,none⟩) (Nat.le_refl _) _).setCell (p:=⟨w.heap.size,i+1,none⟩) (Nat.le_refl _) _,_,(hr.out.set i _).set (i+1) _,?_,?_,?_⟩
   ·intro j d hj;(have hji:j<i:=by have:=(List.getElem?_eq_some_iff.1 hj).1;rw [HN.out] at this;exact this);show (if j=i+1 then _ else if j=i then _ else f j)=_;rw [if_neg (by omega),if_neg (by omega)];exact hf.out j d hji hj
   ·show (if i=i+1 then _ else if i=i then _ else f i)=_;rw [if_neg (by omega),if_pos rfl]
   ·show (if i+1=i+1 then _ else _)=_;rw [if_pos rfl]
theorem sinfo9:(Tryz.prog.info? 9).map (fun i=>(i.zero,i.size,i.bytes))=some (some (.string ⟨#[]⟩),1,16):=by kernel_rfl
theorem run_make_texts (kl kc:IntKind) (L:Int) (n:Nat) (hL:L=(n:Int)) (h:n≤17592186044416) (w:World):
  (Instr.makeSlice 76 (.int kl L) (.int kc L)).run Tryz.prog w=.ok (.slice (some ⟨w.heap.size,0,none⟩) n n) (w.alloc (.cells (madeCells #[.string ⟨#[]⟩] n) 9)):=by
 obtain⟨i,hi,hz,h4,h40⟩:=info_parts sinfo9;subst hL;have hb:(i.bytes:Int) * (n:Int)≤281474976710656:=by rw [h40];omega
 have hr:=run_make (P:=Tryz.prog) w 76 9 i _ Tryz.underlying76 hi hz kl kc n n (by omega) (by omega) hb (by omega);simp only [Int.toNat_natCast,h4,Nat.mul_one] at hr;exact hr
def RoomT (w:World) (B n:Nat) (l:List ByteArray):Prop:=∃ f,w.rowIs B 9 (n+2) f∧(∀ (j:Nat) (d:ByteArray),l[j]?=some d→f j=.string d)∧f n=.string ⟨#[98,101,104,105,110,100,32,116,104,101,32,101,110,100]⟩∧f (n+1)=.string ⟨#[98,101,104,105,110,100,32,116,104,101,32,101,110,100,50]⟩
theorem ref9_roomTexts (A:Option Addr) (cap:Nat) (l:List ByteArray) (w:World) (hv:SV w A l) (hl:l.length≤8796093022208):
  Calls Tryz.prog 57 #[.slice A l.length cap] w fun e w'=>e=.returned (.slice (some ⟨w.heap.size,0,none⟩) l.length (l.length+2))∧Below w.heap.size w w'∧RoomT w' w.heap.size l.length l:=by
 obtain⟨n,hn⟩:=nM l.length;rw [hn] at hl ⊢;have HN:=hid hn;have HV:=hid hv;have hmk2:=run_make_texts .i64 .i64 ((n:Int)+2) (n+2) (by omega) (by omega) w;have k1:=World.rowIs_made w (.string ⟨#[]⟩) (n+2) 9;have k2:Below w.heap.size w (w.alloc (.cells (madeCells #[.string ⟨#[]⟩] (n+2)) 9)):=(Below.refl _ _).alloc (Nat.le_refl _) _;obtain⟨W2,hW2⟩:=nM (w.alloc (.cells (madeCells #[.string ⟨#[]⟩] (n+2)) 9));rw [hW2] at hmk2 k1 k2;have K1:=hid k1;have K2:=hid k2;clear hn hv hW2 k1 k2;go_enter Tryz.func57,Tryz.ntmps57;go_wp2;clear hmk2;go_loopw [4] (fun v4 wr=>∃ i:Nat,v4=.int .i64 (i:Int)∧i≤n∧Below w.heap.size w wr∧∃ f,Hid (wr.rowIs w.heap.size 9 (n+2) f)∧Hid (∀ (j:Nat) (d:ByteArray),j<i→l[j]?=some d→f j=.string d)) (fun v4 _=>n - (intOf v4).toNat)
 case atStart=>exact⟨0,rfl,Nat.zero_le _,K2.out,_,K1,hid (fun j d hj=>by omega)⟩
 case round=>
  obtain⟨i,rfl,hi,hb,f,hr,hf⟩:=hrel;have HB:=hid hb;have i0:(0:Int)≤(i:Int):=by omega
  by_cases hlt:i<n
  ·have p1:decide ((i:Int)<(n:Int))=true:=dT;have p2:decide (i<n)=true:=decide_eq_true hlt;(have p3:(i:Int)<(n:Int):=by omega);(have p4:(i:Int)<(n:Int)+2:=by omega);have p5:i<n+2:=by omega
   obtain⟨d,hd⟩:∃ d,l[i]?=some d:=⟨_,List.getElem?_eq_getElem (by rw [HN.out];exact hlt)⟩
   obtain⟨g,o,rfl,hg,a0⟩:=(HV.out.more hb).at hd;have c0:=hr.out.cell p5;have f0:=hr.out.frozen i;(have z1:IntKind.i64.wrap ((i:Int)+1)=(i:Int)+1:=by rw [IntKind.wrap_i64];omega);have HI:=hid (show i+1≤n by omega)
   have hnx:∀ (j:Nat) (d2:ByteArray),j<i+1→l[j]?=some d2→(fun j=>if j=i then Value.string d else f j) j=.string d2:=by
    intro j d2 hj hj2;show (if j=i then Value.string d else f j)=_;by_cases hji:j=i
    ·subst hji;rw [if_pos rfl];rw [hd] at hj2;(injection hj2 with e);rw [e]
    ·rw [if_neg hji];exact hf.out j d2 (by omega) hj2
   have HNX:=hid hnx;clear hb hi hlt hd hnx hg;go_wp2;go_roundw
   case rel=>exact⟨i+1,by rfl,HI.out,HB.out.setCell (p:=⟨w.heap.size,i,none⟩) (Nat.le_refl _) _,_,hid (hr.out.set i _),HNX⟩
   case measure=>have:=HI.out;simp [intOf];omega
  ·have p1:decide ((i:Int)<(n:Int))=false:=dF;have p2:decide (i<n)=false:=decide_eq_false hlt;(have hin:i=n:=by omega);subst hin;(have p5:i<i+2:=by omega);(have p6:i+1<i+2:=by omega);(have p7:(i:Int)<(i:Int)+2:=by omega);(have p8:(i:Int)+1<(i:Int)+2:=by omega);have c0:=hr.out.cell p5;have f0:=hr.out.frozen i;have c1:=hr.out.cell p6;have f1:=hr.out.frozen (i+1);clear hb hi hlt;go_wp2;go_ret;refine⟨by rfl,(HB.out.setCell (p:=⟨w.heap.size,i,none⟩) (Nat.le_refl _) _).setCell (p:=⟨w.heap.size,i+1,none⟩) (Nat.le_refl _) _,_,(hr.out.set i _).set (i+1) _,?_,?_,?_⟩
   ·intro j d hj;(have hji:j<i:=by have:=(List.getElem?_eq_some_iff.1 hj).1;rw [HN.out] at this;exact this);show (if j=i+1 then _ else if j=i then _ else f j)=_;rw [if_neg (by omega),if_neg (by omega)];exact hf.out j d hji hj
   ·show (if i=i+1 then _ else if i=i then _ else f i)=_;rw [if_neg (by omega),if_pos rfl]
   ·show (if i+1=i+1 then _ else _)=_;rw [if_pos rfl]
theorem ref9_sameInts (A1 A2:Option Addr) (cap1 cap2:Nat) (l:List Int) (w:World) (k1:IV w A1 l) (k2:IV w A2 l) (hl:l.length≤4611686018427387904):
  Calls Tryz.prog 70 #[.slice A1 l.length cap1,.slice A2 l.length cap2] w fun e w'=>e=.returned (.bool true)∧Below w.heap.size w w':=by
 have K1:=hid k1;have K2:=hid k2;obtain⟨n,hn⟩:=nM l.length;rw [hn] at hl ⊢;have HN:=hid hn;have q0:((n:Int) != (n:Int))=false:=by rw [bne_eq_false_iff_eq]
 have n1:(n:Int)≤4611686018427387904:=by omega
 clear k1 k2 hn;go_enter Tryz.func70,Tryz.ntmps70;go_wp2_with fail;go_loopw [5] (fun v5 wr=>Below w.heap.size w wr∧∃ i:Nat,v5=.int .i64 (i:Int)∧i≤n) (fun v5 _=>n - (intOf v5).toNat)
 case atStart=>exact⟨Below.refl _ _,0,rfl,by omega⟩
 case round=>
  obtain⟨hb,i,rfl,hi⟩:=hrel;have HB:=hid hb;by_cases hlt:i<n
  ·have z1:decide ((i:Int)<n)=true:=dT;have z1b:decide (i<n)=true:=decide_eq_true hlt;(have z2:(i:Int)<n:=by omega);have z3:(0:Int)≤(i:Int):=by omega
   obtain⟨d,hd⟩:∃ d,l[i]?=some d:=⟨_,List.getElem?_eq_getElem (by rw [HN.out];exact hlt)⟩
   obtain⟨g1,o1,rfl,hg1,a0⟩:=(K1.out.more hb).at hd;obtain⟨g2,o2,rfl,hg2,b0⟩:=(K2.out.more hb).at hd;clear hb hd hg1 hg2;go_wp2_with fail;go_quiet (fail);go_wp2_with fail;go_roundw
   case rel=>exact⟨below_drewN HB.out _,i+1,by rfl,by omega⟩
   case measure=>simp [intOf];omega
  ·have z1:decide ((i:Int)<n)=false:=dF;have z1b:decide (i<n)=false:=decide_eq_false hlt;clear hb hlt hi;go_wp2_with fail;go_ret;exact⟨rfl,HB.out⟩
theorem ref9_sameTexts (A1 A2:Option Addr) (cap1 cap2:Nat) (l:List ByteArray) (w:World) (k1:SV w A1 l) (k2:SV w A2 l) (hl:l.length≤4611686018427387904):
  Calls Tryz.prog 71 #[.slice A1 l.length cap1,.slice A2 l.length cap2] w fun e w'=>e=.returned (.bool true)∧Below w.heap.size w w':=by
 have K1:=hid k1;have K2:=hid k2;obtain⟨n,hn⟩:=nM l.length;rw [hn] at hl ⊢;have HN:=hid hn;have q0:((n:Int) != (n:Int))=false:=by rw [bne_eq_false_iff_eq]
 have n1:(n:Int)≤4611686018427387904:=by omega
 clear k1 k2 hn;go_enter Tryz.func71,Tryz.ntmps71;go_wp2_with fail;go_loopw [5] (fun v5 wr=>Below w.heap.size w wr∧∃ i:Nat,v5=.int .i64 (i:Int)∧i≤n) (fun v5 _=>n - (intOf v5).toNat)
 case atStart=>exact⟨Below.refl _ _,0,rfl,by omega⟩
 case round=>
  obtain⟨hb,i,rfl,hi⟩:=hrel;have HB:=hid hb;by_cases hlt:i<n
  ·have z1:decide ((i:Int)<n)=true:=dT;have z1b:decide (i<n)=true:=decide_eq_true hlt;(have z2:(i:Int)<n:=by omega);have z3:(0:Int)≤(i:Int):=by omega
   obtain⟨d,hd⟩:∃ d,l[i]?=some d:=⟨_,List.getElem?_eq_getElem (by rw [HN.out];exact hlt)⟩
   (have d0:(!(decide (d=d)))=false:=by simp);obtain⟨g1,o1,rfl,hg1,a0⟩:=(K1.out.more hb).at hd;obtain⟨g2,o2,rfl,hg2,b0⟩:=(K2.out.more hb).at hd;clear hb hd hg1 hg2;go_wp2_with fail;go_quiet (fail);go_wp2_with fail;go_roundw
   case rel=>exact⟨below_drewN HB.out _,i+1,by rfl,by omega⟩
   case measure=>simp [intOf];omega
  ·have z1:decide ((i:Int)<n)=false:=dF;have z1b:decide (i<n)=false:=decide_eq_false hlt;clear hb hlt hi;go_wp2_with fail;go_ret;exact⟨rfl,HB.out⟩
theorem ref9_markInts (g o n cap:Nat) (w:World) (hc:n+2≤cap) (hb:cap≤4611686018427387904)
  (h0:w.cell? ⟨g,o+n,none⟩=some (.int .i64 (-4711))) (h1:w.cell? ⟨g,o+(n+1),none⟩=some (.int .i64 (-4712))):
  Calls Tryz.prog 44 #[.slice (some ⟨g,o,none⟩) n cap] w fun e w'=>e=.returned (.bool true)∧w'=w:=by
 go_enter Tryz.func44,Tryz.ntmps44;go_wp2;go_ret;exact⟨rfl,rfl⟩
def mark1:ByteArray:=⟨#[98,101,104,105,110,100,32,116,104,101,32,101,110,100]⟩
def mark2:ByteArray:=⟨#[98,101,104,105,110,100,32,116,104,101,32,101,110,100,50]⟩
theorem ref9_markTexts (g o n cap:Nat) (w:World) (hc:n+2≤cap) (hb:cap≤4611686018427387904)
  (h0:w.cell? ⟨g,o+n,none⟩=some (.string mark1)) (h1:w.cell? ⟨g,o+(n+1),none⟩=some (.string mark2)):
  Calls Tryz.prog 45 #[.slice (some ⟨g,o,none⟩) n cap] w fun e w'=>e=.returned (.bool true)∧w'=w:=by
 rw [show mark1=⟨#[98,101,104,105,110,100,32,116,104,101,32,101,110,100]⟩ from rfl] at h0;rw [show mark2=⟨#[98,101,104,105,110,100,32,116,104,101,32,101,110,100,50]⟩ from rfl] at h1;go_enter Tryz.func45,Tryz.ntmps45;go_wp2;go_ret;exact⟨rfl,rfl⟩
structure KeepB (lo:Nat) (A B:World):Prop where
 size:A.heap.size≤B.heap.size
 same:∀ b,lo≤b→b<A.heap.size→B.heap[b]?=A.heap[b]?
theorem KeepB.trans {lo:Nat} {A B C:World} (h:KeepB lo A B) (k:KeepB lo B C):KeepB lo A C:=⟨Nat.le_trans h.size k.size,fun b h1 h2=>(k.same b h1 (Nat.lt_of_lt_of_le h2 h.size)).trans (h.same b h1 h2)⟩
theorem KeepB.of_below {lo:Nat} {A B:World} (h:Below A.heap.size A B):KeepB lo A B:=⟨h.size,fun b _ h2=>h.block b h2⟩
theorem KeepB.set {lo:Nat} (A:World) {a:Addr} (ha:a.block<lo) (v:Value):KeepB lo A (A.setCell a v):=⟨by rw [World.size_setCell];exact Nat.le_refl _,fun b h1 _=>Below.heap_setCell A a v b (by omega)⟩
theorem RoomI.keep {lo:Nat} {W W':World} {g n:Nat} {l:List Int} (h:RoomI W g n l) (k:KeepB lo W W') (hg:lo≤g):RoomI W' g n l:=by
 obtain⟨f,h1,h2⟩:=h;exact⟨f,h1.of_block (k.same g hg h1.lt),h2⟩
theorem RoomT.keep {lo:Nat} {W W':World} {g n:Nat} {l:List ByteArray} (h:RoomT W g n l) (k:KeepB lo W W') (hg:lo≤g):RoomT W' g n l:=by
 obtain⟨f,h1,h2⟩:=h;exact⟨f,h1.of_block (k.same g hg h1.lt),h2⟩
theorem RoomI.iv {W:World} {g:Nat} {l:List Int} (h:RoomI W g l.length l):IV W (some ⟨g,0,none⟩) l:=by
 obtain⟨f,h1,h2,_⟩:=h;intro i a ha;have hi:i<l.length:=(List.getElem?_eq_some_iff.1 ha).1;refine⟨g,0,[.int .i64 a],rfl,h1.lt,rfl,rfl,fun j u hu=>?_⟩
 obtain rfl:j=0:=by
  have:=(List.getElem?_eq_some_iff.1 hu).1;simp at this;exact this
 obtain rfl:(.int .i64 a:Value)=u:=by simpa using hu
 rw [Nat.zero_add,Nat.mul_one,Nat.add_zero,h1.cell (by omega),h2 i a ha]
theorem RoomT.sv {W:World} {g:Nat} {l:List ByteArray} (h:RoomT W g l.length l):SV W (some ⟨g,0,none⟩) l:=by
 obtain⟨f,h1,h2,_⟩:=h;intro i a ha;have hi:i<l.length:=(List.getElem?_eq_some_iff.1 ha).1;refine⟨g,0,[.string a],rfl,h1.lt,rfl,rfl,fun j u hu=>?_⟩
 obtain rfl:j=0:=by
  have:=(List.getElem?_eq_some_iff.1 hu).1;simp at this;exact this
 obtain rfl:(.string a:Value)=u:=by simpa using hu
 rw [Nat.zero_add,Nat.mul_one,Nat.add_zero,h1.cell (by omega),h2 i a ha]
def MARK:ByteArray:=⟨#[98,101,104,105,110,100,32,116,104,101,32,101,110,100]⟩
def MARK2:ByteArray:=⟨#[98,101,104,105,110,100,32,116,104,101,32,101,110,100,50]⟩
def REntR (lo:Nat) (W:World) (e:Sp.Entry) (cs:List Value):Prop:=∃ g1 g2 g3,lo≤g1∧lo≤g2∧lo≤g3 ∧
 cs=[.string e.name,.slice (some ⟨g1,0,none⟩) e.ins.length (e.ins.length+2),.slice (some ⟨g2,0,none⟩) e.cubes.length (e.cubes.length+2),.string e.write,.slice (some ⟨g3,0,none⟩) e.outs.length (e.outs.length+2)] ∧
 RoomI W g1 e.ins.length e.ins∧RoomT W g2 e.cubes.length e.cubes∧RoomI W g3 e.outs.length e.outs
def RGrdR (lo:Nat) (W:World) (x:Sp.Guard) (cs:List Value):Prop:=∃ g,lo≤g∧cs=[.bool x.permit,.slice (some ⟨g,0,none⟩) x.cubes.length (x.cubes.length+2)]∧RoomT W g x.cubes.length x.cubes
theorem REntR.keep {lo:Nat} {W W':World} {e:Sp.Entry} {cs:List Value} (h:REntR lo W e cs) (k:KeepB lo W W'):REntR lo W' e cs:=by
 obtain⟨g1,g2,g3,a1,a2,a3,hc,h1,h2,h3⟩:=h;exact⟨g1,g2,g3,a1,a2,a3,hc,h1.keep k a1,h2.keep k a2,h3.keep k a3⟩
theorem RGrdR.keep {lo:Nat} {W W':World} {x:Sp.Guard} {cs:List Value} (h:RGrdR lo W x cs) (k:KeepB lo W W'):RGrdR lo W' x cs:=by
 obtain⟨g,a,hc,h1⟩:=h;exact⟨g,a,hc,h1.keep k a⟩
theorem REntR.plain {lo:Nat} {W:World} {e:Sp.Entry} {cs:List Value} (h:REntR lo W e cs):EntryR W e cs:=by
 obtain⟨g1,g2,g3,_,_,_,rfl,h1,h2,h3⟩:=h;exact⟨_,_,_,_,_,_,rfl,h1.iv,h2.sv,h3.iv,by omega,by omega,by omega⟩
theorem RGrdR.plain {lo:Nat} {W:World} {x:Sp.Guard} {cs:List Value} (h:RGrdR lo W x cs):GuardR W x cs:=by
 obtain⟨g,_,rfl,h1⟩:=h;exact⟨_,_,rfl,h1.sv,by omega⟩
theorem REntR.mono {lo lo':Nat} {W:World} {e:Sp.Entry} {cs:List Value} (h:REntR lo W e cs) (hl:lo'≤lo):REntR lo' W e cs:=by
 obtain⟨g1,g2,g3,a1,a2,a3,r⟩:=h;exact⟨g1,g2,g3,by omega,by omega,by omega,r⟩
theorem RGrdR.mono {lo lo':Nat} {W:World} {x:Sp.Guard} {cs:List Value} (h:RGrdR lo W x cs) (hl:lo'≤lo):RGrdR lo' W x cs:=by
 obtain⟨g,a,r⟩:=h;exact⟨g,by omega,r⟩
def RowOf {α:Type} (k:Nat) (R:World→α→List Value→Prop) (W:World) (t:TypeId) (g m:Nat) (al:List α) (f:Nat→Value):Prop:=
 W.rowIs g t m f∧∀ (i:Nat) (a:α),al[i]?=some a→∃ cs,cs.length=k∧R W a cs∧∀ (j:Nat) (u:Value),cs[j]?=some u→f (i * k+j)=u
theorem RowOf.lview {α:Type} {k:Nat} {R:World→α→List Value→Prop} {W:World} {t:TypeId} {g m:Nat} {al:List α} {f:Nat→Value} (h:RowOf k R W t g m al f) (hm:al.length * k≤m):LView k R W (some ⟨g,0,none⟩) al:=by
 intro i a ha;obtain⟨cs,h1,h2,h3⟩:=h.2 i a ha;have hi:i<al.length:=(List.getElem?_eq_some_iff.1 ha).1;refine⟨g,0,cs,rfl,h.1.lt,h1,h2,fun j u hu=>?_⟩;have hj:=(List.getElem?_eq_some_iff.1 hu).1
 have:i * k+j<al.length * k:=by
  have h5:(i+1) * k≤al.length * k:=Nat.mul_le_mul_right k hi;rw [Nat.succ_mul] at h5;omega
 rw [Nat.zero_add,h.1.cell (by omega),h3 j u hu]
theorem RowOf.keep {α:Type} {k lo:Nat} {R:World→α→List Value→Prop} {W W':World} {t:TypeId} {g m:Nat} {al:List α} {f:Nat→Value} (h:RowOf k R W t g m al f) (hk:KeepB lo W W') (hg:lo≤g) (hR:∀ a cs,R W a cs→R W' a cs):RowOf k R W' t g m al f:=
 ⟨h.1.of_block (hk.same g hg h.1.lt),fun i a ha=>by
  obtain⟨cs,h1,h2,h3⟩:=h.2 i a ha
  exact⟨cs,h1,hR a cs h2,h3⟩⟩
def RTab (lo:Nat) (W:World) (x:List Sp.Entry) (cs:List Value):Prop:=∃ g f,lo≤g∧cs=[.slice (some ⟨g,0,none⟩) x.length (x.length+2)]∧RowOf 5 (REntR lo) W 78 g ((x.length+2) * 5) x f ∧
 f (x.length * 5)=.string MARK∧f (x.length * 5+2)=.slice none 0 0∧f ((x.length+1) * 5)=.string MARK2∧f ((x.length+1) * 5+2)=.slice none 0 0
def RGrd (lo:Nat) (W:World) (x:List Sp.Guard) (cs:List Value):Prop:=∃ g f m1 m2 c1 c2,lo≤g∧lo≤m1∧lo≤m2∧cs=[.slice (some ⟨g,0,none⟩) x.length (x.length+2)]∧RowOf 2 (RGrdR lo) W 81 g ((x.length+2) * 2) x f ∧
 f (x.length * 2+1)=.slice (some ⟨m1,0,none⟩) 1 c1∧f ((x.length+1) * 2+1)=.slice (some ⟨m2,0,none⟩) 1 c2∧W.rowIs m1 9 1 (fun _=>.string MARK)∧W.rowIs m2 9 1 (fun _=>.string MARK2)
theorem RTab.keep {lo:Nat} {W W':World} {x:List Sp.Entry} {cs:List Value} (h:RTab lo W x cs) (k:KeepB lo W W'):RTab lo W' x cs:=by
 obtain⟨g,f,a,hc,h1,h2⟩:=h;exact⟨g,f,a,hc,h1.keep k a (fun _ _ h=>h.keep k),h2⟩
theorem RGrd.keep {lo:Nat} {W W':World} {x:List Sp.Guard} {cs:List Value} (h:RGrd lo W x cs) (k:KeepB lo W W'):RGrd lo W' x cs:=by
 obtain⟨g,f,m1,m2,c1,c2,a,a1,a2,hc,h1,h2,h3,h4,h5⟩:=h;exact⟨g,f,m1,m2,c1,c2,a,a1,a2,hc,h1.keep k a (fun _ _ h=>h.keep k),h2,h3,h4.of_block (k.same m1 a1 h4.lt),h5.of_block (k.same m2 a2 h5.lt)⟩
theorem RTab.mono {lo lo':Nat} {W:World} {x:List Sp.Entry} {cs:List Value} (h:RTab lo W x cs) (hl:lo'≤lo):RTab lo' W x cs:=by
 obtain⟨g,f,a,hc,h1,h2⟩:=h;exact⟨g,f,by omega,hc,⟨h1.1,fun i b hb=>by obtain⟨cs',e1,e2,e3⟩:=h1.2 i b hb;exact⟨cs',e1,e2.mono hl,e3⟩⟩,h2⟩
theorem RGrd.mono {lo lo':Nat} {W:World} {x:List Sp.Guard} {cs:List Value} (h:RGrd lo W x cs) (hl:lo'≤lo):RGrd lo' W x cs:=by
 obtain⟨g,f,m1,m2,c1,c2,a,a1,a2,hc,h1,h2⟩:=h;exact⟨g,f,m1,m2,c1,c2,by omega,by omega,by omega,hc,⟨h1.1,fun i b hb=>by obtain⟨cs',e1,e2,e3⟩:=h1.2 i b hb;exact⟨cs',e1,e2.mono hl,e3⟩⟩,h2⟩
theorem rowIs_madeZ (w:World) (z:Array Value) (m:Nat) (t:TypeId):(w.alloc (.cells (madeCells z m) t)).rowIs w.heap.size t m (fun i=>z[i % z.size]!):=
 ⟨_,heap_alloc_new _ _,size_madeCells _ _,fun i hi=>by simp [madeCells,hi]⟩
theorem RowOf.first {α:Type} {k:Nat} {R:World→α→List Value→Prop} {W:World} {t:TypeId} {g m:Nat} {f:Nat→Value} (al:List α) (hr:W.rowIs g t m f):RowOf k R W t g m (al.take 0) f:=
 ⟨hr,fun i a ha=>by rw [List.take_zero] at ha;simp at ha⟩
theorem RowOf.snoc {α:Type} {k:Nat} {R:World→α→List Value→Prop} {W W':World} {t:TypeId} {g m i:Nat} {al:List α} {f f':Nat→Value} (h:RowOf k R W t g m (al.take i) f) (hr:W'.rowIs g t m f') (hold:∀ j,j<i * k→f' j=f j) (hR:∀ a cs,R W a cs→R W' a cs) {a:α} (ha:al[i]?=some a) {cs:List Value} (hl:cs.length=k) (hRa:R W' a cs) (hnew:∀ (j:Nat) (u:Value),cs[j]?=some u→f' (i * k+j)=u):RowOf k R W' t g m (al.take (i+1)) f':=by
 refine⟨hr,fun j b hb=>?_⟩;rw [List.getElem?_take] at hb;split at hb
 ·rename_i hj;rcases Nat.lt_or_ge j i with h9 | h9
  ·obtain⟨cs',e1,e2,e3⟩:=h.2 j b (by rw [List.getElem?_take,if_pos h9];exact hb);refine⟨cs',e1,hR b cs' e2,fun j' u hu=>?_⟩;have hj':=(List.getElem?_eq_some_iff.1 hu).1;have h5:(j+1) * k≤i * k:=Nat.mul_le_mul_right k h9;rw [Nat.succ_mul] at h5;rw [hold _ (by omega)];exact e3 j' u hu
  ·obtain rfl:j=i:=by omega
   rw [ha] at hb;(obtain rfl:a=b:=by simpa using hb);exact⟨cs,hl,hRa,hnew⟩
 ·cases hb
def upd (f:Nat→Value) (o:Nat) (cs:List Value) (j:Nat):Value:=if o≤j then (match cs[j - o]? with | some u=>u | none=>f j) else f j
theorem upd_in {f:Nat→Value} {o:Nat} {cs:List Value} {j:Nat} {u:Value} (h:cs[j]?=some u):upd f o cs (o+j)=u:=by
 unfold upd;rw [if_pos (by omega),show o+j - o=j by omega,h]
theorem upd_out {f:Nat→Value} {o:Nat} {cs:List Value} {j:Nat} (h:j<o∨o+cs.length≤j):upd f o cs j=f j:=by
 unfold upd;split
 ·rw [List.getElem?_eq_none (by omega)]
 ·rfl
theorem rowIs_set5 {W:World} {g m:Nat} {t:TypeId} {f:Nat→Value} (h:W.rowIs g t m f) (o:Nat) (a b c d e:Value):(((((W.setCell ⟨g,o,none⟩ a).setCell ⟨g,o+1,none⟩ b).setCell ⟨g,o+2,none⟩ c).setCell ⟨g,o+3,none⟩ d).setCell ⟨g,o+4,none⟩ e).rowIs g t m (upd f o [a,b,c,d,e]):=by
 refine World.rowIs.congr (((((h.set o a).set (o+1) b).set (o+2) c).set (o+3) d).set (o+4) e) (fun j _=>?_);show (if j=o+4 then e else if j=o+3 then d else if j=o+2 then c else if j=o+1 then b else if j=o then a else f j)=_;by_cases h0:j=o
 ·subst h0;rw [if_neg (by omega),if_neg (by omega),if_neg (by omega),if_neg (by omega),if_pos rfl];exact (upd_in (o:=j) (j:=0) rfl).symm
 by_cases h1:j=o+1
 ·subst h1;rw [if_neg (by omega),if_neg (by omega),if_neg (by omega),if_pos rfl];exact (upd_in (o:=o) (j:=1) rfl).symm
 by_cases h2:j=o+2
 ·subst h2;rw [if_neg (by omega),if_neg (by omega),if_pos rfl];exact (upd_in (o:=o) (j:=2) rfl).symm
 by_cases h3:j=o+3
 ·subst h3;rw [if_neg (by omega),if_pos rfl];exact (upd_in (o:=o) (j:=3) rfl).symm
 by_cases h4:j=o+4
 ·subst h4;rw [if_pos rfl];exact (upd_in (o:=o) (j:=4) rfl).symm
 rw [if_neg h4,if_neg h3,if_neg h2,if_neg h1,if_neg h0,upd_out (by simp only [List.length_cons,List.length_nil];omega)]
theorem rowIs_set2 {W:World} {g m:Nat} {t:TypeId} {f:Nat→Value} (h:W.rowIs g t m f) (o:Nat) (a b:Value):((W.setCell ⟨g,o,none⟩ a).setCell ⟨g,o+1,none⟩ b).rowIs g t m (upd f o [a,b]):=by
 refine World.rowIs.congr ((h.set o a).set (o+1) b) (fun j _=>?_);show (if j=o+1 then b else if j=o then a else f j)=_;by_cases h0:j=o
 ·subst h0;rw [if_neg (by omega),if_pos rfl];exact (upd_in (o:=j) (j:=0) rfl).symm
 by_cases h1:j=o+1
 ·subst h1;rw [if_pos rfl];exact (upd_in (o:=o) (j:=1) rfl).symm
 rw [if_neg h1,if_neg h0,upd_out (by simp only [List.length_cons,List.length_nil];omega)]
theorem rowIs_set4 {W:World} {g m:Nat} {t:TypeId} {f:Nat→Value} (h:W.rowIs g t m f) (o:Nat) (a b c d:Value):((((W.setCell ⟨g,o,none⟩ a).setCell ⟨g,o+1,none⟩ b).setCell ⟨g,o+2,none⟩ c).setCell ⟨g,o+3,none⟩ d).rowIs g t m (upd f o [a,b,c,d]):=by
 refine World.rowIs.congr ((((h.set o a).set (o+1) b).set (o+2) c).set (o+3) d) (fun j _=>?_);show (if j=o+3 then d else if j=o+2 then c else if j=o+1 then b else if j=o then a else f j)=_;by_cases h0:j=o
 ·subst h0;rw [if_neg (by omega),if_neg (by omega),if_neg (by omega),if_pos rfl];exact (upd_in (o:=j) (j:=0) rfl).symm
 by_cases h1:j=o+1
 ·subst h1;rw [if_neg (by omega),if_neg (by omega),if_pos rfl];exact (upd_in (o:=o) (j:=1) rfl).symm
 by_cases h2:j=o+2
 ·subst h2;rw [if_neg (by omega),if_pos rfl];exact (upd_in (o:=o) (j:=2) rfl).symm
 by_cases h3:j=o+3
 ·subst h3;rw [if_pos rfl];exact (upd_in (o:=o) (j:=3) rfl).symm
 rw [if_neg h3,if_neg h2,if_neg h1,if_neg h0,upd_out (by simp only [List.length_cons,List.length_nil];omega)]
theorem ginfo9:(Tryz.prog.info? 81).map (fun i=>(i.zero,i.size,i.bytes))=some (some (.agg #[.bool false,.slice none 0 0]),2,32):=by kernel_rfl
theorem run_make_guards (kl kc:IntKind) (L:Int) (n:Nat) (hL:L=(n:Int)) (h:n≤8796093022208) (w:World):
  (Instr.makeSlice 70 (.int kl L) (.int kc L)).run Tryz.prog w=.ok (.slice (some ⟨w.heap.size,0,none⟩) n n) (w.alloc (.cells (madeCells #[.bool false,.slice none 0 0] (n * 2)) 81)):=by
 obtain⟨i,hi,hz,h4,h40⟩:=info_parts ginfo9;subst hL;have hb:(i.bytes:Int) * (n:Int)≤281474976710656:=by rw [h40];omega
 have hr:=run_make (P:=Tryz.prog) w 70 81 i _ Tryz.underlying70 hi hz kl kc n n (by omega) (by omega) hb (by omega);simp only [Int.toNat_natCast,h4] at hr;exact hr
theorem einfo9:(Tryz.prog.info? 78).map (fun i=>(i.zero,i.size,i.bytes))=some (some (.agg #[.string ⟨#[]⟩,.slice none 0 0,.slice none 0 0,.string ⟨#[]⟩,.slice none 0 0]),5,104):=by kernel_rfl
theorem run_make_entries (kl kc:IntKind) (L:Int) (n:Nat) (hL:L=(n:Int)) (h:n≤2500000000000) (w:World):
  (Instr.makeSlice 68 (.int kl L) (.int kc L)).run Tryz.prog w=.ok (.slice (some ⟨w.heap.size,0,none⟩) n n) (w.alloc (.cells (madeCells #[.string ⟨#[]⟩,.slice none 0 0,.slice none 0 0,.string ⟨#[]⟩,.slice none 0 0] (n * 5)) 78)):=by
 obtain⟨i,hi,hz,h4,h40⟩:=info_parts einfo9;subst hL;have hb:(i.bytes:Int) * (n:Int)≤281474976710656:=by rw [h40];omega
 have hr:=run_make (P:=Tryz.prog) w 68 78 i _ Tryz.underlying68 hi hz kl kc n n (by omega) (by omega) hb (by omega);simp only [Int.toNat_natCast,h4] at hr;exact hr
theorem pinfo9:(Tryz.prog.info? 74).map (fun i=>(i.zero,i.size,i.bytes))=some (some (.agg #[.string ⟨#[]⟩,.int .i64 0,.bool false,.int .i64 0]),4,40):=by kernel_rfl
theorem run_make_ports (kl kc:IntKind) (L:Int) (n:Nat) (hL:L=(n:Int)) (h:n≤7000000000000) (w:World):
  (Instr.makeSlice 22 (.int kl L) (.int kc L)).run Tryz.prog w=.ok (.slice (some ⟨w.heap.size,0,none⟩) n n) (w.alloc (.cells (madeCells #[.string ⟨#[]⟩,.int .i64 0,.bool false,.int .i64 0] (n * 4)) 74)):=by
 obtain⟨i,hi,hz,h4,h40⟩:=info_parts pinfo9;subst hL;have hb:(i.bytes:Int) * (n:Int)≤281474976710656:=by rw [h40];omega
 have hr:=run_make (P:=Tryz.prog) w 22 74 i _ Tryz.underlying22 hi hz kl kc n n (by omega) (by omega) hb (by omega);simp only [Int.toNat_natCast,h4] at hr;exact hr
theorem tinfo9:(Tryz.prog.info? 68).map (fun i=>(i.zero,i.size,i.bytes))=some (some (.slice none 0 0),1,24):=by kernel_rfl
theorem run_make_tables (kl kc:IntKind) (L:Int) (n:Nat) (hL:L=(n:Int)) (h:n≤11000000000000) (w:World):
  (Instr.makeSlice 23 (.int kl L) (.int kc L)).run Tryz.prog w=.ok (.slice (some ⟨w.heap.size,0,none⟩) n n) (w.alloc (.cells (madeCells #[.slice none 0 0] n) 68)):=by
 obtain⟨i,hi,hz,h4,h40⟩:=info_parts tinfo9;subst hL;have hb:(i.bytes:Int) * (n:Int)≤281474976710656:=by rw [h40];omega
 have hr:=run_make (P:=Tryz.prog) w 23 68 i _ Tryz.underlying23 hi hz kl kc n n (by omega) (by omega) hb (by omega);simp only [Int.toNat_natCast,h4,Nat.mul_one] at hr;exact hr
theorem gginfo9:(Tryz.prog.info? 70).map (fun i=>(i.zero,i.size,i.bytes))=some (some (.slice none 0 0),1,24):=by kernel_rfl
theorem run_make_ggs (kl kc:IntKind) (L:Int) (n:Nat) (hL:L=(n:Int)) (h:n≤11000000000000) (w:World):
  (Instr.makeSlice 24 (.int kl L) (.int kc L)).run Tryz.prog w=.ok (.slice (some ⟨w.heap.size,0,none⟩) n n) (w.alloc (.cells (madeCells #[.slice none 0 0] n) 70)):=by
 obtain⟨i,hi,hz,h4,h40⟩:=info_parts gginfo9;subst hL;have hb:(i.bytes:Int) * (n:Int)≤281474976710656:=by rw [h40];omega
 have hr:=run_make (P:=Tryz.prog) w 24 70 i _ Tryz.underlying24 hi hz kl kc n n (by omega) (by omega) hb (by omega);simp only [Int.toNat_natCast,h4,Nat.mul_one] at hr;exact hr
def OwnL (te:TypeId) (k:Nat) (w:World) (B:Nat) (v:Value) (L:List (List Value)):Prop:=(∀ c ∈ L,c.length=k)∧w.ownsRow B te k v L.length L.flatten
theorem OwnL.nil (te:TypeId) (k:Nat) (w:World) (B:Nat):OwnL te k w B (.slice none 0 0) []:=⟨fun c hc=>(by cases hc),World.ownsRow_nil _ _ _ _⟩
theorem OwnL.below {te:TypeId} {k:Nat} {w w':World} {B:Nat} {v:Value} {L:List (List Value)} (h:OwnL te k w B v L) (hb:Below w.heap.size w w'):OwnL te k w' B v L:=⟨h.1,ownsRow_below h.2 hb⟩
theorem OwnL.kept {te:TypeId} {k:Nat} {w w':World} {B:Nat} {v:Value} {L:List (List Value)} (h:OwnL te k w B v L) (hb:∀ g,v.ownBlock=some g→w'.heap[g]?=w.heap[g]?):OwnL te k w' B v L:=by
 refine⟨h.1,h.2.1,?_⟩;rcases h.2.2 with h0 | ⟨g,cap,cur,hv,hB,hg,r⟩
 ·exact Or.inl h0
 ·exact Or.inr ⟨g,cap,cur,hv,hB,(hb g (by rw [hv];rfl)).trans hg,r⟩
theorem OwnL.blk {te:TypeId} {k:Nat} {w:World} {B:Nat} {v:Value} {L:List (List Value)} (h:OwnL te k w B v L):∀ g,v.ownBlock=some g→B≤g∧g<w.heap.size∧∃ c,Blk w g te c:=by
 intro g hg;rcases h.2.2 with⟨rfl,_⟩ | ⟨g',cap,cur,rfl,hB,hgg,_⟩
 ·simp [Value.ownBlock] at hg
 ·simp [Value.ownBlock] at hg;subst hg;exact⟨hB,Blk.lt hgg,cur,hgg⟩
theorem OwnL.other {te tf:TypeId} {k:Nat} {w w':World} {B:Nat} {v:Value} {L:List (List Value)} (h:OwnL te k w B v L) (ht:te≠tf) (hk:∀ (g:Nat) (T:TypeId) (cs:Array Value),T≠tf→Blk w g T cs→Blk w' g T cs):OwnL te k w' B v L:=
 h.kept fun g hg=>by
  obtain⟨_,_,c,hc⟩:=h.blk g hg;exact (hk g te c ht hc).trans hc.symm
theorem OwnL.under {te:TypeId} {k:Nat} {w w':World} {B lo:Nat} {v:Value} {L:List (List Value)} (h:OwnL te k w B v L) (hv:∀ g,v.ownBlock=some g→g<lo) (hb:Below lo w w'):OwnL te k w' B v L:=
 h.kept fun g hg=>hb.block g (hv g hg)
theorem OwnL.lt {te:TypeId} {k:Nat} {w:World} {B:Nat} {v:Value} {L:List (List Value)} (h:OwnL te k w B v L):∀ g,v.ownBlock=some g→g<w.heap.size:=fun g hg=>(h.blk g hg).2.1
theorem OwnL.mono {te:TypeId} {k:Nat} {w:World} {B B':Nat} {v:Value} {L:List (List Value)} (h:OwnL te k w B v L) (hb:B'≤B):OwnL te k w B' v L:=by
 refine⟨h.1,h.2.1,?_⟩;rcases h.2.2 with h0 | ⟨g,cap,cur,hv,hB,r⟩
 ·exact Or.inl h0
 ·exact Or.inr ⟨g,cap,cur,hv,Nat.le_trans hb hB,r⟩
theorem flatten_at (k:Nat):∀ (L:List (List Value)),(∀ c ∈ L,c.length=k)→∀ (i:Nat) (c:List Value) (f:Nat),L[i]?=some c→f<k→L.flatten[i * k+f]?=c[f]?
 | [],_,i,c,f,h,_=>by simp at h
 | x :: r,hl,0,c,f,h,hf=>by
  simp at h;subst h;have:=hl x List.mem_cons_self;rw [List.flatten_cons,List.getElem?_append_left (by omega)];simp
 | x :: r,hl,i+1,c,f,h,hf=>by
  have hx:=hl x List.mem_cons_self;have ih:=flatten_at k r (fun c hc=>hl c (List.mem_cons_of_mem _ hc)) i c f (by simpa using h) hf;rw [List.flatten_cons,List.getElem?_append_right (by rw [Nat.succ_mul];omega),← ih];congr 1;rw [Nat.succ_mul];omega
def LowA (lo:Nat) (A:Option Addr):Prop:=∀ a,A=some a→lo≤a.block
theorem OwnL.lview {α:Type} {te:TypeId} {k:Nat} {w:World} {B:Nat} {v:Value} {L:List (List Value)} (h:OwnL te k w B v L) {R:World→α→List Value→Prop} {al:List α} (hl:al.length=L.length) (hR:∀ (i:Nat) (a:α) (c:List Value),al[i]?=some a→L[i]?=some c→R w a c):
  ∃ A cap,v=.slice A al.length cap∧LView k R w A al∧al.length≤cap∧LowA B A:=by
 rcases h.2.2 with⟨rfl,hn⟩ | ⟨g,cap,cur,hv,hg,hh,hle,hcm,r⟩
 ·refine⟨none,0,by rw [hl,hn],?_,by omega,fun a ha=>by cases ha⟩;intro i d hd;have:=(List.getElem?_eq_some_iff.1 hd).1;omega
 ·refine⟨some ⟨g,0,none⟩,cap,by rw [hv,hl],?_,by omega,fun a ha=>by injection ha with ha;rw [← ha];exact hg⟩;intro i a ha;have hi:i<L.length:=by have:=(List.getElem?_eq_some_iff.1 ha).1;omega
  obtain⟨c,hc⟩:∃ c,L[i]?=some c:=⟨_,List.getElem?_eq_getElem hi⟩
  have hck:=h.1 c (List.mem_of_getElem? hc);refine⟨g,0,c,rfl,h.lt g (by rw [hv];rfl),hck,hR i a c ha hc,?_⟩;intro f u hu;have hf:f<k:=by have:=(List.getElem?_eq_some_iff.1 hu).1;omega
  have h2:w.ownsRow B te k (.slice (some ⟨g,0,none⟩) L.length cap) L.length L.flatten:=by rw [← hv];exact h.2
  have hlt:i * k+f<L.length * k:=by
   have h5:(i+1) * k≤L.length * k:=Nat.mul_le_mul_right k hi;rw [Nat.succ_mul] at h5;omega
  rw [Nat.zero_add,h2.cellAt (i * k+f) hlt,flatten_at k L h.1 i c f hc hf,hu]
theorem wp_els {o:Oper} {a:Act} {K:Act→World→Prop} {Q:Exit→Act→World→Prop} (s x:Operand) {t te:TypeId}
  (ho:o.op=.call { callee:=.builtin .append,args:=#[s,x],argTypes:=#[t,t] }) (hu:Tryz.prog.underlying t=some (.slice te)) {z:Value} {k b:Nat} (hinfo:(Tryz.prog.info? te).map (fun i=>(i.zero,i.size,i.bytes))=some (some z,k,b)) (hzs:z.cells.size=k) (hk:0<k)
  (B:Nat) (v:Value) (L:List (List Value)) (hs:a.eval s=v) (W:World) (M:Nat) (c:List Value) (hc:c.length=k) (h1:∀ u ∈ c,u.oneCell'=true) (hx:a.eval x=.slice (some ⟨M,0,none⟩) 1 1) (hnew:Blk W M te c.toArray) (hown:OwnL te k W B v L) (hB:B≤W.heap.size) (hl:(L.length+1) * b≤140737488355328) (hm:L.length≤1000000000000000)
  (h:∀ v' w',OwnL te k w' B v' (L ++ [c])→Below B W w'→(∀ (g:Nat) (T:TypeId) (cs:Array Value),T≠te→Blk W g T cs→Blk w' g T cs)→W.grownBy w' v.ownBlock→K (a.put o.dst v') w'):o.wp Tryz.prog a W K Q:=by
 obtain⟨i0,hi0,hz0,hz1,hz2⟩:=info_parts hinfo;refine wp_append_own W s x t ho B te i0 z k b hu hi0 hz0 hz1 hz2 hzs hk v L.length L.flatten hs hown.2 ⟨M,0,none⟩ 1 1 c hx (by omega) ?_ h1 (by unfold maxLen;omega) hl hB ?_
 ·intro j u hj;exact World.news_of_block hnew j u (by simpa using hj)
 ·intro v' w' hown' hgrow _;refine h v' w' ⟨?_,?_⟩ ?_ ?_ hgrow
  ·intro c' hc';rcases List.mem_append.1 hc' with h9 | h9
   ·exact hown.1 c' h9
   ·rw [List.mem_singleton] at h9;subst h9;exact hc
  ·rw [List.length_append,List.flatten_append];simpa using hown'
  rotate_left
  ·intro g T cs hT hkk;refine hkk.grown hgrow (fun e=>?_);obtain⟨c1,f1,h1⟩:=Lib.ownsRow_kind hown.2 g e.symm;unfold Blk at hkk;rw [hkk] at h1;(injection h1 with h1);(injection h1 with _ h1);exact hT h1
  ·exact (Below.refl B W).grown hgrow hB (fun g e=>(World.ownsRow.lt hown.2 g e).1)
theorem wpList_els {ops:Array Oper} {rest:List Oper} {o:Oper} {a:Act} {Q:Exit→Act→World→Prop} (hgd:o.guard=none) (s x:Operand) {t te:TypeId}
  (ho:o.op=.call { callee:=.builtin .append,args:=#[s,x],argTypes:=#[t,t] }) (hu:Tryz.prog.underlying t=some (.slice te)) {z:Value} {k b:Nat} (hinfo:(Tryz.prog.info? te).map (fun i=>(i.zero,i.size,i.bytes))=some (some z,k,b)) (hzs:z.cells.size=k) (hk:0<k)
  (B:Nat) (v:Value) (L:List (List Value)) (hs:a.eval s=v) (W:World) (c:List Value) (hc:c.length=k) (h1:∀ u ∈ c,u.oneCell'=true) (hx:a.eval x=.slice (some ⟨W.heap.size,0,none⟩) 1 1) (hown:OwnL te k W B v L) (hB:B≤W.heap.size) (hl:(L.length+1) * b≤140737488355328) (hm:L.length≤1000000000000000)
  (h:∀ v' w',OwnL te k w' B v' (L ++ [c])→Below B W w'→(∀ (g:Nat) (T:TypeId) (cs:Array Value),T≠te→Blk W g T cs→Blk w' g T cs)→wpList Tryz.prog ops Q rest (a.put o.dst v') w'):wpList Tryz.prog ops Q (o :: rest) a (W.alloc (.cells c.toArray te)):=by
 refine wpList_plain hgd fun _ hK=>wp_els s x ho hu hinfo hzs hk B v L hs _ W.heap.size c hc h1 hx (Blk.new _ _ _) (hown.below ((Below.refl _ _).alloc (Nat.le_refl _) _)) (by rw [World.size_alloc];omega) hl hm ?_
 intro v' w' h2 h3 h4 _;exact hK _ _ (h v' w' h2 (((Below.refl B W).alloc hB _).trans h3) (fun g T cs hT hb=>h4 g T cs hT (hb.alloc _)))
theorem wpAnyK_take9 {P:Program} {md:Region.Mode} {ops:Array Oper} {S:World→Prop} {L:Nat} {Q:Exit→Act→World→Prop} (m:Nat) {i:Nat} {oi:Oper} {v:Value} {fuel:Nat} {listed:Array Bool} {a:Act} {w:World} (hc:ClosedL md ops listed) (hS:S w) (hi:ops[i]?=some oi)
  (hs:(Region.noSelect ops && Region.free md ops listed i && (Region.ready md ops listed).contains i && waitsB md ops i m L && (L != i))=true)
  (hQ:∀ c a w,Q (.panic c) (a.put oi.dst v) w→Q (.panic c) a w) (hw:Region.wanted oi (yielded ops a.tmps)=true) (hy:∀ w,S w→(execOp a.eval oi).run P w=.ok (.value v) w)
  (h:ClosedL md ops (listed.setIfInBounds i true)→wpAnyK P md ops Q S L fuel (listed.setIfInBounds i true) (a.put oi.dst v) w):wpAnyK P md ops Q S L (fuel+1) listed a w:=by
 simp only [Bool.and_eq_true] at hs;obtain⟨⟨⟨⟨h1,h2⟩,h3⟩,h4⟩,h5⟩:=hs;have hr:i ∈ Region.ready md ops listed:=by simpa using h3
 exact wpAnyK_first hi (Region.noSelect_spec h1) (by simpa using h5) h4 hQ fuel listed a w hc (Region.free_spec hi h2) hr (Or.inl ⟨hw,hy⟩) hS (h (closedL_set hc hr))
theorem blk_at9 {w:World} {g:Nat} {t:TypeId} {cs:Array Value} (h:w.heap.size=g):Blk (w.alloc (.cells cs t)) g t cs:=by subst h;exact Blk.new _ _ _
theorem REntR.more {lo:Nat} {W W':World} {e:Sp.Entry} {cs:List Value} (h:REntR lo W e cs) (hb:Below W.heap.size W W'):REntR lo W' e cs:=h.keep (KeepB.of_below hb)
theorem RGrdR.more {lo:Nat} {W W':World} {e:Sp.Guard} {cs:List Value} (h:RGrdR lo W e cs) (hb:Below W.heap.size W W'):RGrdR lo W' e cs:=h.keep (KeepB.of_below hb)
def HTab (lo:Nat) (W:World) (x:List Sp.Entry) (cs:List Value):Prop:=∃ A c,cs=[.slice A x.length c]∧LView 5 (REntR lo) W A x∧x.length≤c∧LowA lo A
def HGrd (lo:Nat) (W:World) (x:List Sp.Guard) (cs:List Value):Prop:=∃ A c,cs=[.slice A x.length c]∧LView 2 (RGrdR lo) W A x∧x.length≤c∧LowA lo A
def HNet (lo:Nat) (W:World) (n:Sp.Net) (cs:List Value):Prop:=∃ A1 c1 A2 c2 A3 c3,cs=[.int .i64 n.bits,.slice A1 n.ports.length c1,.slice A2 n.tables.length c2,.slice A3 n.guards.length c3] ∧
 PV W A1 n.ports∧LView 1 (HTab lo) W A2 n.tables∧LView 1 (HGrd lo) W A3 n.guards∧n.ports.length≤c1∧n.tables.length≤c2∧n.guards.length≤c3∧LowA lo A1∧LowA lo A2∧LowA lo A3
theorem HTab.more {lo:Nat} {W W':World} {x:List Sp.Entry} {cs:List Value} (h:HTab lo W x cs) (hb:Below W.heap.size W W'):HTab lo W' x cs:=by
 obtain⟨A,c,h1,h2,h3⟩:=h;exact⟨A,c,h1,h2.more hb (fun _ _ h=>h.more hb),h3⟩
theorem HGrd.more {lo:Nat} {W W':World} {x:List Sp.Guard} {cs:List Value} (h:HGrd lo W x cs) (hb:Below W.heap.size W W'):HGrd lo W' x cs:=by
 obtain⟨A,c,h1,h2,h3⟩:=h;exact⟨A,c,h1,h2.more hb (fun _ _ h=>h.more hb),h3⟩
theorem HNet.more {lo:Nat} {W W':World} {n:Sp.Net} {cs:List Value} (h:HNet lo W n cs) (hb:Below W.heap.size W W'):HNet lo W' n cs:=by
 obtain⟨A1,c1,A2,c2,A3,c3,h0,h1,h2,h3,h4⟩:=h;exact⟨A1,c1,A2,c2,A3,c3,h0,h1.more hb,h2.more hb (fun _ _ h=>h.more hb),h3.more hb (fun _ _ h=>h.more hb),h4⟩
theorem HTab.plain {lo:Nat} {W:World} {x:List Sp.Entry} {cs:List Value} (h:HTab lo W x cs):TableR W x cs:=by
 obtain⟨A,c,h1,h2,h3⟩:=h;refine⟨A,c,h1,fun i a ha=>?_,h3.1⟩;obtain⟨g',o,cs',e1,e2,e3,e4,e5⟩:=h2 i a ha;exact⟨g',o,cs',e1,e2,e3,e4.plain,e5⟩
theorem HGrd.plain {lo:Nat} {W:World} {x:List Sp.Guard} {cs:List Value} (h:HGrd lo W x cs):GuardsR W x cs:=by
 obtain⟨A,c,h1,h2,h3⟩:=h;refine⟨A,c,h1,fun i a ha=>?_,h3.1⟩;obtain⟨g',o,cs',e1,e2,e3,e4,e5⟩:=h2 i a ha;exact⟨g',o,cs',e1,e2,e3,e4.plain,e5⟩
theorem HNet.plain {lo:Nat} {W:World} {n:Sp.Net} {cs:List Value} (h:HNet lo W n cs):NetR W n cs:=by
 obtain⟨A1,c1,A2,c2,A3,c3,h0,h1,h2,h3,h4⟩:=h;refine⟨A1,c1,A2,c2,A3,c3,h0,h1,fun i a ha=>?_,fun i a ha=>?_,h4.1,h4.2.1,h4.2.2.1⟩
 ·obtain⟨g',o,cs',e1,e2,e3,e4,e5⟩:=h2 i a ha;exact⟨g',o,cs',e1,e2,e3,e4.plain,e5⟩
 ·obtain⟨g',o,cs',e1,e2,e3,e4,e5⟩:=h3 i a ha;exact⟨g',o,cs',e1,e2,e3,e4.plain,e5⟩
theorem RTab.held {lo:Nat} {W:World} {x:List Sp.Entry} {cs:List Value} (h:RTab lo W x cs):HTab lo W x cs:=by
 obtain⟨g,f,hl,hc,h1,_⟩:=h;exact⟨_,_,hc,h1.lview (by omega),by omega,fun a ha=>by injection ha with ha;rw [← ha];exact hl⟩
theorem RGrd.held {lo:Nat} {W:World} {x:List Sp.Guard} {cs:List Value} (h:RGrd lo W x cs):HGrd lo W x cs:=by
 obtain⟨g,f,m1,m2,c1,c2,hl,_,_,hc,h1,_⟩:=h;exact⟨_,_,hc,h1.lview (by omega),by omega,fun a ha=>by injection ha with ha;rw [← ha];exact hl⟩
theorem LView.keep {α:Type} {k lo:Nat} {R R':World→α→List Value→Prop} {w w':World} {A:Option Addr} {al:List α} (h:LView k R w A al) (hA:LowA lo A) (hb:KeepB lo w w') (hR:∀ a cs,R w a cs→R' w' a cs):LView k R' w' A al:=by
 intro i a ha;obtain⟨g,o,cs,e,hg,hk,hr,hc⟩:=h i a ha;refine⟨g,o,cs,e,Nat.lt_of_lt_of_le hg hb.size,hk,hR a cs hr,fun f u hf=>?_⟩;rw [World.cell?_of_block (w:=w) (hb.same g (hA _ e) hg)];exact hc f u hf
theorem HTab.keep {lo:Nat} {W W':World} {x:List Sp.Entry} {cs:List Value} (h:HTab lo W x cs) (k:KeepB lo W W'):HTab lo W' x cs:=by
 obtain⟨A,c,h1,h2,h3,h4⟩:=h;exact⟨A,c,h1,h2.keep h4 k (fun _ _ h=>h.keep k),h3,h4⟩
theorem HGrd.keep {lo:Nat} {W W':World} {x:List Sp.Guard} {cs:List Value} (h:HGrd lo W x cs) (k:KeepB lo W W'):HGrd lo W' x cs:=by
 obtain⟨A,c,h1,h2,h3,h4⟩:=h;exact⟨A,c,h1,h2.keep h4 k (fun _ _ h=>h.keep k),h3,h4⟩
theorem HNet.keep {lo:Nat} {W W':World} {n:Sp.Net} {cs:List Value} (h:HNet lo W n cs) (k:KeepB lo W W'):HNet lo W' n cs:=by
 obtain⟨A1,c1,A2,c2,A3,c3,h0,h1,h2,h3,l1,l2,l3,a1,a2,a3⟩:=h;exact⟨A1,c1,A2,c2,A3,c3,h0,h1.keep a1 k (fun _ _ h=>h),h2.keep a2 k (fun _ _ h=>h.keep k),h3.keep a3 k (fun _ _ h=>h.keep k),l1,l2,l3,a1,a2,a3⟩
theorem htab_at {lo:Nat} {w:World} {A:Option Addr} {l:List (List Sp.Entry)} (h:LView 1 (HTab lo) w A l) {i:Nat} {x:List Sp.Entry} (hx:l[i]?=some x):∃ g o A1 c1,A=some ⟨g,o,none⟩∧g<w.heap.size∧w.cell? ⟨g,o+i,none⟩=some (.slice A1 x.length c1)∧LView 5 (REntR lo) w A1 x∧x.length≤c1:=by
 obtain⟨g,o,cs,hA,hg,hk,⟨A1,c1,rfl,hs⟩,hc⟩:=h i x hx;have:=hc 0 _ rfl;rw [Nat.mul_one,Nat.add_zero] at this;exact⟨g,o,A1,c1,hA,hg,this,hs.1,hs.2.1⟩
theorem hgrd_at {lo:Nat} {w:World} {A:Option Addr} {l:List (List Sp.Guard)} (h:LView 1 (HGrd lo) w A l) {i:Nat} {x:List Sp.Guard} (hx:l[i]?=some x):∃ g o A1 c1,A=some ⟨g,o,none⟩∧g<w.heap.size∧w.cell? ⟨g,o+i,none⟩=some (.slice A1 x.length c1)∧LView 2 (RGrdR lo) w A1 x∧x.length≤c1:=by
 obtain⟨g,o,cs,hA,hg,hk,⟨A1,c1,rfl,hs⟩,hc⟩:=h i x hx;have:=hc 0 _ rfl;rw [Nat.mul_one,Nat.add_zero] at this;exact⟨g,o,A1,c1,hA,hg,this,hs.1,hs.2.1⟩
theorem rent_at {lo:Nat} {w:World} {A:Option Addr} {l:List Sp.Entry} (h:LView 5 (REntR lo) w A l) {i:Nat} {x:Sp.Entry} (hx:l[i]?=some x):∃ g o g1 g2 g3,A=some ⟨g,o,none⟩∧g<w.heap.size ∧
  w.cell? ⟨g,o+i * 5,none⟩=some (.string x.name)∧w.cell? ⟨g,o+i * 5+1,none⟩=some (.slice (some ⟨g1,0,none⟩) x.ins.length (x.ins.length+2))∧w.cell? ⟨g,o+i * 5+2,none⟩=some (.slice (some ⟨g2,0,none⟩) x.cubes.length (x.cubes.length+2))∧w.cell? ⟨g,o+i * 5+3,none⟩=some (.string x.write)∧w.cell? ⟨g,o+i * 5+4,none⟩=some (.slice (some ⟨g3,0,none⟩) x.outs.length (x.outs.length+2)) ∧
  lo≤g1∧lo≤g2∧lo≤g3∧RoomI w g1 x.ins.length x.ins∧RoomT w g2 x.cubes.length x.cubes∧RoomI w g3 x.outs.length x.outs:=by
 obtain⟨g,o,cs,hA,hg,hk,hs,hc⟩:=h i x hx;obtain⟨g1,g2,g3,a1,a2,a3,rfl,r⟩:=hs;exact⟨g,o,g1,g2,g3,hA,hg,hc 0 _ rfl,hc 1 _ rfl,hc 2 _ rfl,hc 3 _ rfl,hc 4 _ rfl,a1,a2,a3,r⟩
theorem rgrd_at {lo:Nat} {w:World} {A:Option Addr} {l:List Sp.Guard} (h:LView 2 (RGrdR lo) w A l) {i:Nat} {x:Sp.Guard} (hx:l[i]?=some x):∃ g o g1,A=some ⟨g,o,none⟩∧g<w.heap.size ∧
  w.cell? ⟨g,o+i * 2,none⟩=some (.bool x.permit)∧w.cell? ⟨g,o+i * 2+1,none⟩=some (.slice (some ⟨g1,0,none⟩) x.cubes.length (x.cubes.length+2))∧lo≤g1∧RoomT w g1 x.cubes.length x.cubes:=by
 obtain⟨g,o,cs,hA,hg,hk,hs,hc⟩:=h i x hx;obtain⟨g1,a1,rfl,r⟩:=hs;exact⟨g,o,g1,hA,hg,hc 0 _ rfl,hc 1 _ rfl,a1,r⟩
structure RNetAt (lo:Nat) (W:World) (n:Sp.Net) (g1 g2 g3:Nat):Prop where
 l1:lo≤g1
 l2:lo≤g2
 l3:lo≤g3
 ports:∃ f,RowOf 4 PortR W 74 g1 ((n.ports.length+1) * 4) n.ports f∧f (n.ports.length * 4)=.string MARK
 tables:∃ f m c fm,lo≤m∧RowOf 1 (RTab lo) W 68 g2 (n.tables.length+1) n.tables f∧f n.tables.length=.slice (some ⟨m,0,none⟩) 1 c∧W.rowIs m 78 5 fm∧fm 0=.string MARK
 guards:∃ f m c fm m2 c2,lo≤m∧lo≤m2∧RowOf 1 (RGrd lo) W 70 g3 (n.guards.length+1) n.guards f∧f n.guards.length=.slice (some ⟨m,0,none⟩) 1 c∧W.rowIs m 81 2 fm∧fm 1=.slice (some ⟨m2,0,none⟩) 1 c2∧W.rowIs m2 9 1 (fun _=>.string MARK)
theorem RNetAt.keep {lo:Nat} {W W':World} {n:Sp.Net} {g1 g2 g3:Nat} (h:RNetAt lo W n g1 g2 g3) (k:KeepB lo W W'):RNetAt lo W' n g1 g2 g3:=by
 obtain⟨l1,l2,l3,⟨f1,p1,p2⟩,⟨f2,m,c,fm,q0,q1,q2,q3,q4⟩,⟨f3,m',c',fm',m2,c2,r0,r0',r1,r2,r3,r4,r5⟩⟩:=h
 exact⟨l1,l2,l3,⟨f1,p1.keep k l1 (fun _ _ h=>h),p2⟩,⟨f2,m,c,fm,q0,q1.keep k l2 (fun _ _ h=>h.keep k),q2,q3.of_block (k.same m q0 q3.lt),q4⟩,
  ⟨f3,m',c',fm',m2,c2,r0,r0',r1.keep k l3 (fun _ _ h=>h.keep k),r2,r3.of_block (k.same m' r0 r3.lt),r4,r5.of_block (k.same m2 r0' r5.lt)⟩⟩
theorem RNetAt.more {lo:Nat} {W W':World} {n:Sp.Net} {g1 g2 g3:Nat} (h:RNetAt lo W n g1 g2 g3) (hb:Below W.heap.size W W'):RNetAt lo W' n g1 g2 g3:=h.keep (KeepB.of_below hb)
theorem RNetAt.views {lo:Nat} {W:World} {n:Sp.Net} {g1 g2 g3:Nat} (h:RNetAt lo W n g1 g2 g3):PV W (some ⟨g1,0,none⟩) n.ports∧LView 1 (HTab lo) W (some ⟨g2,0,none⟩) n.tables∧LView 1 (HGrd lo) W (some ⟨g3,0,none⟩) n.guards:=by
 obtain⟨l1,l2,l3,⟨f1,p1,p2⟩,⟨f2,m,c,fm,q0,q1,q2,q3,q4⟩,⟨f3,m',c',fm',m2,c2,r0,r0',r1,r2,r3,r4,r5⟩⟩:=h;refine⟨p1.lview (by omega),fun i a ha=>?_,fun i a ha=>?_⟩
 ·obtain⟨g',o,cs',e1,e2,e3,e4,e5⟩:=q1.lview (by omega) i a ha;exact⟨g',o,cs',e1,e2,e3,e4.held,e5⟩
 ·obtain⟨g',o,cs',e1,e2,e3,e4,e5⟩:=r1.lview (by omega) i a ha;exact⟨g',o,cs',e1,e2,e3,e4.held,e5⟩
theorem RNetAt.held {lo:Nat} {W:World} {n:Sp.Net} {g1 g2 g3:Nat} (h:RNetAt lo W n g1 g2 g3):HNet lo W n [.int .i64 n.bits,.slice (some ⟨g1,0,none⟩) n.ports.length (n.ports.length+1),.slice (some ⟨g2,0,none⟩) n.tables.length (n.tables.length+1),.slice (some ⟨g3,0,none⟩) n.guards.length (n.guards.length+1)]:=
 ⟨_,_,_,_,_,_,rfl,h.views.1,h.views.2.1,h.views.2.2,by omega,by omega,by omega,fun a ha=>by injection ha with ha;rw [← ha];exact h.l1,fun a ha=>by injection ha with ha;rw [← ha];exact h.l2,fun a ha=>by injection ha with ha;rw [← ha];exact h.l3⟩
theorem OwnL.set {te:TypeId} {k:Nat} {W:World} {B:Nat} {v:Value} {L:List (List Value)} (h:OwnL te k W B v L) {p:Addr} (hp:p.block<B) (u:Value):OwnL te k (W.setCell p u) B v L:=
 h.kept fun g hg=>Below.heap_setCell W p u g (by have:=(h.blk g hg).1;omega)
theorem OwnL.slice {te:TypeId} {k:Nat} {W:World} {B:Nat} {v:Value} {L:List (List Value)} (h:OwnL te k W B v L):∃ A c,v=.slice A L.length c:=by
 rcases h.2.2 with⟨rfl,h0⟩ | ⟨g,cap,cur,hv,_⟩
 ·exact⟨none,0,by rw [h0]⟩
 ·exact⟨_,_,hv⟩
def TabH (lo:Nat) (w W:World) (B:Nat) (x:List Sp.Entry) (c:List Value):Prop:=∃ v L,c=[v]∧OwnL 78 5 W B v L∧L.length=x.length∧∀ (i:Nat) (a:Sp.Entry) (c':List Value),x[i]?=some a→L[i]?=some c'→REntR lo w a c'
def GrdH (lo:Nat) (w W:World) (B:Nat) (x:List Sp.Guard) (c:List Value):Prop:=∃ v L,c=[v]∧OwnL 81 2 W B v L∧L.length=x.length∧∀ (i:Nat) (a:Sp.Guard) (c':List Value),x[i]?=some a→L[i]?=some c'→RGrdR lo w a c'
theorem TabH.of {lo:Nat} {w W W':World} {B:Nat} {x:List Sp.Entry} {c:List Value} (h:TabH lo w W B x c) (hk:∀ v L,OwnL 78 5 W B v L→OwnL 78 5 W' B v L):TabH lo w W' B x c:=by
 obtain⟨v,L,h1,h2,h3⟩:=h;exact⟨v,L,h1,hk v L h2,h3⟩
theorem GrdH.of {lo:Nat} {w W W':World} {B:Nat} {x:List Sp.Guard} {c:List Value} (h:GrdH lo w W B x c) (hk:∀ v L,OwnL 81 2 W B v L→OwnL 81 2 W' B v L):GrdH lo w W' B x c:=by
 obtain⟨v,L,h1,h2,h3⟩:=h;exact⟨v,L,h1,hk v L h2,h3⟩
theorem TabH.held {lo:Nat} {w W:World} {B:Nat} {x:List Sp.Entry} {c:List Value} (h:TabH lo w W B x c) (hb:Below w.heap.size w W) (hlo:lo≤B):HTab lo W x c:=by
 obtain⟨v,L,h1,h2,h3,h4⟩:=h;obtain⟨A,cap,rfl,hv,hc,hlow⟩:=h2.lview (R:=REntR lo) h3.symm (fun i a c' ha hc'=>(h4 i a c' ha hc').more hb);exact⟨A,cap,h1,hv,hc,fun a ha=>Nat.le_trans hlo (hlow a ha)⟩
theorem GrdH.held {lo:Nat} {w W:World} {B:Nat} {x:List Sp.Guard} {c:List Value} (h:GrdH lo w W B x c) (hb:Below w.heap.size w W) (hlo:lo≤B):HGrd lo W x c:=by
 obtain⟨v,L,h1,h2,h3,h4⟩:=h;obtain⟨A,cap,rfl,hv,hc,hlow⟩:=h2.lview (R:=RGrdR lo) h3.symm (fun i a c' ha hc'=>(h4 i a c' ha hc').more hb);exact⟨A,cap,h1,hv,hc,fun a ha=>Nat.le_trans hlo (hlow a ha)⟩
theorem rows_snoc {α:Type} {R:α→List Value→Prop} {al:List α} {L:List (List Value)} {i:Nat} (hl:L.length=i) (h:∀ (j:Nat) (a:α) (c:List Value),al[j]?=some a→L[j]?=some c→R a c) {x:α} (hx:al[i]?=some x) {cs:List Value} (hr:R x cs):(L ++ [cs]).length=i+1∧∀ (j:Nat) (a:α) (c:List Value),al[j]?=some a→(L ++ [cs])[j]?=some c→R a c:=by
 refine⟨by simp [hl],fun j a c ha hc=>?_⟩;rcases Nat.lt_or_ge j L.length with hj | hj
 ·rw [List.getElem?_append_left hj] at hc;exact h j a c ha hc
 ·have h9:=(List.getElem?_eq_some_iff.1 hc).1;rw [List.length_append,List.length_singleton] at h9;obtain rfl:j=i:=by omega
  rw [List.getElem?_append_right (by omega),hl,Nat.sub_self] at hc;rw [hx] at ha;injection ha with ha
  injection hc with hc
  subst ha hc;exact hr
end Go.Proofs.YthnamoedpnknmaaGreatDoor
