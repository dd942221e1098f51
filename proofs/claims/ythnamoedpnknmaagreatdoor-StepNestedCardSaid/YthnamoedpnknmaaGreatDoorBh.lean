/-
  Texts joined: Bg Bh.
-/
import Derived.Test.YthnamoedpnknmaaGreatDoorMj
import Derived.Lib.TrimAscii
set_option linter.unusedVariables false
set_option linter.unusedSimpArgs false
set_option maxRecDepth 100000
set_option maxHeartbeats 4000000
namespace Go.Proofs.YthnamoedpnknmaaGreatDoor
open Go.RowKit
open Go.Lib (hid)
namespace Sp
def nmB (s:List UInt8):Bool:=classV s == 5 && s.all wordB && decide (s.length≤24)
def dotAt (s:List UInt8):Nat:=(s.takeWhile (fun c=>c != 46)).length
def fullB (s:List UInt8):Bool:=decide (dotAt s<s.length) && (nmB (s.take (dotAt s)) && nmB (s.drop (dotAt s+1)))
theorem dotAt_of:∀ (s:List UInt8) (i:Nat),s[i]?=some 46→(∀ j,j<i→s[j]?≠some 46)→dotAt s=i
 | [],i,h,_=>by simp at h
 | c :: r,0,h,_=>by
  obtain rfl:c=46:=by simpa using h
  rfl
 | c :: r,i+1,h,hn=>by
  have h0:c≠46:=fun e=>hn 0 (by omega) (by simp [e])
  have:=dotAt_of r i (by simpa using h) (fun j hj=>by have:=hn (j+1) (by omega);simpa using this);unfold dotAt at this ⊢;rw [List.takeWhile_cons,if_pos (by simpa using h0),List.length_cons,this]
theorem dotAt_none:∀ (s:List UInt8),(∀ j:Nat,s[j]?≠some 46)→dotAt s=s.length
 | [],_=>rfl
 | c :: r,hn=>by
  have h0:c≠46:=fun e=>hn 0 (by simp [e])
  have:=dotAt_none r (fun j=>by have:=hn (j+1);simpa using this);unfold dotAt at this ⊢;rw [List.takeWhile_cons,if_pos (by simpa using h0),List.length_cons,List.length_cons,this]
theorem wordB_dot:wordB 46=false:=by decide
theorem wordB_sp {c:UInt8} (h:wordB c=true):Lib.isSp c=false∧c.toNat<128∧c≠46∧c≠35:=by
 unfold wordB letterB digitB at h;simp only [Bool.or_eq_true,decide_eq_true_eq] at h;refine⟨?_,by omega,fun e=>by rw [e] at h;simp at h,fun e=>by rw [e] at h;simp at h⟩
 cases hs:Lib.isSp c with
 | false=>rfl
 | true=>
  exfalso;have h1:=Lib.isSp_true hs;have h2:=h1.2;unfold Lib.isSpaceR at h2;simp at h2;omega
theorem run_dot:∀ (a b:List UInt8),a.all wordB=true→wordRun (a ++ 46 :: b)=a.length
 | [],b,_=>by unfold wordRun;rw [List.nil_append,List.takeWhile_cons,wordB_dot];rfl
 | c :: r,b,h=>by
  rw [List.all_cons,Bool.and_eq_true] at h;have:=run_dot r b h.2;unfold wordRun at this ⊢;rw [List.cons_append,List.takeWhile_cons,if_pos h.1,List.length_cons,List.length_cons,this]
theorem run_all:∀ (l:List UInt8),l.all wordB=true→wordRun l=l.length
 | [],_=>rfl
 | c :: r,h=>by
  rw [List.all_cons,Bool.and_eq_true] at h;have:=run_all r h.2;unfold wordRun at this ⊢;rw [List.takeWhile_cons,if_pos h.1,List.length_cons,List.length_cons,this]
theorem all_run:∀ (l:List UInt8),(l.take (wordRun l)).all wordB=true
 | []=>rfl
 | c :: r=>by
  by_cases hc:wordB c=true
  ·have:=all_run r;unfold wordRun at this ⊢;rw [List.takeWhile_cons,if_pos hc,List.length_cons,List.take_succ_cons,List.all_cons,hc,this];rfl
  ·unfold wordRun;rw [List.takeWhile_cons,if_neg hc];rfl
theorem acc_run (l:List UInt8) (line col:Nat) (op:Bool) (acc:List Tok) (h:(runV l line col op acc).2.1=0):∃ ts,(runV l line col op acc).1=acc ++ ts:=by
 have hd:=runV_down acc 0 _ l line col op [] (Nat.le_refl _);rw [List.map_nil,List.append_nil,Nat.add_zero] at hd;rw [hd] at h ⊢;unfold downR at h ⊢;by_cases h0:(runV l line col op []).2.1=0
 ·rw [if_neg (by rw [h0];simp)];exact⟨_,rfl⟩
 ·rw [if_pos h0] at h;exact absurd h h0
theorem left_len:∀ (f:Nat) (l:List UInt8),(Lib.trimLeftD f l).length≤l.length
 | 0,l=>Nat.le_refl _
 | f+1,l=>by
  unfold Lib.trimLeftD;split
  ·exact Nat.zero_le _
  ·split
   ·have:=left_len f (l.drop (Lib.decodeL l).2);rw [List.length_drop] at this;omega
   ·exact Nat.le_refl _
theorem right_len:∀ (f:Nat) (l:List UInt8),(Lib.trimRightD f l).length≤l.length
 | 0,l=>Nat.le_refl _
 | f+1,l=>by
  unfold Lib.trimRightD;split
  ·exact Nat.zero_le _
  ·split
   ·have:=right_len f (l.take (l.length - (Lib.decodeLastL l).2));rw [List.length_take] at this;omega
   ·exact Nat.le_refl _
theorem trim_head {c:UInt8} {r:List UInt8} (h:Lib.trimSpaceD (c :: r)=c :: r):Lib.isSp c=false:=by
 cases hs:Lib.isSp c with
 | false=>rfl
 | true=>
  exfalso;unfold Lib.trimSpaceD at h;rw [List.length_cons,Lib.left_step _ _ _ hs] at h;have h1:=right_len (r.length+1) (Lib.trimLeftD r.length r);have h2:=left_len r.length r;rw [h,List.length_cons] at h1;omega
theorem class_word {s:List UInt8} (h:classV s=5):∃ c r,s=c :: r∧wordB c=true∧classB c=5:=by
 match s,h with
 | [],h=>cases h
 | c :: r,h=>
  have h5:classB c=5:=h;refine⟨c,r,rfl,?_,h5⟩;unfold wordB
  cases hl:letterB c with
  | true=>rfl
  | false=>
   unfold classB at h5;rw [hl] at h5;exfalso
   repeat' (first | contradiction | omega | split at h5)
theorem nmB_parts {s:List UInt8} (h:nmB s=true):classV s=5∧s.all wordB=true∧s.length≤24:=by
 unfold nmB at h;simp only [Bool.and_eq_true,beq_iff_eq,decide_eq_true_eq] at h;exact⟨h.1.1,h.1.2,h.2⟩
theorem piece_full {a b:List UInt8} (ha:nmB a=true) (hb:nmB b=true):pieceV (a ++ 46 :: b)=(3,(a ++ 46 :: b).length,0,0):=by
 obtain⟨a1,a2,a3⟩:=nmB_parts ha;obtain⟨b1,b2,b3⟩:=nmB_parts hb;obtain⟨c,r,rfl,_,hc⟩:=class_word a1;have hw:=run_dot (c :: r) b a2;have hd:((c :: r) ++ 46 :: b).drop (c :: r).length=46 :: b:=by rw [List.drop_append,List.drop_length,Nat.sub_self,List.drop_zero,List.nil_append]
 have hd2:((c :: r) ++ 46 :: b).drop ((c :: r).length+1)=b:=by rw [← List.drop_drop,hd];rfl
 unfold pieceV;rw [if_pos (show classV ((c :: r) ++ 46 :: b)=5 from hc)];simp only [hw,hd,hd2];rw [if_neg (by omega),if_pos ⟨rfl,b1⟩,run_all b b2,if_neg (by omega)];have he:(c :: r).length+1+b.length=((c :: r) ++ 46 :: b).length:=by simp only [List.length_append,List.length_cons];omega
 rw [he]
theorem tokenOk_iff (s:ByteArray):TokenOk s↔fullB s.data.toList=true:=by
 obtain⟨l,hl⟩:=nM s.data.toList;have hsz:s.size=l.length:=by rw [← hl];simp
 unfold TokenOk;rw [hl,hsz];constructor
 ·rintro⟨h1,h2,h3,h4,t,ln,cl,h5⟩;rw [scanV_run _ (by omega)] at h4 h5
  match l,h1,h2,h3,h4,h5 with
  | [],_,_,_,_,h5=>rw [runV_nil] at h5;exact absurd h5 (by unfold endT;simp)
  | c :: r,h1,h2,h3,h4,h5=>
   have hsp:=trim_head h2
   have h35:c≠35:=fun e=>h3 (by
    rw [e,indexByte_tw];(have:((35:UInt8) :: r).all (fun x=>decide (x≠35))=false:=by simp);rw [this,if_neg (by simp)]
    omega)
   have hpa:PieceAt c:=by
    rcases run_cases c with h | h | h | h
    ·exfalso;unfold classB at h;split at h
     ·omega
     ·split at h
      ·rename_i e;have:c=10:=UInt8.toNat_inj.1 e;rw [this] at hsp;exact absurd hsp (by decide)
      ·repeat (split at h <;> try omega)
    ·exfalso;unfold classB at h;split at h
     ·rename_i e;unfold blankB at e;simp only [decide_eq_true_eq] at e;rcases e with e | e | e
      ·have:c=32:=UInt8.toNat_inj.1 e;rw [this] at hsp;exact absurd hsp (by decide)
      ·have:c=9:=UInt8.toNat_inj.1 e;rw [this] at hsp;exact absurd hsp (by decide)
      ·have:c=13:=UInt8.toNat_inj.1 e;rw [this] at hsp;exact absurd hsp (by decide)
     ·repeat (split at h <;> try omega)
    ·exfalso;unfold classB at h;split at h
     ·omega
     ·split at h
      ·omega
      ·split at h
       ·rename_i e;exact h35 (UInt8.toNat_inj.1 e)
       ·repeat (split at h <;> try omega)
    ·exact h
   obtain⟨k,n,off,code,hp⟩:∃ k n off code,pieceV (c :: r)=(k,n,off,code):=⟨_,_,_,_,rfl⟩
   by_cases h0:code=0
   ·subst h0
    have hs:=((pieceV_size hp (by simp)).1 rfl)
    rw [runV_tok _ _ _ _ _ hpa hp] at h4 h5;obtain⟨ts,hts⟩:=acc_run _ _ _ _ _ h4;rw [hts] at h5;rw [List.nil_append,List.singleton_append] at h5;(injection h5 with h5 _);(injection h5 with hk h5);(injection h5 with htk _);subst hk
    have hn:n=(c :: r).length:=by
     have h9:=congrArg List.length htk;rw [List.length_take] at h9;have:=hs.2.1.le;omega
    subst hn;have hx:=hp;unfold pieceV at hp;split at hp
    ·rename_i hc5;simp only [] at hp;split at hp
     ·injection hp with h;exact absurd h (by decide)
     ·rename_i hn24;split at hp
      ·rename_i hdot;split at hp
       ·injection hp with h;exact absurd h (by decide)
       ·rename_i hm24;(injection hp with _ hp);(injection hp with hp _);obtain⟨hd1,hd2⟩:=hdot;obtain⟨w,hw⟩:=nM (wordRun (c :: r));rw [hw] at hp hd1 hd2 hm24 hn24;have hall:=all_run (c :: r);rw [hw] at hall;(have hat:(c :: r)[w]?=some 46:=by rw [← hd1,List.head?_drop]);have hlt:w<(c :: r).length:=(List.getElem?_eq_some_iff.1 hat).1
        have hdw:dotAt (c :: r)=w:=dotAt_of _ _ hat (fun j hj e=>by
         have h9:(c :: r).take w=(c :: r).take w:=rfl;have hm:(46:UInt8) ∈ (c :: r).take w:=List.mem_of_getElem? (i:=j) (by rw [List.getElem?_take,if_pos hj];exact e);have:=List.all_eq_true.1 hall 46 hm;rw [wordB_dot] at this
         cases this)
        unfold fullB;rw [hdw,decide_eq_true hlt,Bool.true_and,Bool.and_eq_true]
        have hw1:0<w:=by
         obtain⟨c',r',e,hcw,_⟩:=class_word hc5;(injection e with e1 e2);rw [← hw,e1,wordRun_pos hcw];omega
        constructor
        ·unfold nmB
         obtain⟨w',rfl⟩:∃ w',w=w'+1:=⟨w - 1,by omega⟩
         rw [hall,List.take_succ_cons];simp only [Bool.and_true,Bool.and_eq_true,beq_iff_eq,decide_eq_true_eq];refine⟨hc5,?_⟩;rw [List.length_cons,List.length_take];omega
        ·have hlen:((c :: r).drop (w+1)).length=wordRun ((c :: r).drop (w+1)):=by rw [List.length_drop];omega
         have hall2:=all_run ((c :: r).drop (w+1));rw [← hlen,List.take_length] at hall2;unfold nmB;rw [hall2];simp only [Bool.and_true,Bool.and_eq_true,beq_iff_eq,decide_eq_true_eq];exact⟨hd2,by omega⟩
      ·injection hp with h;exact absurd h (by decide)
    ·split at hp
     ·split at hp
      ·injection hp with h;exact absurd h (by decide)
      ·injection hp with h;exact absurd h (by decide)
     ·split at hp
      ·simp only [] at hp;split at hp
       ·injection hp with h;exact absurd h (by decide)
       ·injection hp with h;exact absurd h (by decide)
      ·split at hp
       ·simp only [] at hp;split at hp
        ·injection hp with h;exact absurd h (by decide)
        ·split at hp
         ·injection hp with h;exact absurd h (by decide)
         ·injection hp with h;exact absurd h (by decide)
       ·split at hp
        ·injection hp with h;exact absurd h (by decide)
        ·injection hp with h;exact absurd h (by decide)
   ·rw [runV_err _ _ _ _ _ hpa hp h0] at h4;exact absurd h4 h0
 ·intro h;unfold fullB at h;simp only [Bool.and_eq_true,decide_eq_true_eq] at h;obtain⟨hlt,ha,hb⟩:=h;obtain⟨w,hw⟩:=nM (dotAt l);rw [hw] at hlt ha hb
  have hat:l[w]?=some 46:=by
   have key:∀ (l:List UInt8),dotAt l<l.length→l[dotAt l]?=some 46:=by
    intro l
    induction l with
    | nil=>intro h;simp at h
    | cons c r ih=>
     intro h;unfold dotAt at h ih ⊢;rw [List.takeWhile_cons] at h ⊢;by_cases hc:c=46
     ·subst hc;rfl
     ·rw [if_pos (by simpa using hc),List.length_cons] at h ⊢;rw [List.getElem?_cons_succ];exact ih (by simpa using h)
   rw [← hw];exact key l (by rw [hw];exact hlt)
  have hsp:l=l.take w ++ 46 :: l.drop (w+1):=by
   conv=>lhs;rw [← List.take_append_drop w l]
   congr 1;rw [List.drop_eq_getElem_cons hlt];congr 1;rw [List.getElem?_eq_getElem hlt] at hat;exact Option.some.inj hat
  obtain⟨a,hae⟩:=nM (l.take w);obtain⟨b,hbe⟩:=nM (l.drop (w+1));rw [hae] at ha hsp;rw [hbe] at hb hsp;obtain⟨a1,a2,a3⟩:=nmB_parts ha;obtain⟨b1,b2,b3⟩:=nmB_parts hb;have hp:=piece_full ha hb;rw [← hsp] at hp;have hlen:l.length=a.length+(b.length+1):=by rw [hsp,List.length_append,List.length_cons]
  have hmem:∀ x ∈ l,wordB x=true∨x=46:=fun x hx=>by
   rw [hsp] at hx;rcases List.mem_append.1 hx with h9 | h9
   ·exact .inl (List.all_eq_true.1 a2 x h9)
   ·rcases List.mem_cons.1 h9 with h8 | h8
    ·exact .inr h8
    ·exact .inl (List.all_eq_true.1 b2 x h8)
  obtain⟨c,ra,hca,hcw,hc5⟩:=class_word a1;obtain⟨c2,rb,hcb,hcw2,_⟩:=class_word b1;refine⟨by omega,?_,?_,?_⟩
  ·have hl1:l=c :: (ra ++ 46 :: b):=by rw [hsp,hca];rfl
   obtain⟨b',x,hbx⟩:∃ b' x,b=b' ++ [x]:=by
    rcases List.eq_nil_or_concat b with e | ⟨b',x,e⟩
    ·rw [hcb] at e;cases e
    ·exact⟨b',x,by rw [e,List.concat_eq_append]⟩
   have hx:wordB x=true:=List.all_eq_true.1 b2 x (by rw [hbx];simp);have hl2:l=(a ++ 46 :: b') ++ [x]:=by rw [hsp,hbx];simp
   have h1:Lib.trimLeftD l.length l=l:=by
    conv=>lhs;arg 1;rw [hl1,List.length_cons]
    conv=>lhs;arg 2;rw [hl1]
    rw [Lib.left_stop _ _ _ (wordB_sp hcw).1 (wordB_sp hcw).2.1,← hl1]
   unfold Lib.trimSpaceD;rw [h1];have hpos:l.length=(l.length - 1)+1:=by omega
   conv=>lhs;arg 1;rw [hpos]
   conv=>lhs;arg 2;rw [hl2]
   rw [Lib.right_stop _ _ _ (wordB_sp hx).1 (wordB_sp hx).2.1,← hl2]
  ·rw [indexByte_tw,if_pos]
   ·omega
   ·rw [List.all_eq_true];intro x hx;rcases hmem x hx with h9 | h9
    ·simpa using (wordB_sp h9).2.2.2
    ·rw [h9];decide
  ·have hl1:l=c :: (ra ++ 46 :: b):=by rw [hsp,hca];rfl
   have hpa:PieceAt c:=⟨by rw [hc5];decide,by rw [hc5];decide,by rw [hc5];decide⟩
   rw [scanV_run _ (by omega)]
   have hrun:runV l 1 1 false []=runV [] 1 (1+chars l) true ([] ++ [(3,l,1,1)]):=by
    have h9:=runV_tok (ra ++ 46 :: b) 1 1 false [] hpa (k:=3) (n:=l.length) (off:=0) (by rw [← hl1];exact hp);rw [← hl1,List.take_length,List.drop_length] at h9;exact h9
   rw [hrun,runV_nil];refine⟨rfl,(1,[10],1,1+chars l),1,1,rfl⟩
end Sp
theorem all_step {l:List UInt8} {q:UInt8→Bool} {i:Nat} (h:(l.take i).all q=true) {c:UInt8} (hc:l[i]?=some c) (hq:q c=true):(l.take (i+1)).all q=true:=by
 have hi:=(List.getElem?_eq_some_iff.1 hc).1;have hb:=(List.getElem?_eq_some_iff.1 hc).2;rw [List.take_succ_eq_append_getElem hi,List.all_append,h,hb];simp [hq]
theorem all_not {l:List UInt8} {q:UInt8→Bool} {i:Nat} {c:UInt8} (hc:l[i]?=some c) (hq:q c=false):l.all q=false:=by
 rw [List.all_eq_false];exact⟨c,List.mem_of_getElem? hc,by rw [hq];decide⟩
theorem class0 {l:List UInt8} {c:UInt8} (hc:l[0]?=some c):Sp.classV l=Sp.classB c:=by
 cases l with
 | nil=>cases hc
 | cons x r=>
  injection hc with hc
  rw [← hc];rfl
theorem class5_of {n:Nat}:∀ c:UInt8,Sp.letterB c=true→Sp.classB c=5:=by
 intro c h;unfold Sp.letterB at h;have h1:=of_decide_eq_true h;unfold Sp.classB;have h2:Sp.blankB c=false:=by unfold Sp.blankB;exact decide_eq_false (by omega)
 rw [h2,if_neg (by decide),if_neg (by omega),if_neg (by omega),if_neg (by omega),if_neg (by omega),if_pos (by unfold Sp.letterB;exact decide_eq_true h1)]
theorem class5_not:∀ c:UInt8,Sp.letterB c=false→Sp.classB c≠5:=by
 intro c h;unfold Sp.classB;rw [h]
 repeat' split
 all_goals first | decide | (rename_i h;exact absurd h (by decide))
theorem ref5_Name (s:ByteArray) (w:World) (hs:s.size≤9223372036854775807):
  Calls Tryz.prog 101 #[.string s] w fun e w'=>e=.returned (.bool (Sp.nmB s.data.toList))∧w=w':=by
 have hsl:=Lib.size_eq s;obtain⟨R,hR⟩:=nM (Sp.nmB s.data.toList);rw [hR];unfold Sp.nmB at hR;by_cases h1:s.size<1
 ·have q1:decide ((s.size:Int)<1)=true:=dT
  have hr:R=false:=by
   rw [← hR,List.eq_nil_of_length_eq_zero (show s.data.toList.length=0 by omega)];rfl
  subst hr;clear hR hsl h1;go_enter Tryz.func101,Tryz.ntmps101;go_wp2_with fail;go_ret;exact⟨rfl,rfl⟩
 by_cases h2:24<s.size
 ·have q1:decide ((s.size:Int)<1)=false:=dF;have q2:decide ((s.size:Int) > 24)=true:=dT
  have hr:R=false:=by
   rw [← hR,decide_eq_false (show ¬ s.data.toList.length≤24 by omega),Bool.and_false]
  subst hr;clear hR hsl h1 h2;go_enter Tryz.func101,Tryz.ntmps101;go_wp2_with fail;go_ret;exact⟨rfl,rfl⟩
 have q1:decide ((s.size:Int)<1)=false:=dF;have q2:decide ((s.size:Int) > 24)=false:=dF;rw [decide_eq_true (show s.data.toList.length≤24 by omega),Bool.and_true] at hR;have hs32:(s.size:Int)≤32:=by omega
 have HR:=hid hR;have HSL:=hid hsl;have H1:=hid h1;clear hR hsl h1 h2 hs;go_enter Tryz.func101,Tryz.ntmps101;go_wp2_with fail;go_loopw [3,4,5] (fun v3 _ _ wr=>wr=w∧∃ i:Nat,v3=.int .i64 (i:Int)∧i≤s.size∧Hid ((0<i→Sp.classV s.data.toList=5)∧(s.data.toList.take i).all Sp.wordB=true)) (fun v3 _ _ _=>s.size - (intOf v3).toNat)
 case atStart=>exact⟨rfl,0,rfl,by omega,fun h=>absurd h (by omega),by simp⟩
 case round=>
  obtain⟨rfl,i,rfl,hi,HF⟩:=hrel;by_cases hlt:i<s.size
  rotate_left
  ·have z1:decide ((i:Int)<s.size)=false:=dF
   have hr:R=true:=by
    obtain⟨f1,f2⟩:=HF.out;have:=H1.out;rw [← HR.out,f1 (by omega)];rw [List.take_of_length_le (by rw [← HSL.out];omega)] at f2;rw [f2];rfl
   have HRR:=hid hr;clear hr HF hi;go_wp2_with fail;go_ret;exact⟨by rw [HRR.out];rfl,rfl⟩
  have z1:decide ((i:Int)<s.size)=true:=dT;have z2:(i:Int)<s.size:=by omega
  have z3:(0:Int)≤(i:Int):=by omega
  have z4:(i:Int)≤32:=by omega
  have hcc:s.data.toList[i]?=some (s[i]'hlt):=by
   rw [List.getElem?_eq_getElem (by rw [← HSL.out];exact hlt),← Sp.get_idx s i hlt]
  obtain⟨n,hn⟩:=nM ((s[i]'hlt).toNat);have hn256:n<256:=by rw [← hn];exact UInt8.toNat_lt _
  have HN:=hid hn;have HC:=hid hcc;clear hcc;by_cases hL:Sp.letterB (s[i]'hlt)=true
  ·have HF2:Hid ((0<i+1→Sp.classV s.data.toList=5)∧(s.data.toList.take (i+1)).all Sp.wordB=true):=by
    obtain⟨f1,f2⟩:=HF.out;refine⟨fun _=>?_,all_step f2 HC.out (by unfold Sp.wordB;rw [hL];rfl)⟩;by_cases h0:i=0
    ·subst h0;rw [class0 HC.out];exact class5_of (n:=0) _ hL
    ·exact f1 (by omega)
   have hl3:n=95∨(97≤n∧n≤122)∨(65≤n∧n≤90):=by
    unfold Sp.letterB at hL;have:=of_decide_eq_true hL;rw [hn] at this;omega
   clear hL HF;rcases hl3 with h3 | ⟨h3,h4⟩ | ⟨h3,h4⟩
   ·have a1:(((s[i]'hlt).toNat:Int) == 95)=true:=beq_iff_eq.2 (by omega);clear hn h3 hn256;go_wp2_with fail;go_roundw
    case rel=>exact⟨by trivial,i+1,by rfl,by omega,HF2⟩
    case measure=>simp [intOf];omega
   ·have a1:(((s[i]'hlt).toNat:Int) == 95)=false:=beq_eq_false_iff_ne.2 (by omega);have a2:decide (((s[i]'hlt).toNat:Int) ≥ 97)=true:=dT;have a3:decide (((s[i]'hlt).toNat:Int)≤122)=true:=dT;clear hn h3 h4 hn256;go_wp2_with fail;go_roundw
    case rel=>exact⟨by trivial,i+1,by rfl,by omega,HF2⟩
    case measure=>simp [intOf];omega
   ·have a1:(((s[i]'hlt).toNat:Int) == 95)=false:=beq_eq_false_iff_ne.2 (by omega);have a2:decide (((s[i]'hlt).toNat:Int) ≥ 97)=false:=dF;have a3:decide (((s[i]'hlt).toNat:Int) ≥ 65)=true:=dT;have a4:decide (((s[i]'hlt).toNat:Int)≤90)=true:=dT;clear hn h3 h4 hn256;go_wp2_with fail;go_roundw
    case rel=>exact⟨by trivial,i+1,by rfl,by omega,HF2⟩
    case measure=>simp [intOf];omega
  ·rw [Bool.not_eq_true] at hL
   have hl3:n≠95∧¬ (97≤n∧n≤122)∧¬ (65≤n∧n≤90):=by
    unfold Sp.letterB at hL;have:=of_decide_eq_false hL;rw [hn] at this;omega
   obtain⟨e1,e2,e3⟩:=hl3;by_cases hD:0<i∧48≤n∧n≤57
   ·obtain⟨d1,d2,d3⟩:=hD
    have HF2:Hid ((0<i+1→Sp.classV s.data.toList=5)∧(s.data.toList.take (i+1)).all Sp.wordB=true):=by
     obtain⟨f1,f2⟩:=HF.out;refine⟨fun _=>f1 d1,all_step f2 HC.out ?_⟩;unfold Sp.wordB Sp.digitB;rw [hn,decide_eq_true (show 48≤n∧n≤57 from⟨d2,d3⟩),Bool.or_true]
    have a1:(((s[i]'hlt).toNat:Int) == 95)=false:=beq_eq_false_iff_ne.2 (by omega);have a2:decide (((s[i]'hlt).toNat:Int) ≥ 97)=false:=dF;have a3:decide (((s[i]'hlt).toNat:Int) ≥ 65)=false:=dF;have a4:((i:Int) == 0)=false:=beq_eq_false_iff_ne.2 (by omega);have a5:decide (((s[i]'hlt).toNat:Int)<48)=false:=dF;have a6:decide (((s[i]'hlt).toNat:Int) > 57)=false:=dF;clear hn hn256 e1 e2 e3 d1 d2 d3 hL HF;go_wp2_with fail;go_roundw
    case rel=>exact⟨by trivial,i+1,by rfl,by omega,HF2⟩
    case measure=>simp [intOf];omega
   have hr:R=false:=by
    rw [← HR.out];by_cases h0:i=0
    ·subst h0;rw [class0 HC.out,beq_eq_false_iff_ne.2 (class5_not _ hL),Bool.false_and]
    ·rw [all_not (q:=Sp.wordB) HC.out (by unfold Sp.wordB Sp.digitB;rw [hL,hn,decide_eq_false (by omega)];rfl),Bool.and_false]
   have HRR:=hid hr;clear hr HF hL;have a1:(((s[i]'hlt).toNat:Int) == 95)=false:=beq_eq_false_iff_ne.2 (by omega);(have hcase:(122<n)∨(90<n∧n<97)∨n<65:=by omega);by_cases h0:i=0
   ·have a6:((i:Int) == 0)=true:=beq_iff_eq.2 (by omega);rcases hcase with hc | ⟨hc,hc'⟩ | hc
    ·have a2:decide (((s[i]'hlt).toNat:Int) ≥ 97)=true:=dT;have a3:decide (((s[i]'hlt).toNat:Int)≤122)=false:=dF;have a4:decide (((s[i]'hlt).toNat:Int) ≥ 65)=true:=dT;have a5:decide (((s[i]'hlt).toNat:Int)≤90)=false:=dF;clear hn hn256 e1 e2 e3 hD hc h0;go_wp2_with fail;go_ret;exact⟨by rw [HRR.out];rfl,rfl⟩
    ·have a2:decide (((s[i]'hlt).toNat:Int) ≥ 97)=false:=dF;have a4:decide (((s[i]'hlt).toNat:Int) ≥ 65)=true:=dT;have a5:decide (((s[i]'hlt).toNat:Int)≤90)=false:=dF;clear hn hn256 e1 e2 e3 hD hc h0 hc';go_wp2_with fail;go_ret;exact⟨by rw [HRR.out];rfl,rfl⟩
    ·have a2:decide (((s[i]'hlt).toNat:Int) ≥ 97)=false:=dF;have a4:decide (((s[i]'hlt).toNat:Int) ≥ 65)=false:=dF;clear hn hn256 e1 e2 e3 hD hc h0;go_wp2_with fail;go_ret;exact⟨by rw [HRR.out];rfl,rfl⟩
   ·have a6:((i:Int) == 0)=false:=beq_eq_false_iff_ne.2 (by omega);(have hl2:n<48∨57<n:=by omega);rcases hcase with hc | ⟨hc,hc'⟩ | hc
    ·have a2:decide (((s[i]'hlt).toNat:Int) ≥ 97)=true:=dT;have a3:decide (((s[i]'hlt).toNat:Int)≤122)=false:=dF;have a4:decide (((s[i]'hlt).toNat:Int) ≥ 65)=true:=dT;have a5:decide (((s[i]'hlt).toNat:Int)≤90)=false:=dF;have a7:decide (((s[i]'hlt).toNat:Int)<48)=false:=dF;have a8:decide (((s[i]'hlt).toNat:Int) > 57)=true:=dT;clear hl2;clear hn hn256 e1 e2 e3 hD hc h0;go_wp2_with fail;go_ret;exact⟨by rw [HRR.out];rfl,rfl⟩
    ·have a2:decide (((s[i]'hlt).toNat:Int) ≥ 97)=false:=dF;have a4:decide (((s[i]'hlt).toNat:Int) ≥ 65)=true:=dT;have a5:decide (((s[i]'hlt).toNat:Int)≤90)=false:=dF;have a7:decide (((s[i]'hlt).toNat:Int)<48)=false:=dF;have a8:decide (((s[i]'hlt).toNat:Int) > 57)=true:=dT;clear hl2;clear hn hn256 e1 e2 e3 hD hc h0 hc';go_wp2_with fail;go_ret;exact⟨by rw [HRR.out];rfl,rfl⟩
    ·have a2:decide (((s[i]'hlt).toNat:Int) ≥ 97)=false:=dF;have a4:decide (((s[i]'hlt).toNat:Int) ≥ 65)=false:=dF;rcases hl2 with hl2 | hl2
     ·have a7:decide (((s[i]'hlt).toNat:Int)<48)=true:=dT;clear hn hn256 e1 e2 e3 hD hc hl2 h0;go_wp2_with fail;go_ret;exact⟨by rw [HRR.out];rfl,rfl⟩
     ·have a7:decide (((s[i]'hlt).toNat:Int)<48)=false:=dF;have a8:decide (((s[i]'hlt).toNat:Int) > 57)=true:=dT;clear hn hn256 e1 e2 e3 hD hc hl2 h0;go_wp2_with fail;go_ret;exact⟨by rw [HRR.out];rfl,rfl⟩
theorem ref9_fullName (s:ByteArray) (w:World) (hs:s.size≤9223372036854775807):
  Calls Tryz.prog 94 #[.string s] w fun e w'=>e=.returned (.bool (Sp.fullB s.data.toList))∧w'=w:=by
 have HSL:=hid (Lib.size_eq s);have HS:=hid hs;clear hs;go_enter Tryz.func94,Tryz.ntmps94;go_wp2_with fail;go_loopw [3] (fun v3 wr=>wr=w∧∃ i:Nat,v3=.int .i64 (i:Int)∧i≤s.size∧Hid (∀ j,j<i→s.data.toList[j]?≠some 46)) (fun v3 _=>s.size - (intOf v3).toNat)
 case atStart=>exact⟨rfl,0,rfl,by omega,hid (fun j hj=>by omega)⟩
 case round=>
  obtain⟨rfl,i,rfl,hi,HF⟩:=hrel;have z3:(0:Int)≤(i:Int):=by omega
  by_cases hlt:i<s.size
  ·have z1:decide ((i:Int)<s.size)=true:=dT;have z1n:decide (i<s.size)=true:=decide_eq_true hlt;(have z2:(i:Int)<s.size:=by omega);have z4:IntKind.i64.wrap ((i:Int)+1)=(i:Int)+1:=by have:=HS.out;rw [IntKind.wrap_i64];omega
   have hcc:s.data.toList[i]?=some (s[i]'hlt):=by
    rw [List.getElem?_eq_getElem (by rw [← HSL.out];exact hlt),← Sp.get_idx s i hlt]
   have HC:=hid hcc;have HLT:=hid hlt;by_cases hd:(s[i]'hlt)=46
   ·have y1:(((s[i]'hlt).toNat:Int) == 46)=true:=by rw [hd];rfl
    (have hsz:i<s.data.toList.length:=by rw [← HSL.out];exact hlt);have hda:Sp.dotAt s.data.toList=i:=Sp.dotAt_of _ _ (by rw [HC.out,hd]) HF.out;have e1:(s.extract 0 i).data.toList=s.data.toList.take i:=by rw [Lib.extract_data];simp
    have e2:(s.extract (i+1) s.size).data.toList=s.data.toList.drop (i+1):=by
     rw [Lib.extract_data,List.take_of_length_le (by rw [List.length_drop,HSL.out];omega)]
    have h1:=ref5_Name (s.extract 0 i) wr (by rw [ByteArray.size_extract];have:=HS.out;omega);have h2:=ref5_Name (s.extract (i+1) s.size) wr (by rw [ByteArray.size_extract];have:=HS.out;omega);rw [e1] at h1;rw [e2] at h2
    have hr:Sp.fullB s.data.toList=(Sp.nmB (s.data.toList.take i) && Sp.nmB (s.data.toList.drop (i+1))):=by
     unfold Sp.fullB;rw [hda,decide_eq_true hsz,Bool.true_and]
    have HR:=hid hr;(have z5:(i:Int)+1≤(s.size:Int):=by omega);(have z6:i+1≤s.size:=by omega);(have z7:i≤s.size:=by omega);(have z8:(0:Int)≤(i:Int)+1:=by omega);have z9:((i:Int)+1).toNat=i+1:=by omega
    cases hb1:Sp.nmB (s.data.toList.take i) with
    | false=>
     rw [hb1] at h1 hr;have HCALL:=hid h1;have HR:=hid hr;clear h1 h2 hb1 hr hda e1 e2 hsz hd hcc;go_wp2_with fail;refine HCALL.out.mono ?_;rintro e wb ⟨rfl,hwe⟩;rw [← hwe];clear hwe wb;go_wp2_with fail;go_ret;exact⟨by rw [HR.out];rfl,rfl⟩
    | true=>
     rw [hb1] at h1 hr;have HCALL:=hid h1;have HCALL2:=hid h2;have HR:=hid hr;clear h1 h2 hb1 hr hda e1 e2 hsz hd hcc;go_wp2_with fail;refine HCALL.out.mono ?_;rintro e wb ⟨rfl,hwe⟩;rw [← hwe];clear hwe wb;go_wp2_with fail;refine HCALL2.out.mono ?_;rintro e wb ⟨rfl,hwe⟩;rw [← hwe];clear hwe wb;go_wp2_with fail;go_ret;exact⟨by rw [HR.out,Bool.true_and];rfl,rfl⟩
   ·have y1:(((s[i]'hlt).toNat:Int) == 46)=false:=by
     rw [beq_eq_false_iff_ne];intro e;exact hd (UInt8.toNat_inj.1 (by rw [show (46:UInt8).toNat=46 from rfl];omega))
    have hnx:∀ j,j<i+1→s.data.toList[j]?≠some 46:=fun j hj=>by
     rcases Nat.lt_or_ge j i with h9 | h9
     ·exact HF.out j h9
     ·obtain rfl:j=i:=by omega
      rw [HC.out];exact fun e=>hd (Option.some.inj e)
    have HNX:=hid hnx;clear hnx hcc hd hi;go_wp2_with fail;go_roundw
    case rel=>exact⟨by trivial,i+1,by rfl,HLT.out,HNX⟩
    case measure=>have:=HLT.out;simp [intOf];omega
  ·have z1:decide ((i:Int)<s.size)=false:=dF;have z1n:decide (i<s.size)=false:=decide_eq_false hlt
   have hr:Sp.fullB s.data.toList=false:=by
    unfold Sp.fullB
    rw [Sp.dotAt_none _ (fun j hj=>by
     have hjl:=(List.getElem?_eq_some_iff.1 hj).1;rw [← HSL.out] at hjl
     exact HF.out j (by omega) hj),decide_eq_false (by omega)]
    rfl
   have HR:=hid hr;clear hr hi hlt;go_wp2_with fail;go_ret;exact⟨by rw [HR.out];rfl,rfl⟩
end Go.Proofs.YthnamoedpnknmaaGreatDoor
