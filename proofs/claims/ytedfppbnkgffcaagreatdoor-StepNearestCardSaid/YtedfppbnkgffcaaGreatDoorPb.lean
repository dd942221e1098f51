/-
 Texts joined: SpJ SpK SpL SpM.
-/
import Derived.Test.YtedfppbnkgffcaaGreatDoorPa
set_option linter.unusedVariables false
set_option linter.unusedSimpArgs false
namespace Go.Proofs.YtedfppbnkgffcaaGreatDoor
namespace Sp
theorem charsF_nil (f:Nat):charsF f []=0:=by cases f <;> rfl
theorem charsF_enough:∀ (f g:Nat) (l:List UInt8),l.length≤f→l.length≤g→charsF f l=charsF g l
 | 0,g,l,hf,hg=>by
  have:l=[]:=List.length_eq_zero_iff.1 (by omega);subst this;rw [charsF_nil,charsF_nil]
 | f+1,0,l,hf,hg=>by
  have:l=[]:=List.length_eq_zero_iff.1 (by omega);subst this;rw [charsF_nil,charsF_nil]
 | f+1,g+1,[],hf,hg=>by rw [charsF_nil,charsF_nil]
 | f+1,g+1,c :: r,hf,hg=>by
  simp only [charsF];have h1:=dec_pos (c :: r) (by simp);have h2:((c :: r).drop (dec (c :: r)).2).length≤r.length:=by rw [List.length_drop,List.length_cons];omega
  simp only [List.length_cons] at hf hg;rw [charsF_enough f g _ (by omega) (by omega)]
theorem chars_nil:chars []=0:=rfl
theorem chars_step (l:List UInt8) (hl:l≠[]):chars l=chars (l.drop (dec l).2)+1:=by
 match l,hl with
 | c :: r,_=>
  have h1:=dec_pos (c :: r) (by simp);unfold chars;simp only [List.length_cons,charsF];rw [charsF_enough r.length _ _ (by rw [List.length_drop,List.length_cons];omega) (Nat.le_refl _)]
inductive Bd:List UInt8→Nat→Prop
 | zero (l:List UInt8):Bd l 0
 | step (l:List UInt8) (i:Nat) (h:l≠[]) (hb:Bd (l.drop (dec l).2) i):Bd l ((dec l).2+i)
theorem Bd.le {l:List UInt8} {i:Nat} (h:Bd l i):i≤l.length:=by
 induction h with
 | zero l=>omega
 | step l i h hb ih=>
  have:=dec_len l h;rw [List.length_drop] at ih;omega
theorem Bd.trans {l:List UInt8} {i j:Nat} (h:Bd l i) (h2:Bd (l.drop i) j):Bd l (i+j):=by
 induction h with
 | zero l=>simpa using h2
 | step l i h hb ih=>
  rw [Nat.add_assoc];refine Bd.step l (i+j) h (ih ?_);rw [List.drop_drop];exact h2
theorem Bd.ascii:∀ (n:Nat) (l:List UInt8),n≤l.length→(∀ k,k<n→bt l k<128)→Bd l n
 | 0,l,_,_=>Bd.zero l
 | n+1,[],h,_=>by simp at h
 | n+1,c :: r,h,ha=>by
  have h0:=ha 0 (by omega);rw [bt_cons0] at h0;have hd:=dec_ascii c r h0
  have h1:Bd ((c :: r).drop (dec (c :: r)).2) n:=by
   rw [hd];refine Bd.ascii n _ (by simpa using h) (fun k hk=>?_);rw [bt_drop];exact ha _ (by omega)
  have:=Bd.step (c :: r) n (by simp) h1;rw [hd] at this;rw [Nat.add_comm];exact this
theorem chars_take_add {l:List UInt8} {i:Nat} (h:Bd l i):∀ j,chars (l.take (i+j))=chars (l.take i)+chars ((l.drop i).take j):=by
 induction h with
 | zero l=>intro j;simp [chars_nil]
 | step l i h hb ih=>
  intro j;have h1:=dec_pos l h;have hl:0<l.length:=List.length_pos_iff.2 h
  have key:∀ m,chars (l.take ((dec l).2+m))=chars ((l.drop (dec l).2).take m)+1:=by
   intro m
   have hne:l.take ((dec l).2+m)≠[]:=by
    intro e;have:=congrArg List.length e;rw [List.length_take,List.length_nil] at this;omega
   rw [chars_step _ hne,dec_take l h _ (by omega),List.drop_take];congr 3;omega
  rw [Nat.add_assoc,key,key,ih j,List.drop_drop];omega
theorem chars_ascii:∀ (n:Nat) (l:List UInt8),n≤l.length→(∀ k,k<n→bt l k<128)→chars (l.take n)=n
 | 0,l,_,_=>by simp [chars_nil]
 | n+1,[],h,_=>by simp at h
 | n+1,c :: r,h,ha=>by
  have h0:=ha 0 (by omega);rw [bt_cons0] at h0;have hd:=dec_ascii c (r.take n) h0;rw [List.take_succ_cons,chars_step _ (by simp),hd];simp only [List.drop_succ_cons,List.drop_zero]
  rw [chars_ascii n r (by simpa using h) (fun k hk=>by
   have:=ha (k+1) (by omega);have e:=bt_drop (c :: r) 1 k;rw [Nat.add_comm 1 k] at e;rw [← e] at this
   simpa using this)]
theorem chars_le:∀ (n:Nat) (l:List UInt8),l.length≤n→chars l≤l.length
 | 0,l,h=>by
  have:l=[]:=List.length_eq_zero_iff.1 (by omega);subst this;exact Nat.le_refl _
 | n+1,[],_=>Nat.le_refl _
 | n+1,c :: r,h=>by
  have h1:=dec_pos (c :: r) (by simp);have h2:=dec_len (c :: r) (by simp);rw [chars_step _ (by simp)];have:=chars_le n ((c :: r).drop (dec (c :: r)).2) (by rw [List.length_drop];omega);rw [List.length_drop] at this;omega
theorem chars_le_len (l:List UInt8) (n:Nat):chars (l.take n)≤n:=by
 have:=chars_le _ (l.take n) (Nat.le_refl _);rw [List.length_take] at this;omega
end Sp
namespace Sp
theorem takeWhile_le (p:UInt8→Bool):∀ l:List UInt8,(l.takeWhile p).length≤l.length
 | []=>by simp
 | c :: r=>by
  rw [List.takeWhile_cons];by_cases h:p c=true
  ·rw [if_pos h,List.length_cons,List.length_cons];have:=takeWhile_le p r;omega
  ·rw [if_neg h];simp
theorem takeWhile_bt (p:UInt8→Bool):∀ (l:List UInt8) (k:Nat),k<(l.takeWhile p).length→p (l.getD k 0)=true
 | [],k,h=>by simp at h
 | c :: r,k,h=>by
  rw [List.takeWhile_cons] at h;by_cases hc:p c=true
  ·rw [if_pos hc,List.length_cons] at h
   cases k with
   | zero=>exact hc
   | succ k=>exact takeWhile_bt p r k (by omega)
  ·rw [if_neg hc] at h;simp at h
theorem wordRun_le (l:List UInt8):wordRun l≤l.length:=takeWhile_le _ l
theorem wordB_lt {c:UInt8} (h:wordB c=true):c.toNat<128:=by
 unfold wordB letterB digitB at h;simp only [Bool.or_eq_true,decide_eq_true_eq] at h;omega
theorem wordRun_ascii (l:List UInt8) (k:Nat) (h:k<wordRun l):bt l k<128:=wordB_lt (takeWhile_bt wordB l k h)
theorem numRun_le:∀ l:List UInt8,numRun l≤l.length
 | []=>by simp [numRun]
 | c :: r=>by
  unfold numRun;have:=numRun_le r;split <;> simp <;> omega
theorem numRun_ascii:∀ (l:List UInt8) (k:Nat),k<numRun l→bt l k<128
 | [],k,h=>by simp [numRun] at h
 | c :: r,k,h=>by
  unfold numRun at h;split at h
  ·rename_i hc
   cases k with
   | zero=>
    rw [bt_cons0];rw [Bool.or_eq_true,Bool.and_eq_true,beq_iff_eq] at hc;rcases hc with hc | hc
    ·exact wordB_lt hc
    ·rw [hc.1];decide
   | succ k=>exact numRun_ascii r k (by omega)
  ·omega
theorem classB_5 {c:UInt8} (h:classB c=5):letterB c=true:=by
 unfold classB at h
 repeat' split at h
 all_goals first | contradiction | assumption | skip
theorem classB_6 {c:UInt8} (h:classB c=6):digitB c=true:=by
 unfold classB at h
 repeat' split at h
 all_goals first | contradiction | assumption | skip
theorem classB_7 {c:UInt8} (h:classB c=7):c.toNat=37:=by
 unfold classB at h
 repeat' split at h
 all_goals first | contradiction | assumption | skip
theorem classB_8 {c:UInt8} (h:classB c=8):c.toNat=34:=by
 unfold classB at h
 repeat' split at h
 all_goals first | contradiction | assumption | skip
theorem classV_at {l:List UInt8} {k:Nat} (h:classV l=k) (hk:k≠1):∃ c r,l=c :: r∧classB c=k:=by
 match l,h with
 | [],h=>exact absurd h.symm hk
 | c :: r,h=>exact⟨c,r,rfl,h⟩
theorem wordRun_pos {c:UInt8} {r:List UInt8} (h:wordB c=true):wordRun (c :: r)=wordRun r+1:=by
 unfold wordRun;rw [List.takeWhile_cons,if_pos h,List.length_cons]
theorem numRun_pos {c:UInt8} {r:List UInt8} (h:wordB c=true):numRun (c :: r)=numRun r+1:=by
 rw [numRun,h,Bool.true_or,if_pos rfl]
theorem tw_stop (p:UInt8→Bool):∀ t:List UInt8,(t.takeWhile p).length<t.length→p (t.getD (t.takeWhile p).length 0)=false
 | [],h=>by simp at h
 | y :: t,h=>by
  rw [List.takeWhile_cons] at h ⊢;by_cases hy:p y=true
  ·rw [if_pos hy] at h ⊢;simp only [List.length_cons] at h ⊢;exact tw_stop p t (by omega)
  ·rw [if_neg hy];simpa using hy
theorem escV_ascii {c:UInt8} {r:List UInt8} (hc:c.toNat<128) {k:Nat} {b:List UInt8} (h:escV (c :: r)=some (k,b)):∀ j,j<k→bt (c :: r) j<128:=by
 have hx:∀ x:UInt8,hexv x<16→x.toNat<128:=by
  intro x hx;unfold hexv at hx;split at hx
  ·omega
  split at hx
  ·omega
  split at hx
  ·omega
  ·omega
 match r,h with
 | [],h=>simp [escV] at h
 | d :: r,h=>
  have two:∀ {y:UInt8},d=y→y.toNat<128→k=2→∀ j,j<k→bt (c :: d :: r) j<128:=by
   intro y hy hy2 hk j hj;subst hk
   match j,hj with
   | 0,_=>exact hc
   | 1,_=>show d.toNat<128;rw [hy];exact hy2
  unfold escV at h;simp only [] at h;split at h
  ·rename_i e;injection h with h;injection h with h _;exact two e (by decide) h.symm
  split at h
  ·rename_i e;injection h with h;injection h with h _;exact two e (by decide) h.symm
  split at h
  ·rename_i e;injection h with h;injection h with h _;exact two e (by decide) h.symm
  split at h
  ·rename_i e;injection h with h;injection h with h _;exact two e (by decide) h.symm
  split at h
  ·rename_i e;injection h with h;injection h with h _;exact two e (by decide) h.symm
  split at h
  ·rename_i e;split at h
   ·rename_i x y t;split at h
    ·rename_i hxy;(injection h with h;injection h with h _);subst h;intro j hj
     match j,hj with
     | 0,_=>exact hc
     | 1,_=>show d.toNat<128;rw [e];decide
     | 2,_=>exact hx _ hxy.1
     | 3,_=>exact hx _ hxy.2
    ·cases h
   ·cases h
  split at h
  ·rename_i e;split at h
   ·rename_i x t;split at h
    ·rename_i h123
     cases hB:bracedV t with
     | none=>rw [hB] at h;cases h
     | some kv=>
      obtain⟨k',v⟩:=kv;rw [hB] at h;(injection h with h;injection h with h _);subst h;unfold bracedV at hB;split at hB
      ·cases hB
      rename_i hall
      cases hbas:basedV 16 6 (t.takeWhile (fun x=>decide (x≠125))) with
      | none=>rw [hbas] at hB;cases hB
      | some v'=>
       rw [hbas] at hB;simp only [] at hB;split at hB
       ·injection hB with hB;injection hB with hk hv
        unfold basedV at hbas;split at hbas
        ·cases hbas
        rename_i hno
        have hall2:(t.takeWhile (fun x=>decide (x≠125))).all (fun c=>decide (hexv c<16))=true:=by
         by_cases hq:(t.takeWhile (fun x=>decide (x≠125))).all (fun c=>decide (hexv c<16))=true
         ·exact hq
         ·exact absurd (Or.inr (Or.inr (by simpa using hq))) hno
        intro j hj
        match j,hj with
        | 0,_=>exact hc
        | 1,_=>show d.toNat<128;rw [e];decide
        | 2,_=>show x.toNat<128;rw [h123];decide
        | j+3,hj=>
         show bt t j<128;rcases Nat.lt_or_ge j (t.takeWhile (fun x=>decide (x≠125))).length with hjl | hjl
         ·have hm:bt (t.takeWhile (fun x=>decide (x≠125))) j=((t.takeWhile (fun x=>decide (x≠125)))[j]'hjl).toNat:=bt_get _ _ hjl;have h9:=List.all_eq_true.1 hall2 _ (List.getElem_mem hjl);obtain⟨rest,hrest⟩:=List.takeWhile_prefix (p:=fun x:UInt8=>decide (x≠125)) (l:=t)
          have h10:bt (t.takeWhile (fun x=>decide (x≠125)) ++ rest) j=bt (t.takeWhile (fun x=>decide (x≠125))) j:=by
           rw [bt_append,if_pos hjl]
          rw [hrest] at h10;rw [h10,hm];exact hx _ (by simpa using h9)
         ·have hlt:=tw_lt (fun x=>decide (x≠125)) t hall;(have hj':j=(t.takeWhile (fun x=>decide (x≠125))).length:=by omega);have hs:=tw_stop (fun x=>decide (x≠125)) t hlt;rw [← hj'] at hs;(have:t.getD j 0=125:=by simpa using hs);unfold bt;rw [this];decide
       ·cases hB
    ·cases h
   ·cases h
  ·cases h
end Sp
namespace Sp
theorem speakF_bd (lines:Bool):∀ (f:Nat) (l:List UInt8) (i:Nat) (said:List UInt8) (c p:Nat) (b:List UInt8),l.length≤f→speakF lines f l i said=(c,b,p)→i≤p∧Bd l (p - i)∧(c=0→i<p):=by
 intro f
 induction f with
 | zero=>
  intro l i said c p b hf h;have:l=[]:=List.length_eq_zero_iff.1 (by omega);subst this;rw [speakF_nil] at h;injection h with h1 h
  injection h with h2 h3
  subst h3;rw [Nat.sub_self];exact⟨Nat.le_refl _,Bd.zero _,by omega⟩
 | succ f ih=>
  intro l i said c p b hf h
  match l,hf,h with
  | [],_,h=>
   rw [speakF_nil] at h;(injection h with h1 h);(injection h with h2 h3);subst h3;rw [Nat.sub_self];exact⟨Nat.le_refl _,Bd.zero _,by omega⟩
  | x :: r,hf,h=>
   simp only [List.length_cons] at hf
   have stop:∀ {c':Nat},c'≠0→(c',([]:List UInt8),i)=(c,b,p)→i≤p∧Bd (x :: r) (p - i)∧(c=0→i<p):=by
    intro c' hc' h;(injection h with h1 h);(injection h with h2 h3);subst h3;rw [Nat.sub_self];exact⟨Nat.le_refl _,Bd.zero _,by omega⟩
   by_cases h1:x.toNat=34
   ·rw [speakF_quote _ _ _ _ _ _ h1] at h;(injection h with _ h);(injection h with _ h3);subst h3;refine⟨by omega,?_,by omega⟩;rw [show i+1 - i=1 by omega]
    exact Bd.ascii 1 _ (by simp) (fun k hk=>by
     (have:k=0:=by omega);subst this
     rw [bt_cons0];omega)
   by_cases h2:x.toNat=92
   ·rw [speakF_esc _ _ _ _ _ _ h2] at h
    cases hE:escV (x :: r) with
    | none=>rw [hE] at h;exact stop (by omega) h
    | some kb=>
     obtain⟨k,bb⟩:=kb;rw [hE] at h;simp only [] at h;have hl:=escV_len hE;have ha:=escV_ascii (by omega) hE;obtain⟨g1,g2,g3⟩:=ih _ _ _ _ _ _ (by rw [List.length_drop,List.length_cons];omega) h;refine⟨by omega,?_,fun _=>by omega⟩;rw [show p - i=k+(p - (i+k)) by omega];exact (Bd.ascii k _ hl.2.1 ha).trans g2
   by_cases h3:x.toNat=10∧lines=true
   ·have hl:=h3.2;subst hl;rw [speakF_nl _ _ _ _ _ h3.1] at h;exact stop (by omega) h
   by_cases h4:x.toNat<32∨x.toNat=127∨looseB (x :: r)=true
   ·rw [speakF_bad _ _ _ _ _ _ h1 h2 (fun hl e=>h3 ⟨e,hl⟩) h4] at h;exact stop (by omega) h
   ·rw [speakF_char _ _ _ _ _ _ h1 h2 h4] at h;have hp:=dec_pos (x :: r) (by simp);obtain⟨g1,g2,g3⟩:=ih _ _ _ _ _ _ (by rw [List.length_drop,List.length_cons];omega) h;refine⟨by omega,?_,fun _=>by omega⟩;rw [show p - i=(dec (x :: r)).2+(p - (i+(dec (x :: r)).2)) by omega];exact Bd.step _ _ (by simp) g2
theorem speakV_bd {lines:Bool} {l:List UInt8} {c p:Nat} {b:List UInt8} (hl:classV l=8) (h:speakV lines l=(c,b,p)):Bd l p∧1≤p:=by
 obtain⟨x,r,rfl,hx⟩:=classV_at hl (by omega);have h34:=classB_8 hx;unfold speakV at h;obtain⟨g1,g2,_⟩:=speakF_bd lines _ _ _ _ _ _ _ (by rw [List.length_drop];omega) h;refine⟨?_,g1⟩
 have:Bd (x :: r) 1:=Bd.ascii 1 _ (by simp) (fun k hk=>by
  have:k=0:=by omega
  subst this
  rw [bt_cons0];omega)
 have:=this.trans g2;rw [show 1+(p - 1)=p by omega] at this;exact this
theorem pieceV_size {l:List UInt8} {k n off c:Nat} (h:pieceV l=(k,n,off,c)) (hl:l≠[]):
  (c=0→1≤n∧Bd l n∧2≤k∧k≤7∧off=0)∧(c≠0→Bd l off∧n=0∧k=0):=by
 have bad:∀ {c':Nat},c'≠0→(0,0,0,c')=(k,n,off,c)→(c=0→1≤n∧Bd l n∧2≤k∧k≤7∧off=0)∧(c≠0→Bd l off∧n=0∧k=0):=by
  intro c' hc' h;simp only [Prod.mk.injEq] at h;obtain⟨rfl,rfl,rfl,rfl⟩:=h;exact⟨fun h=>absurd h hc',fun _=>⟨Bd.zero _,rfl,rfl⟩⟩
 have good:∀ {k' n':Nat},2≤k'→k'≤7→1≤n'→Bd l n'→(k',n',0,0)=(k,n,off,c)→(c=0→1≤n∧Bd l n∧2≤k∧k≤7∧off=0)∧(c≠0→Bd l off∧n=0∧k=0):=by
  intro k' n' h1 h2 h3 h4 h;simp only [Prod.mk.injEq] at h;obtain⟨rfl,rfl,rfl,rfl⟩:=h;exact⟨fun _=>⟨h3,h4,h1,h2,rfl⟩,fun h=>absurd rfl h⟩
 unfold pieceV at h;split at h
 ·rename_i c5;obtain⟨x,r,rfl,hx⟩:=classV_at c5 (by omega);have hw:wordB x=true:=by unfold wordB;rw [classB_5 hx];rfl
  have hpos:=wordRun_pos (r:=r) hw;have hbd:=Bd.ascii _ (x :: r) (wordRun_le _) (wordRun_ascii _);simp only [] at h;split at h
  ·exact bad (by omega) h
  split at h
  ·rename_i hport;split at h
   ·exact bad (by omega) h
   ·refine good (by omega) (by omega) (by omega) ?_ h;obtain⟨y,s,hy,hcy⟩:=classV_at hport.2 (by omega)
    have hdot:((x :: r).drop (wordRun (x :: r)))=46 :: (y :: s):=by
     have h46:=hport.1
     cases hd:(x :: r).drop (wordRun (x :: r)) with
     | nil=>rw [hd] at h46;cases h46
     | cons z t=>
      rw [hd] at h46;(injection h46 with e);subst e;(have:(x :: r).drop (wordRun (x :: r)+1)=t:=by rw [← List.drop_drop,hd];rfl);rw [this] at hy;rw [hy]
    have b1:Bd (46 :: y :: s) 1:=Bd.ascii 1 _ (by simp) (fun k hk=>by
     (have:k=0:=by omega);subst this
     rw [bt_cons0];decide)
    have b2:=hbd.trans (by rw [hdot];exact b1);refine b2.trans ?_;exact Bd.ascii _ _ (wordRun_le _) (wordRun_ascii _)
  ·exact good (by omega) (by omega) (by omega) hbd h
 split at h
 ·rename_i _ c6;obtain⟨x,r,rfl,hx⟩:=classV_at c6 (by omega);have hw:wordB x=true:=by unfold wordB;rw [classB_6 hx,Bool.or_true]
  have hpos:=numRun_pos (r:=r) hw;split at h
  ·exact bad (by omega) h
  ·exact good (by omega) (by omega) (by omega) (Bd.ascii _ _ (numRun_le _) (numRun_ascii _)) h
 split at h
 ·rename_i _ _ c7;obtain⟨x,r,rfl,hx⟩:=classV_at c7 (by omega);have h37:=classB_7 hx;simp only [] at h;split at h
  ·refine good (by omega) (by omega) (by omega) ?_ h
   have b1:Bd (x :: r) 1:=Bd.ascii 1 _ (by simp) (fun k hk=>by
    (have:k=0:=by omega);subst this
    rw [bt_cons0];omega)
   exact b1.trans (Bd.ascii _ _ (wordRun_le _) (wordRun_ascii _))
  ·exact bad (by omega) h
 split at h
 ·rename_i _ _ _ c8
  obtain⟨cc,b,p,hsp⟩:∃ cc b p,speakV true l=(cc,b,p):=⟨_,_,_,rfl⟩
  have hb:=speakV_bd c8 hsp;rw [hsp] at h;simp only [] at h;split at h
  ·rename_i hne;simp only [Prod.mk.injEq] at h;obtain⟨rfl,rfl,rfl,rfl⟩:=h;exact⟨fun h=>absurd h hne,fun _=>⟨hb.1,rfl,rfl⟩⟩
  split at h
  ·exact bad (by omega) h
  ·exact good (by omega) (by omega) hb.2 hb.1 h
 split at h
 ·exact bad (by omega) h
 ·rename_i hs
  match l,hl with
  | a :: r,_=>
   have hsz:(signV (a :: r)=1∧a.toNat<128)∨(signV (a :: r)=2∧a.toNat<128∧∃ b t,r=b :: t∧b.toNat<128):=by
    revert hs;clear h good bad;unfold signV
    cases r with
    | nil=>
     simp only [];intro hs;left;split at hs
     ·rename_i hf;cases hf
     split at hs
     ·rename_i _ h1;refine⟨by simp [h1],?_⟩;simp only [Bool.or_eq_true,beq_iff_eq] at h1;rcases h1 with ((((((((((h | h) | h) | h) | h) | h) | h) | h) | h) | h) | h) <;> (subst h;decide)
     ·exact absurd rfl hs
    | cons b t=>
     simp only [];intro hs;split at hs
     ·rename_i h2;right;refine⟨by simp [h2],?_⟩;simp only [Bool.or_eq_true,Bool.and_eq_true,beq_iff_eq] at h2;rcases h2 with ((((⟨h,h'⟩ | ⟨h,h'⟩) | ⟨h,h'⟩) | ⟨h,h'⟩) | ⟨h,h'⟩) <;> (subst h;subst h';exact⟨by decide,_,_,rfl,by decide⟩)
     split at hs
     ·rename_i h0 h1;left;refine⟨by simp [h0,h1],?_⟩;simp only [Bool.or_eq_true,beq_iff_eq] at h1;rcases h1 with ((((((((((h | h) | h) | h) | h) | h) | h) | h) | h) | h) | h) <;> (subst h;decide)
     ·exact absurd rfl hs
   rcases hsz with⟨h1,h2⟩ | ⟨h1,h2,b,t,rfl,h3⟩
   ·rw [h1] at h;refine good (by omega) (by omega) (by omega) (Bd.ascii 1 _ (by simp) (fun k hk=>?_)) h;(have:k=0:=by omega);subst this;exact h2
   ·rw [h1] at h;refine good (by omega) (by omega) (by omega) (Bd.ascii 2 _ (by simp) (fun k hk=>?_)) h
    match k,hk with
    | 0,_=>exact h2
    | 1,_=>exact h3
def endT (op:Bool) (acc:List Tok) (line col:Nat):List Tok:=if op then acc ++ [(1,[10],line,col)] else acc
theorem runF_enough:∀ (f g:Nat) (l:List UInt8) (line col:Nat) (op:Bool) (acc:List Tok),l.length<f→l.length<g→runF f l line col op acc=runF g l line col op acc:=by
 intro f
 induction f with
 | zero=>intro g l line col op acc hf hg;omega
 | succ f ih=>
  intro g l line col op acc hf hg
  obtain⟨g,rfl⟩:∃ g',g=g'+1:=⟨g - 1,by omega⟩
  match l with
  | []=>rfl
  | c :: r=>
   simp only [List.length_cons] at hf hg;simp only [runF];split
   ·exact ih _ _ _ _ _ _ (by omega) (by omega)
   split
   ·exact ih _ _ _ _ _ _ (by omega) (by omega)
   split
   ·rename_i h1 _ _
    have hk:1≤((c :: r).takeWhile (fun x=>decide (x≠10))).length:=by
     have:c≠10:=by
      rintro rfl;exact h1 rfl
     rw [List.takeWhile_cons,if_pos (by simpa using this),List.length_cons];omega
    exact ih _ _ _ _ _ _ (by rw [List.length_drop,List.length_cons];omega) (by rw [List.length_drop,List.length_cons];omega)
   obtain⟨k,n,off,code,hp⟩:∃ k n off code,pieceV (c :: r)=(k,n,off,code):=⟨_,_,_,_,rfl⟩
   have hsz:=pieceV_size hp (by simp);rw [hp];simp only [];by_cases h0:code=0
   ·rw [if_neg (by omega),if_neg (by omega)];have:=(hsz.1 h0).1;exact ih _ _ _ _ _ _ (by rw [List.length_drop,List.length_cons];omega) (by rw [List.length_drop,List.length_cons];omega)
   ·rw [if_pos h0,if_pos h0]
def runV (l:List UInt8) (line col:Nat) (op:Bool) (acc:List Tok):List Tok × Nat × Nat × Nat:=runF (l.length+1) l line col op acc
theorem runV_nil (line col:Nat) (op:Bool) (acc:List Tok):runV [] line col op acc=(endT op acc line col,0,0,0):=rfl
theorem runV_nl {c:UInt8} (r:List UInt8) (line col:Nat) (op:Bool) (acc:List Tok) (h:classB c=3):runV (c :: r) line col op acc=runV r (line+1) 1 false (endT op acc line col):=by
 unfold runV;simp only [List.length_cons];rw [runF,if_pos h];rfl
theorem runV_blank {c:UInt8} (r:List UInt8) (line col:Nat) (op:Bool) (acc:List Tok) (h:classB c=2):runV (c :: r) line col op acc=runV r line (col+1) op acc:=by
 unfold runV;simp only [List.length_cons];rw [runF,if_neg (by omega),if_pos h]
def comV (l:List UInt8):Nat:=(l.takeWhile (fun x=>decide (x≠10))).length
theorem comV_pos {c:UInt8} (r:List UInt8) (h:classB c≠3):comV (c :: r)=comV r+1:=by
 unfold comV
 have:c≠10:=by
  rintro rfl;exact h rfl
 rw [List.takeWhile_cons,if_pos (by simpa using this),List.length_cons]
theorem comV_le (l:List UInt8):comV l≤l.length:=takeWhile_le _ l
theorem runV_hash {c:UInt8} (r:List UInt8) (line col:Nat) (op:Bool) (acc:List Tok) (h:classB c=4):
  runV (c :: r) line col op acc=runV ((c :: r).drop (comV (c :: r))) line (col+chars ((c :: r).take (comV (c :: r)))) op acc:=by
 unfold runV;simp only [List.length_cons];rw [runF,if_neg (by omega),if_neg (by omega),if_pos h];simp only [];have:=comV_pos (c:=c) r (by omega);exact runF_enough _ _ _ _ _ _ _ (by rw [List.length_drop,List.length_cons];show r.length+1 - comV (c :: r)<_;omega) (by show List.length (List.drop (comV (c :: r)) (c :: r))<_;omega)
def PieceAt (c:UInt8):Prop:=classB c≠2∧classB c≠3∧classB c≠4
theorem runV_err {c:UInt8} (r:List UInt8) (line col:Nat) (op:Bool) (acc:List Tok) (hc:PieceAt c) {k n off code:Nat} (hp:pieceV (c :: r)=(k,n,off,code)) (h:code≠0):
  runV (c :: r) line col op acc=([],code,line,col+chars ((c :: r).take off)):=by
 unfold runV;simp only [List.length_cons];rw [runF,if_neg hc.2.1,if_neg hc.1,if_neg hc.2.2,hp];simp only [];rw [if_pos h]
theorem runV_tok {c:UInt8} (r:List UInt8) (line col:Nat) (op:Bool) (acc:List Tok) (hc:PieceAt c) {k n off:Nat} (hp:pieceV (c :: r)=(k,n,off,0)):
  runV (c :: r) line col op acc=runV ((c :: r).drop n) line (col+chars ((c :: r).take n)) true (acc ++ [(k,(c :: r).take n,line,col)]):=by
 have hsz:=((pieceV_size hp (by simp)).1 rfl).1;unfold runV;simp only [List.length_cons];rw [runF,if_neg hc.2.1,if_neg hc.1,if_neg hc.2.2,hp];simp only [];rw [if_neg (by omega)];exact runF_enough _ _ _ _ _ _ _ (by rw [List.length_drop,List.length_cons];omega) (by omega)
theorem run_cases (c:UInt8):classB c=3∨classB c=2∨classB c=4∨PieceAt c:=by
 unfold PieceAt;omega
def line1 (l:List UInt8):List UInt8:=l.takeWhile (fun x=>decide (x≠10))
theorem runV_code:∀ (m:Nat) (a:List UInt8) (line col:Nat) (op:Bool) (acc:List Tok),a.length≤m→((runV a line col op acc).2.1=0→(runV a line col op acc).2.2=(0,0))∧((runV a line col op acc).2.1≠0→(runV a line col op acc).1=[]):=by
 intro m
 induction m with
 | zero=>
  intro a line col op acc hm;have:a=[]:=List.length_eq_zero_iff.1 (by omega);subst this;rw [runV_nil];exact⟨fun _=>rfl,fun h=>absurd rfl h⟩
 | succ m ih=>
  intro a line col op acc hm
  match a with
  | []=>rw [runV_nil];exact⟨fun _=>rfl,fun h=>absurd rfl h⟩
  | c :: r=>
   simp only [List.length_cons] at hm;rcases run_cases c with h | h | h | h
   ·rw [runV_nl _ _ _ _ _ h];exact ih _ _ _ _ _ (by omega)
   ·rw [runV_blank _ _ _ _ _ h];exact ih _ _ _ _ _ (by omega)
   ·have hpos:=comV_pos (c:=c) r (by omega);rw [runV_hash _ _ _ _ _ h];exact ih _ _ _ _ _ (by rw [List.length_drop,List.length_cons];omega)
   ·obtain⟨k,n,off,code,hp⟩:∃ k n off code,pieceV (c :: r)=(k,n,off,code):=⟨_,_,_,_,rfl⟩
    have hsz:=pieceV_size hp (by simp);by_cases h0:code=0
    ·subst h0;have hs:=hsz.1 rfl;rw [runV_tok _ _ _ _ _ h hp];exact ih _ _ _ _ _ (by rw [List.length_drop,List.length_cons];omega)
    ·rw [runV_err _ _ _ _ _ h hp h0];exact⟨fun h=>absurd h h0,fun _=>rfl⟩
theorem scanV_run (l:List UInt8) (h:¬ 16384<l.length):scanV l=runV l 1 1 false []:=by unfold scanV;rw [if_neg h];rfl
end Sp
namespace Sp
end Sp
end Go.Proofs.YtedfppbnkgffcaaGreatDoor
