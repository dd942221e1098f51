/-
 Texts joined: Ya Yb Yc Yd.
-/
import Derived.Test.YtedfppbnkgffcaaGreatDoorPb
import Derived.Test.YtedfppbnkgffcaaGreatDoorVe
import Derived.Test.YtedfppbnkgffcaaGreatDoorWk
import Derived.Test.YtedfppbnkgffcaaGreatDoorWo
import Derived.Laws.Rows
set_option linter.unusedVariables false
set_option linter.unusedSimpArgs false
set_option maxRecDepth 100000
set_option maxHeartbeats 2000000
namespace Go.Proofs.YtedfppbnkgffcaaGreatDoor
open Go.RowKit
open Go.Lib (hid)
theorem scan_classOf (s:ByteArray) (n:Nat) (w:World) (hs:s.size≤4611686018427387904):
  Calls Tryz.prog 107 #[.string s,.int .i64 (n:Int)] w fun e w'=>e=.returned (.int .i64 (Sp.classV (s.data.toList.drop n):Nat))∧w'=w:=by
 by_cases h:n<s.size
 ·have q1:decide ((n:Int) ≥ s.size)=false:=dF;have hlt':(n:Int)<s.size:=by omega
  have hv:Sp.classV (s.data.toList.drop n)=Sp.classB (s[n]'h):=by rw [Sp.drop_cons s n h];rfl
  rw [hv];obtain⟨c,hc⟩:=nM ((s[n]'h));have hlt:=c.toNat_lt;rw [hc];clear hv;go_enter Tryz.func107,Tryz.ntmps107;go_wp2
  all_goals go_ret
  all_goals
   refine⟨ret_int ?_,rfl⟩
   try simp only [beq_iff_eq,beq_eq_false_iff_ne,ne_eq] at *
   simp only [Sp.classB,Sp.blankB,Sp.letterB,Sp.digitB,decide_eq_true_eq]
   (repeat' split) <;> omega
 ·have q1:decide ((n:Int) ≥ s.size)=true:=dT;have hv:Sp.classV (s.data.toList.drop n)=1:=by rw [List.drop_eq_nil_of_le (by rw [← Lib.size_eq];omega)];rfl
  rw [hv];clear hv;go_enter Tryz.func107,Tryz.ntmps107;go_wp2;go_ret;exact⟨rfl,rfl⟩
def wordAt (l:List UInt8):Bool:=match l with | []=>false | c :: _=>Sp.wordB c
theorem class_word (l:List UInt8):(Sp.classV l=5∨Sp.classV l=6)↔wordAt l=true:=by
 cases l with
 | nil=>simp [Sp.classV,wordAt]
 | cons c r=>
  show (Sp.classB c=5∨Sp.classB c=6)↔Sp.wordB c=true;unfold Sp.wordB Sp.classB
  have h1:Sp.blankB c=true→Sp.letterB c=false∧Sp.digitB c=false:=by
   unfold Sp.blankB Sp.letterB Sp.digitB;intro h;simp only [decide_eq_true_eq] at h;simp only [decide_eq_false_iff_not];omega
  have h2:∀ n,c.toNat=n→(n=10∨n=35∨n=37∨n=34)→Sp.letterB c=false∧Sp.digitB c=false:=by
   unfold Sp.letterB Sp.digitB;intro n h hn;simp only [decide_eq_false_iff_not];omega
  split
  ·rename_i h;rw [(h1 h).1,(h1 h).2];simp
  split
  ·rename_i h;rw [(h2 _ h (by omega)).1,(h2 _ h (by omega)).2];simp
  split
  ·rename_i h;rw [(h2 _ h (by omega)).1,(h2 _ h (by omega)).2];simp
  split
  ·rename_i h;rw [(h2 _ h (by omega)).1,(h2 _ h (by omega)).2];simp
  split
  ·rename_i h;rw [(h2 _ h (by omega)).1,(h2 _ h (by omega)).2];simp
  split
  ·rename_i h;rw [h];simp
  split
  ·rename_i h;rw [h];simp
  ·rename_i h h';simp [h,h']
theorem scan_isWord (s:ByteArray) (n:Nat) (w:World) (hs:s.size≤4611686018427387904):
  Calls Tryz.prog 131 #[.string s,.int .i64 (n:Int)] w fun e w'=>e=.returned (.bool (wordAt (s.data.toList.drop n)))∧w'=w:=by
 have hc:=scan_classOf s n w hs;have hcw:=class_word (s.data.toList.drop n)
 obtain⟨k,hk⟩:∃ k:Int,((Sp.classV (s.data.toList.drop n):Nat):Int)=k:=⟨_,rfl⟩
 rw [hk] at hc;have HC:=hid hc
 have HW:Hid (wordAt (s.data.toList.drop n)=decide (k=5∨k=6)):=by
  show _=_;rw [Bool.eq_iff_iff,decide_eq_true_eq,← hcw];omega
 clear hc hcw hk;go_enter Tryz.func131,Tryz.ntmps131
 go_wp2_with (go_at_call 107;refine HC.out.mono ?_;rintro e w1 ⟨rfl,rfl⟩)
 all_goals go_ret
 all_goals
  refine⟨ret_bool ?_,rfl⟩;rw [HW.out];rw [Bool.eq_iff_iff];simp only [decide_eq_true_eq,beq_iff_eq,true_iff,eq_self];omega
theorem wordRun_at (l:List UInt8) (n:Nat) (h:n≤Sp.wordRun l):wordAt (l.drop n)=decide (n<Sp.wordRun l):=by
 induction n generalizing l with
 | zero=>
  cases l with
  | nil=>rfl
  | cons c r=>
   show Sp.wordB c=_;unfold Sp.wordRun;rw [List.takeWhile_cons];by_cases hc:Sp.wordB c=true
   ·rw [if_pos hc,hc];simp
   ·rw [if_neg hc];simp at hc;rw [hc];simp
 | succ n ih=>
  cases l with
  | nil=>simp [Sp.wordRun] at h
  | cons c r=>
   have hw:=h;unfold Sp.wordRun at hw;rw [List.takeWhile_cons] at hw;by_cases hc:Sp.wordB c=true
   ·rw [Sp.wordRun_pos hc] at h ⊢;rw [List.drop_succ_cons,ih r (by omega)];simp
   ·rw [if_neg hc] at hw;simp at hw
theorem scan_wordRun (s:ByteArray) (w:World) (hs:s.size≤4611686018427387904):
  Calls Tryz.prog 125 #[.string s] w fun e w'=>e=.returned (.int .i64 (Sp.wordRun s.data.toList:Nat))∧w'=w:=by
 have hle:=Sp.wordRun_le s.data.toList;rw [← Lib.size_eq] at hle;obtain⟨l,hl⟩:=nM s.data.toList;have hW:=fun n h W=>wordRun_at s.data.toList n h ▸ scan_isWord s n W hs
 rw [hl] at hle hW ⊢;obtain⟨m,hm⟩:=nM (Sp.wordRun l);rw [hm] at hle hW ⊢;have HW:=hid hW;clear hW hl hm;go_enter Tryz.func125,Tryz.ntmps125;go_wp2;go_loopw [3] (fun v3 wr=>wr=w∧∃ n:Nat,v3=.int .i64 (n:Int)∧n≤m) (fun v3 _=>m - (intOf v3).toNat)
 case atStart=>exact⟨rfl,0,rfl,by omega⟩
 case round=>
  obtain⟨rfl,n,rfl,hn⟩:=hrel;by_cases hlt:n<m
  ·have hw:=fun W=>HW.out n (by omega) W
   simp only [decide_eq_true hlt] at hw;have H:=hid hw;clear hw
   go_wp2_with (go_at_call 131;refine (H.out _).mono ?_;rintro e w1 ⟨rfl,rfl⟩)
   go_roundw
   case rel=>exact⟨by trivial,n+1,by rfl,by omega⟩
   case measure=>simp [intOf];omega
  ·have hw:=fun W=>HW.out n (by omega) W
   simp only [decide_eq_false hlt] at hw;have H:=hid hw;(obtain rfl:n=m:=by omega);clear hw
   go_wp2_with (go_at_call 131;refine (H.out _).mono ?_;rintro e w1 ⟨rfl,rfl⟩)
   go_ret;exact⟨rfl,rfl⟩
def numAt (l:List UInt8):Bool:=match l with | []=>false | c :: r=>Sp.wordB c || (c == 46 && Sp.classV r == 6)
theorem numRun_at (l:List UInt8) (n:Nat) (h:n≤Sp.numRun l):numAt (l.drop n)=decide (n<Sp.numRun l):=by
 induction n generalizing l with
 | zero=>
  cases l with
  | nil=>rfl
  | cons c r=>
   show (Sp.wordB c || (c == 46 && Sp.classV r == 6))=_;rw [Sp.numRun];by_cases hc:(Sp.wordB c || (c == 46 && Sp.classV r == 6))=true
   ·rw [if_pos hc,hc];simp
   ·rw [if_neg hc];simp only [Bool.not_eq_true] at hc;rw [hc];simp
 | succ n ih=>
  cases l with
  | nil=>simp [Sp.numRun] at h
  | cons c r=>
   rw [Sp.numRun] at h ⊢;by_cases hc:(Sp.wordB c || (c == 46 && Sp.classV r == 6))=true
   ·rw [if_pos hc] at h ⊢;rw [List.drop_succ_cons,ih r (by omega)];simp
   ·rw [if_neg hc] at h;omega
theorem scan_numberRun (s:ByteArray) (w:World) (hs:s.size≤4611686018427387904):
  Calls Tryz.prog 123 #[.string s] w fun e w'=>e=.returned (.int .i64 (Sp.numRun s.data.toList:Nat))∧w'=w:=by
 have hle:=Sp.numRun_le s.data.toList;rw [← Lib.size_eq] at hle;have hA:=fun n h=>numRun_at s.data.toList n h
 obtain⟨m,hm⟩:=nM (Sp.numRun s.data.toList);rw [hm] at hle hA ⊢;have HA:=hid hA;clear hA hm;go_enter Tryz.func123,Tryz.ntmps123;go_wp2;go_loopw [3] (fun v3 wr=>wr=w∧∃ n:Nat,v3=.int .i64 (n:Int)∧n≤m) (fun v3 _=>m - (intOf v3).toNat)
 case atStart=>exact⟨rfl,0,rfl,by omega⟩
 case round=>
  obtain⟨rfl,n,rfl,hn⟩:=hrel;have hat:=HA.out n hn;have hW:=fun W=>scan_isWord s n W hs
  have hC:∀ W,Calls Tryz.prog 107 #[.string s,.int .i64 ((n:Int)+1)] W fun e w'=>e=.returned (.int .i64 (Sp.classV (s.data.toList.drop (n+1)):Nat))∧w'=W:=fun W=>scan_classOf s (n+1) W hs
  by_cases c1:wordAt (s.data.toList.drop n)=true
  ·simp only [c1] at hW;have HW:=hid hW
   have hlt:n<m:=by
    cases hd:s.data.toList.drop n with
    | nil=>rw [hd] at c1;cases c1
    | cons c r=>
     rw [hd] at c1 hat;have:Sp.wordB c=true:=c1;unfold numAt at hat;simp only [this,Bool.true_or] at hat;exact of_decide_eq_true hat.symm
   clear hW c1 hat hC
   go_wp2_with (go_at_call 131;refine (HW.out _).mono ?_;rintro e w1 ⟨rfl,rfl⟩)
   go_roundw
   case rel=>exact⟨by trivial,n+1,by rfl,by omega⟩
   case measure=>simp [intOf];omega
  have c1':wordAt (s.data.toList.drop n)=false:=by simpa using c1
  simp only [c1'] at hW;have HW:=hid hW;clear hW;by_cases c2:n<s.size
  ·have q2:decide ((n:Int)<s.size)=true:=dT;(have c2':(n:Int)<s.size:=by omega);have hd:=Sp.drop_cons s n c2;rw [hd] at hat c1
   have hwb:Sp.wordB (s[n]'c2)=false:=by
    have:¬ Sp.wordB (s[n]'c2)=true:=c1;simpa using this
   unfold numAt at hat;simp only [hwb,Bool.false_or] at hat;by_cases c3:(s[n]'c2).toNat=46
   ·have q3:(((s[n]'c2).toNat:Int) == 46)=true:=beq_iff_eq.2 (by omega);have e46:((s[n]'c2) == 46)=true:=beq_iff_eq.2 (UInt8.toNat_inj.1 c3);rw [e46,Bool.true_and] at hat;obtain⟨k,hk⟩:=nM (Sp.classV (s.data.toList.drop (n+1)));rw [hk] at hat hC;have HC:=hid hC;by_cases c4:k=6
    ·have q4:((k:Int) == 6)=true:=beq_iff_eq.2 (by omega)
     have hlt:n<m:=by
      rw [c4] at hat;exact of_decide_eq_true hat.symm
     clear hat hC c1 c1' hd hwb e46 hk c4
     go_wp2_with (first | (go_at_call 131;refine (HW.out _).mono ?_;rintro e w1 ⟨rfl,rfl⟩) | (go_at_call 107;refine (HC.out _).mono ?_;rintro e w2 ⟨rfl,rfl⟩))
     go_roundw
     case rel=>exact⟨by trivial,n+1,by rfl,by omega⟩
     case measure=>simp [intOf];omega
    ·have q4:((k:Int) == 6)=false:=beq_eq_false_iff_ne.2 (by omega)
     have hnm:n=m:=by
      have:(k == 6)=false:=beq_eq_false_iff_ne.2 c4;rw [this] at hat;have:=of_decide_eq_false hat.symm;omega
     have HN:=hid hnm;clear hat hC c1 c1' hd hwb e46 hk c4 hnm
     go_wp2_with (first | (go_at_call 131;refine (HW.out _).mono ?_;rintro e w1 ⟨rfl,rfl⟩) | (go_at_call 107;refine (HC.out _).mono ?_;rintro e w2 ⟨rfl,rfl⟩))
     go_ret;exact⟨ret_int (by have:=HN.out;omega),rfl⟩
   ·have q3:(((s[n]'c2).toNat:Int) == 46)=false:=beq_eq_false_iff_ne.2 (by omega)
    have hnm:n=m:=by
     have:((s[n]'c2) == 46)=false:=beq_eq_false_iff_ne.2 (fun e=>c3 (by rw [e];rfl));rw [this,Bool.false_and] at hat;have:=of_decide_eq_false hat.symm;omega
    have HN:=hid hnm;clear hat hC c1 c1' hd hwb hnm
    go_wp2_with (first | (go_at_call 131;refine (HW.out _).mono ?_;rintro e w1 ⟨rfl,rfl⟩))
    go_ret;exact⟨ret_int (by have:=HN.out;omega),rfl⟩
  ·have q2:decide ((n:Int)<s.size)=false:=dF;(have hnm:n=m:=by omega);have HN:=hid hnm;clear hat hC c1 c1' hnm
   go_wp2_with (first | (go_at_call 131;refine (HW.out _).mono ?_;rintro e w1 ⟨rfl,rfl⟩))
   go_ret;exact⟨ret_int (by have:=HN.out;omega),rfl⟩
theorem results_tmp4 {fn:Func} {t u v x:Tmp} (h:fn.results=#[.tmp t,.tmp u,.tmp v,.tmp x]) (tmps:Array Value) (P:Program) (w:World):
  (results fn tmps).run P w=.ok (.tuple #[tmps.getD t undef,tmps.getD u undef,tmps.getD v undef,tmps.getD x undef]) w:=by simp [results,h]
def PieceEnd (p:Nat × Nat × Nat × Nat) (W:World) (e:Ending) (w':World):Prop:=
 e=.returned (.tuple #[.int .i64 (p.1:Nat),.int .i64 (p.2.1:Nat),.int .i64 (p.2.2.1:Nat),.int .i64 (p.2.2.2:Nat)])∧Below W.heap.size W w'
theorem PieceEnd_of {p:Nat × Nat × Nat × Nat} {W w':World} {k n o c:Nat} (h:p=(k,n,o,c)) {x y z u:Int} (hx:x=k) (hy:y=n) (hz:z=o) (hu:u=c) (hb:Below W.heap.size W w'):
  PieceEnd p W (.returned (.tuple #[.int .i64 x,.int .i64 y,.int .i64 z,.int .i64 u])) w':=by
 subst h;subst hx;subst hy;subst hz;subst hu;exact⟨rfl,hb⟩
def nameV (l:List UInt8):Nat × Nat × Nat × Nat:=
 if 24<Sp.wordRun l then (0,0,0,36)
 else if (l.drop (Sp.wordRun l)).head?=some 46∧Sp.classV (l.drop (Sp.wordRun l+1))=5 then
  if 24<Sp.wordRun (l.drop (Sp.wordRun l+1)) then (0,0,0,36) else (3,Sp.wordRun l+1+Sp.wordRun (l.drop (Sp.wordRun l+1)),0,0)
 else (2,Sp.wordRun l,0,0)
theorem piece_name {l:List UInt8} (h:Sp.classV l=5):Sp.pieceV l=nameV l:=by unfold Sp.pieceV nameV;rw [if_pos h]
theorem scan_name (s:ByteArray) (w:World) (hs:s.size≤1073741824):
  Calls Tryz.prog 122 #[.string s] w (PieceEnd (nameV s.data.toList) w):=by
 have hle:=Sp.wordRun_le s.data.toList;have hsl:=Lib.size_eq s;have hr:=fun W=>scan_wordRun s W (by omega)
 obtain⟨P,hP⟩:=nM (nameV s.data.toList);rw [hP];unfold nameV at hP;obtain⟨n,hn⟩:=nM (Sp.wordRun s.data.toList);rw [hn] at hle hr hP;have HR:=hid hr;by_cases h24:24<n
 ·rw [if_pos h24] at hP;have HP:=hid hP;have q1:decide ((n:Int) > 24)=true:=dT;clear hr hn hP hsl;go_enter Tryz.func122,Tryz.ntmps122
  go_wp2_with (go_at_call 125;refine (HR.out _).mono ?_;rintro e w1 ⟨rfl,rfl⟩)
  refine bodyPost_ret (results_tmp4 rfl _ _ _) rfl ?_;exact PieceEnd_of HP.out.symm rfl rfl rfl rfl (Below.refl _ _)
 rw [if_neg h24] at hP;have q1:decide ((n:Int) > 24)=false:=dF;by_cases c1:n=s.size
 ·have hno:¬ ((s.data.toList.drop n).head?=some 46∧Sp.classV (s.data.toList.drop (n+1))=5):=by
   rw [List.drop_eq_nil_of_le (by omega)];rintro⟨h,_⟩
   cases h
  rw [if_neg hno] at hP;have HP:=hid hP;have q2:((n:Int) == s.size)=true:=beq_iff_eq.2 (by omega);clear hr hn hP hsl hno c1;go_enter Tryz.func122,Tryz.ntmps122
  go_wp2_with (go_at_call 125;refine (HR.out _).mono ?_;rintro e w1 ⟨rfl,rfl⟩)
  refine bodyPost_ret (results_tmp4 rfl _ _ _) rfl ?_;exact PieceEnd_of HP.out.symm rfl rfl rfl rfl (Below.refl _ _)
 have q2:((n:Int) == s.size)=false:=beq_eq_false_iff_ne.2 (by omega);have hlt:n<s.size:=by omega
 have hlt':(n:Int)<s.size:=by omega
 have hhd:(s.data.toList.drop n).head?=some (s[n]'hlt):=by rw [Sp.drop_cons s n hlt];rfl
 rw [hhd] at hP;by_cases c2:(s[n]'hlt).toNat=46
 ·have q3:(((s[n]'hlt).toNat:Int) != 46)=false:=by rw [bne_eq_false_iff_eq];omega
  have e46:s[n]'hlt=46:=UInt8.toNat_inj.1 c2;have hC:∀ W,Calls Tryz.prog 107 #[.string s,.int .i64 ((n:Int)+1)] W fun e w'=>e=.returned (.int .i64 (Sp.classV (s.data.toList.drop (n+1)):Nat))∧w'=W:=fun W=>scan_classOf s (n+1) W (by omega)
  obtain⟨k,hk⟩:=nM (Sp.classV (s.data.toList.drop (n+1)));rw [hk] at hP hC;have HC:=hid hC;by_cases c3:k=5
  ·have q4:((k:Int) != 5)=false:=by rw [bne_eq_false_iff_eq];omega
   rw [if_pos ⟨by rw [e46],c3⟩] at hP;(have hsz2:(s.extract (n+1) s.size).size≤1073741824:=by rw [ByteArray.size_extract];omega);(have hr2:=fun W=>scan_wordRun (s.extract (n+1) s.size) W (by omega));rw [ext_drop] at hr2;obtain⟨m,hm⟩:=nM (Sp.wordRun (s.data.toList.drop (n+1)));have hmle:=Sp.wordRun_le (s.data.toList.drop (n+1));rw [List.length_drop] at hmle;rw [hm] at hP hr2 hmle;have HR2:=hid hr2;by_cases c4:24<m
   ·rw [if_pos c4] at hP;have HP:=hid hP;have q5:decide ((m:Int) > 24)=true:=dT;clear hr hn hP hsl c1 hhd e46 hC hk hm hr2 c3 hsz2;go_enter Tryz.func122,Tryz.ntmps122
    go_wp2_with (first | (go_at_call 125;have _t:=tok2;refine (HR2.out _).mono ?_;rintro e w1 ⟨rfl,rfl⟩;clear tok2 _t) | (go_at_call 125;refine (HR.out _).mono ?_;rintro e w1 ⟨rfl,rfl⟩) | (go_at_call 107;refine (HC.out _).mono ?_;rintro e w2 ⟨rfl,rfl⟩;have tok2:True:=trivial))
    refine bodyPost_ret (results_tmp4 rfl _ _ _) rfl ?_;exact PieceEnd_of HP.out.symm rfl rfl rfl rfl (Below.refl _ _)
   ·rw [if_neg c4] at hP;have HP:=hid hP;have q5:decide ((m:Int) > 24)=false:=dF;clear hr hn hP hsl c1 hhd e46 hC hk hm hr2 c3 hsz2;go_enter Tryz.func122,Tryz.ntmps122
    go_wp2_with (first | (go_at_call 125;have _t:=tok2;refine (HR2.out _).mono ?_;rintro e w1 ⟨rfl,rfl⟩;clear tok2 _t) | (go_at_call 125;refine (HR.out _).mono ?_;rintro e w1 ⟨rfl,rfl⟩) | (go_at_call 107;refine (HC.out _).mono ?_;rintro e w2 ⟨rfl,rfl⟩;have tok2:True:=trivial))
    refine bodyPost_ret (results_tmp4 rfl _ _ _) rfl ?_;exact PieceEnd_of HP.out.symm rfl (by omega) rfl rfl (Below.refl _ _)
  ·have q4:((k:Int) != 5)=true:=by rw [bne_iff_ne];omega
   rw [if_neg (fun h=>c3 h.2)] at hP;have HP:=hid hP;clear hr hn hP hsl c1 hhd e46 hC hk c3;go_enter Tryz.func122,Tryz.ntmps122
   go_wp2_with (first | (go_at_call 125;refine (HR.out _).mono ?_;rintro e w1 ⟨rfl,rfl⟩) | (go_at_call 107;refine (HC.out _).mono ?_;rintro e w2 ⟨rfl,rfl⟩))
   refine bodyPost_ret (results_tmp4 rfl _ _ _) rfl ?_;exact PieceEnd_of HP.out.symm rfl rfl rfl rfl (Below.refl _ _)
 ·have q3:(((s[n]'hlt).toNat:Int) != 46)=true:=by rw [bne_iff_ne];omega
  rw [if_neg (fun h=>c2 (by have:=h.1;injection this with this;rw [this];rfl))] at hP;have HP:=hid hP;clear hr hn hP hsl c1 hhd;go_enter Tryz.func122,Tryz.ntmps122
  go_wp2_with (first | (go_at_call 125;refine (HR.out _).mono ?_;rintro e w1 ⟨rfl,rfl⟩))
  refine bodyPost_ret (results_tmp4 rfl _ _ _) rfl ?_;exact PieceEnd_of HP.out.symm rfl rfl rfl rfl (Below.refl _ _)
def patB (c:UInt8):Bool:=c == 48 || c == 49 || c == 120
theorem patB_iff (c:UInt8):patB c=true↔c.toNat=48∨c.toNat=49∨c.toNat=120:=by
 unfold patB;simp only [Bool.or_eq_true,beq_iff_eq,← UInt8.toNat_inj];constructor
 ·rintro ((h | h) | h)
  ·exact Or.inl h
  ·exact Or.inr (Or.inl h)
  ·exact Or.inr (Or.inr h)
 ·rintro (h | h | h)
  ·exact Or.inl (Or.inl h)
  ·exact Or.inl (Or.inr h)
  ·exact Or.inr h
theorem patV_eq (l:List UInt8):Sp.patV l=(l.all patB && l.length != 0 && decide (l.length≤32)):=rfl
theorem scan_pattern (s:ByteArray) (w:World) (hs:s.size≤1073741824):
  Calls Tryz.prog 126 #[.string s] w fun e w'=>e=.returned (.bool (Sp.patV s.data.toList))∧Below w.heap.size w w':=by
 have hsl:=Lib.size_eq s;have hsT:s.toList=s.data.toList:=Lib.toList_data s
 obtain⟨res,hres⟩:∃ r,Sp.patV s.data.toList=r:=⟨_,rfl⟩
 rw [hres];rw [patV_eq] at hres;have HRES:=hid hres;have HSL:=hid hsl;have HST:=hid hsT;clear hres hsl hsT;go_enter Tryz.func126,Tryz.ntmps126;go_wp2;go_loopw [4] (fun v4 wr=>∃ (pos:Nat),wr.heap[w.heap.size]?=some (.stringIter s pos)∧Below w.heap.size w wr∧pos≤s.size∧Hid (s.data.toList.all patB=(s.data.toList.drop pos).all patB)) (fun v4 wr=>s.size - wr.iterPos w.heap.size)
 case atStart=>
  refine⟨0,World.iter_heap w s 0,(Below.refl _ _).alloc (Nat.le_refl _) _,by omega,?_⟩;show _=_;rw [List.drop_zero]
 case round=>
  obtain⟨pos,hit,hbw,hps,HF⟩:=hrel;have hpos0:=iterPos_of hit;by_cases hp:pos<s.size
  ·obtain⟨l,hl⟩:=nM (s.data.toList.drop pos);(have hnx:=fun ty=>Lib.run_next_any_at (P:=Tryz.prog) wr w.heap.size s pos ty hit hp);simp only [Sp.dec_at,hl] at hnx;have hdc:=Sp.drop_cons s pos hp;rw [hl] at hdc;obtain⟨b,hb⟩:=nM (s[pos]'hp);rw [hb] at hdc;(have ht:=fun n hn=>dec_tests l b _ hdc n hn);have hf:=HF.out;rw [hl,hdc,List.all_cons] at hf;by_cases hok:patB b=true
   ·have hk:=(patB_iff b).1 hok;have hasc:=Sp.dec_ascii b (s.data.toList.drop (pos+1)) (by omega);rw [← hdc] at hasc;rw [hasc] at hnx;simp only [] at hnx;have hit2:=Lib.iterAt_heap wr w.heap.size s pos (pos+1) hit;have hbw2:=Lib.below_iterAt hbw (k:=w.heap.size) (Nat.le_refl _) s (pos+1);rw [hok,Bool.true_and] at hf;have HF2:Hid (s.data.toList.all patB=(s.data.toList.drop (pos+1)).all patB):=hf;obtain⟨W2,hW2⟩:=nM (wr.iterAt w.heap.size s (pos+1));rw [hW2] at hnx hit2 hbw2
    obtain⟨c,hc⟩:∃ c:Nat,b.toNat=c:=⟨_,rfl⟩
    rw [hc] at hnx hk;have HIT:=hid hit2;have HB:=hid hbw2;clear hit hbw HF hf hdc ht hasc hl hok hb hit2 hbw2 hW2 hc;rcases hk with rfl | rfl | rfl
    ·have q1:(((48:Nat):Int) != 48)=false:=by decide
     go_wp2;go_roundw
     case rel=>exact⟨pos+1,HIT.out,HB.out,by omega,HF2⟩
     case measure=>
      rw [iterPos_of HIT.out,hpos0];omega
    ·have q1:(((49:Nat):Int) != 48)=true:=by decide
     (have q2:(((49:Nat):Int) != 49)=false:=by decide);go_wp2;go_roundw
     case rel=>exact⟨pos+1,HIT.out,HB.out,by omega,HF2⟩
     case measure=>
      rw [iterPos_of HIT.out,hpos0];omega
    ·have q1:(((120:Nat):Int) != 48)=true:=by decide
     (have q2:(((120:Nat):Int) != 49)=true:=by decide);(have q3:(((120:Nat):Int) != 120)=false:=by decide);go_wp2;go_roundw
     case rel=>exact⟨pos+1,HIT.out,HB.out,by omega,HF2⟩
     case measure=>
      rw [iterPos_of HIT.out,hpos0];omega
   ·have hk:¬ (b.toNat=48∨b.toNat=49∨b.toNat=120):=fun h=>hok ((patB_iff b).2 h)
    have hall:s.data.toList.all patB=false:=by
     rw [hf];simp only [Bool.not_eq_true] at hok;rw [hok,Bool.false_and]
    have hr:=HRES.out;rw [hall,Bool.false_and,Bool.false_and] at hr;have t48:=(ht 48 (by omega)).1;have t49:=(ht 49 (by omega)).1;have t120:=(ht 120 (by omega)).1
    obtain⟨c,hc⟩:∃ c:Nat,(Sp.dec l).1=c:=⟨_,rfl⟩
    obtain⟨k,hk2⟩:∃ k:Nat,(Sp.dec l).2=k:=⟨_,rfl⟩
    rw [hc] at t48 t49 t120;(have q1:((c:Int) != 48)=true:=by rw [bne_iff_ne];omega);(have q2:((c:Int) != 49)=true:=by rw [bne_iff_ne];omega);(have q3:((c:Int) != 120)=true:=by rw [bne_iff_ne];omega);rw [hc,hk2] at hnx;have hbw2:=Lib.below_iterAt hbw (k:=w.heap.size) (Nat.le_refl _) s (pos+k);obtain⟨W2,hW2⟩:=nM (wr.iterAt w.heap.size s (pos+k));rw [hW2] at hnx hbw2;have HB:=hid hbw2;have HR:=hid hr;clear hit hbw HF hf hdc ht hl hok hb hbw2 hW2 hc hall hr t48 t49 t120 hk hk2;go_wp2;go_ret;exact⟨ret_bool HR.out,HB.out⟩
  ·have hnx:=fun ty=>Lib.run_next_end_at (P:=Tryz.prog) wr w.heap.size s pos ty hit hp
   have hall:s.data.toList.all patB=true:=by
    rw [HF.out,List.drop_eq_nil_of_le (by rw [← HSL.out];omega)];rfl
   have hr:=HRES.out;rw [hall,Bool.true_and,← HSL.out] at hr;have HR:=hid hr;have hT:=HST.out;by_cases h0:s.size=0
   ·have q1:s.toList.isEmpty=true:=by rw [hT,List.isEmpty_iff];exact List.length_eq_zero_iff.1 (by rw [← HSL.out];exact h0)
    (have HR2:Hid (false=res):=by show _=_;rw [← HR.out,h0];rfl);clear hr hall hT h0 HF;go_wp2;go_ret;exact⟨ret_bool HR2.out,hbw⟩
   ·have q1:s.toList.isEmpty=false:=by
     rw [hT,Bool.eq_false_iff];intro h;rw [List.isEmpty_iff] at h;have:=HSL.out;rw [h] at this;exact h0 this
    have HR2:Hid (decide (s.size≤32)=res):=by
     show _=_;rw [← HR.out];(have:(s.size != 0)=true:=by rw [bne_iff_ne];exact h0);rw [this,Bool.true_and]
    have hbb:=hbw;clear hr hall hT h0 HF;go_wp2;go_ret;refine⟨ret_bool ?_,hbb⟩;rw [← HR2.out,Bool.eq_iff_iff,decide_eq_true_eq,decide_eq_true_eq];omega
def SIGNL:List (List UInt8):=[[33,61],[60,61],[62,61],[46,46],[45,62],[40],[41],[33],[61],[60],[62],[38],[124],[44],[58],[47]]
def SIGNV:Array Value:=#[.string ⟨#[33,61]⟩,.string ⟨#[60,61]⟩,.string ⟨#[62,61]⟩,.string ⟨#[46,46]⟩,.string ⟨#[45,62]⟩,.string ⟨#[40]⟩,.string ⟨#[41]⟩,.string ⟨#[33]⟩,.string ⟨#[61]⟩,.string ⟨#[60]⟩,.string ⟨#[62]⟩,.string ⟨#[38]⟩,.string ⟨#[124]⟩,.string ⟨#[44]⟩,.string ⟨#[58]⟩,.string ⟨#[47]⟩]
structure Gs (w:World):Prop extends Gl w where
 signs:∃ t fr,w.heap[(3:Nat)]?=some (.cells SIGNV t fr)
theorem Gs.below {w w':World} (h:Gs w) (hb:Below w.heap.size w w'):Gs w' where
 toGl:=h.toGl.below hb
 signs:=by
  obtain⟨t,fr,h1⟩:=h.signs;refine⟨t,fr,(hb.block _ ?_).trans h1⟩;rcases Nat.lt_or_ge (3:Nat) w.heap.size with hlt | hge
  ·exact hlt
  ·rw [Array.getElem?_eq_none hge] at h1;cases h1
theorem idx_sign (k:Nat) (p:List UInt8) (h:SIGNL[k]?=some p) (w:World):(Instr.index 190 (.agg SIGNV) (.int .i64 (k:Int))).run Tryz.prog w=.ok (.string ⟨p.toArray⟩) w:=by
 match k,h with
 | 0,h=>injection h with h;subst h;show _=_;kernel_rfl
 | 1,h=>injection h with h;subst h;show _=_;kernel_rfl
 | 2,h=>injection h with h;subst h;show _=_;kernel_rfl
 | 3,h=>injection h with h;subst h;show _=_;kernel_rfl
 | 4,h=>injection h with h;subst h;show _=_;kernel_rfl
 | 5,h=>injection h with h;subst h;show _=_;kernel_rfl
 | 6,h=>injection h with h;subst h;show _=_;kernel_rfl
 | 7,h=>injection h with h;subst h;show _=_;kernel_rfl
 | 8,h=>injection h with h;subst h;show _=_;kernel_rfl
 | 9,h=>injection h with h;subst h;show _=_;kernel_rfl
 | 10,h=>injection h with h;subst h;show _=_;kernel_rfl
 | 11,h=>injection h with h;subst h;show _=_;kernel_rfl
 | 12,h=>injection h with h;subst h;show _=_;kernel_rfl
 | 13,h=>injection h with h;subst h;show _=_;kernel_rfl
 | 14,h=>injection h with h;subst h;show _=_;kernel_rfl
 | 15,h=>injection h with h;subst h;show _=_;kernel_rfl
 | k+16,h=>cases h
def signF:List (List UInt8)→List UInt8→Nat
 | [],_=>0
 | p :: r,l=>if p.isPrefixOf l=true then p.length else signF r l
theorem ite_bor (a b:Bool) (x y:Nat):(if a=true then x else if b=true then x else y)=if (a || b)=true then x else y:=by cases a <;> cases b <;> rfl
theorem u8_beq (a b:UInt8):(a == b)=(b == a):=by
 rw [Bool.eq_iff_iff,beq_iff_eq,beq_iff_eq];exact eq_comm
theorem signF_eq (l:List UInt8):signF SIGNL l=Sp.signV l:=by
 match l with
 | []=>rfl
 | [a]=>
  simp only [SIGNL,signF,List.isPrefixOf,Bool.and_false,Bool.and_true,List.length_cons,List.length_nil,Nat.zero_add,Bool.false_eq_true,if_false,ite_bor,Sp.signV];simp only [u8_beq 40 a,u8_beq 41 a,u8_beq 33 a,u8_beq 61 a,u8_beq 60 a,u8_beq 62 a,u8_beq 38 a,u8_beq 124 a,u8_beq 44 a,u8_beq 58 a,u8_beq 47 a,Bool.or_assoc]
 | a :: b :: r=>
  simp only [SIGNL,signF,List.isPrefixOf,Bool.and_false,Bool.and_true,List.length_cons,List.length_nil,Nat.zero_add,Bool.false_eq_true,if_false,ite_bor,Sp.signV];simp only [u8_beq 40 a,u8_beq 41 a,u8_beq 33 a,u8_beq 61 a,u8_beq 60 a,u8_beq 62 a,u8_beq 38 a,u8_beq 124 a,u8_beq 44 a,u8_beq 58 a,u8_beq 47 a,u8_beq 46 a,u8_beq 45 a,u8_beq 61 b,u8_beq 46 b,u8_beq 62 b,Bool.or_assoc]
theorem scan_piece_sign (s:ByteArray) (w:World) (hG:Gs w) (hs:s.size≤1073741824) (c:Nat) (hc:Sp.classV s.data.toList=c) (h5:c≠5) (h6:c≠6) (h7:c≠7) (h8:c≠8):
  Calls Tryz.prog 108 #[.string s] w (PieceEnd (Sp.pieceV s.data.toList) w):=by
 have hC:∀ W,Calls Tryz.prog 107 #[.string s,.int .i64 0] W fun e w'=>e=.returned (.int .i64 (c:Nat))∧w'=W:=fun W=>hc ▸ scan_classOf s 0 W (by omega)
 have HC:=hid hC;have q5:((c:Int) == 5)=false:=beq_eq_false_iff_ne.2 (by omega);have q6:((c:Int) == 6)=false:=beq_eq_false_iff_ne.2 (by omega);have q7:((c:Int) == 7)=false:=beq_eq_false_iff_ne.2 (by omega);have q8:((c:Int) == 8)=false:=beq_eq_false_iff_ne.2 (by omega);obtain⟨t,fr,hg⟩:=hG.signs
 have hP:Sp.pieceV s.data.toList=if signF SIGNL s.data.toList=0 then (0,0,0,30) else (7,signF SIGNL s.data.toList,0,0):=by
  rw [signF_eq];unfold Sp.pieceV;rw [hc,if_neg h5,if_neg h6,if_neg h7,if_neg h8]
 have HP:=hid hP;have hu:=Tryz.underlying190;have hin:(Tryz.prog.info? 190).map (·.size)=some SIGNV.size:=by kernel_rfl
 clear hC hc h5 h6 h7 h8 hP;go_enter Tryz.func108,Tryz.ntmps108
 go_wp2_with (first | (go_at_call 107;refine (HC.out _).mono ?_;rintro e w1 ⟨rfl,rfl⟩) | (with_reducible refine wpList_load_row rfl _ _ rfl _ rfl _ SIGNV _ _ hg hu rfl hin ?_))
 go_loopw [12,66] (fun v12 v66 wr=>wr=w1∧∃ k:Nat,v66=.int .i64 (k:Int)∧k≤16∧Hid (signF SIGNL s.data.toList=signF (SIGNL.drop k) s.data.toList)) (fun _ v66 _=>16 - (intOf v66).toNat)
 case atStart=>exact⟨rfl,0,rfl,by omega,rfl⟩
 case round=>
  obtain⟨rfl,k,rfl,hk,HF⟩:=hrel;by_cases hlt:k<16
  ·have q1:decide ((k:Int)<16)=true:=dT;have hkl:k<SIGNL.length:=hlt
   obtain⟨p,hp⟩:∃ p,SIGNL[k]?=some p:=⟨_,List.getElem?_eq_getElem hkl⟩
   have hf:=HF.out;have hix:=idx_sign k p hp;rw [List.drop_eq_getElem_cons hkl,signF] at hf
   have hpk:SIGNL[k]'hkl=p:=by
    rw [List.getElem?_eq_getElem hkl] at hp;exact Option.some.inj hp
   rw [hpk] at hf
   have hp2:p.length≤2:=by
    (have:∀ q ∈ SIGNL,q.length≤2:=by decide);rw [← hpk];exact this _ (List.getElem_mem hkl)
   have hp1:1≤p.length:=by
    (have:∀ q ∈ SIGNL,1≤q.length:=by decide);rw [← hpk];exact this _ (List.getElem_mem hkl)
   obtain⟨B,hB⟩:∃ B:ByteArray,(⟨p.toArray⟩:ByteArray)=B:=⟨_,rfl⟩
   (have hBl:B.data.toList=p:=by rw [← hB]);(have hBs:B.size=p.length:=by rw [Lib.size_eq,hBl]);(have hBT:B.toList=p:=by rw [Lib.toList_data,hBl]);simp only [hB] at hix
   have hpre:p.isPrefixOf s.data.toList=true↔s.data.toList.take p.length=p:=by
    rw [List.isPrefixOf_iff_prefix,List.prefix_iff_eq_take];exact eq_comm
   (have hex:(s.extract 0 B.size).toList=s.data.toList.take p.length:=by rw [Lib.toList_data,ext_take,hBs]);have hsl:=Lib.size_eq s;by_cases hm:p.isPrefixOf s.data.toList=true
   ·rw [if_pos hm] at hf;have ht:=hpre.1 hm
    have hle:B.size≤s.size:=by
     have:=congrArg List.length ht;rw [List.length_take] at this;omega
    have q2:decide ((s.size:Int) ≥ B.size)=true:=dT;(have q3:((s.extract 0 B.size).toList == B.toList)=true:=by rw [hex,hBT,ht];simp);(have hBs1:0<B.size:=by omega);have hBs2:B.size≤2:=by omega
    have HE:Hid (Sp.pieceV s.data.toList=(7,B.size,0,0)):=by
     show _=_;rw [HP.out,hf,if_neg (by omega),hBs]
    clear hf hp hpk hB hBl hBs hBT hpre hex hm ht hp1 hp2 hsl HF;go_wp2;refine bodyPost_ret (results_tmp4 rfl _ _ _) rfl ?_;exact PieceEnd_of HE.out rfl rfl rfl rfl (Below.refl _ _)
   ·rw [if_neg hm] at hf;have HF2:Hid (signF SIGNL s.data.toList=signF (SIGNL.drop (k+1)) s.data.toList):=hf
    have q3:((s.extract 0 B.size).toList == B.toList)=false:=by
     rw [hex,hBT,beq_eq_false_iff_ne];exact fun e=>hm (hpre.2 e)
    (have hBs1:0<B.size:=by omega);(have hBs2:B.size≤2:=by omega);by_cases hle:B.size≤s.size
    ·have q2:decide ((s.size:Int) ≥ B.size)=true:=dT;clear hf hp hpk hB hBl hBs hBT hpre hex hm hp1 hp2 hsl HF;go_wp2;go_roundw
     case rel=>exact⟨by trivial,k+1,by rfl,by omega,HF2⟩
     case measure=>simp [intOf];omega
    ·have q2:decide ((s.size:Int) ≥ B.size)=false:=dF;clear hf hp hpk hB hBl hBs hBT hpre hex hm hp1 hp2 hsl HF;go_wp2;go_roundw
     case rel=>exact⟨by trivial,k+1,by rfl,by omega,HF2⟩
     case measure=>simp [intOf];omega
  ·have q1:decide ((k:Int)<16)=false:=dF
   have HE:Hid (Sp.pieceV s.data.toList=(0,0,0,30)):=by
    show _=_;rw [HP.out,HF.out,List.drop_eq_nil_of_le (show SIGNL.length≤k by show 16≤k;omega)];rfl
   go_wp2;refine bodyPost_ret (results_tmp4 rfl _ _ _) rfl ?_;exact PieceEnd_of HE.out rfl rfl rfl rfl (Below.refl _ _)
theorem scan_piece_name (s:ByteArray) (w:World) (hs:s.size≤1073741824) (hc:Sp.classV s.data.toList=5):
  Calls Tryz.prog 108 #[.string s] w (PieceEnd (Sp.pieceV s.data.toList) w):=by
 have hC:∀ W,Calls Tryz.prog 107 #[.string s,.int .i64 0] W fun e w'=>e=.returned (.int .i64 (5:Nat))∧w'=W:=fun W=>hc ▸ scan_classOf s 0 W (by omega)
 have hN:=fun W=>scan_name s W hs
 rw [piece_name hc]
 obtain⟨⟨x,y,z,u⟩,hp⟩:∃ p,nameV s.data.toList=p:=⟨_,rfl⟩
 rw [hp] at hN ⊢;have HC:=hid hC;have HN:Hid (∀ W,Calls Tryz.prog 122 #[.string s] W fun e w'=>e=.returned (.tuple #[.int .i64 (x:Nat),.int .i64 (y:Nat),.int .i64 (z:Nat),.int .i64 (u:Nat)])∧Below W.heap.size W w'):=hN;clear hC hN hc hp;go_enter Tryz.func108,Tryz.ntmps108
 go_wp2_with (first | (go_at_call 107;refine (HC.out _).mono ?_;rintro e w1 ⟨rfl,rfl⟩) | (go_at_call 122;refine (HN.out _).mono ?_;rintro e w2 ⟨rfl,hb2⟩))
 refine bodyPost_ret (results_tmp4 rfl _ _ _) rfl ?_;exact PieceEnd_of rfl rfl rfl rfl rfl (by assumption)
theorem scan_piece_number (s:ByteArray) (w:World) (hG:Gl w) (hs:s.size≤1073741824) (hc:Sp.classV s.data.toList=6):
  Calls Tryz.prog 108 #[.string s] w (PieceEnd (Sp.pieceV s.data.toList) w):=by
 have hC:∀ W,Calls Tryz.prog 107 #[.string s,.int .i64 0] W fun e w'=>e=.returned (.int .i64 (6:Nat))∧w'=W:=fun W=>hc ▸ scan_classOf s 0 W (by omega)
 have hR:=fun W=>scan_numberRun s W (by omega)
 have hle:=Sp.numRun_le s.data.toList;rw [← Lib.size_eq] at hle
 have hP:Sp.pieceV s.data.toList=match Sp.numV (s.data.toList.take (Sp.numRun s.data.toList)) with | none=>(0,0,0,31) | some _=>(4,Sp.numRun s.data.toList,0,0):=by
  unfold Sp.pieceV;rw [hc,if_neg (by omega),if_pos rfl]
  cases Sp.numV (s.data.toList.take (Sp.numRun s.data.toList)) <;> rfl
 obtain⟨n,hn⟩:=nM (Sp.numRun s.data.toList);rw [hn] at hR hle hP;have hN:=scan_number (s.extract 0 n) w hG (by rw [ByteArray.size_extract];omega);rw [ext_take] at hN;have HC:=hid hC;have HR:=hid hR
 cases hv:Sp.numV (s.data.toList.take n) with
 | none=>
  rw [hv] at hP;rw [okV_none hv] at hN;have HN:=hid hN;have HP:=hid hP;clear hC hR hc hP hN hv hn hG;go_enter Tryz.func108,Tryz.ntmps108
  go_wp2_with (first | (go_at_call 107;refine (HC.out _).mono ?_;rintro e w1 ⟨rfl,rfl⟩) | (go_at_call 123;refine (HR.out _).mono ?_;rintro e w2 ⟨rfl,rfl⟩) | (go_at_call 124;refine HN.out.mono ?_;rintro e w3 ⟨rfl,hb3⟩))
  refine bodyPost_ret (results_tmp4 rfl _ _ _) rfl ?_;exact PieceEnd_of HP.out rfl rfl rfl rfl (by assumption)
 | some v=>
  rw [hv] at hP;rw [okV_some hv] at hN;have HN:=hid hN;have HP:=hid hP;clear hC hR hc hP hN hv hn hG;go_enter Tryz.func108,Tryz.ntmps108
  go_wp2_with (first | (go_at_call 107;refine (HC.out _).mono ?_;rintro e w1 ⟨rfl,rfl⟩) | (go_at_call 123;refine (HR.out _).mono ?_;rintro e w2 ⟨rfl,rfl⟩) | (go_at_call 124;refine HN.out.mono ?_;rintro e w3 ⟨rfl,hb3⟩))
  refine bodyPost_ret (results_tmp4 rfl _ _ _) rfl ?_;exact PieceEnd_of HP.out rfl rfl rfl rfl (by assumption)
theorem scan_piece_pattern (s:ByteArray) (w:World) (hs:s.size≤1073741824) (hc:Sp.classV s.data.toList=7):
  Calls Tryz.prog 108 #[.string s] w (PieceEnd (Sp.pieceV s.data.toList) w):=by
 have hC:∀ W,Calls Tryz.prog 107 #[.string s,.int .i64 0] W fun e w'=>e=.returned (.int .i64 (7:Nat))∧w'=W:=fun W=>hc ▸ scan_classOf s 0 W (by omega)
 have h1:1≤s.size:=by
  obtain⟨x,r,hx,_⟩:=Sp.classV_at hc (by omega);have:=Lib.size_eq s;rw [hx] at this;simp at this;omega
 have h1':(1:Int)≤s.size:=by omega
 have hR:=fun W=>scan_wordRun (s.extract 1 s.size) W (by rw [ByteArray.size_extract];omega)
 rw [ext_drop] at hR;have hle:=Sp.wordRun_le (s.data.toList.drop 1);rw [List.length_drop,← Lib.size_eq] at hle
 have hP:Sp.pieceV s.data.toList=if Sp.patV ((s.data.toList.drop 1).take (Sp.wordRun (s.data.toList.drop 1)))=true then (5,1+Sp.wordRun (s.data.toList.drop 1),0,0) else (0,0,0,44):=by
  unfold Sp.pieceV;rw [hc,if_neg (by omega),if_neg (by omega),if_pos rfl];simp only [];rw [show 1+Sp.wordRun (s.data.toList.drop 1) - 1=Sp.wordRun (s.data.toList.drop 1) by omega]
 obtain⟨n,hn⟩:=nM (Sp.wordRun (s.data.toList.drop 1));rw [hn] at hR hle hP;have hN:=fun W=>scan_pattern (s.extract 1 (1+n)) W (by rw [ByteArray.size_extract];omega)
 have hx:(s.extract 1 (1+n)).data.toList=(s.data.toList.drop 1).take n:=by rw [Lib.extract_data];congr 1;omega
 rw [hx] at hN;have HC:=hid hC;have HR:=hid hR;by_cases hv:Sp.patV ((s.data.toList.drop 1).take n)=true
 ·rw [if_pos hv] at hP;simp only [hv] at hN;have HN:=hid hN;have HP:=hid hP;clear hC hR hc hP hN hv hn hx;go_enter Tryz.func108,Tryz.ntmps108
  go_wp2_with (first | (go_at_call 107;refine (HC.out _).mono ?_;rintro e w1 ⟨rfl,rfl⟩) | (go_at_call 125;refine (HR.out _).mono ?_;rintro e w2 ⟨rfl,rfl⟩) | (go_at_call 126;refine (HN.out _).mono ?_;rintro e w3 ⟨rfl,hb3⟩))
  refine bodyPost_ret (results_tmp4 rfl _ _ _) rfl ?_;exact PieceEnd_of HP.out rfl (by omega) rfl rfl (by assumption)
 ·rw [if_neg hv] at hP;have hv':Sp.patV ((s.data.toList.drop 1).take n)=false:=by simpa using hv
  simp only [hv'] at hN;have HN:=hid hN;have HP:=hid hP;clear hC hR hc hP hN hv hv' hn hx;go_enter Tryz.func108,Tryz.ntmps108
  go_wp2_with (first | (go_at_call 107;refine (HC.out _).mono ?_;rintro e w1 ⟨rfl,rfl⟩) | (go_at_call 125;refine (HR.out _).mono ?_;rintro e w2 ⟨rfl,rfl⟩) | (go_at_call 126;refine (HN.out _).mono ?_;rintro e w3 ⟨rfl,hb3⟩))
  refine bodyPost_ret (results_tmp4 rfl _ _ _) rfl ?_;exact PieceEnd_of HP.out rfl rfl rfl rfl (by assumption)
theorem scan_piece_quote (s:ByteArray) (w:World) (hG:Gl w) (hs:s.size≤1073741824) (hc:Sp.classV s.data.toList=8):
  Calls Tryz.prog 108 #[.string s] w (PieceEnd (Sp.pieceV s.data.toList) w):=by
 have hC:∀ W,Calls Tryz.prog 107 #[.string s,.int .i64 0] W fun e w'=>e=.returned (.int .i64 (8:Nat))∧w'=W:=fun W=>hc ▸ scan_classOf s 0 W (by omega)
 have h1:1≤s.size:=by
  obtain⟨x,r,hx,_⟩:=Sp.classV_at hc (by omega);have:=Lib.size_eq s;rw [hx] at this;simp at this;omega
 have hS:=scan_speak s true w hG (by omega) (by omega)
 have hP:Sp.pieceV s.data.toList=if (Sp.speakV true s.data.toList).1≠0 then (0,0,(Sp.speakV true s.data.toList).2.2,(Sp.speakV true s.data.toList).1) else if 256<(Sp.speakV true s.data.toList).2.1.length then (0,0,0,37) else (6,(Sp.speakV true s.data.toList).2.2,0,0):=by
  unfold Sp.pieceV;rw [hc,if_neg (by omega),if_neg (by omega),if_neg (by omega),if_pos rfl]
 obtain⟨c,b,p,hsp⟩:∃ c b p,Sp.speakV true s.data.toList=(c,b,p):=⟨_,_,_,rfl⟩
 have hle:=Sp.speakV_le hsp;rw [← Lib.size_eq] at hle;rw [hsp] at hP;simp only [] at hP;have HC:=hid hC;by_cases c0:c=0
 ·subst c0;rw [if_neg (by omega)] at hP
  have hc2:Calls Tryz.prog 127 #[.string s,.bool true] w (fun e w'=>∃ o cap,e=.returned (.tuple #[.slice o b.length cap,.int .i64 (p:Nat),.int .i64 0])∧Below w.heap.size w w'):=hS.mono (fun e w' h=>by
   unfold SpkEnd at h;rw [hsp] at h;obtain⟨v,rfl,h5,h6⟩:=h.1 rfl;obtain⟨o,cap,rfl⟩:=own_slice h5
   exact⟨o,cap,rfl,h6⟩)
  have HS:=hid hc2;by_cases c2:256<b.length
  ·rw [if_pos c2] at hP;have HP:=hid hP;have q5:decide ((b.length:Int) > 256)=true:=dT;clear hC hc hP hS hc2 hG hsp;go_enter Tryz.func108,Tryz.ntmps108
   go_wp2_with (first | (go_at_call 107;refine (HC.out _).mono ?_;rintro e w1 ⟨rfl,rfl⟩) | (go_at_call 127;refine HS.out.mono ?_;rintro e w2 ⟨o,cap,rfl,hb2⟩))
   refine bodyPost_ret (results_tmp4 rfl _ _ _) rfl ?_;exact PieceEnd_of HP.out rfl rfl rfl rfl (by assumption)
  ·rw [if_neg c2] at hP;have HP:=hid hP;have q5:decide ((b.length:Int) > 256)=false:=dF;clear hC hc hP hS hc2 hG hsp;go_enter Tryz.func108,Tryz.ntmps108
   go_wp2_with (first | (go_at_call 107;refine (HC.out _).mono ?_;rintro e w1 ⟨rfl,rfl⟩) | (go_at_call 127;refine HS.out.mono ?_;rintro e w2 ⟨o,cap,rfl,hb2⟩))
   refine bodyPost_ret (results_tmp4 rfl _ _ _) rfl ?_;exact PieceEnd_of HP.out rfl rfl rfl rfl (by assumption)
 ·rw [if_pos c0] at hP;have q4:((c:Int) == 0)=false:=beq_eq_false_iff_ne.2 (by omega);have q5:((c:Int) != 0)=true:=by simp;omega
  have hc2:Calls Tryz.prog 127 #[.string s,.bool true] w (fun e w'=>e=.returned (.tuple #[.slice none 0 0,.int .i64 (p:Nat),.int .i64 (c:Nat)])∧Below w.heap.size w w'):=hS.mono (fun e w' h=>by
   unfold SpkEnd at h;rw [hsp] at h
   exact h.2 c0)
  have HS:=hid hc2;have HP:=hid hP;clear hC hc hP hS hc2 hG hsp;go_enter Tryz.func108,Tryz.ntmps108
  go_wp2_with (first | (go_at_call 107;refine (HC.out _).mono ?_;rintro e w1 ⟨rfl,rfl⟩) | (go_at_call 127;refine HS.out.mono ?_;rintro e w2 ⟨rfl,hb2⟩))
  refine bodyPost_ret (results_tmp4 rfl _ _ _) rfl ?_;exact PieceEnd_of HP.out rfl rfl rfl rfl (by assumption)
theorem scan_piece (s:ByteArray) (w:World) (hG:Gs w) (hs:s.size≤1073741824):
  Calls Tryz.prog 108 #[.string s] w (PieceEnd (Sp.pieceV s.data.toList) w):=by
 by_cases h5:Sp.classV s.data.toList=5
 ·exact scan_piece_name s w hs h5
 by_cases h6:Sp.classV s.data.toList=6
 ·exact scan_piece_number s w hG.toGl hs h6
 by_cases h7:Sp.classV s.data.toList=7
 ·exact scan_piece_pattern s w hs h7
 by_cases h8:Sp.classV s.data.toList=8
 ·exact scan_piece_quote s w hG.toGl hs h8
 exact scan_piece_sign s w hG hs _ rfl h5 h6 h7 h8
end Go.Proofs.YtedfppbnkgffcaaGreatDoor
