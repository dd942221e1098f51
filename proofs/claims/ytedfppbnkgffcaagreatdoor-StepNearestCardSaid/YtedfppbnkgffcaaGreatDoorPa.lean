/-
 Texts joined: SpA SpB SpC SpD SpR SpS SpE SpF SpG SpH SpI.
-/
import Derived.Lib.DecodeN
import Derived.Lib.DecodeNEq
import Derived.Lib.RuneBytes
import Derived.Lib.Strings
import Derived.Lib.IndexMore
import Derived.Lib.IndexBytes
import Derived.Lib.Small
set_option linter.unusedVariables false
set_option linter.unusedSimpArgs false
namespace Go.Proofs.YtedfppbnkgffcaaGreatDoor
theorem nM {α:Type} (a:α):∃ x,a=x:=⟨a,rfl⟩
theorem dT {p:Prop} [Decidable p] (h:p:=by omega):decide p=true:=decide_eq_true h
theorem dF {p:Prop} [Decidable p] (h:¬ p:=by omega):decide p=false:=decide_eq_false h
namespace Sp
def bt (l:List UInt8) (k:Nat):Nat:=(l.getD k 0).toNat
theorem bt_lt (l:List UInt8) (k:Nat):bt l k<256:=(l.getD k 0).toNat_lt
theorem bt_take (l:List UInt8) (p k:Nat):bt (l.take p) k=if k<p then bt l k else 0:=by
 unfold bt;by_cases h:k<p
 ·rw [if_pos h,List.getD_eq_getElem?_getD,List.getD_eq_getElem?_getD,List.getElem?_take,if_pos h]
 ·rw [if_neg h,List.getD_eq_getElem?_getD,List.getElem?_take,if_neg h];rfl
theorem bt_append (a b:List UInt8) (k:Nat):bt (a ++ b) k=if k<a.length then bt a k else bt b (k - a.length):=by
 unfold bt;by_cases h:k<a.length
 ·rw [if_pos h,List.getD_eq_getElem?_getD,List.getD_eq_getElem?_getD,List.getElem?_append_left h]
 ·rw [if_neg h,List.getD_eq_getElem?_getD,List.getD_eq_getElem?_getD,List.getElem?_append_right (by omega)]
theorem bt_drop (l:List UInt8) (i k:Nat):bt (l.drop i) k=bt l (i+k):=by
 unfold bt;rw [List.getD_eq_getElem?_getD,List.getD_eq_getElem?_getD,List.getElem?_drop]
theorem bt_cons0 (c:UInt8) (r:List UInt8):bt (c :: r) 0=c.toNat:=rfl
def dec (l:List UInt8):Nat × Nat:=Lib.decodeN l.length (bt l 0) (bt l 1) (bt l 2) (bt l 3)
def looseB (l:List UInt8):Bool:=(dec l).1 == 65533 && (dec l).2 == 1
theorem get_bt (s:ByteArray) (i k:Nat):(s.get! (i+k)).toNat=bt (s.data.toList.drop i) k:=by
 rw [bt_drop];unfold bt;by_cases h:i+k<s.size
 ·have h2:i+k<s.data.toList.length:=by rw [← Lib.size_eq];exact h
  rw [List.getD_eq_getElem?_getD,List.getElem?_eq_getElem h2];have h3:i+k<s.data.size:=h;show (s.data[i+k]!).toNat=_;rw [getElem!_pos s.data (i+k) h3];simp
 ·have h2:¬ i+k<s.data.toList.length:=by rw [← Lib.size_eq];exact h
  rw [List.getD_eq_getElem?_getD,List.getElem?_eq_none (by omega)];have h3:¬ i+k<s.data.size:=h;show (s.data[i+k]!).toNat=_;rw [getElem!_neg s.data (i+k) h3];rfl
theorem dec_at (s:ByteArray) (i:Nat):Utf8.decode s i=dec (s.data.toList.drop i):=by
 rw [Lib.decode_at];have e0:=get_bt s i 0;rw [Nat.add_zero] at e0;rw [e0,get_bt s i 1,get_bt s i 2,get_bt s i 3];unfold dec;rw [List.length_drop,← Lib.size_eq]
theorem dec_cases (l:List UInt8) (hl:l≠[]):
  (bt l 0<128∧dec l=(bt l 0,1)) ∨
  (bt l 0 / 32=6∧1<l.length∧bt l 1 / 64=2∧128≤bt l 0 % 32 * 64+bt l 1 % 64∧dec l=(bt l 0 % 32 * 64+bt l 1 % 64,2)) ∨
  (bt l 0 / 16=14∧2<l.length∧bt l 1 / 64=2∧bt l 2 / 64=2∧2048≤bt l 0 % 16 * 4096+bt l 1 % 64 * 64+bt l 2 % 64 ∧
   (bt l 0 % 16 * 4096+bt l 1 % 64 * 64+bt l 2 % 64<55296∨57344≤bt l 0 % 16 * 4096+bt l 1 % 64 * 64+bt l 2 % 64) ∧
   dec l=(bt l 0 % 16 * 4096+bt l 1 % 64 * 64+bt l 2 % 64,3)) ∨
  (bt l 0 / 8=30∧3<l.length∧bt l 1 / 64=2∧bt l 2 / 64=2∧bt l 3 / 64=2 ∧
   65536≤bt l 0 % 8 * 262144+bt l 1 % 64 * 4096+bt l 2 % 64 * 64+bt l 3 % 64∧bt l 0 % 8 * 262144+bt l 1 % 64 * 4096+bt l 2 % 64 * 64+bt l 3 % 64≤1114111 ∧
   dec l=(bt l 0 % 8 * 262144+bt l 1 % 64 * 4096+bt l 2 % 64 * 64+bt l 3 % 64,4)) ∨
  (128≤bt l 0∧dec l=(65533,1)):=by
 have h0:=bt_lt l 0;have h1:=bt_lt l 1;have h2:=bt_lt l 2;have h3:=bt_lt l 3;unfold dec Lib.decodeN;generalize bt l 0=b0 at *;generalize bt l 1=b1 at *;generalize bt l 2=b2 at *;generalize bt l 3=b3 at *
 repeat' split
 ·left;exact⟨by assumption,rfl⟩
 ·right;left;exact⟨by omega,by omega,by omega,by omega,rfl⟩
 ·right;right;right;right;exact⟨by omega,rfl⟩
 ·right;right;left;exact⟨by omega,by omega,by omega,by omega,by omega,by omega,rfl⟩
 ·right;right;right;right;exact⟨by omega,rfl⟩
 ·right;right;right;left;exact⟨by omega,by omega,by omega,by omega,by omega,by omega,by omega,rfl⟩
 ·right;right;right;right;exact⟨by omega,rfl⟩
 ·right;right;right;right;exact⟨by omega,rfl⟩
theorem dec_pos (l:List UInt8) (hl:l≠[]):1≤(dec l).2:=by
 rcases dec_cases l hl with h | h | h | h | h <;> simp [h]
theorem dec_len (l:List UInt8) (hl:l≠[]):(dec l).2≤l.length:=by
 have:0<l.length:=List.length_pos_iff.2 hl;rcases dec_cases l hl with h | h | h | h | h
 ·rw [h.2];exact this
 ·rw [h.2.2.2.2];have:=h.2.1;exact this
 ·rw [h.2.2.2.2.2.2];have:=h.2.1;exact this
 ·rw [h.2.2.2.2.2.2.2];have:=h.2.1;exact this
 ·rw [h.2];exact this
theorem dec_ascii (c:UInt8) (r:List UInt8) (h:c.toNat<128):dec (c :: r)=(c.toNat,1):=by
 have e:=bt_cons0 c r;rcases dec_cases (c :: r) (by simp) with g | g | g | g | g <;> rw [e] at g
 ·exact g.2
 all_goals (exfalso;omega)
theorem dec_high (c:UInt8) (r:List UInt8) (h:128≤c.toNat):128≤(dec (c :: r)).1:=by
 have e:=bt_cons0 c r;rcases dec_cases (c :: r) (by simp) with g | g | g | g | g <;> rw [e] at g
 ·exfalso;omega
 ·rw [g.2.2.2.2];show 128≤_;omega
 ·rw [g.2.2.2.2.2.2];show 128≤_;omega
 ·rw [g.2.2.2.2.2.2.2];show 128≤_;omega
 ·rw [g.2];decide
theorem dec_take (l:List UInt8) (hl:l≠[]) (p:Nat) (hp:(dec l).2≤p):dec (l.take p)=dec l:=by
 have hpos:=dec_pos l hl;have h0:=bt_lt l 0;have h1:=bt_lt l 1;have h2:=bt_lt l 2;have h3:=bt_lt l 3;have hlen:0<l.length:=List.length_pos_iff.2 hl;have e0:bt (l.take p) 0=bt l 0:=by rw [bt_take,if_pos (by omega)]
 rcases dec_cases l hl with g | g | g | g | g
 ·unfold dec Lib.decodeN;rw [e0];rw [if_pos g.1,if_pos g.1]
 ·have e:(dec l).2=2:=by rw [g.2.2.2.2]
  have e1:bt (l.take p) 1=bt l 1:=by rw [bt_take,if_pos (by omega)]
  rw [g.2.2.2.2];unfold dec Lib.decodeN;rw [e0,e1,List.length_take];rw [if_neg (by omega),if_pos (by omega),if_pos (by omega)]
 ·have e:(dec l).2=3:=by rw [g.2.2.2.2.2.2]
  have e1:bt (l.take p) 1=bt l 1:=by rw [bt_take,if_pos (by omega)]
  have e2:bt (l.take p) 2=bt l 2:=by rw [bt_take,if_pos (by omega)]
  rw [g.2.2.2.2.2.2];unfold dec Lib.decodeN;rw [e0,e1,e2,List.length_take];rw [if_neg (by omega),if_neg (by omega),if_pos (by omega),if_pos (by omega)]
 ·have e:(dec l).2=4:=by rw [g.2.2.2.2.2.2.2]
  have e1:bt (l.take p) 1=bt l 1:=by rw [bt_take,if_pos (by omega)]
  have e2:bt (l.take p) 2=bt l 2:=by rw [bt_take,if_pos (by omega)]
  have e3:bt (l.take p) 3=bt l 3:=by rw [bt_take,if_pos (by omega)]
  rw [g.2.2.2.2.2.2.2];unfold dec Lib.decodeN;rw [e0,e1,e2,e3,List.length_take];rw [if_neg (by omega),if_neg (by omega),if_neg (by omega),if_pos (by omega),if_pos (by omega)]
 ·have hloose:=g.2
  have hne:l.take p≠[]:=by
   intro hh;have:=congrArg List.length hh;rw [List.length_take] at this;simp only [List.length_nil] at this;omega
  have g1:=g.1;rcases dec_cases (l.take p) hne with k | k | k | k | k
  ·rw [e0] at k;have k1:=k.1;exfalso;omega
  ·rw [List.length_take] at k;(have e1:bt (l.take p) 1=bt l 1:=by rw [bt_take,if_pos (by omega)]);rw [e0,e1] at k;exfalso;unfold dec Lib.decodeN at hloose;rw [if_neg (by omega),if_pos (by omega),if_pos (by omega)] at hloose;simp at hloose
  ·rw [List.length_take] at k;(have e1:bt (l.take p) 1=bt l 1:=by rw [bt_take,if_pos (by omega)]);(have e2:bt (l.take p) 2=bt l 2:=by rw [bt_take,if_pos (by omega)]);rw [e0,e1,e2] at k;exfalso;unfold dec Lib.decodeN at hloose;rw [if_neg (by omega),if_neg (by omega),if_pos (by omega),if_pos (by omega)] at hloose;simp at hloose
  ·rw [List.length_take] at k;(have e1:bt (l.take p) 1=bt l 1:=by rw [bt_take,if_pos (by omega)]);(have e2:bt (l.take p) 2=bt l 2:=by rw [bt_take,if_pos (by omega)]);(have e3:bt (l.take p) 3=bt l 3:=by rw [bt_take,if_pos (by omega)]);rw [e0,e1,e2,e3] at k;exfalso;unfold dec Lib.decodeN at hloose;rw [if_neg (by omega),if_neg (by omega),if_neg (by omega),if_pos (by omega),if_pos (by omega)] at hloose;simp at hloose
  ·rw [k.2,hloose]
theorem toU8 (c:UInt8):((c.toNat:Int).toNat).toUInt8=c:=by
 simp
theorem bt_get (l:List UInt8) (k:Nat) (h:k<l.length):bt l k=(l[k]'h).toNat:=by
 unfold bt;rw [List.getD_eq_getElem?_getD,List.getElem?_eq_getElem h];rfl
theorem u8_of {n:Int} {c:UInt8} (h:n=(c.toNat:Int)):n.toNat.toUInt8=c:=by
 rw [h];exact toU8 c
theorem enc_dec (l:List UInt8) (hl:l≠[]) (hg:looseB l=false):Lib.encodeRune ((dec l).1:Nat)=l.take (dec l).2:=by
 have h0:=bt_lt l 0;have h1:=bt_lt l 1;have h2:=bt_lt l 2;have h3:=bt_lt l 3;rcases l with _ | ⟨a,l⟩
 ·exact absurd rfl hl
 have ea:bt (a :: l) 0=a.toNat:=rfl;rcases dec_cases (a :: l) hl with g | g | g | g | g
 ·rw [g.2];rw [ea] at g ⊢;show Lib.encodeRune ((a.toNat:Nat):Int)=(a :: l).take 1;rw [Lib.encodeRune,Lib.encodeRuneZ_one (by omega) (by omega)];simp
 ·rcases l with _ | ⟨b,l⟩
  ·simp at g
  have eb:bt (a :: b :: l) 1=b.toNat:=rfl;rw [g.2.2.2.2];rw [ea,eb] at g ⊢;rw [ea] at h0;rw [eb] at h1;show Lib.encodeRune ((_:Nat):Int)=(a :: b :: l).take 2;rw [Lib.encodeRune,Lib.encodeRuneZ_two (by omega) (by omega)];simp only [List.map_cons,List.map_nil,List.take_succ_cons,List.take_zero];rw [u8_of (c:=a) (by omega),u8_of (c:=b) (by omega)]
 ·rcases l with _ | ⟨b,_ | ⟨c,l⟩⟩
  ·simp at g
  ·simp at g
  have eb:bt (a :: b :: c :: l) 1=b.toNat:=rfl;have ec:bt (a :: b :: c :: l) 2=c.toNat:=rfl;rw [g.2.2.2.2.2.2];rw [ea,eb,ec] at g ⊢;rw [ea] at h0;rw [eb] at h1;rw [ec] at h2;show Lib.encodeRune ((_:Nat):Int)=(a :: b :: c :: l).take 3;rw [Lib.encodeRune,Lib.encodeRuneZ_three (by omega)];simp only [List.map_cons,List.map_nil,List.take_succ_cons,List.take_zero];rw [u8_of (c:=a) (by omega),u8_of (c:=b) (by omega),u8_of (c:=c) (by omega)]
 ·rcases l with _ | ⟨b,_ | ⟨c,_ | ⟨d,l⟩⟩⟩
  ·simp at g
  ·simp at g
  ·simp at g
  have eb:bt (a :: b :: c :: d :: l) 1=b.toNat:=rfl;have ec:bt (a :: b :: c :: d :: l) 2=c.toNat:=rfl;have ed:bt (a :: b :: c :: d :: l) 3=d.toNat:=rfl;rw [g.2.2.2.2.2.2.2];rw [ea,eb,ec,ed] at g ⊢;rw [ea] at h0;rw [eb] at h1;rw [ec] at h2;rw [ed] at h3;show Lib.encodeRune ((_:Nat):Int)=(a :: b :: c :: d :: l).take 4;rw [Lib.encodeRune,Lib.encodeRuneZ_four (by omega) (by omega)];simp only [List.map_cons,List.map_nil,List.take_succ_cons,List.take_zero];rw [u8_of (c:=a) (by omega),u8_of (c:=b) (by omega),u8_of (c:=c) (by omega),u8_of (c:=d) (by omega)]
 ·exfalso;simp [looseB,g.2] at hg
end Sp
namespace Sp
def hexv (c:UInt8):Nat:=if 48≤c.toNat∧c.toNat≤57 then c.toNat - 48 else if 97≤c.toNat∧c.toNat≤102 then c.toNat - 87 else if 65≤c.toNat∧c.toNat≤70 then c.toNat - 55 else 99
def digitsV (base:Nat) (n:Nat):List UInt8→Nat
 | []=>n
 | c :: r=>digitsV base (base * n+hexv c) r
def basedV (base most:Nat) (l:List UInt8):Option Nat:=
 if l.length=0∨most<l.length∨l.all (fun c=>decide (hexv c<base))=false then none else some (digitsV base 0 l)
def validRune (n:Nat):Bool:=decide (n<55296∨(57343<n∧n≤1114111))
def bracedV (l:List UInt8):Option (Nat × Nat):=
 if l.all (·≠125) then none else
 match basedV 16 6 (l.takeWhile (·≠125)) with
 | none=>none
 | some v=>if validRune v then some ((l.takeWhile (·≠125)).length+4,v) else none
def escV (l:List UInt8):Option (Nat × List UInt8):=
 match l with
 | _ :: c :: r=>
  if c=34 then some (2,[34]) else if c=92 then some (2,[92]) else if c=110 then some (2,[10]) else if c=114 then some (2,[13]) else if c=116 then some (2,[9])
  else if c=120 then (match r with
   | a :: b :: _=>if hexv a<16∧hexv b<16 then some (4,[(16 * hexv a+hexv b).toUInt8]) else none
   | _=>none)
  else if c=117 then (match r with
   | d :: t=>if d=123 then (match bracedV t with | some (k,v)=>some (k,Lib.encodeRune (v:Nat)) | none=>none) else none
   | []=>none)
  else none
 | _=>none
def speakF (lines:Bool):Nat→List UInt8→Nat→List UInt8→Nat × List UInt8 × Nat
 | 0,_,i,_=>(32,[],i)
 | _,[],i,_=>(32,[],i)
 | f+1,c :: r,i,said=>
  if c=34 then (0,said,i+1)
  else if c=92 then (match escV (c :: r) with
   | none=>(34,[],i)
   | some (k,b)=>speakF lines f ((c :: r).drop k) (i+k) (said ++ b))
  else if c=10∧lines=true then (32,[],i)
  else if c.toNat<32∨c.toNat=127∨looseB (c :: r)=true then (33,[],i)
  else speakF lines f ((c :: r).drop (dec (c :: r)).2) (i+(dec (c :: r)).2) (said ++ (c :: r).take (dec (c :: r)).2)
def speakV (lines:Bool) (l:List UInt8):Nat × List UInt8 × Nat:=speakF lines l.length (l.drop 1) 1 []
def decV (top:Nat) (l:List UInt8):Option Nat:=
 if l.length=0∨10<l.length∨l.all (fun c=>decide (48≤c.toNat∧c.toNat≤57))=false∨(1<l.length∧l.head?=some 48) then none
 else if top<digitsV 10 0 l then none else some (digitsV 10 0 l)
def quadF:Nat→Nat→List UInt8→Option Nat
 | 0,n,l=>(match decV 255 l with | none=>none | some v=>some (256 * n+v))
 | k+1,n,l=>if l.all (·≠46) then none else
   match decV 255 (l.takeWhile (·≠46)) with
   | none=>none
   | some v=>quadF k (256 * n+v) (l.drop ((l.takeWhile (·≠46)).length+1))
def numV (l:List UInt8):Option Nat:=
 if l.all (·≠46)=false then quadF 3 0 l
 else if l.take 2=[48,120] then basedV 16 8 (l.drop 2)
 else if l.take 2=[48,98] then basedV 2 32 (l.drop 2)
 else decV 4294967295 l
theorem digitsV_append (base:Nat) (l r:List UInt8):∀ n,digitsV base n (l ++ r)=digitsV base (digitsV base n l) r:=by
 induction l with
 | nil=>intro n;rfl
 | cons c l ih=>intro n;simp only [List.cons_append,digitsV];exact ih _
theorem digitsV_bound (base:Nat) (hb:1≤base) (l:List UInt8) (h:l.all (fun c=>decide (hexv c<base))=true):∀ n m,n<m→digitsV base n l<m * base ^ l.length:=by
 induction l with
 | nil=>intro n m h;simpa [digitsV] using h
 | cons c l ih=>
  intro n m hn;simp only [List.all_cons,Bool.and_eq_true,decide_eq_true_eq] at h
  have h1:base * n+hexv c<m * base:=by
   have:base * (n+1)≤base * m:=Nat.mul_le_mul_left _ hn;rw [Nat.mul_comm m base];rw [Nat.mul_add] at this;omega
  have:=ih h.2 (base * n+hexv c) (m * base) h1;simp only [digitsV,List.length_cons,Nat.pow_succ];rw [Nat.mul_comm (base ^ l.length) base,← Nat.mul_assoc];exact this
theorem digitsV_lt (base:Nat) (hb:1≤base) (l:List UInt8) (h:l.all (fun c=>decide (hexv c<base))=true) (k:Nat) (hk:l.length≤k):digitsV base 0 l<base ^ k:=by
 have:=digitsV_bound base hb l h 0 1 (by omega);rw [Nat.one_mul] at this;exact Nat.lt_of_lt_of_le this (Nat.pow_le_pow_right hb hk)
end Sp
namespace Sp
def letterB (c:UInt8):Bool:=decide (65≤c.toNat∧c.toNat≤90∨97≤c.toNat∧c.toNat≤122∨c.toNat=95)
def digitB (c:UInt8):Bool:=decide (48≤c.toNat∧c.toNat≤57)
def wordB (c:UInt8):Bool:=letterB c || digitB c
def blankB (c:UInt8):Bool:=decide (c.toNat=32∨c.toNat=9∨c.toNat=13)
def classB (c:UInt8):Nat:=
 if blankB c then 2 else if c.toNat=10 then 3 else if c.toNat=35 then 4 else if c.toNat=37 then 7 else if c.toNat=34 then 8 else if letterB c then 5 else if digitB c then 6 else 0
def classV (l:List UInt8):Nat:=match l with | []=>1 | c :: _=>classB c
def wordRun (l:List UInt8):Nat:=(l.takeWhile wordB).length
def numRun:List UInt8→Nat
 | []=>0
 | c :: r=>if wordB c || (c == 46 && classV r == 6) then numRun r+1 else 0
def patV (l:List UInt8):Bool:=l.all (fun c=>c == 48 || c == 49 || c == 120) && l.length != 0 && decide (l.length≤32)
def signV (l:List UInt8):Nat:=
 match l with
 | []=>0
 | a :: r=>
  let two:=match r with
   | []=>false
   | b :: _=>(a == 33 && b == 61) || (a == 60 && b == 61) || (a == 62 && b == 61) || (a == 46 && b == 46) || (a == 45 && b == 62)
  if two then 2
  else if a == 40 || a == 41 || a == 33 || a == 61 || a == 60 || a == 62 || a == 38 || a == 124 || a == 44 || a == 58 || a == 47 then 1 else 0
def pieceV (l:List UInt8):Nat × Nat × Nat × Nat:=
 if classV l=5 then
  let n:=wordRun l
  if 24<n then (0,0,0,36)
  else if (l.drop n).head?=some 46∧classV (l.drop (n+1))=5 then
   let m:=wordRun (l.drop (n+1))
   if 24<m then (0,0,0,36) else (3,n+1+m,0,0)
  else (2,n,0,0)
 else if classV l=6 then
  (match numV (l.take (numRun l)) with | none=>(0,0,0,31) | some _=>(4,numRun l,0,0))
 else if classV l=7 then
  let n:=1+wordRun (l.drop 1)
  if patV ((l.drop 1).take (n - 1)) then (5,n,0,0) else (0,0,0,44)
 else if classV l=8 then
  let r:=speakV true l
  if r.1≠0 then (0,0,r.2.2,r.1) else if 256<r.2.1.length then (0,0,0,37) else (6,r.2.2,0,0)
 else if signV l=0 then (0,0,0,30) else (7,signV l,0,0)
def charsF:Nat→List UInt8→Nat
 | 0,_=>0
 | _,[]=>0
 | f+1,c :: r=>charsF f ((c :: r).drop (dec (c :: r)).2)+1
def chars (l:List UInt8):Nat:=charsF l.length l
abbrev Tok:=Nat × List UInt8 × Nat × Nat
def runF:Nat→List UInt8→Nat→Nat→Bool→List Tok→List Tok × Nat × Nat × Nat
 | 0,_,line,col,_,_=>([],1000,line,col)
 | _,[],line,col,op,acc=>(if op then acc ++ [(1,[10],line,col)] else acc,0,0,0)
 | f+1,c :: r,line,col,op,acc=>
  if classB c=3 then runF f r (line+1) 1 false (if op then acc ++ [(1,[10],line,col)] else acc)
  else if classB c=2 then runF f r line (col+1) op acc
  else if classB c=4 then
   let k:=((c :: r).takeWhile (·≠10)).length
   runF f ((c :: r).drop k) line (col+chars ((c :: r).take k)) op acc
  else
   let p:=pieceV (c :: r)
   if p.2.2.2≠0 then ([],p.2.2.2,line,col+chars ((c :: r).take p.2.2.1))
   else runF f ((c :: r).drop p.2.1) line (col+chars ((c :: r).take p.2.1)) true (acc ++ [(p.1,(c :: r).take p.2.1,line,col)])
def scanV (l:List UInt8):List Tok × Nat × Nat × Nat:=
 if 16384<l.length then ([],2,0,0) else runF (l.length+1) l 1 1 false []
end Sp
namespace Sp
end Sp
namespace Sp
theorem bt_idx (s:ByteArray) (n:Nat) (h:n<s.size):(s[n]'h).toNat=bt s.data.toList n:=by
 have h2:n<s.data.toList.length:=by rw [← Lib.size_eq];exact h
 rw [bt_get _ _ h2];simp;rfl
theorem get_idx (s:ByteArray) (n:Nat) (h:n<s.size) (h2:n<s.data.toList.length):s[n]'h=s.data.toList[n]'h2:=by
 simp;rfl
end Sp
namespace Sp
end Sp
namespace Sp
def brO (l:List UInt8):Option (Nat × Nat):=if 2<l.length∧bt l 2=123 then bracedV (l.drop 3) else none
theorem digits_snoc (base:Nat) (m:List UInt8) (k:Nat) (h:k<m.length):digitsV base 0 (m.take (k+1))=base * digitsV base 0 (m.take k)+hexv (m[k]'h):=by
 rw [List.take_succ_eq_append_getElem h,digitsV_append];rfl
theorem tw_lt (p:UInt8→Bool):∀ m:List UInt8,¬ m.all p=true→(m.takeWhile p).length<m.length
 | [],h=>absurd rfl h
 | c :: r,h=>by
  rw [List.takeWhile_cons];by_cases hc:p c=true
  ·rw [if_pos hc];(have:¬ r.all p=true:=fun hr=>h (by rw [List.all_cons,hc,hr];rfl));have:=tw_lt p r this;simp only [List.length_cons];omega
  ·rw [if_neg hc];simp
theorem bracedV_some {m:List UInt8} {k v:Nat} (h:bracedV m=some (k,v)):4≤k∧k≤m.length+3∧v≤1114111∧(v<55296∨57343<v):=by
 unfold bracedV at h;split at h
 ·cases h
 ·rename_i hall;split at h
  ·cases h
  ·rename_i v' _;split at h
   ·rename_i hv;(injection h with h);(injection h with h1 h2);subst h1;subst h2;have:=of_decide_eq_true hv;have hl:=tw_lt _ m hall;exact⟨by omega,by omega,by omega,by omega⟩
   ·cases h
theorem brO_some {l:List UInt8} {k v:Nat} (h:brO l=some (k,v)):2<l.length∧bracedV (l.drop 3)=some (k,v):=by
 unfold brO at h;split at h
 ·rename_i hc;exact⟨hc.1,h⟩
 ·cases h
theorem brO_k {l:List UInt8} {k v:Nat} (h:brO l=some (k,v)):4≤k∧k≤l.length:=by
 have h1:=brO_some h;have h2:=bracedV_some h1.2;rw [List.length_drop] at h2;omega
theorem escV_eq (l:List UInt8):escV l=
  if l.length<2 then none else if bt l 1=34 then some (2,[34]) else if bt l 1=92 then some (2,[92]) else if bt l 1=110 then some (2,[10]) else if bt l 1=114 then some (2,[13])
  else if bt l 1=116 then some (2,[9])
  else if bt l 1=120 then (if 3<l.length∧hexv (l.getD 2 0)<16∧hexv (l.getD 3 0)<16 then some (4,[(16 * hexv (l.getD 2 0)+hexv (l.getD 3 0)).toUInt8]) else none)
  else if bt l 1=117 then (match brO l with | none=>none | some (k,v)=>some (k,Lib.encodeRune (v:Nat)))
  else none:=by
 have heq:∀ (c:UInt8) (n:Nat),n<256→((c=UInt8.ofNat n)=(c.toNat=n)):=by
  intro c n hn;apply propext;constructor
  ·intro h;rw [h,UInt8.toNat_ofNat'];omega
  ·intro h;apply UInt8.toNat_inj.1;rw [UInt8.toNat_ofNat',h];omega
 rcases l with _ | ⟨a,_ | ⟨c,r⟩⟩
 ·rfl
 ·rfl
 ·have e1:bt (a :: c :: r) 1=c.toNat:=rfl;rw [e1];rw [if_neg (by simp)];simp only [escV];have h34:=heq c 34 (by omega);have h92:=heq c 92 (by omega);have h110:=heq c 110 (by omega);have h114:=heq c 114 (by omega);have h116:=heq c 116 (by omega);have h120:=heq c 120 (by omega);have h117:=heq c 117 (by omega);have w34:(UInt8.ofNat 34)=34:=rfl;have w92:(UInt8.ofNat 92)=92:=rfl;have w110:(UInt8.ofNat 110)=110:=rfl;have w114:(UInt8.ofNat 114)=114:=rfl;have w116:(UInt8.ofNat 116)=116:=rfl;have w120:(UInt8.ofNat 120)=120:=rfl;have w117:(UInt8.ofNat 117)=117:=rfl;rw [w34] at h34;rw [w92] at h92;rw [w110] at h110;rw [w114] at h114;rw [w116] at h116;rw [w120] at h120;rw [w117] at h117;simp only [h34,h92,h110,h114,h116,h120,h117];by_cases k1:c.toNat=34
  ·rw [if_pos k1,if_pos k1]
  by_cases k2:c.toNat=92
  ·rw [if_neg k1,if_neg k1,if_pos k2,if_pos k2]
  by_cases k3:c.toNat=110
  ·rw [if_neg k1,if_neg k1,if_neg k2,if_neg k2,if_pos k3,if_pos k3]
  by_cases k4:c.toNat=114
  ·rw [if_neg k1,if_neg k1,if_neg k2,if_neg k2,if_neg k3,if_neg k3,if_pos k4,if_pos k4]
  by_cases k5:c.toNat=116
  ·rw [if_neg k1,if_neg k1,if_neg k2,if_neg k2,if_neg k3,if_neg k3,if_neg k4,if_neg k4,if_pos k5,if_pos k5]
  rw [if_neg k1,if_neg k1,if_neg k2,if_neg k2,if_neg k3,if_neg k3,if_neg k4,if_neg k4,if_neg k5,if_neg k5];by_cases k6:c.toNat=120
  ·rw [if_pos k6,if_pos k6];rcases r with _ | ⟨x,_ | ⟨y,r⟩⟩
   ·rw [if_neg (by simp)]
   ·rw [if_neg (by simp)]
   ·have ex:(a :: c :: x :: y :: r).getD 2 0=x:=rfl;have ey:(a :: c :: x :: y :: r).getD 3 0=y:=rfl;rw [ex,ey];by_cases hh:hexv x<16∧hexv y<16
    ·rw [if_pos ⟨by simp,hh.1,hh.2⟩];show (if _ then _ else _)=_;rw [if_pos hh]
    ·rw [if_neg (fun h=>hh h.2)];show (if _ then _ else _)=_;rw [if_neg hh]
  rw [if_neg k6,if_neg k6];by_cases k7:c.toNat=117
  ·rw [if_pos k7,if_pos k7];rcases r with _ | ⟨d,t⟩
   ·rfl
   ·have h123:=heq d 123 (by omega);have w123:(UInt8.ofNat 123)=123:=rfl;rw [w123] at h123;have ed:bt (a :: c :: d :: t) 2=d.toNat:=rfl;unfold brO;simp only [h123,ed];by_cases hd:d.toNat=123
    ·rw [if_pos hd,if_pos ⟨by simp,hd⟩];show _=match bracedV t with | none=>none | some (k,v)=>some (k,Lib.encodeRune ↑v)
     cases bracedV t <;> rfl
    ·rw [if_neg hd,if_neg (fun h=>hd h.2)]
  rw [if_neg k7,if_neg k7]
end Sp
namespace Sp
theorem escV_len {l:List UInt8} {k:Nat} {b:List UInt8} (h:escV l=some (k,b)):2≤k∧k≤l.length∧b.length≤k:=by
 rw [escV_eq] at h
 have hx:∀ (x:Option (Nat × List UInt8)),x=some (k,b)→(x=none∨(∃ y:UInt8,x=some (2,[y]))∧2≤l.length∨(∃ y:UInt8,x=some (4,[y]))∧4≤l.length∨∃ k' v',brO l=some (k',v')∧x=some (k',Lib.encodeRune (v':Nat)))→2≤k∧k≤l.length∧b.length≤k:=by
  rintro x hx (h | ⟨⟨y,h⟩,hl⟩ | ⟨⟨y,h⟩,hl⟩ | ⟨k',v',hO,h⟩)
  ·rw [h] at hx;cases hx
  ·rw [h] at hx;injection hx with hx;injection hx with h1 h2;subst h1;subst h2;simp;omega
  ·rw [h] at hx;injection hx with hx;injection hx with h1 h2;subst h1;subst h2;simp;omega
  ·rw [h] at hx;injection hx with hx;injection hx with h1 h2;subst h1;subst h2
   have hk:=brO_k hO;have hs:=brO_some hO;have hb:=bracedV_some hs.2;rw [List.length_drop] at hb;have he:=Lib.runeCells_le (v':Nat);rw [Lib.runeCells_length] at he;omega
 refine hx _ h ?_;by_cases hl:l.length<2
 ·rw [if_pos hl];exact Or.inl rfl
 rw [if_neg hl];by_cases c1:bt l 1=34
 ·rw [if_pos c1];exact Or.inr (Or.inl ⟨⟨_,rfl⟩,by omega⟩)
 rw [if_neg c1];by_cases c2:bt l 1=92
 ·rw [if_pos c2];exact Or.inr (Or.inl ⟨⟨_,rfl⟩,by omega⟩)
 rw [if_neg c2];by_cases c3:bt l 1=110
 ·rw [if_pos c3];exact Or.inr (Or.inl ⟨⟨_,rfl⟩,by omega⟩)
 rw [if_neg c3];by_cases c4:bt l 1=114
 ·rw [if_pos c4];exact Or.inr (Or.inl ⟨⟨_,rfl⟩,by omega⟩)
 rw [if_neg c4];by_cases c5:bt l 1=116
 ·rw [if_pos c5];exact Or.inr (Or.inl ⟨⟨_,rfl⟩,by omega⟩)
 rw [if_neg c5];by_cases c6:bt l 1=120
 ·rw [if_pos c6];by_cases c7:3<l.length∧hexv (l.getD 2 0)<16∧hexv (l.getD 3 0)<16
  ·rw [if_pos c7];exact Or.inr (Or.inr (Or.inl ⟨⟨_,rfl⟩,by omega⟩))
  ·rw [if_neg c7];exact Or.inl rfl
 rw [if_neg c6];by_cases c8:bt l 1=117
 ·rw [if_pos c8];rcases hO:brO l with _ | ⟨k',v'⟩
  ·exact Or.inl rfl
  ·exact Or.inr (Or.inr (Or.inr ⟨k',v',rfl,rfl⟩))
 ·rw [if_neg c8];exact Or.inl rfl
theorem speakF_nil (lines:Bool) (f i:Nat) (said:List UInt8):speakF lines f [] i said=(32,[],i):=by cases f <;> rfl
theorem speakF_quote (lines:Bool) (f:Nat) (c:UInt8) (r:List UInt8) (i:Nat) (said:List UInt8) (h:c.toNat=34):speakF lines (f+1) (c :: r) i said=(0,said,i+1):=by
 have hc:c=34:=UInt8.toNat_inj.1 h;simp only [speakF];rw [if_pos hc]
theorem speakF_esc (lines:Bool) (f:Nat) (c:UInt8) (r:List UInt8) (i:Nat) (said:List UInt8) (h:c.toNat=92):
  speakF lines (f+1) (c :: r) i said=match escV (c :: r) with | none=>(34,[],i) | some (k,b)=>speakF lines f ((c :: r).drop k) (i+k) (said ++ b):=by
 have hc:c=92:=UInt8.toNat_inj.1 h;simp only [speakF];rw [if_neg (by rw [hc];decide),if_pos hc]
theorem speakF_nl (f:Nat) (c:UInt8) (r:List UInt8) (i:Nat) (said:List UInt8) (h:c.toNat=10):speakF true (f+1) (c :: r) i said=(32,[],i):=by
 have hc:c=10:=UInt8.toNat_inj.1 h;simp only [speakF];rw [if_neg (by rw [hc];decide),if_neg (by rw [hc];decide),if_pos ⟨hc,trivial⟩]
theorem u8_ne {c:UInt8} {n:Nat} (hn:n<256) (h:c.toNat≠n):c≠UInt8.ofNat n:=by
 intro e;apply h;rw [e,UInt8.toNat_ofNat'];omega
theorem speakF_bad (lines:Bool) (f:Nat) (c:UInt8) (r:List UInt8) (i:Nat) (said:List UInt8) (h1:c.toNat≠34) (h2:c.toNat≠92) (h3:lines=true→c.toNat≠10) (h:c.toNat<32∨c.toNat=127∨looseB (c :: r)=true):
  speakF lines (f+1) (c :: r) i said=(33,[],i):=by
 simp only [speakF];rw [if_neg (show ¬ c=34 from u8_ne (n:=34) (by omega) h1),if_neg (show ¬ c=92 from u8_ne (n:=92) (by omega) h2),if_neg (by rintro⟨a,b⟩;exact h3 b (by rw [a];rfl)),if_pos h]
theorem speakF_char (lines:Bool) (f:Nat) (c:UInt8) (r:List UInt8) (i:Nat) (said:List UInt8) (h1:c.toNat≠34) (h2:c.toNat≠92) (h:¬ (c.toNat<32∨c.toNat=127∨looseB (c :: r)=true)):
  speakF lines (f+1) (c :: r) i said=speakF lines f ((c :: r).drop (dec (c :: r)).2) (i+(dec (c :: r)).2) (said ++ (c :: r).take (dec (c :: r)).2):=by
 simp only [speakF];rw [if_neg (show ¬ c=34 from u8_ne (n:=34) (by omega) h1),if_neg (show ¬ c=92 from u8_ne (n:=92) (by omega) h2),if_neg (by rintro⟨a,b⟩;apply h;rw [a];left;decide),if_neg h]
theorem drop_cons (s:ByteArray) (j:Nat) (h:j<s.size):s.data.toList.drop j=(s[j]'h) :: s.data.toList.drop (j+1):=by
 have h2:j<s.data.toList.length:=by rw [← Lib.size_eq];exact h
 rw [List.drop_eq_getElem_cons h2,get_idx s j h h2]
end Sp
namespace Sp
theorem indexByte_tw (c:UInt8):∀ l:List UInt8,Lib.indexByte l c=if l.all (fun x=>decide (x≠c))=true then -1 else ((l.takeWhile (fun x=>decide (x≠c))).length:Int)
 | []=>rfl
 | b :: l=>by
  rw [Lib.indexByte,List.all_cons,List.takeWhile_cons];by_cases h:b=c
  ·subst h;rw [if_pos (by simp),if_neg (by simp),if_neg (by simp)];rfl
  ·have h1:(b == c)=false:=beq_eq_false_iff_ne.2 h;have h2:decide (b≠c)=true:=decide_eq_true h;rw [h1,if_neg (by decide),h2,Bool.true_and,if_pos rfl,indexByte_tw c l];by_cases ha:l.all (fun x=>decide (x≠c))=true
   ·rw [if_pos ha,if_pos ha,if_pos (by decide)]
   ·rw [if_neg ha,if_neg ha,if_neg (by rw [beq_iff_eq];omega)];simp
theorem cut_one (l:List UInt8) (c:UInt8):Lib.cut l [c]=if l.all (fun x=>decide (x≠c))=true then (l,[],false) else (l.takeWhile (fun x=>decide (x≠c)),l.drop ((l.takeWhile (fun x=>decide (x≠c))).length+1),true):=by
 unfold Lib.cut;rw [Lib.index_one,indexByte_tw];by_cases ha:l.all (fun x=>decide (x≠c))=true
 ·rw [if_pos ha,if_pos ha,if_neg (by decide)]
 ·rw [if_neg ha,if_neg ha,if_pos (by omega)]
  have e:l.take (l.takeWhile (fun x=>decide (x≠c))).length=l.takeWhile (fun x=>decide (x≠c)):=by
   have h:=List.takeWhile_append_dropWhile (p:=fun x=>decide (x≠c)) (l:=l);have h2:(l.takeWhile (fun x=>decide (x≠c)) ++ l.dropWhile (fun x=>decide (x≠c))).take (l.takeWhile (fun x=>decide (x≠c))).length=l.takeWhile (fun x=>decide (x≠c)):=List.take_left;rw [h] at h2;exact h2
  simp only [Int.toNat_natCast,e,List.length_singleton]
theorem hasP3 (l:List UInt8) (a b c:UInt8):Lib.hasPrefix l [a,b,c]=decide (3≤l.length∧bt l 0=a.toNat∧bt l 1=b.toNat∧bt l 2=c.toNat):=by
 unfold Lib.hasPrefix;rcases l with _ | ⟨x,_ | ⟨y,_ | ⟨z,r⟩⟩⟩
 ·simp [List.isPrefixOf]
 ·simp [List.isPrefixOf]
 ·simp [List.isPrefixOf]
 ·have e0:bt (x :: y :: z :: r) 0=x.toNat:=rfl;have e1:bt (x :: y :: z :: r) 1=y.toNat:=rfl;have e2:bt (x :: y :: z :: r) 2=z.toNat:=rfl;rw [e0,e1,e2,Bool.eq_iff_iff,decide_eq_true_iff];simp only [List.isPrefixOf,Bool.and_true,Bool.and_eq_true,beq_iff_eq,List.length_cons];constructor
  ·rintro⟨rfl,rfl,rfl⟩;exact⟨by omega,rfl,rfl,rfl⟩
  ·rintro⟨_,h1,h2,h3⟩;exact⟨UInt8.toNat_inj.1 h1.symm,UInt8.toNat_inj.1 h2.symm,UInt8.toNat_inj.1 h3.symm⟩
theorem valid_rune (v:Nat):Lib.validRune (v:Int)=validRune v:=by
 unfold Lib.validRune validRune;rw [Bool.eq_iff_iff,decide_eq_true_iff,decide_eq_true_iff];omega
theorem basedV_lt {base most:Nat} {l:List UInt8} {v:Nat} (hb:1≤base) (h:basedV base most l=some v):v<base ^ most∧l.length≤most:=by
 unfold basedV at h;split at h
 ·cases h
 ·rename_i hn;injection h with h
  subst h
  have hl:l.length≤most:=by
   rcases Nat.lt_or_ge most l.length with h1 | h1
   ·exact absurd (Or.inr (Or.inl h1)) hn
   ·exact h1
  refine⟨digitsV_lt base hb l ?_ most hl,hl⟩;rcases ha:l.all (fun c=>decide (hexv c<base)) with _ | _
  ·exact absurd (Or.inr (Or.inr ha)) hn
  ·rfl
end Sp
namespace Sp
theorem speakF_le (lines:Bool):∀ (f:Nat) (l:List UInt8) (i:Nat) (said:List UInt8) (c p:Nat) (b:List UInt8),speakF lines f l i said=(c,b,p)→c≤34∧p≤i+l.length∧b.length≤said.length+l.length:=by
 intro f
 induction f with
 | zero=>
  intro l i said c p b h;simp only [speakF] at h;injection h with h1 h2;injection h2 with h2 h3;subst h1;subst h2;subst h3
  simp
 | succ f ih=>
  intro l i said c p b h
  cases l with
  | nil=>
   rw [speakF_nil] at h;(injection h with h1 h2;injection h2 with h2 h3;subst h1;subst h2;subst h3);simp
  | cons x r=>
   have fin:∀ (c' p':Nat) (b':List UInt8),(c',b',p')=(c,b,p)→c'≤34→p'≤i+(x :: r).length→b'.length≤said.length+(x :: r).length→c≤34∧p≤i+(x :: r).length∧b.length≤said.length+(x :: r).length:=by
    intro c' p' b' e h1 h2 h3;(injection e with e1 e2;injection e2 with e2 e3;subst e1;subst e2;subst e3);exact⟨h1,h2,h3⟩
   simp only [speakF] at h;split at h
   ·exact fin _ _ _ h (by omega) (by simp) (by omega)
   split at h
   ·split at h
    ·exact fin _ _ _ h (by omega) (by omega) (by simp)
    ·rename_i k b' hE;have hk:=escV_len hE;have:=ih _ _ _ _ _ _ h;rw [List.length_drop,List.length_append] at this;omega
   split at h
   ·exact fin _ _ _ h (by omega) (by omega) (by simp)
   split at h
   ·exact fin _ _ _ h (by omega) (by omega) (by simp)
   ·have hk:=dec_len (x :: r) (by simp);have:=ih _ _ _ _ _ _ h;rw [List.length_drop,List.length_append,List.length_take] at this;omega
theorem speakV_le {lines:Bool} {l:List UInt8} {c p:Nat} {b:List UInt8} (h:speakV lines l=(c,b,p)):c≤34∧p≤l.length+1∧b.length≤l.length:=by
 have:=speakF_le lines _ _ _ _ _ _ _ h;rw [List.length_drop] at this;simp at this;omega
end Sp
namespace Sp
end Sp
end Go.Proofs.YtedfppbnkgffcaaGreatDoor
