/-
  Texts joined: Va Ve.
-/
import Derived.Test.YtedfppbnkgffcaaGreatDoorPa
import Derived.Test.YtedfppbnkgffcaaGreatDoorWg
import Derived.Test.YtedfppbnkgffcaaGreatDoorWh
import Derived.Laws.BitsAllLaws
import Derived.Laws.BitsLemmas
set_option linter.unusedVariables false
set_option linter.unusedSimpArgs false
set_option maxRecDepth 100000
set_option maxHeartbeats 8000000
namespace Go.Proofs.YtedfppbnkgffcaaGreatDoor
open Go.RowKit
open Go.Lib (hid)
theorem digit_fin:∀ n:Fin 256,[48,49,50,51,52,53,54,55,56,57].contains (UInt8.ofNat n.1)=decide (48≤(UInt8.ofNat n.1).toNat∧(UInt8.ofNat n.1).toNat≤57):=by decide
theorem digit_in (c:UInt8):[48,49,50,51,52,53,54,55,56,57].contains c=decide (48≤c.toNat∧c.toNat≤57):=by
 have h:=digit_fin ⟨c.toNat,c.toNat_lt⟩;simpa using h
def DIG:ByteArray:=⟨#[48,49,50,51,52,53,54,55,56,57]⟩
theorem digits_all (l:List UInt8):l.all (DIG.data.toList.contains ·)=l.all (fun c=>decide (48≤c.toNat∧c.toNat≤57)):=by
 congr 1
 funext c
 exact digit_in c
theorem hexv_digit (c:UInt8) (h1:48≤c.toNat) (h2:c.toNat≤57):Sp.hexv c=c.toNat - 48:=by
 unfold Sp.hexv;rw [if_pos (by omega)]
theorem dec_some {top:Nat} {l:List UInt8} (h:¬ (l.length=0∨10<l.length∨l.all (fun c=>decide (48≤c.toNat∧c.toNat≤57))=false∨(1<l.length∧l.head?=some 48))):Sp.decV top l=if top<Sp.digitsV 10 0 l then none else some (Sp.digitsV 10 0 l):=by
 unfold Sp.decV;rw [if_neg h]
theorem decV_le {top:Nat} {l:List UInt8} {v:Nat} (h:Sp.decV top l=some v):v≤top:=by
 unfold Sp.decV at h;split at h
 ·cases h
 split at h
 ·cases h
 ·injection h with h;omega
theorem ext_take (S:ByteArray) (p:Nat):(S.extract 0 p).data.toList=S.data.toList.take p:=by
 rw [Lib.extract_data,List.drop_zero,Nat.sub_zero]
theorem ext_drop (S:ByteArray) (p:Nat):(S.extract p S.size).data.toList=S.data.toList.drop p:=by
 rw [Lib.extract_data,List.take_of_length_le];rw [List.length_drop,← Lib.size_eq];omega
theorem tw_take (q:UInt8→Bool):∀ l:List UInt8,l.take (l.takeWhile q).length=l.takeWhile q
 | []=>rfl
 | c :: r=>by
  rw [List.takeWhile_cons];by_cases h:q c=true
  ·rw [if_pos h,List.length_cons,List.take_succ_cons,tw_take q r]
  ·rw [if_neg h];rfl
theorem dot_none {l:List UInt8} (h:l.all (fun x=>decide (x≠46))=true):Lib.indexByte l 46=-1:=by rw [Sp.indexByte_tw,if_pos h]
theorem dot_some {l:List UInt8} (h:¬ l.all (fun x=>decide (x≠46))=true):0≤Lib.indexByte l 46:=by rw [Sp.indexByte_tw,if_neg h];omega
theorem num_quad {l:List UInt8} (h:¬ l.all (fun x=>decide (x≠46))=true):Sp.numV l=Sp.quadF 3 0 l:=by
 unfold Sp.numV;rw [if_pos (by simpa using h)]
theorem num_hex {l:List UInt8} (h:l.all (fun x=>decide (x≠46))=true) (h2:l.take 2=[48,120]):Sp.numV l=Sp.basedV 16 8 (l.drop 2):=by
 unfold Sp.numV;rw [if_neg (by rw [h];simp),if_pos h2]
theorem num_bin {l:List UInt8} (h:l.all (fun x=>decide (x≠46))=true) (h2:l.take 2=[48,98]):Sp.numV l=Sp.basedV 2 32 (l.drop 2):=by
 unfold Sp.numV;rw [if_neg (by rw [h];simp),if_neg (by rw [h2];decide),if_pos h2]
theorem num_dec {l:List UInt8} (h:l.all (fun x=>decide (x≠46))=true) (h1:l.take 2≠[48,120]) (h2:l.take 2≠[48,98]):Sp.numV l=Sp.decV 4294967295 l:=by
 unfold Sp.numV;rw [if_neg (by rw [h];simp),if_neg h1,if_neg h2]
theorem decFrom_digits:∀ (l:List UInt8) (n:Nat),l.all (fun c=>decide (48≤c.toNat∧c.toNat≤57))=true→Lib.decFrom n l=some (Sp.digitsV 10 n l)
 | [],n,_=>rfl
 | c :: r,n,h=>by
  rw [List.all_cons,Bool.and_eq_true,decide_eq_true_eq] at h;have hd:Lib.digitVal c=some (c.toNat - 48):=by unfold Lib.digitVal;rw [if_pos h.1]
  unfold Lib.decFrom Sp.digitsV;rw [hd];simp only [];rw [decFrom_digits r _ h.2,hexv_digit c h.1.1 h.1.2,Nat.mul_comm]
theorem atoi_digits {l:List UInt8} (h0:l≠[]) (h:l.all (fun c=>decide (48≤c.toNat∧c.toNat≤57))=true):Lib.atoi l=some ((Sp.digitsV 10 0 l:Nat):Int):=by
 match l,h0 with
 | c :: r,_=>
  have hc:48≤c.toNat∧c.toNat≤57:=by
   rw [List.all_cons,Bool.and_eq_true,decide_eq_true_eq] at h;exact h.1
  have e1:(c == 45)=false:=by
   rw [beq_eq_false_iff_ne];rintro rfl;exact absurd hc.1 (by decide)
  have e2:(c == 43)=false:=by
   rw [beq_eq_false_iff_ne];rintro rfl;exact absurd hc.1 (by decide)
  simp only [Lib.atoi,Lib.decNat,e1,e2,List.isEmpty_cons,Bool.false_eq_true,if_false];rw [decFrom_digits _ _ h];rfl
theorem digits_10 {l:List UInt8} (h:l.all (fun c=>decide (48≤c.toNat∧c.toNat≤57))=true) (hl:l.length≤10):Sp.digitsV 10 0 l<10000000000:=by
 have h2:l.all (fun c=>decide (Sp.hexv c<10))=true:=by
  rw [List.all_eq_true] at h ⊢;intro c hc;have:=h c hc;simp only [decide_eq_true_eq] at this ⊢;rw [hexv_digit c this.1 this.2];omega
 have:=Sp.digitsV_lt 10 (by omega) l h2 10 hl;have e:(10:Nat) ^ 10=10000000000:=by decide
 omega
theorem scan_decimal (s:ByteArray) (top:Nat) (w:World) (hs:s.size≤1073741824) (ht:top≤4294967295):
  Calls Tryz.prog 135 #[.string s,.int .i64 top] w fun e w'=>e=.returned (okV (Sp.decV top s.data.toList))∧Below w.heap.size w w':=by
 have hsl:=Lib.size_eq s;have hsT:s.toList=s.data.toList:=Lib.toList_data s;have hp:=scan_plain s DIG w (by omega) (by decide) (by decide);rw [digits_all] at hp;by_cases h0:s.size=0
 ·have hv:Sp.decV top s.data.toList=none:=by unfold Sp.decV;rw [if_pos (Or.inl (by omega))]
  rw [okV_none hv];have q0:s.toList.isEmpty=true:=by rw [hsT,List.isEmpty_iff];exact List.length_eq_zero_iff.1 (by omega)
  clear hsl hsT hp hv h0;go_enter Tryz.func135,Tryz.ntmps135;go_wp2;go_ret2;exact⟨rfl,Below.refl _ _⟩
 have q0:s.toList.isEmpty=false:=by
  rw [hsT,Bool.eq_false_iff];intro h;rw [List.isEmpty_iff] at h;rw [h] at hsl;exact h0 hsl
 by_cases h1:10<s.size
 ·have hv:Sp.decV top s.data.toList=none:=by unfold Sp.decV;rw [if_pos (Or.inr (Or.inl (by omega)))]
  rw [okV_none hv];have q1:decide ((s.size:Int) > 10)=true:=dT;clear hsl hsT hp hv h0;go_enter Tryz.func135,Tryz.ntmps135;go_wp2;go_ret2;exact⟨rfl,Below.refl _ _⟩
 have q1:decide ((s.size:Int) > 10)=false:=dF;by_cases h2:s.data.toList.all (fun c=>decide (48≤c.toNat∧c.toNat≤57))=true
 ·rw [h2] at hp;have HP:=hid hp;have hpos:0<s.size:=by omega
  have hpos':(0:Int)<s.size:=by omega
  have hhd:s.data.toList.head?=some (s[0]'hpos):=by
   have h2:=Sp.drop_cons s 0 hpos;rw [List.drop_zero] at h2;rw [h2];rfl
  have hat:=atoi_digits (l:=s.data.toList) (by intro e;rw [e] at hsl;exact h0 hsl) h2;have h10:=digits_10 h2 (by omega);have hA:=fun W=>Tryz.strconv_Atoi s _ (by omega) hat W
  have hone:s.size=1→(s[0]'hpos).toNat=48→s.toList=[48]:=by
   intro e1 e2;rw [hsT];have h3:=Sp.drop_cons s 0 hpos;rw [List.drop_zero] at h3;rw [h3,List.drop_eq_nil_of_le (by omega),UInt8.toNat_inj.1 (show (s[0]'hpos).toNat=(48:UInt8).toNat from e2)]
  have hmore:s.size≠1→s.toList≠[48]:=by
   intro e1 e2;rw [← hsT,e2] at hsl;exact e1 hsl
  by_cases h3:1<s.size∧(s[0]'hpos).toNat=48
  ·have hv:Sp.decV top s.data.toList=none:=by
    unfold Sp.decV;rw [if_pos (Or.inr (Or.inr (Or.inr ⟨by omega,by rw [hhd];exact congrArg some (UInt8.toNat_inj.1 h3.2)⟩)))]
   rw [okV_none hv];have q2:(((s[0]'hpos).toNat:Int) == 48)=true:=beq_iff_eq.2 (by omega);(have q3:(s.toList != [48])=true:=by rw [bne_iff_ne];exact hmore (by omega));(have q4:(s.toList == [48])=false:=by rw [beq_eq_false_iff_ne];exact hmore (by omega));clear hsl hsT hp hv h0 h1 h2 hhd hat h10 hA hone hmore h3;go_enter Tryz.func135,Tryz.ntmps135
   go_wp2_with (go_at_call 141;refine HP.out.mono ?_;rintro e w1 ⟨rfl,hb1⟩)
   go_ret2;exact⟨rfl,by assumption⟩
  have hd:Sp.decV top s.data.toList=if top<Sp.digitsV 10 0 s.data.toList then none else some (Sp.digitsV 10 0 s.data.toList):=dec_some (by
   rintro (h | h | h | h)
   ·omega
   ·omega
   ·rw [h2] at h;cases h
   ·refine h3 ⟨by omega,?_⟩;have h4:=h.2;rw [hhd] at h4;(injection h4 with h4);rw [h4]
    rfl)
  obtain⟨N,hN⟩:∃ N:Nat,Sp.digitsV 10 0 s.data.toList=N:=⟨_,rfl⟩
  rw [hN] at hd h10 hA
  obtain⟨V,hV⟩:∃ V:Int,(N:Int)=V:=⟨_,rfl⟩
  have hV0:0≤V:=by omega
  have hV1:V<10000000000:=by omega
  rw [hV] at hA;have HA:=hid hA;by_cases ht2:top<N
  ·rw [if_pos ht2] at hd;rw [okV_none hd];have q6:decide (V > (top:Int))=true:=dT;by_cases h5:(s[0]'hpos).toNat=48
   ·have q2:(((s[0]'hpos).toNat:Int) == 48)=true:=beq_iff_eq.2 (by omega);(have q4:(s.toList == [48])=true:=by rw [beq_iff_eq];exact hone (by omega) h5);(have q3:(s.toList != [48])=false:=by rw [bne_eq_false_iff_eq];exact hone (by omega) h5);clear hsl hsT hp h0 h1 h2 hhd hat h10 hA hone hmore h3 hd hN hV h5;go_enter Tryz.func135,Tryz.ntmps135
    go_wp2_with (first | (go_at_call 141;refine HP.out.mono ?_;rintro e w1 ⟨rfl,hb1⟩) | (go_at_call 143;refine (HA.out _).mono ?_;rintro e w2 ⟨rfl,t,rfl⟩))
    go_ret2;exact⟨rfl,hb1.trans ((Lib.bytesWorld_below _ _ _).mono hb1.size)⟩
   ·have q2:(((s[0]'hpos).toNat:Int) == 48)=false:=beq_eq_false_iff_ne.2 (by omega);clear hsl hsT hp h0 h1 h2 hhd hat h10 hA hone hmore h3 hd hN hV h5;go_enter Tryz.func135,Tryz.ntmps135
    go_wp2_with (first | (go_at_call 141;refine HP.out.mono ?_;rintro e w1 ⟨rfl,hb1⟩) | (go_at_call 143;refine (HA.out _).mono ?_;rintro e w2 ⟨rfl,t,rfl⟩))
    go_ret2;exact⟨rfl,hb1.trans ((Lib.bytesWorld_below _ _ _).mono hb1.size)⟩
  ·rw [if_neg ht2] at hd;rw [okV_some hd,hV];have q6:decide (V > (top:Int))=false:=dF;by_cases h5:(s[0]'hpos).toNat=48
   ·have q2:(((s[0]'hpos).toNat:Int) == 48)=true:=beq_iff_eq.2 (by omega);(have q4:(s.toList == [48])=true:=by rw [beq_iff_eq];exact hone (by omega) h5);(have q3:(s.toList != [48])=false:=by rw [bne_eq_false_iff_eq];exact hone (by omega) h5);clear hsl hsT hp h0 h1 h2 hhd hat h10 hA hone hmore h3 hd hN hV h5;go_enter Tryz.func135,Tryz.ntmps135
    go_wp2_with (first | (go_at_call 141;refine HP.out.mono ?_;rintro e w1 ⟨rfl,hb1⟩) | (go_at_call 143;refine (HA.out _).mono ?_;rintro e w2 ⟨rfl,t,rfl⟩))
    go_ret2;exact⟨rfl,hb1.trans ((Lib.bytesWorld_below _ _ _).mono hb1.size)⟩
   ·have q2:(((s[0]'hpos).toNat:Int) == 48)=false:=beq_eq_false_iff_ne.2 (by omega);clear hsl hsT hp h0 h1 h2 hhd hat h10 hA hone hmore h3 hd hN hV h5;go_enter Tryz.func135,Tryz.ntmps135
    go_wp2_with (first | (go_at_call 141;refine HP.out.mono ?_;rintro e w1 ⟨rfl,hb1⟩) | (go_at_call 143;refine (HA.out _).mono ?_;rintro e w2 ⟨rfl,t,rfl⟩))
    go_ret2;exact⟨rfl,hb1.trans ((Lib.bytesWorld_below _ _ _).mono hb1.size)⟩
 ·have hv:Sp.decV top s.data.toList=none:=by unfold Sp.decV;rw [if_pos (Or.inr (Or.inr (Or.inl (by simpa using h2))))]
  rw [okV_none hv];have h2':s.data.toList.all (fun c=>decide (48≤c.toNat∧c.toNat≤57))=false:=by simpa using h2
  rw [h2'] at hp;have HP:=hid hp;clear hsl hsT hp hv h0 h1 h2 h2';go_enter Tryz.func135,Tryz.ntmps135
  go_wp2_with (go_at_call 141;refine HP.out.mono ?_;rintro e w1 ⟨rfl,hb1⟩)
  go_ret2;exact⟨rfl,by assumption⟩
theorem ret_v {a b:Value} (h:a=b):Ending.returned a=.returned b:=by rw [h]
theorem ofInt_i64 (a:Nat) (ha:a<9223372036854775808):(BitVec.ofInt 64 (a:Int)).toNat=a:=by
 rw [BitVec.ofInt_natCast,BitVec.toNat_ofNat];exact Nat.mod_eq_of_lt (by omega)
theorem i64_or_nat (a b:Nat) (ha:a<9223372036854775808) (hb:b<9223372036854775808):bits .or .i64 (a:Int) (b:Int)=((a ||| b:Nat):Int):=by
 have hx:a ||| b<2 ^ 63:=Nat.or_lt_two_pow (by omega) (by omega)
 show IntKind.i64.wrap ((BitVec.ofInt 64 (a:Int) ||| BitVec.ofInt 64 (b:Int)).toNat:Int)=_;rw [BitVec.toNat_or,ofInt_i64 a ha,ofInt_i64 b hb,IntKind.wrap_i64];omega
theorem or_256 (a b:Nat) (ha:a<4294967296) (hb:b<256):bits .or .i64 ((256 * a:Nat):Int) (b:Int)=((256 * a+b:Nat):Int):=by
 rw [i64_or_nat _ _ (by omega) (by omega)];have:=Nat.two_pow_add_eq_or_of_lt (i:=8) (b:=b) (by omega) a;rw [show (2:Nat) ^ 8=256 by decide] at this;rw [this]
def DOT:ByteArray:=⟨#[46]⟩
def partsOf (s:ByteArray):List ByteArray:=Lib.splitB DOT 0 (Lib.countB s DOT) s
theorem dot_index (s:ByteArray):Lib.indexB s DOT=Lib.indexByte s.data.toList 46:=Lib.index_one _ _
theorem parts_none {s:ByteArray} (h:s.data.toList.all (fun x=>decide (x≠46))=true):partsOf s=[s]∧Lib.countB s DOT=0:=by
 have hi:Lib.indexB s DOT=-1:=by rw [dot_index,dot_none h]
 have hc:=Lib.countB_miss s DOT hi;exact⟨by unfold partsOf;rw [hc];rfl,hc⟩
theorem parts_some {s:ByteArray} (h:¬ s.data.toList.all (fun x=>decide (x≠46))=true) {p:Nat} (hp:(s.data.toList.takeWhile (fun x=>decide (x≠46))).length=p):
  partsOf s=s.extract 0 p :: partsOf (s.extract (p+1) s.size)∧Lib.countB s DOT=Lib.countB (s.extract (p+1) s.size) DOT+1:=by
 have hi:Lib.indexB s DOT=p:=by rw [dot_index,Sp.indexByte_tw,if_neg h,hp]
 have hc:=Lib.countB_hit s DOT p (by decide) hi;have e1:DOT.size=1:=rfl;rw [e1,Nat.add_comm] at hc;refine⟨?_,hc⟩;unfold partsOf;rw [hc,Lib.splitB_hit DOT 0 _ s p hi,e1,Nat.add_zero]
theorem parts_len:∀ (n:Nat) (s:ByteArray),s.size≤n→(partsOf s).length=Lib.countB s DOT+1
 | n,s,hn=>by
  by_cases h:s.data.toList.all (fun x=>decide (x≠46))=true
  ·obtain⟨h1,h2⟩:=parts_none h;rw [h1,h2];rfl
  ·obtain⟨h1,h2⟩:=parts_some h rfl;have hlt:=Sp.tw_lt (fun x=>decide (x≠46)) _ h;rw [← Lib.size_eq] at hlt;rw [h1,h2,List.length_cons]
   match n,hn with
   | 0,hn=>omega
   | n+1,hn=>rw [parts_len n _ (by rw [ByteArray.size_extract];omega)]
def foldQ:Nat→List ByteArray→Option Nat
 | n,[]=>some n
 | n,p :: r=>match Sp.decV 255 p.data.toList with | none=>none | some v=>foldQ (256 * n+v) r
theorem quad_parts:∀ (k n:Nat) (s:ByteArray),((partsOf s).length=k+1→Sp.quadF k n s.data.toList=foldQ n (partsOf s))∧((partsOf s).length≠k+1→Sp.quadF k n s.data.toList=none):=by
 intro k
 induction k with
 | zero=>
  intro n s;by_cases h:s.data.toList.all (fun x=>decide (x≠46))=true
  ·obtain⟨h1,h2⟩:=parts_none h;rw [h1];refine⟨fun _=>?_,fun h=>absurd rfl h⟩;simp only [Sp.quadF,foldQ]
   cases Sp.decV 255 s.data.toList <;> rfl
  ·obtain⟨h1,h2⟩:=parts_some h rfl;have hne:∀ S,1≤(partsOf S).length:=fun S=>by rw [parts_len _ S (Nat.le_refl _)];omega
   have hdec:Sp.decV 255 s.data.toList=none:=by
    unfold Sp.decV;rw [if_pos];refine Or.inr (Or.inr (Or.inl ?_));(have h':s.data.toList.all (fun x=>decide (x≠46))=false:=by simpa using h);rw [List.all_eq_false] at h' ⊢;obtain⟨c,hc1,hc2⟩:=h';refine⟨c,hc1,?_⟩;(have:c=46:=by simpa using hc2);subst this;decide
   refine⟨fun hl=>?_,fun _=>by simp only [Sp.quadF,hdec]⟩;rw [h1,List.length_cons] at hl;have:=hne (s.extract ((s.data.toList.takeWhile (fun x=>decide (x≠46))).length+1) s.size);omega
 | succ k ih=>
  intro n s;rw [Sp.quadF];by_cases h:s.data.toList.all (fun x=>decide (x≠46))=true
  ·obtain⟨h1,h2⟩:=parts_none h;rw [if_pos h,h1];exact⟨fun hl=>by simp at hl,fun _=>rfl⟩
  ·obtain⟨h1,h2⟩:=parts_some h rfl;rw [if_neg h,h1,List.length_cons,← ext_drop,foldQ,ext_take,tw_take]
   cases hv:Sp.decV 255 (s.data.toList.takeWhile (fun x=>decide (x≠46))) with
   | none=>exact⟨fun _=>rfl,fun _=>rfl⟩
   | some v=>
    obtain⟨i1,i2⟩:=ih (256 * n+v) (s.extract ((s.data.toList.takeWhile (fun x=>decide (x≠46))).length+1) s.size);exact⟨fun hl=>i1 (by omega),fun hl=>i2 (by omega)⟩
theorem parts_size {n:Nat}:∀ (m:Nat) (s:ByteArray),s.size≤m→s.size≤n→∀ p ∈ partsOf s,p.size≤n
 | m,s,hm,hn=>by
  by_cases h:s.data.toList.all (fun x=>decide (x≠46))=true
  ·obtain⟨h1,h2⟩:=parts_none h;rw [h1];intro p hp;rw [List.mem_singleton] at hp;subst hp;exact hn
  ·obtain⟨h1,h2⟩:=parts_some h rfl;have hlt:=Sp.tw_lt (fun x=>decide (x≠46)) _ h;rw [← Lib.size_eq] at hlt;rw [h1];intro p hp;rcases List.mem_cons.1 hp with rfl | hp
   ·rw [ByteArray.size_extract];omega
   ·match m,hm with
    | 0,hm=>omega
    | m+1,hm=>exact parts_size m _ (by rw [ByteArray.size_extract];omega) (by rw [ByteArray.size_extract];omega) p hp
theorem scan_quad (s:ByteArray) (w:World) (hG:Gl w) (hs:s.size≤1073741824):
  Calls Tryz.prog 132 #[.string s] w fun e w'=>e=.returned (okV (Sp.quadF 3 0 s.data.toList))∧Below w.heap.size w w':=by
 obtain⟨m,hm⟩:=hG.maxLen;have hsplit:=Tryz.strings_Split s DOT m w (by omega) hm (by decide);have hlen:=parts_len _ s (Nat.le_refl _);obtain⟨hq1,hq2⟩:=quad_parts 3 0 s;have hpsz:=parts_size (n:=1073741824) _ s (Nat.le_refl _) hs;obtain⟨P,hP⟩:=nM (partsOf s);unfold partsOf at hP;unfold partsOf at hlen hq1 hq2 hpsz;rw [hP] at hsplit hlen hq1 hq2 hpsz;rw [← hlen] at hsplit;clear hm hG;by_cases h4:P.length=4
 ·have hq:=hq1 h4;rw [hq];have q1:((P.length:Int) != 4)=false:=by rw [bne_eq_false_iff_eq];omega
  have hC:(∀ k,(hk:k<P.length)→(w.alloc (.cells (P.map Value.string).toArray 9)).cell? ⟨w.heap.size,k,none⟩=some (.string (P[k]'hk))):=by
   intro k hk;rw [World.cell?_alloc_at _ _ _ _ rfl];simp [hk]
  have hbW:Below w.heap.size w (w.alloc (.cells (P.map Value.string).toArray 9)):=(Below.refl _ _).alloc (Nat.le_refl _) _;have hBs:w.heap.size<(w.alloc (.cells (P.map Value.string).toArray 9)).heap.size:=by simp
  obtain⟨W1,hW1⟩:=nM (w.alloc (.cells (P.map Value.string).toArray 9));rw [hW1] at hsplit hC hbW hBs;have HS:=hid hsplit;have HC:=hid hC;clear hsplit hC hW1;have H4:=hid h4;have HSZ:=hid hpsz;have hlt0:P.length<5:=by omega
  have hlt1:3<P.length:=by omega
  obtain⟨res,hres⟩:∃ r,foldQ 0 P=r:=⟨_,rfl⟩
  rw [hres];have HRES:=hid hres;obtain⟨L,hL⟩:=nM P.length;rw [hL] at hlt0 hlt1 q1;have HL:=hid hL;rw [hL] at HS;clear h4 hpsz hlen hq1 hq2 hP hq hres hL;go_enter Tryz.func132,Tryz.ntmps132
  go_wp2_with (go_at_call 139;refine HS.out.mono ?_;rintro e w1 ⟨rfl,rfl⟩)
  go_loopw [5,7,8,9,17] (fun v5 _ _ _ v17 wr=>Below w1.heap.size w1 wr∧∃ (k N:Nat),v17=.int .i64 (k:Int)∧v5=.int .i64 (N:Int)∧k≤L∧N<256 ^ k∧Hid (foldQ 0 P=foldQ N (P.drop k))) (fun _ _ _ _ v17 _=>L - (intOf v17).toNat)
  case atStart=>exact⟨Below.refl _ _,0,0,rfl,rfl,by omega,by simp,rfl⟩
  case round=>
   obtain⟨hbw,k,N,rfl,rfl,hk,hN,HF⟩:=hrel;have hN2:N<4294967296:=Nat.lt_of_lt_of_le hN (Nat.le_trans (Nat.pow_le_pow_right (by omega) (show k≤4 by omega)) (by decide));have hbelow:Below w.heap.size w wr:=hbW.trans (hbw.mono (by omega));by_cases hlt:k<L
   ·have q2:decide ((k:Int)<(L:Int))=true:=dT;(have hlt':(k:Int)<L:=by omega);(have hkP:k<P.length:=by rw [HL.out];exact hlt);have hcell:wr.cell? ⟨w.heap.size,k,none⟩=some (.string (P[k]'hkP)):=(hbw.cell (p:=⟨w.heap.size,k,none⟩) hBs).trans (HC.out k hkP);have hf:=HF.out;rw [List.drop_eq_getElem_cons hkP,foldQ] at hf;have hsz:=HSZ.out _ (List.getElem_mem hkP);obtain⟨p,hp⟩:=nM (P[k]'hkP);rw [hp] at hcell hf hsz;have hdec:=fun W=>scan_decimal p 255 W (by omega) (by omega)
    cases hv:Sp.decV 255 p.data.toList with
    | none=>
     rw [hv] at hf;simp only [okV_none hv] at hdec;have hr:=okV_none (HRES.out.symm.trans hf);have HR:=hid hr;have HE:=hid hdec;clear hdec hf hr hN hN2 hv hp
     go_wp2_with (go_at_call 135;refine (HE.out _).mono ?_;rintro e w2 ⟨rfl,hb2⟩)
     go_ret2;exact⟨ret_v HR.out.symm,hbelow.trans (hb2.mono hbelow.size)⟩
    | some v=>
     rw [hv] at hf;simp only [okV_some hv] at hdec;have hv255:=decV_le hv;have hor:=or_256 N v (by omega) (by omega);(have hE:((256 * N:Nat):Int)=(N:Int) * 256:=by omega);rw [hE] at hor;have HOR:=hid hor;have HE:=hid hdec;have HF2:Hid (foldQ 0 P=foldQ (256 * N+v) (P.drop (k+1))):=hf;(have hN3:256 * N+v<256 ^ (k+1):=by rw [Nat.pow_succ];omega);clear hdec hf hv hp hor hE
     go_wp2_with (go_at_call 135;refine (HE.out _).mono ?_;rintro e w2 ⟨rfl,hb2⟩)
     go_roundw
     case rel=>exact⟨hbw.trans (hb2.mono hbw.size),k+1,256 * N+v,by rfl,by rw [← HOR.out],by omega,hN3,HF2⟩
     case measure=>simp [intOf];omega
   ·have q2:decide ((k:Int)<(L:Int))=false:=dF;have hf:=HF.out;rw [List.drop_eq_nil_of_le (by rw [HL.out];omega),foldQ] at hf;have HR:=hid (okV_some (HRES.out.symm.trans hf));clear hf hN hN2;go_wp2;go_ret2;exact⟨ret_v HR.out.symm,hbelow⟩
 ·have hq:=hq2 h4;rw [okV_none hq];have q1:((P.length:Int) != 4)=true:=by rw [bne_iff_ne];omega
  have HS:=hid hsplit;clear hsplit h4 hpsz hlen hq1 hq2 hP hq;go_enter Tryz.func132,Tryz.ntmps132
  go_wp2_with (go_at_call 139;refine HS.out.mono ?_;rintro e w1 ⟨rfl,rfl⟩)
  go_ret2;exact⟨rfl,(Below.refl _ _).alloc (Nat.le_refl _) _⟩
theorem prefX (s:ByteArray) (c:UInt8):Lib.hasPrefix s.data.toList [48,c]=decide (s.data.toList.take 2=[48,c]):=by
 rw [Bool.eq_iff_iff,decide_eq_true_eq];unfold Lib.hasPrefix;rw [List.isPrefixOf_iff_prefix,List.prefix_iff_eq_take];constructor
 ·intro h;exact h.symm
 ·intro h;exact h.symm
theorem okV_form (o:Option Nat):∃ (V:Int) (B:Bool),okV o=.tuple #[.int .i64 V,.bool B]:=⟨_,_,rfl⟩
theorem trimX (s:ByteArray) (c:UInt8) (h:s.data.toList.take 2=[48,c]):(⟨(Lib.trimPrefix s.data.toList [48,c]).toArray⟩:ByteArray)=s.extract 2 s.size:=by
 apply ByteArray.ext;apply Array.toList_inj.1;rw [ext_drop];unfold Lib.trimPrefix;rw [prefX,decide_eq_true h,if_pos rfl];rfl
theorem scan_number_quad (s:ByteArray) (w:World) (hG:Gl w) (hs:s.size≤1073741824) (h:¬ s.data.toList.all (fun x=>decide (x≠46))=true):
  Calls Tryz.prog 124 #[.string s] w fun e w'=>e=.returned (okV (Sp.numV s.data.toList))∧Below w.heap.size w w':=by
 have hcon:=fun W=>Tryz.strings_Contains_one s 46 W
 have hd:decide (0≤Lib.indexByte s.data.toList 46)=true:=decide_eq_true (dot_some h);simp only [hd] at hcon;have hq:=fun W (hG:Gl W)=>scan_quad s W hG hs
 rw [num_quad h];obtain⟨V,B,hV⟩:=okV_form (Sp.quadF 3 0 s.data.toList);simp only [hV] at hq ⊢;have HCON:=hid hcon;have HQ:=hid hq;have HG:=hid hG;clear hcon hd hq hV hG h;go_enter Tryz.func124,Tryz.ntmps124
 go_wp2_with (first | (go_at_call 86;refine (HCON.out _).mono ?_;rintro e w1 ⟨rfl,rfl⟩) | (go_at_call 132;refine (HQ.out _ HG.out).mono ?_;rintro e w2 ⟨rfl,hb2⟩))
 go_ret2;exact⟨rfl,by assumption⟩
theorem scan_number (s:ByteArray) (w:World) (hG:Gl w) (hs:s.size≤1073741824):
  Calls Tryz.prog 124 #[.string s] w fun e w'=>e=.returned (okV (Sp.numV s.data.toList))∧Below w.heap.size w w':=by
 by_cases h:s.data.toList.all (fun x=>decide (x≠46))=true
 ·have hcon:=fun W=>Tryz.strings_Contains_one s 46 W
  have hd:decide (0≤Lib.indexByte s.data.toList 46)=false:=by rw [dot_none h];decide
  simp only [hd] at hcon;have HCON:=hid hcon;have hcx:=fun W=>Tryz.strings_CutPrefix s ⟨#[48,120]⟩ W
  have hcb:=fun W=>Tryz.strings_CutPrefix s ⟨#[48,98]⟩ W
  have hsz:(s.extract 2 s.size).size≤1073741824:=by rw [ByteArray.size_extract];omega
  by_cases hx:s.data.toList.take 2=[48,120]
  ·have hp:Lib.hasPrefix s.data.toList [48,120]=true:=by rw [prefX,decide_eq_true hx]
   have ht:=trimX s 120 hx;simp only [hp,ht] at hcx;(have hB:=fun W (hG:Gl W)=>scan_based (s.extract 2 s.size) 16 8 W hG hsz (by omega) (by omega));rw [num_hex h hx];rw [ext_drop] at hB;obtain⟨V,B,hV⟩:=okV_form (Sp.basedV 16 8 (s.data.toList.drop 2));have hV':okV (Sp.basedV 16 (Int.toNat 8) (s.data.toList.drop 2))=.tuple #[.int .i64 V,.bool B]:=hV;simp only [hV,hV'] at hB ⊢;have HX:=hid hcx;have HB:=hid hB;have HG:=hid hG;clear hcon hd hcx hcb hB hV hV' hG h hx hp ht hsz;go_enter Tryz.func124,Tryz.ntmps124
   go_wp2_with (first | (go_at_call 86;refine (HCON.out _).mono ?_;rintro e w1 ⟨rfl,rfl⟩) | (go_at_call 133;refine (HX.out _).mono ?_;rintro e w2 ⟨rfl,rfl⟩) | (go_at_call 134;refine (HB.out _ HG.out).mono ?_;rintro e w3 ⟨rfl,hb3⟩))
   go_ret2;exact⟨rfl,by assumption⟩
  have hp:Lib.hasPrefix s.data.toList [48,120]=false:=by rw [prefX,decide_eq_false hx]
  simp only [hp] at hcx
  obtain⟨t,ht⟩:∃ t:ByteArray,(⟨(Lib.trimPrefix s.data.toList [48,120]).toArray⟩:ByteArray)=t:=⟨_,rfl⟩
  simp only [ht] at hcx;have HX:=hid hcx;clear hcx hp ht
  by_cases hx2:s.data.toList.take 2=[48,98]
  ·have hp:Lib.hasPrefix s.data.toList [48,98]=true:=by rw [prefX,decide_eq_true hx2]
   have ht:=trimX s 98 hx2;simp only [hp,ht] at hcb;(have hB:=fun W (hG:Gl W)=>scan_based (s.extract 2 s.size) 2 32 W hG hsz (by omega) (by omega));rw [num_bin h hx2];rw [ext_drop] at hB;obtain⟨V,B,hV⟩:=okV_form (Sp.basedV 2 32 (s.data.toList.drop 2));have hV':okV (Sp.basedV 2 (Int.toNat 32) (s.data.toList.drop 2))=.tuple #[.int .i64 V,.bool B]:=hV;simp only [hV,hV'] at hB ⊢;have HY:=hid hcb;have HB:=hid hB;have HG:=hid hG;clear hcon hd hcb hB hV hV' hG h hx hp ht hsz hx2;go_enter Tryz.func124,Tryz.ntmps124
   go_wp2_with (first | (go_at_call 86;refine (HCON.out _).mono ?_;rintro e w1 ⟨rfl,rfl⟩;have tok1:True:=trivial) | (go_at_call 133;have _t:=tok1;refine (HX.out _).mono ?_;clear tok1 _t;rintro e w2 ⟨rfl,rfl⟩) | (go_at_call 133;refine (HY.out _).mono ?_;rintro e w2 ⟨rfl,rfl⟩) | (go_at_call 134;refine (HB.out _ HG.out).mono ?_;rintro e w3 ⟨rfl,hb3⟩))
   go_ret2;exact⟨rfl,by assumption⟩
  have hp:Lib.hasPrefix s.data.toList [48,98]=false:=by rw [prefX,decide_eq_false hx2]
  simp only [hp] at hcb
  obtain⟨t2,ht2⟩:∃ t:ByteArray,(⟨(Lib.trimPrefix s.data.toList [48,98]).toArray⟩:ByteArray)=t:=⟨_,rfl⟩
  simp only [ht2] at hcb;have HY:=hid hcb;have hB:=fun W=>scan_decimal s 4294967295 W hs (by omega)
  rw [num_dec h hx hx2];obtain⟨V,B,hV⟩:=okV_form (Sp.decV 4294967295 s.data.toList);simp only [hV] at hB ⊢;have HB:=hid hB;clear hcon hd hcb hB hV hG h hx hp hsz hx2 ht2;go_enter Tryz.func124,Tryz.ntmps124
  go_wp2_with (first | (go_at_call 86;refine (HCON.out _).mono ?_;rintro e w1 ⟨rfl,rfl⟩;have tok1:True:=trivial) | (go_at_call 133;have _t:=tok1;refine (HX.out _).mono ?_;clear tok1 _t;rintro e w2 ⟨rfl,rfl⟩) | (go_at_call 133;refine (HY.out _).mono ?_;rintro e w2 ⟨rfl,rfl⟩) | (go_at_call 135;refine (HB.out _).mono ?_;rintro e w3 ⟨rfl,hb3⟩))
  go_ret2;exact⟨rfl,by assumption⟩
 ·exact scan_number_quad s w hG hs h
end Go.Proofs.YtedfppbnkgffcaaGreatDoor
