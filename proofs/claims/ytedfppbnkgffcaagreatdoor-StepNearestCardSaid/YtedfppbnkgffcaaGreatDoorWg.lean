/-
 What the walks want of the package-level variables; THE WALKS of scan.loose and scan.plain (chapter 3).
-/
import Derived.Test.YtedfppbnkgffcaaGreatDoorWa
import Derived.Test.YtedfppbnkgffcaaGreatDoorPa
import Derived.Test.YtedfppbnkgffcaaGreatDoorShelf
import Derived.Shelf.Strings.SlTrimAscii
set_option linter.unusedVariables false
set_option linter.unusedSimpArgs false
set_option maxRecDepth 100000
set_option maxHeartbeats 2000000
namespace Go.Proofs.YtedfppbnkgffcaaGreatDoor
open Go.RowKit
open Go.Lib (hid)
structure Gl (w:World):Prop where
 tabs:Lib.Utf8Tabs 4 5 w
 syn:∃ ev,w.cell? ⟨6,0,none⟩=some ev∧(ev=.nilIface∨∃ te pe,ev=.iface te pe)
 ran:∃ ev,w.cell? ⟨7,0,none⟩=some ev∧(ev=.nilIface∨∃ te pe,ev=.iface te pe)
 maxLen:∃ m,w.cell? ⟨2,0,none⟩=some (.int .i64 m)
theorem cell_below {w w':World} {a:Addr} {v:Value} (hb:Below w.heap.size w w') (h:w.cell? a=some v):w'.cell? a=some v:=by
 have hlt:a.block<w.heap.size:=Lib.lt_of_cell h;exact (hb.cell hlt).trans h
theorem Gl.below {w w':World} (h:Gl w) (hb:Below w.heap.size w w'):Gl w' where
 tabs:=Utf8Tabs_below h.tabs hb
 syn:=let ⟨ev,h1,h2⟩:=h.syn;⟨ev,cell_below hb h1,h2⟩
 ran:=let ⟨ev,h1,h2⟩:=h.ran;⟨ev,cell_below hb h1,h2⟩
 maxLen:=let ⟨m,h1⟩:=h.maxLen;⟨m,cell_below hb h1⟩
theorem below_drewN' {B:Nat} {a w:World} (h:Below B a w) (n:Nat):Below B a (w.drewN n):=⟨h.os,h.tape,h.output,h.size,h.block⟩
theorem ret_pair {a b:Value} {x y:Value} (h1:a=x) (h2:b=y):Ending.returned (.tuple #[a,b])=.returned (.tuple #[x,y]):=by rw [h1,h2]
theorem decode_rest (s:ByteArray) (n:Nat) (w:World) (hG:Gl w) (hn:n<s.size):
  Calls Tryz.prog 105 #[.string (s.extract n s.size)] w fun e w'=>e=.returned (.tuple #[.int .i32 (Sp.dec (s.data.toList.drop n)).1,.int .i64 (Sp.dec (s.data.toList.drop n)).2])∧Below w.heap.size w w':=by
 refine (Tryz.utf8_DecodeRuneInString _ w hG.tabs).mono ?_;rintro e w' ⟨rfl,hb⟩;have hsz:(s.extract n s.size).size=s.size - n:=by rw [ByteArray.size_extract];omega
 have h1:Lib.decodeGo (s.extract n s.size)=Sp.dec (s.data.toList.drop n):=by
  unfold Lib.decodeGo;rw [if_neg (by omega),Sp.dec_at,List.drop_zero,Lib.extract_data,List.take_of_length_le];rw [List.length_drop,← Lib.size_eq];omega
 rw [h1];exact⟨rfl,hb⟩
theorem scan_loose (s:ByteArray) (i:Int) (w:World) (hG:Gl w) (h0:0≤i) (h1:i<s.size) (hs:s.size≤4611686018427387904):
  Calls Tryz.prog 137 #[.string s,.int .i64 i,.int .i32 (Sp.dec (s.data.toList.drop i.toNat)).1] w fun e w'=>e=.returned (.bool (Sp.looseB (s.data.toList.drop i.toNat)))∧Below w.heap.size w w':=by
 obtain⟨n,rfl⟩:=Int.eq_ofNat_of_zero_le h0;rw [Int.toNat_natCast];have hd:=decode_rest s n w hG (by omega);have hl:Sp.looseB (s.data.toList.drop n)=((Sp.dec (s.data.toList.drop n)).1 == 65533 && (Sp.dec (s.data.toList.drop n)).2 == 1):=rfl;rw [hl]
 obtain⟨c,hc⟩:∃ c:Nat,(Sp.dec (s.data.toList.drop n)).1=c:=⟨_,rfl⟩
 obtain⟨k,hk⟩:∃ k:Nat,(Sp.dec (s.data.toList.drop n)).2=k:=⟨_,rfl⟩
 rw [hc,hk] at hd;rw [hc,hk];have HD:=hid hd;clear hd hl hc hk
 obtain⟨d,hd⟩:∃ d:Int,(c:Int)=d:=⟨_,rfl⟩
 obtain⟨m,hm⟩:∃ m:Int,(k:Int)=m:=⟨_,rfl⟩
 have hD:=HD.out;rw [hd,hm] at hD;rw [hd];have HD2:=hid hD;have H1:=hid hd;have H2:=hid hm;clear hD HD hd hm;by_cases h3:d=65533
 ·have q:(d != 65533)=false:=by rw [bne_eq_false_iff_eq];exact h3
  have H3:=hid h3;clear h3;go_enter Tryz.func137,Tryz.ntmps137
  go_wp2_with (go_at_call 105;refine HD2.out.mono ?_;rintro e w1 ⟨rfl,hb1⟩)
  go_ret;refine⟨ret_bool ?_,by assumption⟩;have e1:(c == 65533)=true:=beq_iff_eq.2 (by have:=H1.out;have:=H3.out;omega);rw [e1,Bool.true_and,Bool.eq_iff_iff,beq_iff_eq,beq_iff_eq];have:=H2.out;omega
 ·have q:(d != 65533)=true:=by rw [bne_iff_ne];exact h3
  have H3:=hid h3;clear h3;go_enter Tryz.func137,Tryz.ntmps137
  go_wp2_with (go_at_call 105;refine HD2.out.mono ?_;rintro e w1 ⟨rfl,hb1⟩)
  go_ret;refine⟨ret_bool ?_,Below.refl _ _⟩;have e1:(c == 65533)=false:=beq_eq_false_iff_ne.2 (by have:=H1.out;have:=H3.out;omega);rw [e1,Bool.false_and]
theorem dropWhile_nil {p:UInt8→Bool} (l:List UInt8):(l.dropWhile p=[])↔l.all p=true:=by
 induction l with
 | nil=>simp
 | cons c l ih=>
  rw [List.dropWhile_cons,List.all_cons];by_cases h:p c=true
  ·rw [if_pos h,ih,h,Bool.true_and]
  ·rw [if_neg h];simp [h]
theorem dropWhile_head {p:UInt8→Bool}:∀ (l:List UInt8) {c:UInt8} {r:List UInt8},l.dropWhile p=c :: r→p c=false
 | [],c,r,h=>by cases h
 | a :: l,c,r,h=>by
  rw [List.dropWhile_cons] at h;by_cases ha:p a=true
  ·rw [if_pos ha] at h;exact dropWhile_head l h
  ·rw [if_neg ha] at h;(injection h with h1 h2);subst h1;simpa using ha
theorem trimS_nil (l cs:List UInt8):(Lib.trimS l cs=[])↔l.all (cs.contains ·)=true:=by
 unfold Lib.trimS Lib.trimLeftS Lib.trimRightS;rw [dropWhile_nil];constructor
 ·intro h;rcases hr:l.reverse.dropWhile (cs.contains ·) with _ | ⟨c,r⟩
  ·rw [dropWhile_nil,List.all_reverse] at hr;exact hr
  ·exfalso;have h1:cs.contains c=false:=dropWhile_head _ hr;rw [hr,List.all_reverse,List.all_cons,h1] at h;simp at h
 ·intro h;rw [← List.all_reverse,← dropWhile_nil] at h;rw [h];rfl
theorem scan_plain (s cs:ByteArray) (w:World) (hs:s.size≤4611686018427387904) (hcs:cs.size<4294967281) (ha:cs.data.toList.all (fun b=>decide (b.toNat<128))=true):
  Calls Tryz.prog 141 #[.string s,.string cs] w fun e w'=>e=.returned (.bool (s.data.toList.all (cs.data.toList.contains ·)))∧Below w.heap.size w w':=by
 have ht:=Any.strings_Trim_laid Tryz.lays160 (by kernel_rfl) s cs w (by omega) hcs (ascii_of_all ha);have HT:=hid ht;clear ht;go_enter Tryz.func141,Tryz.ntmps141
 go_wp2_with (go_at_call 151;refine HT.out.mono ?_;rintro e w1 ⟨rfl,hb1⟩)
 go_ret;refine⟨ret_bool ?_,by assumption⟩;rw [Bool.eq_iff_iff,List.isEmpty_iff,trimS_nil]
end Go.Proofs.YtedfppbnkgffcaaGreatDoor
