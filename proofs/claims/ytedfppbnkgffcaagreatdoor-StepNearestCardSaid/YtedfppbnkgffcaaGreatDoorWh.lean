/-
 Texts joined: Wh Wi Wj.
-/
import Derived.Test.YtedfppbnkgffcaaGreatDoorWg
import Derived.Lib.ConvBytes
import Derived.Lib.Walk
import Derived.Deep.QuietTactic
import Derived.BigQuiet
set_option linter.unusedVariables false
set_option linter.unusedSimpArgs false
set_option maxRecDepth 100000
set_option maxHeartbeats 8000000
namespace Go.Proofs.YtedfppbnkgffcaaGreatDoor
open Go.RowKit
open Go.Lib (hid)
theorem lower_low (n:Nat) (h:97≤n∧n≤102):bits .or .u8 (n:Int) 32=n:=by
 have:n=97∨n=98∨n=99∨n=100∨n=101∨n=102:=by omega
 rcases this with rfl | rfl | rfl | rfl | rfl | rfl <;> decide
theorem lower_up (n:Nat) (h:65≤n∧n≤70):bits .or .u8 (n:Int) 32=n+32:=by
 have:n=65∨n=66∨n=67∨n=68∨n=69∨n=70:=by omega
 rcases this with rfl | rfl | rfl | rfl | rfl | rfl <;> decide
theorem hexv_cases (c:UInt8) (h:Sp.hexv c<16):(48≤c.toNat∧c.toNat≤57∧Sp.hexv c=c.toNat - 48)∨(97≤c.toNat∧c.toNat≤102∧Sp.hexv c=c.toNat - 87)∨(65≤c.toNat∧c.toNat≤70∧Sp.hexv c=c.toNat - 55):=by
 unfold Sp.hexv at h ⊢;split
 ·rename_i h1;exact Or.inl ⟨h1.1,h1.2,rfl⟩
 ·split
  ·rename_i h1;exact Or.inr (Or.inl ⟨h1.1,h1.2,rfl⟩)
  ·split
   ·rename_i h1;exact Or.inr (Or.inr ⟨h1.1,h1.2,rfl⟩)
   ·exfalso;rename_i h1 h2 h3;rw [if_neg h1,if_neg h2,if_neg h3] at h;omega
def puV (base:Nat) (l:List UInt8):Value:=if l.all (fun c=>decide (Sp.hexv c<base)) then .tuple #[.int .u64 (Sp.digitsV base 0 l:Nat),.nilIface] else .tuple #[.int .u64 0,.iface 228 (.int .i64 2)]
theorem puV_ok {base:Nat} {l:List UInt8} (h:l.all (fun c=>decide (Sp.hexv c<base))=true):puV base l=.tuple #[.int .u64 (Sp.digitsV base 0 l:Nat),.nilIface]:=by unfold puV;rw [if_pos h]
theorem puV_bad {base:Nat} {l:List UInt8} {k:Nat} (hk:k<l.length) (h:¬ Sp.hexv (l[k]'hk)<base):puV base l=.tuple #[.int .u64 0,.iface 228 (.int .i64 2)]:=by
 unfold puV;rw [if_neg];intro hh;exact h (of_decide_eq_true (List.all_eq_true.1 hh _ (List.getElem_mem hk)))
theorem all_snoc {p:UInt8→Bool} {m:List UInt8} {k:Nat} (h:k<m.length) (ha:(m.take k).all p=true) (hx:p (m[k]'h)=true):(m.take (k+1)).all p=true:=by
 rw [List.take_succ_eq_append_getElem h,List.all_append,ha];simp [hx]
theorem parse_uint_16 (t:ByteArray) (hne:t.size≠0) (hmax:t.size≤8) (hx:t.data.toList.all (fun c=>decide (Sp.hexv c<16))=true) (w:World):
  Calls Tryz.prog 152 #[.string t,.int .i64 16,.int .i64 64] w fun e w'=>e=.returned (puV 16 t.data.toList)∧w'=Lib.bytesWorld w 5 t:=by
 have hemp:t.toList.isEmpty=false:=by
  rw [← decide_eq_emptyBytes];exact decide_eq_false (fun h=>hne (by rw [h];rfl))
 have hcv:=Lib.run_convert_string_bytes (P:=Tryz.prog) w 9 125 5 t (u:=.string) Tryz.underlying9 Tryz.underlying125 Tryz.underlying5;have hB:∀ j,j<t.size→(Lib.bytesWorld w 5 t).cell? ⟨w.heap.size,j,none⟩=some (.int .u8 (t.data.toList.getD j 0).toNat):=fun j hj=>Lib.bytesWorld_cell w 5 t j hj
 obtain⟨W1,hW1⟩:∃ W1,W1=Lib.bytesWorld w 5 t:=⟨_,rfl⟩
 rw [← hW1] at hcv hB ⊢;clear hW1
 obtain⟨bs,hL⟩:∃ bs,bs=t.data.toList:=⟨_,rfl⟩
 have hLn:bs.length=t.size:=by rw [hL,Lib.size_eq]
 rw [← hL] at hB hx ⊢;clear hL;have HX:=hid hx;have HL:=hid hLn;have HB:=hid hB;clear hx hLn hB
 have hmv:IntKind.u64.wrap (IntKind.u64.wrap 18446744073709551616 - 1)=18446744073709551615:=by
  rw [IntKind.wrap_u64,IntKind.wrap_u64];decide
 go_enter Tryz.func152,Tryz.ntmps152;go_wp2
 go_loop [12,13,101] (fun vu vn vi=>∃ (k:Nat) (a:Int),vu=.bool false∧vn=.int .u64 a∧vi=.int .i64 k∧k≤t.size∧0≤a∧Hid (a=(Sp.digitsV 16 0 (bs.take k):Nat)∧(bs.take k).all (fun c=>decide (Sp.hexv c<16))=true))
  (fun _ _ vi=>t.size - (intOf vi).toNat)
 case atStart=>exact⟨0,0,rfl,rfl,rfl,by omega,by omega,rfl,rfl⟩
 case round=>
  obtain⟨k,a,rfl,rfl,rfl,hk,ha0,H⟩:=hrel;by_cases hkn:k<t.size
  ·have hkm:k<bs.length:=by have:=HL.out;omega
   have ha1:a≤268435455:=by
    have h1:=Sp.digitsV_lt 16 (by omega) _ H.out.2 7 (by rw [List.length_take];omega);have h2:=H.out.1;(have h3:(16:Nat) ^ 7=268435456:=by decide);omega
   have hc:=HB.out k hkn;(have hget:bs.getD k 0=bs[k]'hkm:=by rw [List.getD_eq_getElem?_getD,List.getElem?_eq_getElem hkm];rfl);have hx16:Sp.hexv (bs[k]'hkm)<16:=of_decide_eq_true (List.all_eq_true.1 HX.out _ (List.getElem_mem hkm));have hcs:=hexv_cases _ hx16;rw [hget] at hc;have hdg:=Sp.digits_snoc 16 bs k hkm;(have hal:=fun hx=>all_snoc (p:=fun c=>decide (Sp.hexv c<16)) hkm H.out.2 hx);(have hbd:=fun hx=>puV_bad (base:=16) hkm hx);obtain⟨c,hce⟩:=nM (bs[k]'hkm);rw [hce] at hc hcs hdg hal hbd;clear hget hx16 hce;obtain⟨x,hxv⟩:=nM (Sp.hexv c);rw [hxv] at hcs hdg hal hbd
   have HN:Hid (x<16→16 * a+x=(Sp.digitsV 16 0 (bs.take (k+1)):Nat)∧(bs.take (k+1)).all (fun c=>decide (Sp.hexv c<16))=true):=by
    intro hh;refine⟨?_,hal (decide_eq_true hh)⟩;rw [hdg,H.out.1];simp
   have HBD:=hid hbd;clear hdg hal hbd hxv
   obtain⟨z,hz⟩:∃ z:Int,(c.toNat:Int)=z:=⟨_,rfl⟩
   have hlow:=lower_low c.toNat;have hup:=lower_up c.toNat;rw [hz] at hc hlow hup;have q95:(z == 95)=false:=beq_eq_false_iff_ne.2 (by omega);rcases hcs with g | g | g
   ·skip
    obtain⟨g1,g2,g3⟩:=g;(have hz1:48≤z:=by omega);(have hz2:z≤57:=by omega);(have hxz:(x:Int)=z - 48:=by omega);have p1:decide ((48:Int)≤z)=true:=dT;have p2:decide (z≤57)=true:=dT;have HXZ:=hid hxz;clear hxz g1 g2 g3 hlow hup hz;have e16:decide ((16:Int)≤z - 48)=false:=dF
    (go_wp2_with (go_at_call 165;refine (Tryz.internal_strconv_lower _ _).mono ?_;rintro e w' ⟨rfl,rfl⟩));all_goals (try (exfalso;omega))
    refine⟨⟨k+1,16 * a+(z - 48),rfl,(by first | rfl | (congr 1;omega)),(by first | rfl | (congr 1;omega)),by omega,by omega,?_⟩,by simp [intOf];omega⟩;have h1:=HN.out (by have:=HXZ.out;omega);rw [HXZ.out] at h1;exact h1
   ·skip
    obtain⟨g1,g2,g3⟩:=g;(have hz1:97≤z:=by omega);(have hz2:z≤102:=by omega);(have hxz:(x:Int)=z - 97+10:=by omega);have p1:decide ((48:Int)≤z)=true:=dT;have p2:decide (z≤57)=false:=dF;have p3:decide ((97:Int)≤z)=true:=dT;have p4:decide (z≤122)=true:=dT;have hlw:=hlow ⟨by omega,by omega⟩;have HXZ:=hid hxz;clear hxz g1 g2 g3 hlow hup hz;have e16:decide ((16:Int)≤z - 97+10)=false:=dF
    (go_wp2_with (go_at_call 165;refine (Tryz.internal_strconv_lower _ _).mono ?_;rintro e w' ⟨rfl,rfl⟩));all_goals (try (exfalso;omega))
    refine⟨⟨k+1,16 * a+(z - 97+10),rfl,(by first | rfl | (congr 1;omega)),(by first | rfl | (congr 1;omega)),by omega,by omega,?_⟩,by simp [intOf];omega⟩;have h1:=HN.out (by have:=HXZ.out;omega);rw [HXZ.out] at h1;exact h1
   ·skip
    obtain⟨g1,g2,g3⟩:=g;(have hz1:65≤z:=by omega);(have hz2:z≤70:=by omega);(have hxz:(x:Int)=z+32 - 97+10:=by omega);have p1:decide ((48:Int)≤z)=true:=dT;have p2:decide (z≤57)=false:=dF;have p3:decide ((97:Int)≤z+32)=true:=dT;have p4:decide (z+32≤122)=true:=dT;have hlw:=hup ⟨by omega,by omega⟩;have HXZ:=hid hxz;clear hxz g1 g2 g3 hlow hup hz;have e16:decide ((16:Int)≤z+32 - 97+10)=false:=dF
    (go_wp2_with (go_at_call 165;refine (Tryz.internal_strconv_lower _ _).mono ?_;rintro e w' ⟨rfl,rfl⟩));all_goals (try (exfalso;omega))
    refine⟨⟨k+1,16 * a+(z+32 - 97+10),rfl,(by first | rfl | (congr 1;omega)),(by first | rfl | (congr 1;omega)),by omega,by omega,?_⟩,by simp [intOf];omega⟩;have h1:=HN.out (by have:=HXZ.out;omega);rw [HXZ.out] at h1;exact h1
  ·have hkk:k=t.size:=by omega
   have hv:puV 16 bs=.tuple #[.int .u64 a,.nilIface]:=by
    have h2:=H.out.2;have h1:=H.out.1;rw [hkk,← HL.out,List.take_length] at h1 h2;rw [puV_ok h2,h1]
   have HV:=hid hv;clear hv;subst hkk;go_wp2;go_ret2;exact⟨congrArg Ending.returned HV.out.symm,rfl⟩
theorem parse_uint_2 (t:ByteArray) (hne:t.size≠0) (hmax:t.size≤32) (hx:t.data.toList.all (fun c=>decide (Sp.hexv c<16))=true) (w:World):
  Calls Tryz.prog 152 #[.string t,.int .i64 2,.int .i64 64] w fun e w'=>e=.returned (puV 2 t.data.toList)∧w'=Lib.bytesWorld w 5 t:=by
 have hemp:t.toList.isEmpty=false:=by
  rw [← decide_eq_emptyBytes];exact decide_eq_false (fun h=>hne (by rw [h];rfl))
 have hcv:=Lib.run_convert_string_bytes (P:=Tryz.prog) w 9 125 5 t (u:=.string) Tryz.underlying9 Tryz.underlying125 Tryz.underlying5;have hB:∀ j,j<t.size→(Lib.bytesWorld w 5 t).cell? ⟨w.heap.size,j,none⟩=some (.int .u8 (t.data.toList.getD j 0).toNat):=fun j hj=>Lib.bytesWorld_cell w 5 t j hj
 obtain⟨W1,hW1⟩:∃ W1,W1=Lib.bytesWorld w 5 t:=⟨_,rfl⟩
 rw [← hW1] at hcv hB ⊢;clear hW1
 obtain⟨bs,hL⟩:∃ bs,bs=t.data.toList:=⟨_,rfl⟩
 have hLn:bs.length=t.size:=by rw [hL,Lib.size_eq]
 rw [← hL] at hB hx ⊢;clear hL;have HX:=hid hx;have HL:=hid hLn;have HB:=hid hB;clear hx hLn hB
 have hmv:IntKind.u64.wrap (IntKind.u64.wrap 18446744073709551616 - 1)=18446744073709551615:=by
  rw [IntKind.wrap_u64,IntKind.wrap_u64];decide
 go_enter Tryz.func152,Tryz.ntmps152;go_wp2
 go_loop [12,13,101] (fun vu vn vi=>∃ (k:Nat) (a:Int),vu=.bool false∧vn=.int .u64 a∧vi=.int .i64 k∧k≤t.size∧0≤a∧Hid (a=(Sp.digitsV 2 0 (bs.take k):Nat)∧(bs.take k).all (fun c=>decide (Sp.hexv c<2))=true))
  (fun _ _ vi=>t.size - (intOf vi).toNat)
 case atStart=>exact⟨0,0,rfl,rfl,rfl,by omega,by omega,rfl,rfl⟩
 case round=>
  obtain⟨k,a,rfl,rfl,rfl,hk,ha0,H⟩:=hrel;by_cases hkn:k<t.size
  ·have hkm:k<bs.length:=by have:=HL.out;omega
   have ha1:a≤2147483647:=by
    have h1:=Sp.digitsV_lt 2 (by omega) _ H.out.2 31 (by rw [List.length_take];omega);have h2:=H.out.1;(have h3:(2:Nat) ^ 31=2147483648:=by decide);omega
   have hc:=HB.out k hkn;(have hget:bs.getD k 0=bs[k]'hkm:=by rw [List.getD_eq_getElem?_getD,List.getElem?_eq_getElem hkm];rfl);have hx16:Sp.hexv (bs[k]'hkm)<16:=of_decide_eq_true (List.all_eq_true.1 HX.out _ (List.getElem_mem hkm));have hcs:=hexv_cases _ hx16;rw [hget] at hc;have hdg:=Sp.digits_snoc 2 bs k hkm;(have hal:=fun hx=>all_snoc (p:=fun c=>decide (Sp.hexv c<2)) hkm H.out.2 hx);(have hbd:=fun hx=>puV_bad (base:=2) hkm hx);obtain⟨c,hce⟩:=nM (bs[k]'hkm);rw [hce] at hc hcs hdg hal hbd;clear hget hx16 hce;obtain⟨x,hxv⟩:=nM (Sp.hexv c);rw [hxv] at hcs hdg hal hbd
   have HN:Hid (x<2→2 * a+x=(Sp.digitsV 2 0 (bs.take (k+1)):Nat)∧(bs.take (k+1)).all (fun c=>decide (Sp.hexv c<2))=true):=by
    intro hh;refine⟨?_,hal (decide_eq_true hh)⟩;rw [hdg,H.out.1];simp
   have HBD:=hid hbd;clear hdg hal hbd hxv
   obtain⟨z,hz⟩:∃ z:Int,(c.toNat:Int)=z:=⟨_,rfl⟩
   have hlow:=lower_low c.toNat;have hup:=lower_up c.toNat;rw [hz] at hc hlow hup;have q95:(z == 95)=false:=beq_eq_false_iff_ne.2 (by omega);rcases hcs with g | g | g
   ·skip
    obtain⟨g1,g2,g3⟩:=g;(have hz1:48≤z:=by omega);(have hz2:z≤57:=by omega);(have hxz:(x:Int)=z - 48:=by omega);have p1:decide ((48:Int)≤z)=true:=dT;have p2:decide (z≤57)=true:=dT;have HXZ:=hid hxz;clear hxz g1 g2 g3 hlow hup hz;by_cases hx2:(z - 48:Int)<2
    ·have e16:decide ((2:Int)≤z - 48)=false:=dF
     (go_wp2_with (go_at_call 165;refine (Tryz.internal_strconv_lower _ _).mono ?_;rintro e w' ⟨rfl,rfl⟩));all_goals (try (exfalso;omega))
     refine⟨⟨k+1,2 * a+(z - 48),rfl,(by first | rfl | (congr 1;omega)),(by first | rfl | (congr 1;omega)),by omega,by omega,?_⟩,by simp [intOf];omega⟩;have h1:=HN.out (by have:=HXZ.out;omega);rw [HXZ.out] at h1;exact h1
    ·have e16:decide ((2:Int)≤z - 48)=true:=dT;have hv:=HBD.out (by have:=HXZ.out;omega);have HV:=hid hv;clear hv
     (go_wp2_with (go_at_call 165;refine (Tryz.internal_strconv_lower _ _).mono ?_;rintro e w' ⟨rfl,rfl⟩));all_goals (try (exfalso;omega))
     go_ret2;exact⟨congrArg Ending.returned HV.out.symm,rfl⟩
   ·skip
    obtain⟨g1,g2,g3⟩:=g;(have hz1:97≤z:=by omega);(have hz2:z≤102:=by omega);(have hxz:(x:Int)=z - 97+10:=by omega);have p1:decide ((48:Int)≤z)=true:=dT;have p2:decide (z≤57)=false:=dF;have p3:decide ((97:Int)≤z)=true:=dT;have p4:decide (z≤122)=true:=dT;have hlw:=hlow ⟨by omega,by omega⟩;have HXZ:=hid hxz;clear hxz g1 g2 g3 hlow hup hz;have e16:decide ((2:Int)≤z - 97+10)=true:=dT;have hv:=HBD.out (by have:=HXZ.out;omega);have HV:=hid hv;clear hv
    (go_wp2_with (go_at_call 165;refine (Tryz.internal_strconv_lower _ _).mono ?_;rintro e w' ⟨rfl,rfl⟩));all_goals (try (exfalso;omega))
    go_ret2;exact⟨congrArg Ending.returned HV.out.symm,rfl⟩
   ·skip
    obtain⟨g1,g2,g3⟩:=g;(have hz1:65≤z:=by omega);(have hz2:z≤70:=by omega);(have hxz:(x:Int)=z+32 - 97+10:=by omega);have p1:decide ((48:Int)≤z)=true:=dT;have p2:decide (z≤57)=false:=dF;have p3:decide ((97:Int)≤z+32)=true:=dT;have p4:decide (z+32≤122)=true:=dT;have hlw:=hup ⟨by omega,by omega⟩;have HXZ:=hid hxz;clear hxz g1 g2 g3 hlow hup hz;have e16:decide ((2:Int)≤z+32 - 97+10)=true:=dT;have hv:=HBD.out (by have:=HXZ.out;omega);have HV:=hid hv;clear hv
    (go_wp2_with (go_at_call 165;refine (Tryz.internal_strconv_lower _ _).mono ?_;rintro e w' ⟨rfl,rfl⟩));all_goals (try (exfalso;omega))
    go_ret2;exact⟨congrArg Ending.returned HV.out.symm,rfl⟩
  ·have hkk:k=t.size:=by omega
   have hv:puV 2 bs=.tuple #[.int .u64 a,.nilIface]:=by
    have h2:=H.out.2;have h1:=H.out.1;rw [hkk,← HL.out,List.take_length] at h1 h2;rw [puV_ok h2,h1]
   have HV:=hid hv;clear hv;subst hkk;go_wp2;go_ret2;exact⟨congrArg Ending.returned HV.out.symm,rfl⟩
theorem pub_uint_16 (t:ByteArray) (hne:t.size≠0) (hmax:t.size≤8) (hx:t.data.toList.all (fun c=>decide (Sp.hexv c<16))=true) (w:World):
  Calls Tryz.prog 142 #[.string t,.int .i64 16,.int .i64 64] w fun e w'=>e=.returned (.tuple #[.int .u64 (Sp.digitsV 16 0 t.data.toList:Nat),.nilIface])∧Below w.heap.size w w':=by
 have hI:=parse_uint_16 t hne hmax hx w;rw [puV_ok hx] at hI;have HI:=hid hI;clear hI hx;go_enter Tryz.func142,Tryz.ntmps142
 go_wp2_with (go_at_call 152;refine HI.out.mono ?_;rintro e w1 ⟨rfl,hw⟩)
 go_ret2;exact⟨rfl,Lib.bytesWorld_below _ _ _⟩
theorem pub_uint_2 (t:ByteArray) (hne:t.size≠0) (hmax:t.size≤32) (hx:t.data.toList.all (fun c=>decide (Sp.hexv c<16))=true) (hb:t.data.toList.all (fun c=>decide (Sp.hexv c<2))=true) (w:World):
  Calls Tryz.prog 142 #[.string t,.int .i64 2,.int .i64 64] w fun e w'=>e=.returned (.tuple #[.int .u64 (Sp.digitsV 2 0 t.data.toList:Nat),.nilIface])∧Below w.heap.size w w':=by
 have hI:=parse_uint_2 t hne hmax hx w;rw [puV_ok hb] at hI;have HI:=hid hI;clear hI hx hb;go_enter Tryz.func142,Tryz.ntmps142
 go_wp2_with (go_at_call 152;refine HI.out.mono ?_;rintro e w1 ⟨rfl,hw⟩)
 go_ret2;exact⟨rfl,Lib.bytesWorld_below _ _ _⟩
theorem pub_uint_2_bad (t:ByteArray) (hne:t.size≠0) (hmax:t.size≤32) (hx:t.data.toList.all (fun c=>decide (Sp.hexv c<16))=true) (hb:¬ t.data.toList.all (fun c=>decide (Sp.hexv c<2))=true) (w:World) (hG:Gl w):
  Calls Tryz.prog 142 #[.string t,.int .i64 2,.int .i64 64] w fun e w'=>∃ N,e=.returned (.tuple #[.int .u64 0,.iface 230 (.pointer (some ⟨N,0,none⟩))])∧Below w.heap.size w w':=by
 have hI:=parse_uint_2 t hne hmax hx w
 have hv:puV 2 t.data.toList=.tuple #[.int .u64 0,.iface 228 (.int .i64 2)]:=by
  unfold puV;rw [if_neg hb]
 rw [hv] at hI;have HI:=hid hI;have hb1:=Lib.bytesWorld_below w 5 t;obtain⟨ev,hev,hev2⟩:=(hG.below hb1).syn;have hT:=Tryz.strconv_toError_syntax ⟨#[80,97,114,115,101,85,105,110,116]⟩ t 2 64 ev (Lib.bytesWorld w 5 t) (by omega) hev hev2;have HT:=hid hT;clear hI hx hb hv hT hev hev2;go_enter Tryz.func142,Tryz.ntmps142
 go_wp2_with (first | (go_at_call 152;refine HI.out.mono ?_;rintro e w1 ⟨rfl,rfl⟩) | (go_at_call 153;refine HT.out.mono ?_;rintro e w2 ⟨N,rfl,h1,h2,h3⟩))
 go_ret2;exact⟨N,rfl,hb1.trans (h3.mono hb1.size)⟩
def HEXD:ByteArray:=⟨#[48,49,50,51,52,53,54,55,56,57,97,98,99,100,101,102,65,66,67,68,69,70]⟩
theorem hexd_mem (c:UInt8):HEXD.data.toList.contains c=decide (Sp.hexv c<16):=by
 have h:∀ n,n<256→HEXD.data.toList.contains (UInt8.ofNat n)=decide (Sp.hexv (UInt8.ofNat n)<16):=by decide +kernel
 have:=h c.toNat c.toNat_lt;rw [UInt8.ofNat_toNat] at this;exact this
def okV (o:Option Nat):Value:=.tuple #[.int .i64 (o.getD 0:Nat),.bool o.isSome]
theorem okV_none {o:Option Nat} (h:o=none):okV o=.tuple #[.int .i64 0,.bool false]:=by rw [h];rfl
theorem okV_some {o:Option Nat} {v:Nat} (h:o=some v):okV o=.tuple #[.int .i64 v,.bool true]:=by rw [h];rfl
theorem scan_based_no (t:ByteArray) (base most:Int) (w:World) (hs:t.size≤1073741824) (hm0:0≤most) (hm:most≤1000) (hno:t.size=0∨most<t.size∨¬ t.data.toList.all (fun c=>decide (Sp.hexv c<16))=true):
  Calls Tryz.prog 134 #[.string t,.int .i64 base,.int .i64 most] w fun e w'=>e=.returned (.tuple #[.int .i64 0,.bool false])∧Below w.heap.size w w':=by
 have hp:=scan_plain t HEXD w (by omega) (by decide) (by decide)
 have hpl:t.data.toList.all (HEXD.data.toList.contains ·)=t.data.toList.all (fun c=>decide (Sp.hexv c<16)):=by
  congr 1;funext c;exact hexd_mem c
 rw [hpl] at hp;have HP:=hid hp;clear hp hpl;by_cases h0:t.size=0
 ·have hemp:t.toList.isEmpty=true:=by
   rw [← decide_eq_emptyBytes];exact decide_eq_true (by apply ByteArray.ext;exact Array.eq_empty_of_size_eq_zero h0)
  clear hno h0;go_enter Tryz.func134,Tryz.ntmps134;go_wp2_with fail;go_ret2;exact⟨rfl,Below.refl _ _⟩
 ·have hemp:t.toList.isEmpty=false:=by
   rw [← decide_eq_emptyBytes];exact decide_eq_false (fun h=>h0 (by rw [h];rfl))
  by_cases h1:most<t.size
  ·have q1:decide (most<(t.size:Int))=true:=decide_eq_true h1;clear hno h0 h1;go_enter Tryz.func134,Tryz.ntmps134;go_wp2_with fail;go_ret2;exact⟨rfl,Below.refl _ _⟩
  ·have q1:decide (most<(t.size:Int))=false:=decide_eq_false h1
   have h2:t.data.toList.all (fun c=>decide (Sp.hexv c<16))=false:=by
    rcases hno with h | h | h
    ·exact absurd h h0
    ·exact absurd h h1
    ·simpa using h
   have hp:=HP.out;rw [h2] at hp;have HP2:=hid hp;clear hno h0 h1 h2 hp HP;go_enter Tryz.func134,Tryz.ntmps134
   go_wp2_with (go_at_call 141;refine HP2.out.mono ?_;rintro e w1 ⟨rfl,hb1⟩)
   go_ret2;exact⟨rfl,by assumption⟩
theorem scan_based_16 (t:ByteArray) (most:Int) (w:World) (hm0:0≤most) (hm:most≤8) (h0:t.size≠0) (h1:t.size≤most) (hx:t.data.toList.all (fun c=>decide (Sp.hexv c<16))=true):
  Calls Tryz.prog 134 #[.string t,.int .i64 16,.int .i64 most] w fun e w'=>e=.returned (.tuple #[.int .i64 (Sp.digitsV 16 0 t.data.toList:Nat),.bool true])∧Below w.heap.size w w':=by
 have hp:=scan_plain t HEXD w (by omega) (by decide) (by decide)
 have hpl:t.data.toList.all (HEXD.data.toList.contains ·)=t.data.toList.all (fun c=>decide (Sp.hexv c<16)):=by
  congr 1;funext c;exact hexd_mem c
 rw [hpl,hx] at hp;have HP:=hid hp
 have hemp:t.toList.isEmpty=false:=by
  rw [← decide_eq_emptyBytes];exact decide_eq_false (fun h=>h0 (by rw [h];rfl))
 have q1:decide (most<(t.size:Int))=false:=dF;have hu:=fun W=>pub_uint_16 t h0 (by omega) hx W
 have hlt:=Sp.digitsV_lt 16 (by omega) t.data.toList hx 8 (by rw [← Lib.size_eq];omega);have h8:(16:Nat) ^ 8=4294967296:=by decide
 rw [h8] at hlt
 obtain⟨v,hv⟩:∃ v:Int,((Sp.digitsV 16 0 t.data.toList:Nat):Int)=v:=⟨_,rfl⟩
 have hv0:0≤v:=by omega
 have hv1:v<4294967296:=by omega
 simp only [hv] at hu ⊢;have HU:=hid hu;clear hp hpl h0 hx hu hlt h8 hv;go_enter Tryz.func134,Tryz.ntmps134
 go_wp2_with (first | (go_at_call 141;refine HP.out.mono ?_;rintro e w1 ⟨rfl,hb1⟩) | (go_at_call 142;refine (HU.out _).mono ?_;rintro e w2 ⟨rfl,hb2⟩))
 go_quiet (fail);go_wp2;go_ret2;exact⟨rfl,below_drewN' (hb1.trans (hb2.mono hb1.size)) _⟩
theorem scan_based_2 (t:ByteArray) (most:Int) (w:World) (hm0:0≤most) (hm:most≤32) (h0:t.size≠0) (h1:t.size≤most) (hx:t.data.toList.all (fun c=>decide (Sp.hexv c<16))=true) (hx2:t.data.toList.all (fun c=>decide (Sp.hexv c<2))=true):
  Calls Tryz.prog 134 #[.string t,.int .i64 2,.int .i64 most] w fun e w'=>e=.returned (.tuple #[.int .i64 (Sp.digitsV 2 0 t.data.toList:Nat),.bool true])∧Below w.heap.size w w':=by
 have hp:=scan_plain t HEXD w (by omega) (by decide) (by decide)
 have hpl:t.data.toList.all (HEXD.data.toList.contains ·)=t.data.toList.all (fun c=>decide (Sp.hexv c<16)):=by
  congr 1;funext c;exact hexd_mem c
 rw [hpl,hx] at hp;have HP:=hid hp
 have hemp:t.toList.isEmpty=false:=by
  rw [← decide_eq_emptyBytes];exact decide_eq_false (fun h=>h0 (by rw [h];rfl))
 have q1:decide (most<(t.size:Int))=false:=dF;have hu:=fun W=>pub_uint_2 t h0 (by omega) hx hx2 W
 have hlt:=Sp.digitsV_lt 2 (by omega) t.data.toList hx2 32 (by rw [← Lib.size_eq];omega);have h8:(2:Nat) ^ 32=4294967296:=by decide
 rw [h8] at hlt
 obtain⟨v,hv⟩:∃ v:Int,((Sp.digitsV 2 0 t.data.toList:Nat):Int)=v:=⟨_,rfl⟩
 have hv0:0≤v:=by omega
 have hv1:v<4294967296:=by omega
 simp only [hv] at hu ⊢;have HU:=hid hu;clear hp hpl h0 hx hx2 hu hlt h8 hv;go_enter Tryz.func134,Tryz.ntmps134
 go_wp2_with (first | (go_at_call 141;refine HP.out.mono ?_;rintro e w1 ⟨rfl,hb1⟩) | (go_at_call 142;refine (HU.out _).mono ?_;rintro e w2 ⟨rfl,hb2⟩))
 go_quiet (fail);go_wp2;go_ret2;exact⟨rfl,below_drewN' (hb1.trans (hb2.mono hb1.size)) _⟩
theorem scan_based_2_bad (t:ByteArray) (most:Int) (w:World) (hG:Gl w) (hm0:0≤most) (hm:most≤32) (h0:t.size≠0) (h1:t.size≤most) (hx:t.data.toList.all (fun c=>decide (Sp.hexv c<16))=true) (hx2:¬ t.data.toList.all (fun c=>decide (Sp.hexv c<2))=true):
  Calls Tryz.prog 134 #[.string t,.int .i64 2,.int .i64 most] w fun e w'=>e=.returned (.tuple #[.int .i64 0,.bool false])∧Below w.heap.size w w':=by
 have hp:=scan_plain t HEXD w (by omega) (by decide) (by decide)
 have hpl:t.data.toList.all (HEXD.data.toList.contains ·)=t.data.toList.all (fun c=>decide (Sp.hexv c<16)):=by
  congr 1;funext c;exact hexd_mem c
 rw [hpl,hx] at hp;have HP:=hid hp
 have hemp:t.toList.isEmpty=false:=by
  rw [← decide_eq_emptyBytes];exact decide_eq_false (fun h=>h0 (by rw [h];rfl))
 have q1:decide (most<(t.size:Int))=false:=dF;have hu:=fun W hW=>pub_uint_2_bad t h0 (by omega) hx hx2 W hW
 have HU:=hid hu;have HG:=hid hG;clear hp hpl h0 hx hx2 hu hG;go_enter Tryz.func134,Tryz.ntmps134
 go_wp2_with (first | (go_at_call 141;refine HP.out.mono ?_;rintro e w1 ⟨rfl,hb1⟩) | (go_at_call 142;refine (HU.out _ (HG.out.below hb1)).mono ?_;rintro e w2 ⟨N,rfl,hb2⟩))
 go_quiet (fail);go_wp2;go_ret2;exact⟨rfl,below_drewN' (hb1.trans (hb2.mono hb1.size)) _⟩
theorem scan_based (t:ByteArray) (base:Nat) (most:Int) (w:World) (hG:Gl w) (hs:t.size≤1073741824) (hm0:0≤most) (hm:(base=16∧most≤8)∨(base=2∧most≤32)):
  Calls Tryz.prog 134 #[.string t,.int .i64 base,.int .i64 most] w fun e w'=>e=.returned (okV (Sp.basedV base most.toNat t.data.toList))∧Below w.heap.size w w':=by
 have hlen:t.data.toList.length=t.size:=(Lib.size_eq t).symm;by_cases hno:t.size=0∨most<t.size∨¬ t.data.toList.all (fun c=>decide (Sp.hexv c<16))=true
 ·have hv:Sp.basedV base most.toNat t.data.toList=none:=by
   unfold Sp.basedV;rw [if_pos];rw [hlen];rcases hno with h | h | h
   ·exact Or.inl h
   ·exact Or.inr (Or.inl (by omega))
   ·refine Or.inr (Or.inr ?_);(have hb:base≤16:=by omega);rw [List.all_eq_false];(have h':t.data.toList.all (fun c=>decide (Sp.hexv c<16))=false:=by simpa using h);rw [List.all_eq_false] at h';obtain⟨c,hc1,hc2⟩:=h';refine⟨c,hc1,?_⟩;simp only [decide_eq_true_eq] at hc2 ⊢;omega
  rw [okV_none hv];exact scan_based_no t base most w hs hm0 (by omega) hno
 ·have h0:t.size≠0:=fun h=>hno (Or.inl h)
  have h1:t.size≤most:=by
   by_cases h:most<t.size
   ·exact absurd (Or.inr (Or.inl h)) hno
   ·omega
  have hx:t.data.toList.all (fun c=>decide (Sp.hexv c<16))=true:=by
   by_cases h:t.data.toList.all (fun c=>decide (Sp.hexv c<16))=true
   ·exact h
   ·exact absurd (Or.inr (Or.inr h)) hno
  rcases hm with⟨rfl,hm⟩ | ⟨rfl,hm⟩
  ·have hv:Sp.basedV 16 most.toNat t.data.toList=some (Sp.digitsV 16 0 t.data.toList):=by
    unfold Sp.basedV;rw [if_neg];rw [hlen,hx];rintro (h | h | h)
    ·exact h0 h
    ·omega
    ·cases h
   rw [okV_some hv];exact scan_based_16 t most w hm0 hm h0 h1 hx
  ·by_cases hx2:t.data.toList.all (fun c=>decide (Sp.hexv c<2))=true
   ·have hv:Sp.basedV 2 most.toNat t.data.toList=some (Sp.digitsV 2 0 t.data.toList):=by
     unfold Sp.basedV;rw [if_neg];rw [hlen,hx2];rintro (h | h | h)
     ·exact h0 h
     ·omega
     ·cases h
    rw [okV_some hv];exact scan_based_2 t most w hm0 hm h0 h1 hx hx2
   ·have hv:Sp.basedV 2 most.toNat t.data.toList=none:=by
     unfold Sp.basedV;rw [if_pos];exact Or.inr (Or.inr (by simpa using hx2))
    rw [okV_none hv];exact scan_based_2_bad t most w hG hm0 hm h0 h1 hx hx2
end Go.Proofs.YtedfppbnkgffcaaGreatDoor
