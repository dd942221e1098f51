/-
  Texts joined: Te La.
-/
import Derived.ScopeJumps
import Derived.Test.YtedfppbnkgffcaaGreatDoorTa
import Derived.Test.YtedfppbnkgffcaaGreatDoorWk
import Derived.Deep.QuietTactic
import Derived.BigQuiet
set_option linter.unusedVariables false
set_option linter.unusedSimpArgs false
set_option maxRecDepth 100000
set_option maxHeartbeats 8000000
namespace Go.Proofs.YtedfppbnkgffcaaGreatDoor
def jumps (ls:List Nat) (J:Nat→Act→World→Prop) (Q:Exit→Act→World→Prop):Exit→Act→World→Prop
 | .goto l,a,w=>l ∈ ls∧J l a w
 | e,a,w=>Q e a w
theorem wp_scope_labels {P:Program} {a:Act} {w:World} {Q:Exit→Act→World→Prop} {c:Code} (ls:List Nat) (J:Nat→Act→World→Prop) (μ:Nat→Act→World→Nat)
  (first:c.wp P (jumps ls J Q) a w)
  (pass:∀ l,l ∈ ls→∃ r,findLabel c l=some r∧∀ a w,J l a w→r.wp P (jumps ls (fun l' a' w'=>J l' a' w'∧μ l' a' w'<μ l a w) Q) a w):(Code.scope c).wp P Q a w:=by
 intro b k cs;have hg:∀ l r,findLabel c l=some r→gotoIn l (.inScope c :: k)=some (.code r :: .inScope c :: k):=fun l r h=>by simp [gotoIn,h]
 have key:∀ n l r a w,l ∈ ls→findLabel c l=some r→μ l a w=n→J l a w→∃ e a' w',Q e a' w'∧Arrives P (lone (b.at a (.code r :: .inScope c :: k)) cs w) b k cs e a' w':=by
  intro n
  induction n using Nat.strongRecOn with
  | _ n ih=>
   intro l r a w hl hr hn hJ;obtain⟨r0,hr0,hp⟩:=pass l hl;obtain rfl:r0=r:=Option.some.inj (hr0.symm.trans hr);obtain⟨e,a₁,w₁,hq,harr⟩:=hp a w hJ b (.inScope c :: k) cs
   cases e with
   | normal=>exact⟨.normal,a₁,w₁,hq,Steps.trans harr (.one step_inScope)⟩
   | exit id=>exact⟨.exit id,a₁,w₁,hq,fun k' hk=>harr k' (by simp [exitTo,hk])⟩
   | goto l'=>
    obtain⟨hs,hJ',hlt⟩:=hq;obtain⟨r',hr',_⟩:=pass l' hs;obtain⟨e₂,a₂,w₂,hq₂,harr₂⟩:=ih _ (by omega) l' r' a₁ w₁ hs hr' rfl hJ';exact⟨e₂,a₂,w₂,hq₂,.of_steps (harr _ (hg l' r' hr')) harr₂⟩
   | ret=>exact⟨_,a₁,w₁,hq,harr⟩
   | panic ch=>exact⟨_,a₁,w₁,hq,harr⟩
   | outgrown=>exact⟨_,a₁,w₁,hq,harr⟩
 obtain⟨e,a₁,w₁,hq,harr⟩:=first b (.inScope c :: k) cs
 cases e with
 | normal=>exact⟨.normal,a₁,w₁,hq,.head step_scope (Steps.trans harr (.one step_inScope))⟩
 | exit id=>exact⟨.exit id,a₁,w₁,hq,fun k' hk=>.head step_scope (harr k' (by simp [exitTo,hk]))⟩
 | goto l'=>
  obtain⟨hs,hJ'⟩:=hq;obtain⟨r',hr',_⟩:=pass l' hs;obtain⟨e₂,a₂,w₂,hq₂,harr₂⟩:=key _ l' r' a₁ w₁ hs hr' rfl hJ';exact⟨e₂,a₂,w₂,hq₂,.of_steps (.head step_scope (harr _ (hg l' r' hr'))) harr₂⟩
 | ret=>exact⟨_,a₁,w₁,hq,.of_steps (.one step_scope) harr⟩
 | panic ch=>exact⟨_,a₁,w₁,hq,.of_steps (.one step_scope) harr⟩
 | outgrown=>exact⟨_,a₁,w₁,hq,.of_steps (.one step_scope) harr⟩
theorem wp_scope_labels2 {P:Program} {a:Act} {w:World} {Q:Exit→Act→World→Prop} {A B R:Code} (l0:Nat) (ls:List Nat) (J:Nat→Act→World→Prop) (μ:Nat→Act→World→Nat)
  (hl0:l0 ∈ ls) (hf:findLabel (A.seq (B.seq ((Code.label l0).seq R))) l0=some (Code.skip.seq R))
  (h0:A.wp P (Exit.then (fun a w=>B.wp P (Exit.then (J l0) fun _ _ _=>False) a w) fun _ _ _=>False) a w)
  (pass0:∀ a w,J l0 a w→R.wp P (jumps ls (fun l' a' w'=>J l' a' w'∧μ l' a' w'<μ l0 a w) Q) a w)
  (pass:∀ l,l ∈ ls→l≠l0→∃ r,findLabel (A.seq (B.seq ((Code.label l0).seq R))) l=some r∧∀ a w,J l a w→r.wp P (jumps ls (fun l' a' w'=>J l' a' w'∧μ l' a' w'<μ l a w) Q) a w):
  (Code.scope (A.seq (B.seq ((Code.label l0).seq R)))).wp P Q a w:=by
 have drop:∀ {l a w} (e:Exit) (a':Act) (w':World),jumps ls (fun l' a' w'=>J l' a' w'∧μ l' a' w'<μ l a w) Q e a' w'→jumps ls J Q e a' w':=by
  intro l a w e a' w' h
  cases e with
  | goto l'=>exact⟨h.1,h.2.1⟩
  | _=>exact h
 refine wp_scope_labels ls J μ ?_ ?_
 ·refine wp_seq (Code.wp_mono ?_ h0);intro e a1 w1 h
  cases e with
  | normal=>
   refine wp_seq (Code.wp_mono ?_ h);intro e2 a2 w2 h2
   cases e2 with
   | normal=>exact wp_seq (wp_label (Code.wp_mono (fun e a w h=>drop e a w h) (pass0 a2 w2 h2)))
   | _=>exact h2.elim
  | _=>exact h.elim
 ·intro l hl;by_cases he:l=l0
  ·subst he;exact⟨_,hf,fun a w hJ=>wp_seq (wp_skip (pass0 a w hJ))⟩
  ·exact pass l hl he
open Go.RowKit
open Go.Lib (hid)
def RunF (N:Nat) (a:Act):Prop:=∃ (u3 u4 u5 u6 u7 u8 u9 u10 u11 u12 u13 u14 u15 u16 u17 u18 u19 u20 u21 u22 u23 u24 u25 u26 u27 u28 u29 u30 u31 u32 u33 u34 u35 u36 u37 u38 u39 u40 u41 u42 u43 u44 u45 u46 u47 u48 u49 u50 u51 u52 u53 u54 u55 u56 u57 u58 u59 u60 u61 u62 u63 u64 u65 u66 u67 u68 u69 u70 u71 u72 u73 u74 u75 u76 u77 u78 u79 u80 u81 u82 u83 u84 u85:Value),a={ tmps:=#[.pointer (some ⟨N,0,none⟩),undef,.int .i64 0,u3,u4,u5,u6,u7,u8,u9,u10,u11,u12,u13,u14,u15,u16,u17,u18,u19,u20,u21,u22,u23,u24,u25,u26,u27,u28,u29,u30,u31,u32,u33,u34,u35,u36,u37,u38,u39,u40,u41,u42,u43,u44,u45,u46,u47,u48,u49,u50,u51,u52,u53,u54,u55,u56,u57,u58,u59,u60,u61,u62,u63,u64,u65,u66,u67,u68,u69,u70,u71,u72,u73,u74,u75,u76,u77,u78,u79,u80,u81,u82,u83,u84,u85],defers:=[] }
theorem RunF_mk {N:Nat} {u3 u4 u5 u6 u7 u8 u9 u10 u11 u12 u13 u14 u15 u16 u17 u18 u19 u20 u21 u22 u23 u24 u25 u26 u27 u28 u29 u30 u31 u32 u33 u34 u35 u36 u37 u38 u39 u40 u41 u42 u43 u44 u45 u46 u47 u48 u49 u50 u51 u52 u53 u54 u55 u56 u57 u58 u59 u60 u61 u62 u63 u64 u65 u66 u67 u68 u69 u70 u71 u72 u73 u74 u75 u76 u77 u78 u79 u80 u81 u82 u83 u84 u85:Value}:RunF N { tmps:=#[.pointer (some ⟨N,0,none⟩),undef,.int .i64 0,u3,u4,u5,u6,u7,u8,u9,u10,u11,u12,u13,u14,u15,u16,u17,u18,u19,u20,u21,u22,u23,u24,u25,u26,u27,u28,u29,u30,u31,u32,u33,u34,u35,u36,u37,u38,u39,u40,u41,u42,u43,u44,u45,u46,u47,u48,u49,u50,u51,u52,u53,u54,u55,u56,u57,u58,u59,u60,u61,u62,u63,u64,u65,u66,u67,u68,u69,u70,u71,u72,u73,u74,u75,u76,u77,u78,u79,u80,u81,u82,u83,u84,u85],defers:=[] }:=⟨_,_,_,_,_,_,_,_,_,_,_,_,_,_,_,_,_,_,_,_,_,_,_,_,_,_,_,_,_,_,_,_,_,_,_,_,_,_,_,_,_,_,_,_,_,_,_,_,_,_,_,_,_,_,_,_,_,_,_,_,_,_,_,_,_,_,_,_,_,_,_,_,_,_,_,_,_,_,_,_,_,_,_,rfl⟩
theorem RunF_wp {N:Nat} {c:Code} {P:Program} {Q:Exit→Act→World→Prop} {w:World} (h:∀ u3 u4 u5 u6 u7 u8 u9 u10 u11 u12 u13 u14 u15 u16 u17 u18 u19 u20 u21 u22 u23 u24 u25 u26 u27 u28 u29 u30 u31 u32 u33 u34 u35 u36 u37 u38 u39 u40 u41 u42 u43 u44 u45 u46 u47 u48 u49 u50 u51 u52 u53 u54 u55 u56 u57 u58 u59 u60 u61 u62 u63 u64 u65 u66 u67 u68 u69 u70 u71 u72 u73 u74 u75 u76 u77 u78 u79 u80 u81 u82 u83 u84 u85:Value,c.wp P Q { tmps:=#[.pointer (some ⟨N,0,none⟩),undef,.int .i64 0,u3,u4,u5,u6,u7,u8,u9,u10,u11,u12,u13,u14,u15,u16,u17,u18,u19,u20,u21,u22,u23,u24,u25,u26,u27,u28,u29,u30,u31,u32,u33,u34,u35,u36,u37,u38,u39,u40,u41,u42,u43,u44,u45,u46,u47,u48,u49,u50,u51,u52,u53,u54,u55,u56,u57,u58,u59,u60,u61,u62,u63,u64,u65,u66,u67,u68,u69,u70,u71,u72,u73,u74,u75,u76,u77,u78,u79,u80,u81,u82,u83,u84,u85],defers:=[] } w):∀ a,RunF N a→c.wp P Q a w:=by
 rintro a ⟨u3,u4,u5,u6,u7,u8,u9,u10,u11,u12,u13,u14,u15,u16,u17,u18,u19,u20,u21,u22,u23,u24,u25,u26,u27,u28,u29,u30,u31,u32,u33,u34,u35,u36,u37,u38,u39,u40,u41,u42,u43,u44,u45,u46,u47,u48,u49,u50,u51,u52,u53,u54,u55,u56,u57,u58,u59,u60,u61,u62,u63,u64,u65,u66,u67,u68,u69,u70,u71,u72,u73,u74,u75,u76,u77,u78,u79,u80,u81,u82,u83,u84,u85,rfl⟩;exact h u3 u4 u5 u6 u7 u8 u9 u10 u11 u12 u13 u14 u15 u16 u17 u18 u19 u20 u21 u22 u23 u24 u25 u26 u27 u28 u29 u30 u31 u32 u33 u34 u35 u36 u37 u38 u39 u40 u41 u42 u43 u44 u45 u46 u47 u48 u49 u50 u51 u52 u53 u54 u55 u56 u57 u58 u59 u60 u61 u62 u63 u64 u65 u66 u67 u68 u69 u70 u71 u72 u73 u74 u75 u76 u77 u78 u79 u80 u81 u82 u83 u84 u85
def labClass (l:Nat):Nat:=if l=0 then 1 else if l=1 then 3 else if l=2 then 2 else if l=3 then 4 else 0
def RunI (s:ByteArray) (p line col:Nat) (op:Bool) (acc:List Sp.Tok):Prop:=
 p≤s.size∧line≤p+1∧col≤p+1∧acc.length≤p∧Sp.runV (s.data.toList.drop p) line col op acc=Sp.runV s.data.toList 1 1 false []
def RunJ (W0:World) (N:Nat) (s:ByteArray) (l:Nat) (a:Act) (w:World):Prop:=
 RunF N a∧∃ p line col op acc,MSt W0 N s p line col op acc w∧RunI s p line col op acc∧(l=4∨Sp.classV (s.data.toList.drop p)=labClass l)
def machAt (N:Nat) (w:World):Nat:=match w.cell? ⟨N,1,none⟩ with | some (.int _ n)=>n.toNat | _=>0
theorem machAt_of {W0:World} {N:Nat} {s:ByteArray} {p line col:Nat} {op:Bool} {acc:List Sp.Tok} {w:World} (h:MSt W0 N s p line col op acc w):machAt N w=p:=by
 obtain⟨tv,hm,_,_⟩:=h;have:w.cell? ⟨N,1,none⟩=some (.int .i64 p):=hm.cell 1;unfold machAt;rw [this];simp
def RunEnd (W0:World) (N:Nat) (s:ByteArray) (e:Ending) (w:World):Prop:=
 e=.returned (.int .i64 ((Sp.runV s.data.toList 1 1 false []).2.1:Nat))∧∃ p line col op acc,MSt W0 N s p line col op acc w ∧
  ((Sp.runV s.data.toList 1 1 false []).2.1=0→acc=(Sp.runV s.data.toList 1 1 false []).1)∧((Sp.runV s.data.toList 1 1 false []).2.1≠0→(Sp.runV s.data.toList 1 1 false []).2.2=(line,col))
def runMu (s:ByteArray) (N l:Nat) (w:World):Nat:=if l=4 then 2 * (s.size+1 - machAt N w)+1 else 2 * (s.size+1 - machAt N w)
theorem runMu_lt {s:ByteArray} {N:Nat} (l l' p k:Nat) {w w':World} (h1:(l≠4∧0<k)∨(l=4∧(0<k∨l'≠4))) (h2:p+k≤s.size+1) (h3:p≤s.size) (h4:machAt N w=p) (h5:machAt N w'=p+k):runMu s N l' w'<runMu s N l w:=by
 unfold runMu;rw [h4,h5];split <;> split <;> omega
theorem endT_le (op:Bool) (acc:List Sp.Tok) (line col:Nat):(Sp.endT op acc line col).length≤acc.length+1:=by
 unfold Sp.endT
 cases op <;> simp
theorem mst_drew {W0 w:World} {N:Nat} {s:ByteArray} {p line col:Nat} {op:Bool} {acc:List Sp.Tok} (h:MSt W0 N s p line col op acc w):MSt W0 N s p line col op acc w.drew:=by
 obtain⟨tv,h1,h2,h3⟩:=h;exact⟨tv,h1,h2,h3.drew⟩
theorem mst_drewN {W0 w:World} {N:Nat} {s:ByteArray} {p line col:Nat} {op:Bool} {acc:List Sp.Tok} (h:MSt W0 N s p line col op acc w) (n:Nat):MSt W0 N s p line col op acc (w.drewN n):=by
 obtain⟨tv,h1,h2,h3⟩:=h;exact⟨tv,h1,h2,below_drewN' h3 n⟩
theorem ownsRow_below {w w':World} {B:Nat} {e:TypeId} {size:Nat} {v:Value} {n:Nat} {xs:List Value} (h:w.ownsRow B e size v n xs) (hb:Below w.heap.size w w'):w'.ownsRow B e size v n xs:=by
 refine World.ownsRow.kept h (only_of_below hb none) ?_
 cases hv:v.ownBlock with
 | none=>exact Or.inl rfl
 | some k=>exact Or.inr (by simp)
theorem mst_below {W0 w w':World} {N:Nat} {s:ByteArray} {p line col:Nat} {op:Bool} {acc:List Sp.Tok} (h:MSt W0 N s p line col op acc w) (hb:Below w.heap.size w w'):MSt W0 N s p line col op acc w':=by
 obtain⟨tv,h1,h2,h3⟩:=h;exact⟨tv,h1.below hb h1.lt,ownsRow_below h2 hb,h3.trans (hb.mono (by have:=h1.lt;omega))⟩
theorem mst_lt {W0 w:World} {N:Nat} {s:ByteArray} {p line col:Nat} {op:Bool} {acc:List Sp.Tok} (h:MSt W0 N s p line col op acc w):N<w.heap.size:=by
 obtain⟨tv,h1,h2,h3⟩:=h;exact h1.lt
theorem mst_cells {W0 w:World} {N:Nat} {s:ByteArray} {p line col:Nat} {op:Bool} {acc:List Sp.Tok} (h:MSt W0 N s p line col op acc w):w.cell? ⟨N,0,none⟩=some (.string s)∧w.cell? ⟨N,1,none⟩=some (.int .i64 p):=by
 obtain⟨tv,h1,h2,h3⟩:=h;exact⟨h1.cell 0,h1.cell 1⟩
theorem mst_gs {W0 w:World} {N:Nat} {s:ByteArray} {p line col:Nat} {op:Bool} {acc:List Sp.Tok} (h:MSt W0 N s p line col op acc w) (hG:Gs W0) (hN:W0.heap.size=N):Gs w:=by
 obtain⟨tv,h1,h2,h3⟩:=h;subst hN;exact hG.below h3
theorem com_in {l:List UInt8} {j:Nat} (h:j<Sp.comV l):∃ h2:j<l.length,l[j]'h2≠10:=by
 have h2:j<l.length:=Nat.lt_of_lt_of_le h (Sp.comV_le l);refine⟨h2,?_⟩;have:=Sp.takeWhile_bt (fun x=>decide (x≠10)) l j h;rw [List.getD_eq_getElem?_getD,List.getElem?_eq_getElem h2] at this;simpa using this
theorem com_end {l:List UInt8} (h:Sp.comV l<l.length):l[Sp.comV l]'h=10:=by
 have:=Sp.tw_stop (fun x=>decide (x≠10)) l h;rw [List.getD_eq_getElem?_getD] at this;have e:(l.takeWhile (fun x=>decide (x≠10))).length=Sp.comV l:=rfl;rw [e,List.getElem?_eq_getElem h] at this;simpa using this
theorem mach_run (W0:World) (s:ByteArray) (N:Nat) (w:World) (hs:s.size≤1073741823) (hG:Gs W0) (hN:W0.heap.size=N) (hM:MSt W0 N s 0 1 1 false [] w):
  Calls Tryz.prog 97 #[.pointer (some ⟨N,0,none⟩)] w (RunEnd W0 N s):=by
 have HG:=hid hG;have HN:=hid hN;have HM:=hid hM;clear hG hN hM;go_enter Tryz.func97,Tryz.ntmps97;go_wp2;refine wp_scope_labels2 4 [0,1,2,3,4] (RunJ W0 N s) (fun l _ w=>runMu s N l w) (by simp) rfl ?_ ?_ ?_
 ·go_wp2;exact⟨RunF_mk,0,1,1,false,[],HM.out,⟨by omega,by omega,by omega,by simp,by rw [List.drop_zero]⟩,Or.inl rfl⟩
 ·rintro a1 w1 ⟨hF,p,line,col,op,acc,hm,hi,hl⟩;refine RunF_wp ?_ a1 hF;clear hF a1;intro u3 u4 u5 u6 u7 u8 u9 u10 u11 u12 u13 u14 u15 u16 u17 u18 u19 u20 u21 u22 u23 u24 u25 u26 u27 u28 u29 u30 u31 u32 u33 u34 u35 u36 u37 u38 u39 u40 u41 u42 u43 u44 u45 u46 u47 u48 u49 u50 u51 u52 u53 u54 u55 u56 u57 u58 u59 u60 u61 u62 u63 u64 u65 u66 u67 u68 u69 u70 u71 u72 u73 u74 u75 u76 u77 u78 u79 u80 u81 u82 u83 u84 u85;obtain⟨h1,h2,h3,h4,h5⟩:=hi;obtain⟨c0,c1⟩:=mst_cells hm;have hgs:=mst_gs hm HG.out HN.out;have hlt:=mst_lt hm;have hmd:=mst_drew hm;have HA:=hid (machAt_of hm);have hC:=fun W=>scan_classOf s p W (by omega)
  obtain⟨k,hk⟩:=nM (Sp.classV (s.data.toList.drop p));rw [hk] at hC;have HC:=hid hC;have HK:=hid hk;have H5:=hid h5;have HMD:=hid hmd;have HGS:=hid hgs;clear hm hl hC hk h5 hmd hgs;by_cases k1:k=1
  ·have q1:((k:Int) == 1)=true:=beq_iff_eq.2 (by omega);have HK1:=hid k1;clear k1;go_wp2_with fail;go_region_held3 (fun w'=>w'.cell? ⟨N,0,none⟩=some (.string s)∧w'.cell? ⟨N,1,none⟩=some (.int .i64 p)) (go_keep) ((go_at_call 107;refine (HC.out _).mono ?_;rintro e w2 ⟨rfl,rfl⟩));go_wp2;go_step3;refine⟨by simp,⟨RunF_mk,p,line,col,op,acc,HMD.out,⟨h1,h2,h3,h4,H5.out⟩,Or.inr (HK.out.trans HK1.out)⟩,?_⟩;exact runMu_lt 4 0 p 0 (by omega) (by omega) h1 HA.out (machAt_of HMD.out)
  by_cases k3:k=3
  ·have q1:((k:Int) == 1)=false:=beq_eq_false_iff_ne.2 (by omega);have q3:((k:Int) == 3)=true:=beq_iff_eq.2 (by omega);have HK1:=hid k3;clear k1 k3;go_wp2_with fail;go_region_held3 (fun w'=>w'.cell? ⟨N,0,none⟩=some (.string s)∧w'.cell? ⟨N,1,none⟩=some (.int .i64 p)) (go_keep) ((go_at_call 107;refine (HC.out _).mono ?_;rintro e w2 ⟨rfl,rfl⟩));go_wp2;go_step3;refine⟨by simp,⟨RunF_mk,p,line,col,op,acc,HMD.out,⟨h1,h2,h3,h4,H5.out⟩,Or.inr (HK.out.trans HK1.out)⟩,?_⟩;exact runMu_lt 4 1 p 0 (by omega) (by omega) h1 HA.out (machAt_of HMD.out)
  by_cases k2:k=2
  ·have q1:((k:Int) == 1)=false:=beq_eq_false_iff_ne.2 (by omega);have q3:((k:Int) == 3)=false:=beq_eq_false_iff_ne.2 (by omega);have q2:((k:Int) == 2)=true:=beq_iff_eq.2 (by omega);have HK1:=hid k2;clear k1 k3 k2;go_wp2_with fail;go_region_held3 (fun w'=>w'.cell? ⟨N,0,none⟩=some (.string s)∧w'.cell? ⟨N,1,none⟩=some (.int .i64 p)) (go_keep) ((go_at_call 107;refine (HC.out _).mono ?_;rintro e w2 ⟨rfl,rfl⟩));go_wp2;go_step3;refine⟨by simp,⟨RunF_mk,p,line,col,op,acc,HMD.out,⟨h1,h2,h3,h4,H5.out⟩,Or.inr (HK.out.trans HK1.out)⟩,?_⟩;exact runMu_lt 4 2 p 0 (by omega) (by omega) h1 HA.out (machAt_of HMD.out)
  by_cases k4:k=4
  ·have q1:((k:Int) == 1)=false:=beq_eq_false_iff_ne.2 (by omega);have q3:((k:Int) == 3)=false:=beq_eq_false_iff_ne.2 (by omega);have q2:((k:Int) == 2)=false:=beq_eq_false_iff_ne.2 (by omega);have q4:((k:Int) == 4)=true:=beq_iff_eq.2 (by omega);have HK1:=hid k4;clear k1 k3 k2 k4;go_wp2_with fail;go_region_held3 (fun w'=>w'.cell? ⟨N,0,none⟩=some (.string s)∧w'.cell? ⟨N,1,none⟩=some (.int .i64 p)) (go_keep) ((go_at_call 107;refine (HC.out _).mono ?_;rintro e w2 ⟨rfl,rfl⟩));go_wp2;go_step3;refine⟨by simp,⟨RunF_mk,p,line,col,op,acc,HMD.out,⟨h1,h2,h3,h4,H5.out⟩,Or.inr (HK.out.trans HK1.out)⟩,?_⟩;exact runMu_lt 4 3 p 0 (by omega) (by omega) h1 HA.out (machAt_of HMD.out)
  have q1:((k:Int) == 1)=false:=beq_eq_false_iff_ne.2 (by omega);have q3:((k:Int) == 3)=false:=beq_eq_false_iff_ne.2 (by omega);have q2:((k:Int) == 2)=false:=beq_eq_false_iff_ne.2 (by omega);have q4:((k:Int) == 4)=false:=beq_eq_false_iff_ne.2 (by omega);obtain⟨c,r,hcr,hcc⟩:=Sp.classV_at HK.out k1
  have hpl:p<s.size:=by
   rcases Nat.lt_or_ge p s.size with h | h
   ·exact h
   ·rw [List.drop_eq_nil_of_le (by rw [← Lib.size_eq];omega)] at hcr;cases hcr
  have hpa:Sp.PieceAt c:=⟨by omega,by omega,by omega⟩
  have hP:=fun W (hW:Gs W)=>scan_piece (s.extract p s.size) W hW (by rw [ByteArray.size_extract];omega)
  rw [ext_drop] at hP
  obtain⟨kd,n,off,code,hp⟩:∃ kd n off code,Sp.pieceV (s.data.toList.drop p)=(kd,n,off,code):=⟨_,_,_,_,rfl⟩
  have hsz:=Sp.pieceV_size hp (by rw [hcr];simp);have hdl:(s.data.toList.drop p).length=s.size - p:=by rw [List.length_drop,← Lib.size_eq]
  have hP2:∀ W (hW:Gs W),Calls Tryz.prog 108 #[.string (s.extract p s.size)] W fun e w'=>e=.returned (.tuple #[.int .i64 (kd:Nat),.int .i64 (n:Nat),.int .i64 (off:Nat),.int .i64 (code:Nat)])∧Below W.heap.size W w':=by
   intro W hW;have:=hP W hW;rw [hp] at this;exact this
  have HP:=hid hP2;have HG2:Hid (Gs w1.drew.drew):=HGS.out.below ((Below.refl _ _).drew.drew);have b1:(0:Int)≤(p:Int):=by omega
  have b2:(p:Int)≤s.size:=by omega
  have kc:∀ w2,Below w1.drew.drew.heap.size w1.drew.drew w2→w2.cell? ⟨N,0,none⟩=some (.string s)∧w2.cell? ⟨N,1,none⟩=some (.int .i64 p):=fun w2 hb=>⟨(hb.cell (p:=⟨N,0,none⟩) hlt).trans c0,(hb.cell (p:=⟨N,1,none⟩) hlt).trans c1⟩
  have KC:=hid kc;clear kc hP hP2 k1 k2 k3 k4;by_cases hcode:code=0
  ·subst hcode;obtain⟨g1,g2,g3,g4,g5⟩:=hsz.1 rfl;have hnl:=g2.le;rw [hdl] at hnl;rw [hcr] at hp;have h5':=H5.out;rw [hcr,Sp.runV_tok _ _ _ _ _ hpa hp,← hcr,List.drop_drop] at h5';have H52:=hid h5';have hcl:=Sp.chars_le_len (s.data.toList.drop p) n;(have hput:=fun w2 (hb:Below w1.drew.drew.heap.size w1.drew.drew w2)=>mst_put W0 s N p line col kd n op acc w2 (mst_below (mst_drew HMD.out) hb) (by omega) (by omega) (by omega) (by omega));have HPU:=hid hput;(have hlen:(acc ++ [(kd,(s.data.toList.drop p).take n,line,col)]).length≤p+n:=by rw [List.length_append,List.length_singleton];omega);clear hp hsz hcr hcc hpa h5' hput g2 hdl;go_wp2_with fail;go_region_held3 (fun w'=>w'.cell? ⟨N,0,none⟩=some (.string s)∧w'.cell? ⟨N,1,none⟩=some (.int .i64 p)) (go_keep) ((go_at_call 107;refine (HC.out _).mono ?_;rintro e w2 ⟨rfl,rfl⟩));go_wp2_with fail;go_region_held3 (fun w'=>w'.cell? ⟨N,0,none⟩=some (.string s)∧w'.cell? ⟨N,1,none⟩=some (.int .i64 p)) (first | go_keep | exact kc2) ((go_at_call 108;refine (HP.out _ HG2.out).mono ?_;rintro e w2 ⟨rfl,hb2⟩;have kc2:=KC.out w2 hb2));have HPP:=hid (HPU.out w2 hb2)
   have HI2:Hid (RunI s (p+n) line (col+Sp.chars ((s.data.toList.drop p).take n)) true (acc ++ [(kd,(s.data.toList.drop p).take n,line,col)])):=⟨by omega,by omega,by omega,hlen,H52.out⟩
   clear kc2 hb2
   go_wp2_with (go_at_call 110;refine HPP.out.mono ?_;rintro e w3 ⟨rfl,hm3⟩)
   go_step3;refine⟨by simp,⟨RunF_mk,p+n,line,_,true,_,hm3,HI2.out,Or.inl rfl⟩,?_⟩;exact runMu_lt 4 4 p n (by omega) (by omega) h1 HA.out (machAt_of hm3)
  ·obtain⟨g2,g3,g4⟩:=hsz.2 hcode;have hnl:=g2.le;rw [hdl] at hnl;rw [hcr] at hp;have h5':=H5.out;rw [hcr,Sp.runV_err _ _ _ _ _ hpa hp hcode,← hcr] at h5';have H52:=hid h5';(have hfw:=fun w2 (hb:Below w1.drew.drew.heap.size w1.drew.drew w2)=>mst_forward W0 s N p line col off op acc w2 (mst_below (mst_drew HMD.out) hb) (by omega) (by omega) (by omega));have HFW:=hid hfw;(have q5:((code:Int) != 0)=true:=by rw [bne_iff_ne];omega);clear hp hsz hcr hcc hpa h5' hfw g2 hdl;go_wp2_with fail;go_region_held3 (fun w'=>w'.cell? ⟨N,0,none⟩=some (.string s)∧w'.cell? ⟨N,1,none⟩=some (.int .i64 p)) (go_keep) ((go_at_call 107;refine (HC.out _).mono ?_;rintro e w2 ⟨rfl,rfl⟩));go_wp2_with fail;go_region_held3 (fun w'=>w'.cell? ⟨N,0,none⟩=some (.string s)∧w'.cell? ⟨N,1,none⟩=some (.int .i64 p)) (first | go_keep | exact kc2) ((go_at_call 108;refine (HP.out _ HG2.out).mono ?_;rintro e w2 ⟨rfl,hb2⟩;have kc2:=KC.out w2 hb2));have HFF:=hid (HFW.out w2 hb2);clear kc2 hb2
   go_wp2_with (go_at_call 109;refine HFF.out.mono ?_;rintro e w3 ⟨rfl,hm3⟩)
   go_ret;refine⟨ret_int (by rw [← H52.out]),p+off,line,_,op,acc,hm3,fun h=>absurd (by rw [← H52.out] at h;exact h) hcode,fun _=>by rw [← H52.out]⟩
 ·intro l hl hne;simp only [List.mem_cons,List.not_mem_nil,or_false] at hl;rcases hl with rfl | rfl | rfl | rfl | rfl
  ·refine⟨_,rfl,?_⟩;rintro a1 w1 ⟨hF,p,line,col,op,acc,hm,hi,hl⟩;refine RunF_wp ?_ a1 hF;clear hF a1;intro u3 u4 u5 u6 u7 u8 u9 u10 u11 u12 u13 u14 u15 u16 u17 u18 u19 u20 u21 u22 u23 u24 u25 u26 u27 u28 u29 u30 u31 u32 u33 u34 u35 u36 u37 u38 u39 u40 u41 u42 u43 u44 u45 u46 u47 u48 u49 u50 u51 u52 u53 u54 u55 u56 u57 u58 u59 u60 u61 u62 u63 u64 u65 u66 u67 u68 u69 u70 u71 u72 u73 u74 u75 u76 u77 u78 u79 u80 u81 u82 u83 u84 u85;obtain⟨h1,h2,h3,h4,h5⟩:=hi;have hE:=mst_endLine W0 s N p line col op acc w1 hm (by omega) (by omega) (by omega)
   have hnil:s.data.toList.drop p=[]:=by
    rcases hl with hl | hl
    ·omega
    ·cases hd:s.data.toList.drop p with
     | nil=>rfl
     | cons c r=>
      rw [hd] at hl;exfalso;have hl:Sp.classB c=1:=hl;unfold Sp.classB at hl
      repeat' split at hl
      all_goals omega
   rw [hnil,Sp.runV_nil] at h5;have HE:=hid hE;have H5:=hid h5;clear hm hl hE hnil h5
   go_wp2_with (go_at_call 111;refine HE.out.mono ?_;rintro e w2 ⟨rfl,hm2⟩)
   go_ret;refine⟨by rw [← H5.out];rfl,p+1,line+1,1,false,_,hm2,fun _=>by rw [← H5.out],fun h=>absurd (by rw [← H5.out]) h⟩
  ·refine⟨_,rfl,?_⟩;rintro a1 w1 ⟨hF,p,line,col,op,acc,hm,hi,hl⟩;refine RunF_wp ?_ a1 hF;clear hF a1;intro u3 u4 u5 u6 u7 u8 u9 u10 u11 u12 u13 u14 u15 u16 u17 u18 u19 u20 u21 u22 u23 u24 u25 u26 u27 u28 u29 u30 u31 u32 u33 u34 u35 u36 u37 u38 u39 u40 u41 u42 u43 u44 u45 u46 u47 u48 u49 u50 u51 u52 u53 u54 u55 u56 u57 u58 u59 u60 u61 u62 u63 u64 u65 u66 u67 u68 u69 u70 u71 u72 u73 u74 u75 u76 u77 u78 u79 u80 u81 u82 u83 u84 u85;obtain⟨h1,h2,h3,h4,h5⟩:=hi;have hE:=mst_endLine W0 s N p line col op acc w1 hm (by omega) (by omega) (by omega)
   have hcls:Sp.classV (s.data.toList.drop p)=3:=by
    rcases hl with hl | hl
    ·omega
    ·exact hl
   obtain⟨c,r,hcr,hc⟩:=Sp.classV_at hcls (by omega)
   have hplt:p<s.size:=by
    rcases Nat.lt_or_ge p s.size with h | h
    ·exact h
    ·rw [List.drop_eq_nil_of_le (by rw [← Lib.size_eq];omega)] at hcr;cases hcr
   (have hr:s.data.toList.drop (p+1)=r:=by rw [← List.drop_drop,hcr];rfl);rw [hcr,Sp.runV_nl _ _ _ _ _ hc,← hr] at h5;have hle:(Sp.endT op acc line col).length≤p+1:=by have:=endT_le op acc line col;omega
   have hi2:RunI s (p+1) (line+1) 1 false (Sp.endT op acc line col):=⟨by omega,by omega,by omega,hle,h5⟩
   have HI2:=hid hi2;have HE:=hid hE;have HA:=hid (machAt_of hm);clear hm hl hE h5 hcls hcr hc hr hle hi2
   go_wp2_with (go_at_call 111;refine HE.out.mono ?_;rintro e w2 ⟨rfl,hm2⟩)
   go_step3;refine⟨by simp,⟨RunF_mk,p+1,line+1,1,false,Sp.endT op acc line col,hm2,HI2.out,Or.inl rfl⟩,?_⟩;exact runMu_lt 1 4 p 1 (by omega) (by omega) (by omega) HA.out (machAt_of hm2)
  ·refine⟨_,rfl,?_⟩;rintro a1 w1 ⟨hF,p,line,col,op,acc,hm,hi,hl⟩;refine RunF_wp ?_ a1 hF;clear hF a1;intro u3 u4 u5 u6 u7 u8 u9 u10 u11 u12 u13 u14 u15 u16 u17 u18 u19 u20 u21 u22 u23 u24 u25 u26 u27 u28 u29 u30 u31 u32 u33 u34 u35 u36 u37 u38 u39 u40 u41 u42 u43 u44 u45 u46 u47 u48 u49 u50 u51 u52 u53 u54 u55 u56 u57 u58 u59 u60 u61 u62 u63 u64 u65 u66 u67 u68 u69 u70 u71 u72 u73 u74 u75 u76 u77 u78 u79 u80 u81 u82 u83 u84 u85;obtain⟨h1,h2,h3,h4,h5⟩:=hi
   have hcls:Sp.classV (s.data.toList.drop p)=2:=by
    rcases hl with hl | hl
    ·omega
    ·exact hl
   obtain⟨c,r,hcr,hc⟩:=Sp.classV_at hcls (by omega)
   have hplt:p<s.size:=by
    rcases Nat.lt_or_ge p s.size with h | h
    ·exact h
    ·rw [List.drop_eq_nil_of_le (by rw [← Lib.size_eq];omega)] at hcr;cases hcr
   have hE:=mst_forward W0 s N p line col 1 op acc w1 hm (by omega) (by omega) (by omega)
   have h128:c.toNat<128:=by
    unfold Sp.classB at hc;split at hc
    ·rename_i hb;unfold Sp.blankB at hb;simp only [decide_eq_true_eq] at hb;omega
    repeat' split at hc
    all_goals omega
   have hch:Sp.chars ((s.data.toList.drop p).take 1)=1:=by
    rw [hcr];refine Sp.chars_ascii 1 _ (by simp) (fun k hk=>?_);(have:k=0:=by omega);subst this;rw [Sp.bt_cons0];exact h128
   rw [hch] at hE;(have hr:s.data.toList.drop (p+1)=r:=by rw [← List.drop_drop,hcr];rfl);rw [hcr,Sp.runV_blank _ _ _ _ _ hc,← hr] at h5
   have hi2:RunI s (p+1) line (col+1) op acc:=⟨by omega,by omega,by omega,by omega,h5⟩
   have HI2:=hid hi2;have HE:=hid hE;have HA:=hid (machAt_of hm);clear hm hl hE h5 hcls hcr hc hr hi2 hch h128
   go_wp2_with (go_at_call 109;refine HE.out.mono ?_;rintro e w2 ⟨rfl,hm2⟩)
   go_step3;refine⟨by simp,⟨RunF_mk,p+1,line,col+1,op,acc,hm2,HI2.out,Or.inl rfl⟩,?_⟩;exact runMu_lt 2 4 p 1 (by omega) (by omega) (by omega) HA.out (machAt_of hm2)
  ·refine⟨_,rfl,?_⟩;rintro a1 w1 ⟨hF,p,line,col,op,acc,hm,hi,hl⟩;refine RunF_wp ?_ a1 hF;clear hF a1;intro u3 u4 u5 u6 u7 u8 u9 u10 u11 u12 u13 u14 u15 u16 u17 u18 u19 u20 u21 u22 u23 u24 u25 u26 u27 u28 u29 u30 u31 u32 u33 u34 u35 u36 u37 u38 u39 u40 u41 u42 u43 u44 u45 u46 u47 u48 u49 u50 u51 u52 u53 u54 u55 u56 u57 u58 u59 u60 u61 u62 u63 u64 u65 u66 u67 u68 u69 u70 u71 u72 u73 u74 u75 u76 u77 u78 u79 u80 u81 u82 u83 u84 u85;obtain⟨h1,h2,h3,h4,h5⟩:=hi
   have hcls:Sp.classV (s.data.toList.drop p)=4:=by
    rcases hl with hl | hl
    ·omega
    ·exact hl
   obtain⟨c,r,hcr,hc⟩:=Sp.classV_at hcls (by omega)
   have hplt:p<s.size:=by
    rcases Nat.lt_or_ge p s.size with h | h
    ·exact h
    ·rw [List.drop_eq_nil_of_le (by rw [← Lib.size_eq];omega)] at hcr;cases hcr
   have hk1:1≤Sp.comV (s.data.toList.drop p):=by
    rw [hcr,Sp.comV_pos _ (by omega)];omega
   have hkl:=Sp.comV_le (s.data.toList.drop p);rw [List.length_drop,← Lib.size_eq] at hkl;rw [hcr,Sp.runV_hash _ _ _ _ _ hc,← hcr,List.drop_drop] at h5;have hcl:=Sp.chars_le_len (s.data.toList.drop p) (Sp.comV (s.data.toList.drop p))
   have hin:∀ j,j<Sp.comV (s.data.toList.drop p)→∃ h:p+j<s.size,(s[p+j]'h).toNat≠10:=by
    intro j hj;obtain⟨h2,h3⟩:=com_in hj;(have h4:p+j<s.size:=by omega);refine⟨h4,fun e=>h3 ?_⟩;rw [List.getElem_drop,← Sp.get_idx s (p+j) h4 (by rw [← Lib.size_eq];exact h4)];exact UInt8.toNat_inj.1 e
   have hend:∀ m,Sp.comV (s.data.toList.drop p)=m→∀ h:p+m<s.size,(s[p+m]'h).toNat=10:=by
    rintro m rfl h;have h3:=com_end (l:=s.data.toList.drop p) (by rw [List.length_drop,← Lib.size_eq];omega);rw [List.getElem_drop,← Sp.get_idx s _ h (by rw [← Lib.size_eq];exact h)] at h3;rw [h3];rfl
   obtain⟨m,hmm⟩:=nM (Sp.comV (s.data.toList.drop p));rw [hmm] at hk1 hkl h5 hcl;simp only [hmm] at hin;replace hend:=hend m hmm
   have hi2:RunI s (p+m) line (col+Sp.chars ((s.data.toList.drop p).take m)) op acc:=⟨by omega,by omega,by omega,by omega,h5⟩
   have HI2:=hid hi2;have HIN:=hid hin;have HEND:=hid hend;have HA:=hid (machAt_of hm);have HM1:=hid hm;clear hm hl h5 hcls hcr hc hi2 hin hend hmm;go_wp2;go_loopw [4,51,52,53,54,55,56,57,58,59,60,61,62,63,64,65,66,67,68,69,70,71,72,73,74,75,76,77,78] (fun v4 _ _ _ _ _ _ _ _ _ _ _ _ _ _ _ _ _ _ _ _ _ _ _ _ _ _ _ _ wr=>MSt W0 N s p line col op acc wr∧∃ j:Nat,v4=.int .i64 (j:Int)∧j≤m) (fun v4 _ _ _ _ _ _ _ _ _ _ _ _ _ _ _ _ _ _ _ _ _ _ _ _ _ _ _ _ _=>m - (intOf v4).toNat)
   case atStart=>exact⟨HM1.out,0,rfl,by omega⟩
   case round=>
    obtain⟨hmr,j,rfl,hj⟩:=hrel;obtain⟨c0,c1⟩:=mst_cells hmr;have HMR:=hid hmr;clear hmr;(have w1:IntKind.i64.wrap ((p:Int)+j)=(p:Int)+j:=by rw [IntKind.wrap_i64];omega);(have w2:((p:Int)+j).toNat=p+j:=by omega);(have w3:(0:Int)≤(p:Int)+j:=by omega);by_cases hjm:j<m
    ·obtain⟨hlt,hne10⟩:=HIN.out j hjm;have q1:decide ((p:Int)+j<s.size)=true:=dT;(have q1':(p:Int)+j<s.size:=by omega);(have q2:(((s[p+j]'hlt).toNat:Int) != 10)=true:=by rw [bne_iff_ne];omega);go_wp2_with fail;go_quiet (fail);go_wp2;go_roundw
     case rel=>exact⟨mst_drewN HMR.out _,j+1,by rfl,by omega⟩
     case measure=>simp [intOf];omega
    ·obtain rfl:j=m:=by omega
     by_cases hlt:p+j<s.size
     ·have q1:decide ((p:Int)+j<s.size)=true:=dT;(have q1':(p:Int)+j<s.size:=by omega);have h10:=HEND.out hlt;(have q2:(((s[p+j]'hlt).toNat:Int) != 10)=false:=by rw [bne_eq_false_iff_eq];omega);(have hfw:=fun q=>mst_forward W0 s N p line col j op acc (wr.drewN q) (mst_drewN HMR.out q) (by omega) (by omega) (by omega));have HFW:=hid hfw;clear hfw h10;go_wp2_with fail;go_quiet (fail)
      go_wp2_with (go_at_call 109;refine (HFW.out _).mono ?_;rintro e w3 ⟨rfl,hm3⟩)
      go_step3;refine⟨by simp,⟨RunF_mk,p+j,line,_,op,acc,hm3,HI2.out,Or.inl rfl⟩,?_⟩;exact runMu_lt 3 4 p j (by omega) (by omega) h1 HA.out (machAt_of hm3)
     ·have q1:decide ((p:Int)+j<s.size)=false:=dF;(have hfw:=fun q=>mst_forward W0 s N p line col j op acc (wr.drewN q) (mst_drewN HMR.out q) (by omega) (by omega) (by omega));have HFW:=hid hfw;clear hfw;go_wp2_with fail;go_quiet (fail)
      go_wp2_with (go_at_call 109;refine (HFW.out _).mono ?_;rintro e w3 ⟨rfl,hm3⟩)
      go_step3;refine⟨by simp,⟨RunF_mk,p+j,line,_,op,acc,hm3,HI2.out,Or.inl rfl⟩,?_⟩;exact runMu_lt 3 4 p j (by omega) (by omega) h1 HA.out (machAt_of hm3)
  ·exact absurd rfl hne
theorem ownsRow_base {w:World} {B B':Nat} {e:TypeId} {size:Nat} {v:Value} {n:Nat} {xs:List Value} (h:w.ownsRow B e size v n xs) (hB:B'≤B):w.ownsRow B' e size v n xs:=by
 refine⟨h.1,?_⟩;rcases h.2 with h2 | ⟨g,cap,cur,hv,hg,r⟩
 ·exact Or.inl h2
 ·exact Or.inr ⟨g,cap,cur,hv,by omega,r⟩
def ScanEnd (s:ByteArray) (W:World) (e:Ending) (w':World):Prop:=
 ∃ tv,e=.returned (.tuple #[tv,.int .i64 ((Sp.scanV s.data.toList).2.1:Nat),.int .i64 ((Sp.scanV s.data.toList).2.2.1:Nat),.int .i64 ((Sp.scanV s.data.toList).2.2.2:Nat)])∧Toks w' W.heap.size tv (Sp.scanV s.data.toList).1∧Below W.heap.size W w'
theorem ScanEnd_of {s:ByteArray} {W w':World} {ts:List Sp.Tok} {c n m:Nat} (h:Sp.scanV s.data.toList=(ts,c,n,m)) {tv:Value} {x y z:Int} (hx:x=c) (hy:y=n) (hz:z=m) (ht:Toks w' W.heap.size tv ts) (hb:Below W.heap.size W w'):
  ScanEnd s W (.returned (.tuple #[tv,.int .i64 x,.int .i64 y,.int .i64 z])) w':=by
 subst hx;subst hy;subst hz;unfold ScanEnd;rw [h];exact⟨tv,rfl,ht,hb⟩
theorem toks_nil (w:World) (B:Nat):Toks w B (.slice none 0 0) []:=World.ownsRow_nil w B _ _
theorem scan_scan (s:ByteArray) (w:World) (hG:Gs w) (hs:s.size≤9223372036854775807):
  Calls Tryz.prog 87 #[.string s] w (ScanEnd s w):=by
 have hsl:=Lib.size_eq s;by_cases h1:16384<s.size
 ·have hv:Sp.scanV s.data.toList=([],2,0,0):=by unfold Sp.scanV;rw [if_pos (by omega)]
  have HU:=hid hv;have q1:decide ((s.size:Int) > 16384)=true:=dT;clear hsl hv hG;go_enter Tryz.func87,Tryz.ntmps87;go_wp2;refine bodyPost_ret (results_tmp4 rfl _ _ _) rfl ?_;exact ScanEnd_of HU.out rfl rfl rfl (toks_nil _ _) (Below.refl _ _)
 have q1:decide ((s.size:Int) > 16384)=false:=dF;have hV:=Sp.scanV_run s.data.toList (by omega);have hcd:=Sp.runV_code _ s.data.toList 1 1 false [] (Nat.le_refl _)
 have hm0:MSt w w.heap.size s 0 1 1 false [] (w.alloc (.cells #[.string s,.int .i64 0,.int .i64 1,.int .i64 1,.bool false,.slice none 0 0] 150)):=
  ⟨.slice none 0 0,Blk.new w _ _,World.ownsRow_nil _ _ _ _,(Below.refl _ _).alloc (Nat.le_refl _) _⟩
 have hrun:=mach_run w s w.heap.size _ (by omega) hG rfl hm0;unfold RunEnd at hrun
 obtain⟨ts,c,ln,cl,hr⟩:∃ ts c ln cl,Sp.runV s.data.toList 1 1 false []=(ts,c,ln,cl):=⟨_,_,_,_,rfl⟩
 rw [hr] at hV hrun hcd;simp only [] at hrun hcd;have HV:=hid hV;have HR:=hid hrun;by_cases hc:c=0
 ·have q2:((c:Int) != 0)=false:=by rw [bne_eq_false_iff_eq];omega
  have h00:=hcd.1 hc;have HC:=hid hc;have H00:=hid h00;clear hG hsl hV hm0 hrun hr hcd hc h00;go_enter Tryz.func87,Tryz.ntmps87
  go_wp2_with (go_at_call 97;refine HR.out.mono ?_;rintro e w1 ⟨rfl,p,line,col,op,acc,⟨tv,hm,ht,hb⟩,ha,_⟩;have c5:w1.cell? ⟨w.heap.size,5,none⟩=some tv:=hm.cell 5)
  refine bodyPost_ret (results_tmp4 rfl _ _ _) rfl ?_;have hacc:=ha HC.out;have h0:=H00.out;simp only [Prod.mk.injEq] at h0;refine ScanEnd_of HV.out (by have:=HC.out;omega) (by have:=h0.1;omega) (by have:=h0.2;omega) ?_ hb;rw [← hacc];exact ownsRow_base ht (Nat.le_succ _)
 ·have q2:((c:Int) != 0)=true:=by rw [bne_iff_ne];omega
  have h00:=hcd.2 hc;have HC:=hid hc;have H00:=hid h00;clear hG hsl hV hm0 hrun hr hcd hc h00;go_enter Tryz.func87,Tryz.ntmps87
  go_wp2_with (go_at_call 97;refine HR.out.mono ?_;rintro e w1 ⟨rfl,p,line,col,op,acc,⟨tv,hm,ht,hb⟩,_,ha⟩;have c2:w1.cell? ⟨w.heap.size,2,none⟩=some (.int .i64 line):=hm.cell 2;have c3:w1.cell? ⟨w.heap.size,3,none⟩=some (.int .i64 col):=hm.cell 3)
  go_quiet (fail);go_wp2;refine bodyPost_ret (results_tmp4 rfl _ _ _) rfl ?_;have hacc:=ha HC.out;simp only [Prod.mk.injEq] at hacc;refine ScanEnd_of HV.out rfl (by have:=hacc.1;omega) (by have:=hacc.2;omega) ?_ (below_drewN' hb _);rw [H00.out];exact toks_nil _ _
def TokAt (w:World) (g i:Nat) (t:Sp.Tok):Prop:=
 w.cell? ⟨g,i * 4,none⟩=some (.int .i64 (t.1:Nat))∧w.cell? ⟨g,i * 4+1,none⟩=some (.string ⟨t.2.1.toArray⟩)∧w.cell? ⟨g,i * 4+2,none⟩=some (.int .i64 (t.2.2.1:Nat))∧w.cell? ⟨g,i * 4+3,none⟩=some (.int .i64 (t.2.2.2:Nat))
def View (w:World) (H:Nat) (A:Option Addr) (ts:List Sp.Tok):Prop:=
 ∀ i t,ts[i]?=some t→∃ g,A=some ⟨g,0,none⟩∧g<H∧TokAt w g i t
theorem tokCells_get:∀ (ts:List Sp.Tok) (i:Nat) (t:Sp.Tok) (f:Nat),ts[i]?=some t→f<4→(tokCells ts)[i * 4+f]?=(tokCell t)[f]?
 | [],i,t,f,h,_=>by simp at h
 | x :: r,0,t,f,h,hf=>by
  simp at h;subst h;unfold tokCells;rw [List.flatMap_cons,List.getElem?_append_left (show 0 * 4+f<(tokCell x).length by show _<4;omega)];simp
 | x :: r,i+1,t,f,h,hf=>by
  have ih:=tokCells_get r i t f (by simpa using h) hf;unfold tokCells at ih ⊢;rw [List.flatMap_cons,List.getElem?_append_right (show (tokCell x).length≤(i+1) * 4+f by show 4≤_;omega)];have:(i+1) * 4+f - (tokCell x).length=i * 4+f:=by show (i+1) * 4+f - 4=_;omega
  rw [this];exact ih
theorem toks_view {w:World} {B:Nat} {v:Value} {ts:List Sp.Tok} (h:Toks w B v ts):∃ A cap,v=.slice A ts.length cap∧View w w.heap.size A ts:=by
 rcases h.2 with⟨rfl,hn⟩ | ⟨g,cap,cur,hv,hg,r⟩
 ·refine⟨none,0,by rw [hn],?_⟩;intro i t ht;have:ts=[]:=List.length_eq_zero_iff.1 hn;subst this;simp at ht
 ·refine⟨some ⟨g,0,none⟩,cap,hv,?_⟩;intro i t ht;refine⟨g,rfl,(h.lt g (by rw [hv];rfl)).2,?_⟩
  have key:∀ f u,f<4→(tokCell t)[f]?=some u→w.cell? ⟨g,i * 4+f,none⟩=some u:=by
   intro f u hf hu
   have hlt:i * 4+f<ts.length * 4:=by
    have:i<ts.length:=(List.getElem?_eq_some_iff.1 ht).1;omega
   (have h2:w.ownsRow B 142 4 (.slice (some ⟨g,0,none⟩) ts.length cap) ts.length (tokCells ts):=by rw [← hv];exact h);rw [h2.cellAt (i * 4+f) hlt,tokCells_get ts i t f ht hf,hu]
  exact⟨key 0 _ (by omega) rfl,key 1 _ (by omega) rfl,key 2 _ (by omega) rfl,key 3 _ (by omega) rfl⟩
def ScanSays (s:ByteArray) (ts:List Sp.Tok) (c n m:Int):Prop:=
 ∀ W,Gs W→Calls Tryz.prog 87 #[.string s] W fun e w'=>∃ A cap,e=.returned (.tuple #[.slice A ts.length cap,.int .i64 c,.int .i64 n,.int .i64 m])∧View w' w'.heap.size A ts∧Below W.heap.size W w'
theorem scan_says (s:ByteArray) (hs:s.size≤9223372036854775807) {ts:List Sp.Tok} {c n m:Nat} (h:Sp.scanV s.data.toList=(ts,c,n,m)):ScanSays s ts c n m:=by
 intro W hG;refine (scan_scan s W hG hs).mono ?_;rintro e w' ⟨tv,rfl,ht,hb⟩;rw [h] at ht ⊢;obtain⟨A,cap,rfl,hv⟩:=toks_view ht;exact⟨A,cap,rfl,hv,hb⟩
end Go.Proofs.YtedfppbnkgffcaaGreatDoor
