/-
 THE WALKS of reachlaw10's path, paths on equal paths (chapter 10).
-/
import Derived.Test.YthnamoedpnknmaaGreatDoorCl
set_option linter.unusedVariables false
set_option linter.unusedSimpArgs false
set_option maxRecDepth 100000
set_option maxHeartbeats 8000000
namespace Go.Proofs.YthnamoedpnknmaaGreatDoor
open Go.RowKit
open Go.Lib (hid)
theorem law10_pathP (A1 A2 B1 B2:Option Addr) (c1 c2 d1 d2:Nat) (l e:List Int) (h:ByteArray) (w:World) (k1:IV w A1 l) (k2:IV w A2 l) (k3:IV w B1 e) (k4:IV w B2 e) (hl:l.length≤1000000) (he:e.length≤1000000):
  Calls Tryz.prog 25 #[.agg #[.slice A1 l.length c1,.slice B1 e.length d1,.string h],.agg #[.slice A2 l.length c2,.slice B2 e.length d2,.string h]] w fun r w'=>r=.returned (.bool true)∧Below w.heap.size w w':=by
 obtain⟨N,hN⟩:=nM w.heap.size;obtain⟨W2,hW2⟩:=nM ((w.alloc (.cells #[.slice A1 l.length c1,.slice B1 e.length d1,.string h] 59)).alloc (.cells #[.slice A2 l.length c2,.slice B2 e.length d2,.string h] 59));have hb2:Below N w W2:=by rw [← hW2,← hN];exact ((Below.refl _ _).alloc (Nat.le_refl _) _).alloc (by simp) _
 have hbw:Below w.heap.size w W2:=by rw [hN];exact hb2
 have hk1:Blk W2 N 59 #[.slice A1 l.length c1,.slice B1 e.length d1,.string h]:=by rw [← hW2,← hN];exact (Blk.new w _ _).alloc _
 have hk2:Blk W2 (N+1) 59 #[.slice A2 l.length c2,.slice B2 e.length d2,.string h]:=by rw [← hW2];exact blk_at (by rw [World.size_alloc];omega)
 have hi1:=law10_ints A1 A2 c1 c2 l W2 (k1.more hbw) (k2.more hbw) (by omega);have HI2:=hid (fun (W:World) (hb:Below N w W)=>law10_ints B1 B2 d1 d2 e W (k3.more (show Below w.heap.size w W by rw [hN];exact hb)) (k4.more (show Below w.heap.size w W by rw [hN];exact hb)) (by omega));obtain⟨ll,hll⟩:=nM l.length;obtain⟨ee,hee⟩:=nM e.length;rw [hll,hee] at hk1 hk2 hW2 ⊢;rw [hll] at hi1;rw [hee] at HI2;have HI1:=hid hi1;have HN:=hid hN;have HB2:=hid hb2;have HK1:=hid hk1;have HK2:=hid hk2;have x0:W2.cell? ⟨N,0,none⟩=some (.slice A1 ll c1):=hk1.cell 0;have x1:W2.cell? ⟨N+1,0,none⟩=some (.slice A2 ll c2):=hk2.cell 0;have hsz:N+2≤W2.heap.size:=by have:=hk2.lt;omega
 have HSZ:=hid hsz;clear k1 k2 k3 k4 hl he hb2 hbw hi1 hll hee hk1 hk2 hsz;go_enter Tryz.func25,Tryz.ntmps25;go_wp2_with fail;go_at_call 19;refine HI1.out.mono ?_;rintro r W3 ⟨rfl,hb3⟩;have HB3:=hid (HB2.out.trans (hb3.mono (by have:=HSZ.out;omega)));have e1:=HK1.out.below hb3 HK1.out.lt;have e2:=HK2.out.below hb3 HK2.out.lt;have HE1:=hid e1;have HE2:=hid e2;clear x0 x1 hW2;have x0:W3.cell? ⟨N,1,none⟩=some (.slice B1 ee d1):=e1.cell 1;have x1:W3.cell? ⟨N+1,1,none⟩=some (.slice B2 ee d2):=e2.cell 1;clear e1 e2;go_wp2_with fail;go_at_call 19;refine (HI2.out W3 HB3.out).mono ?_;rintro r W4 ⟨rfl,hb4⟩;have HB4:=hid (HB3.out.trans (hb4.mono (by have:=HB3.out.size;have:=HN.out;omega)));have e1:=HE1.out.below hb4 HE1.out.lt;have e2:=HE2.out.below hb4 HE2.out.lt;clear x0 x1 hb3 hb4;have x0:W4.cell? ⟨N,2,none⟩=some (.string h):=e1.cell 2;have x1:W4.cell? ⟨N+1,2,none⟩=some (.string h):=e2.cell 2;have z1:(h.toList == h.toList)=true:=by simp
 clear e1 e2;go_wp2_with fail;go_ret;exact⟨rfl,by rw [HN.out];exact HB4.out⟩
def PthV (W:World) (p:Sp.Path) (cs:List Value):Prop:=∃ A c B d,cs=[.slice A p.ports.length c,.slice B p.entries.length d,.string p.header]∧IV W A p.ports∧IV W B p.entries
theorem PthV.more {W W':World} {p:Sp.Path} {cs:List Value} (h:PthV W p cs) (hb:Below W.heap.size W W'):PthV W' p cs:=by
 obtain⟨A,c,B,d,e,h1,h2⟩:=h;exact⟨A,c,B,d,e,h1.more hb,h2.more hb⟩
theorem PathO.view {W:World} {p:Sp.Path} {cs:List Value} (h:PathO W p cs):PthV W p cs:=by
 obtain⟨v1,v2,rfl,h1,h2⟩:=h;obtain⟨A,c,rfl,_,i1⟩:=in_view h1;obtain⟨B,d,rfl,_,i2⟩:=in_view h2;exact⟨A,c,B,d,rfl,i1,i2⟩
theorem law10_paths (A1 A2:Option Addr) (cap1 cap2:Nat) (l:List Sp.Path) (w:World) (k1:LView 3 PthV w A1 l) (k2:LView 3 PthV w A2 l) (hl:l.length≤1000000) (hb:∀ p ∈ l,p.ports.length≤1000000∧p.entries.length≤1000000):
  Calls Tryz.prog 22 #[.slice A1 l.length cap1,.slice A2 l.length cap2] w fun e w'=>e=.returned (.bool true)∧Below w.heap.size w w':=by
 have K1:=hid k1;have K2:=hid k2;have HBD:=hid hb;obtain⟨n,hn⟩:=nM l.length;rw [hn] at hl ⊢;have HN:=hid hn;have q0:((n:Int) != (n:Int))=false:=by rw [bne_eq_false_iff_eq]
 have n1:(n:Int)≤1000000:=by omega
 clear k1 k2 hn hb;go_enter Tryz.func22,Tryz.ntmps22;go_wp2_with fail;go_loopw [5] (fun v5 wr=>Below w.heap.size w wr∧∃ i:Nat,v5=.int .i64 (i:Int)∧i≤n) (fun v5 _=>n - (intOf v5).toNat)
 case atStart=>exact⟨Below.refl _ _,0,rfl,by omega⟩
 case round=>
  obtain⟨hb,i,rfl,hi⟩:=hrel;have HB:=hid hb;by_cases hlt:i<n
  ·have z1:decide ((i:Int)<n)=true:=dT;have z1b:decide (i<n)=true:=decide_eq_true hlt;(have z2:(i:Int)<n:=by omega);(have z3:(0:Int)≤(i:Int):=by omega);have z4:IntKind.i64.wrap ((i:Int)+1)=(i:Int)+1:=by rw [IntKind.wrap_i64];omega
   obtain⟨x,hx⟩:∃ x,l[i]?=some x:=⟨_,List.getElem?_eq_getElem (by rw [HN.out];exact hlt)⟩
   obtain⟨g1,o1,cs1,rfl,hg1,_,⟨P1,p1,Q1,q1,rfl,i1,j1⟩,a0⟩:=(LView.more K1.out hb (fun _ _ h=>h.more hb)) i x hx;obtain⟨g2,o2,cs2,rfl,hg2,_,⟨P2,p2,Q2,q2,rfl,i2,j2⟩,b0⟩:=(LView.more K2.out hb (fun _ _ h=>h.more hb)) i x hx;have hbd:=HBD.out x (List.mem_of_getElem? hx);have hc:=law10_pathP P1 P2 Q1 Q2 p1 p2 q1 q2 x.ports x.entries x.header wr.drew (i1.more ((Below.refl _ _).drew)) (i2.more ((Below.refl _ _).drew)) (j1.more ((Below.refl _ _).drew)) (j2.more ((Below.refl _ _).drew)) hbd.1 hbd.2
   obtain⟨l1,hl1⟩:∃ z,x.ports.length=z:=⟨_,rfl⟩
   obtain⟨l2,hl2⟩:∃ z,x.entries.length=z:=⟨_,rfl⟩
   obtain⟨h,hh⟩:∃ z,x.header=z:=⟨_,rfl⟩
   rw [hl1,hl2,hh] at hc a0 b0
   have hS0:(fun w':World=>w'.cell? ⟨g1,o1+i * 3,none⟩=some (.slice P1 l1 p1)∧w'.cell? ⟨g1,o1+i * 3+1,none⟩=some (.slice Q1 l2 q1)∧w'.cell? ⟨g1,o1+i * 3+2,none⟩=some (.string h)∧w'.cell? ⟨g2,o2+i * 3,none⟩=some (.slice P2 l1 p2)∧w'.cell? ⟨g2,o2+i * 3+1,none⟩=some (.slice Q2 l2 q2)∧w'.cell? ⟨g2,o2+i * 3+2,none⟩=some (.string h)) wr.drew:=⟨a0 0 _ rfl,a0 1 _ rfl,a0 2 _ rfl,b0 0 _ rfl,b0 1 _ rfl,b0 2 _ rfl⟩
   have HC:=hid hc;have HI:=hid (show i+1≤n by omega);clear hb hi hlt hx hg1 hg2 i1 j1 i2 j2 a0 b0 hbd hc hl1 hl2 hh;go_wp2_with fail;refine wp_region_K 8 (fun w':World=>w'.cell? ⟨g1,o1+i * 3,none⟩=some (.slice P1 l1 p1)∧w'.cell? ⟨g1,o1+i * 3+1,none⟩=some (.slice Q1 l2 q1)∧w'.cell? ⟨g1,o1+i * 3+2,none⟩=some (.string h)∧w'.cell? ⟨g2,o2+i * 3,none⟩=some (.slice P2 l1 p2)∧w'.cell? ⟨g2,o2+i * 3+1,none⟩=some (.slice Q2 l2 q2)∧w'.cell? ⟨g2,o2+i * 3+2,none⟩=some (.string h)) (by kernel_rfl) (fun hcl=>?_);have hS:=hS0;clear hS0;refine tk 0 hcl hS ?_;clear hcl;intro hcl;simp only [tkl];refine tk 1 hcl hS ?_;clear hcl;intro hcl;simp only [tkl];refine tk 2 hcl hS ?_;clear hcl;intro hcl;simp only [tkl];refine tk 3 hcl hS ?_;clear hcl;intro hcl;simp only [tkl];refine tk 4 hcl hS ?_;clear hcl;intro hcl;simp only [tkl];refine tk 5 hcl hS ?_;clear hcl;intro hcl;simp only [tkl];refine tk 6 hcl hS ?_;clear hcl;intro hcl;simp only [tkl];refine tk 7 hcl hS ?_;clear hcl;intro hcl;simp only [tkl];clear hS;refine on1 8 hcl (fun K hK=>?_);go_simp;refine HC.out.mono ?_;rintro e w5 ⟨rfl,hb5⟩;have HB5:=hid (show Below w.heap.size w w5 from HB.out.trans (((Below.refl wr.heap.size wr).drew.trans hb5).mono HB.out.size));refine hK.out _ _ (Or.inl (by kernel_rfl)) (fun hcl2=>?_);clear hK K hcl hb5;have hcl:=hcl2;clear hcl2;(try simp only [Act.put,pu]);refine on1 9 hcl (fun K hK=>?_);go_simp;refine hK.out _ _ (Or.inl (by kernel_rfl)) (fun hcl2=>?_);clear hK K hcl hcl2;refine wpAnyK_done (by kernel_rfl) ?_ _;(try simp only [Act.put,pu]);go_wp2_with fail;go_roundw
   case rel=>exact⟨HB5.out,i+1,by rfl,HI.out⟩
   case measure=>have:=HI.out;simp [intOf];omega
  ·have z1:decide ((i:Int)<n)=false:=dF;have z1b:decide (i<n)=false:=decide_eq_false hlt;clear hb hlt hi;go_wp2_with fail;go_ret;exact⟨rfl,HB.out⟩
end Go.Proofs.YthnamoedpnknmaaGreatDoor
