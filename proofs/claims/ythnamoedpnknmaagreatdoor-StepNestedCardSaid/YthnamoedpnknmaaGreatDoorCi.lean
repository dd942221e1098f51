/-
  Texts joined: Cg Ci.
-/
import Derived.Test.YthnamoedpnknmaaGreatDoorBu
import Derived.Test.YthnamoedpnknmaaGreatDoorBk
import Derived.Test.YthnamoedpnknmaaGreatDoorHb
import Derived.Test.YthnamoedpnknmaaGreatDoorBz
import Derived.Test.YthnamoedpnknmaaGreatDoorAe
set_option linter.unusedVariables false
set_option linter.unusedSimpArgs false
set_option maxRecDepth 100000
set_option maxHeartbeats 8000000
namespace Go.Proofs.YthnamoedpnknmaaGreatDoor
open Go.RowKit
open Go.Lib (hid)
namespace Sp
theorem stV_range {n:Net} (hn:NetOk n) {k:Nat} {h:ByteArray} {c:Int × ByteArray} (hc:c ∈ stV (movesV n k h)):0≤c.1∧c.1<(n.ports.length:Int):=by
 obtain⟨m,hm,⟨h0,rfl⟩ | ⟨h0,rfl⟩⟩:=mem_stV.1 hc
 ·exact⟨h0,(movesV_fine hn hm).out h0⟩
 ·exact⟨h0,(movesV_fine hn hm).inn h0⟩
end Sp
def oneI (x:Int):List Value:=[.int .i64 x]
theorem oneI_flat:∀ l:List Int,(l.map oneI).flatten=l.map (Value.int .i64)
 | []=>rfl
 | x :: r=>by rw [List.map_cons,List.flatten_cons,oneI_flat r];rfl
theorem InR.own {w:World} {B:Nat} {v:Value} {l:List Int} (h:InR w B v l):OwnL 3 1 w B v (l.map oneI):=by
 refine⟨fun c hc=>?_,?_⟩
 ·obtain⟨x,_,rfl⟩:=List.mem_map.1 hc;rfl
 ·rw [List.length_map,oneI_flat];exact h
theorem OwnL.inR {w:World} {B:Nat} {v:Value} {l:List Int} (h:OwnL 3 1 w B v (l.map oneI)):InR w B v l:=by
 have h2:=h.2;rw [List.length_map,oneI_flat] at h2;exact h2
theorem oneI_snoc (l:List Int) (x:Int):l.map oneI ++ [[.int .i64 x]]=(l ++ [x]).map oneI:=by rw [List.map_append];rfl
theorem lastP_at {p:Sp.Path} {k:Nat} {x:Int} (hk:p.ports.length=k+1) (hx:p.ports[k]?=some x):Sp.lastP p=x:=by
 unfold Sp.lastP;rw [List.getLastD_eq_getLast?,List.getLast?_eq_getElem?,hk,Nat.add_sub_cancel,hx];rfl
theorem ref10_end (p:Sp.Path) (A B:Option Addr) (c d:Nat) (w:World) (hne:p.ports≠[]) (hv:IV w A p.ports) (hl:p.ports.length≤1000000):
  Calls Tryz.prog 80 #[.agg #[.slice A p.ports.length c,.slice B p.entries.length d,.string p.header]] w fun r w'=>r=.returned (.agg #[.int .i64 (Sp.lastP p),.string p.header])∧Below w.heap.size w w':=by
 obtain⟨k,hk⟩:∃ k,p.ports.length=k+1:=⟨p.ports.length - 1,by have:=List.length_pos_iff.2 hne;omega⟩
 obtain⟨x,hx⟩:∃ x,p.ports[k]?=some x:=⟨_,List.getElem?_eq_getElem (by omega)⟩
 rw [lastP_at hk hx];obtain⟨g,o,rfl,hg,a0⟩:=hv.at hx;obtain⟨le,hle⟩:=nM p.entries.length;obtain⟨h,hh⟩:=nM p.header;rw [hk] at hl ⊢;rw [hle,hh];obtain⟨N,hN⟩:=nM w.heap.size;rw [hN] at hg ⊢;obtain⟨W2,hW2⟩:=nM ((w.alloc (.cells #[.slice (some ⟨g,o,none⟩) (k+1) c,.slice B le d,.string h] 59)).alloc (.cells #[.int .i64 0,.string ⟨#[]⟩] 28));have hb2:Below N w W2:=by rw [← hW2,← hN];exact ((Below.refl _ _).alloc (Nat.le_refl _) _).alloc (by simp) _
 have hk0:Blk W2 N 59 #[.slice (some ⟨g,o,none⟩) (k+1) c,.slice B le d,.string h]:=by rw [← hW2,← hN];exact (Blk.new _ _ _).alloc _
 have hk1:Blk W2 (N+1) 28 #[.int .i64 0,.string ⟨#[]⟩]:=by rw [← hW2,← hN];exact blk_at9 (by simp)
 have hS0:(fun w':World=>w'.cell? ⟨N,0,none⟩=some (.slice (some ⟨g,o,none⟩) (k+1) c)∧w'.cell? ⟨N,2,none⟩=some (.string h)∧w'.cell? ⟨g,o+k,none⟩=some (.int .i64 x)) W2.drew:=⟨hk0.cell 0,hk0.cell 2,(hb2.cell (p:=⟨g,o+k,none⟩) hg).trans a0⟩
 have x0:W2.cell? ⟨N+1,0,none⟩=some (.int .i64 0):=hk1.cell 0;have x1:W2.cell? ⟨N+1,1,none⟩=some (.string ⟨#[]⟩):=hk1.cell 1;have y0:=hk1.frozen 0;have y1:=hk1.frozen 1;have z1:IntKind.i64.wrap (k:Int)=(k:Int):=by rw [IntKind.wrap_i64];omega
 have z2:(k:Int)<(k:Int)+1:=by omega
 have z3:(0:Int)≤(k:Int):=by omega
 have z4:IntKind.i64.wrap ((k:Int)+1 - 1)=(k:Int):=by rw [IntKind.wrap_i64];omega
 have HB:=hid hb2;have HK1:=hid hk1;clear hne hv hx hk hle hh hg a0 hl hb2 hk0 hk1;go_enter Tryz.func80,Tryz.ntmps80;go_wp2_with fail;refine wp_region_K 11 (fun w':World=>w'.cell? ⟨N,0,none⟩=some (.slice (some ⟨g,o,none⟩) (k+1) c)∧w'.cell? ⟨N,2,none⟩=some (.string h)∧w'.cell? ⟨g,o+k,none⟩=some (.int .i64 x)) (by kernel_rfl) (fun hcl=>?_);have hS:=hS0;clear hS0;refine tk 0 hcl hS ?_;clear hcl;intro hcl;simp only [tkl];refine tk 1 hcl hS ?_;clear hcl;intro hcl;simp only [tkl];refine tk 2 hcl hS ?_;clear hcl;intro hcl;simp only [tkl];refine tk 3 hcl hS ?_;clear hcl;intro hcl;simp only [tkl];refine tk 4 hcl hS ?_;clear hcl;intro hcl;simp only [tkl];refine tk 5 hcl hS ?_;clear hcl;intro hcl;simp only [tkl];refine tk 6 hcl hS ?_;clear hcl;intro hcl;simp only [tkl];refine tk 7 hcl hS ?_;clear hcl;intro hcl;simp only [tkl];refine tk 8 hcl hS ?_;clear hcl;intro hcl;simp only [tkl];refine tk 9 hcl hS ?_;clear hcl;intro hcl;simp only [tkl];refine tk 10 hcl hS ?_;clear hcl;intro hcl;simp only [tkl];clear hS;refine on1 11 hcl (fun K hK=>?_);go_simp;refine hK.out _ _ (Or.inl (by kernel_rfl)) (fun hcl2=>?_);clear hK K hcl hcl2;refine wpAnyK_done (by kernel_rfl) ?_ _;go_wp2_with fail;refine bodyPost_ret (results_cell_row rfl _ _ (N+1) 28 #[.int .i64 x,.string h] (0,0) _ rfl ((HK1.out.set_ 0 (.int .i64 x)).set_ 1 (.string h)) Tryz.underlying28 rfl (by kernel_rfl)) rfl ⟨rfl,?_⟩;exact ((HB.out.drew.setCell (p:=⟨N+1,0,none⟩) (by show N≤N+1;omega) _).setCell (p:=⟨N+1,1,none⟩) (by show N≤N+1;omega) _)
theorem ref10_more (p:Sp.Path) (A B:Option Addr) (c d:Nat) (Ap:Option Addr) (cp:Nat) (l:List Int) (e:Int) (hd:ByteArray) (w:World) (hv:IV w A p.ports) (hu:IV w B p.entries) (hx:IV w Ap l) (hl1:p.ports.length≤1000000) (hl2:p.entries.length≤1000000) (hl3:l.length≤1000000):
  Calls Tryz.prog 92 #[.agg #[.slice A p.ports.length c,.slice B p.entries.length d,.string p.header],.slice Ap l.length cp,.int .i64 e,.string hd] w fun r w'=>∃ v1 v2,r=.returned (.agg #[v1,v2,.string hd])∧InR w' w.heap.size v1 (p.ports ++ l)∧InR w' w.heap.size v2 (p.entries ++ Sp.ifL e)∧Below w.heap.size w w':=by
 obtain⟨lp,hlp⟩:=nM p.ports.length;obtain⟨le,hle⟩:=nM p.entries.length;obtain⟨lx,hlx⟩:=nM l.length;obtain⟨hp,hhp⟩:=nM p.header;rw [hlp] at hl1 ⊢;rw [hle] at hl2 ⊢;rw [hlx] at hl3 ⊢;rw [hhp];obtain⟨N,hN⟩:=nM w.heap.size;rw [hN];obtain⟨W1,hW1⟩:=nM (((w.alloc (.cells #[.slice A lp c,.slice B le d,.string hp] 59)).alloc (.cells #[.slice none 0 0,.slice none 0 0,.string ⟨#[]⟩] 59)).alloc (.cells #[.slice none 0 0,.slice none 0 0,.string ⟨#[]⟩] 59));have hb1:Below N w W1:=by rw [← hW1,← hN];exact (((Below.refl _ _).alloc (Nat.le_refl _) _).alloc (by simp) _).alloc (by simp;omega) _
 have hs1:W1.heap.size=N+3:=by rw [← hW1,← hN];simp
 have hk0:Blk W1 N 59 #[.slice A lp c,.slice B le d,.string hp]:=by rw [← hW1,← hN];exact ((Blk.new _ _ _).alloc _).alloc _
 have hk1:Blk W1 (N+1) 59 #[.slice none 0 0,.slice none 0 0,.string ⟨#[]⟩]:=by rw [← hW1,← hN];exact (blk_at9 (by simp)).alloc _
 have hk2:Blk W1 (N+1+1) 59 #[.slice none 0 0,.slice none 0 0,.string ⟨#[]⟩]:=by rw [← hW1,← hN];exact blk_at9 (by simp)
 obtain⟨W2,hW2⟩:=nM (((W1.setCell ⟨N+1+1,0,none⟩ (.slice none 0 0)).setCell ⟨N+1+1,1,none⟩ (.slice none 0 0)).setCell ⟨N+1+1,2,none⟩ (.string hd));have hb2:Below N w W2:=by rw [← hW2];exact ((hb1.setCell (p:=⟨N+1+1,0,none⟩) (by show N≤N+1+1;omega) _).setCell (p:=⟨N+1+1,1,none⟩) (by show N≤N+1+1;omega) _).setCell (p:=⟨N+1+1,2,none⟩) (by show N≤N+1+1;omega) _
 have hs2:W2.heap.size=N+3:=by rw [← hW2];simp only [World.size_setCell];exact hs1
 have j0:Blk W2 N 59 #[.slice A lp c,.slice B le d,.string hp]:=by rw [← hW2];exact ((hk0.far (p:=⟨N+1+1,0,none⟩) (by show N≠N+1+1;omega) _).far (p:=⟨N+1+1,1,none⟩) (by show N≠N+1+1;omega) _).far (p:=⟨N+1+1,2,none⟩) (by show N≠N+1+1;omega) _
 have j1:Blk W2 (N+1) 59 #[.slice none 0 0,.slice none 0 0,.string ⟨#[]⟩]:=by rw [← hW2];exact ((hk1.far (p:=⟨N+1+1,0,none⟩) (by show N+1≠N+1+1;omega) _).far (p:=⟨N+1+1,1,none⟩) (by show N+1≠N+1+1;omega) _).far (p:=⟨N+1+1,2,none⟩) (by show N+1≠N+1+1;omega) _
 have j2:Blk W2 (N+1+1) 59 #[.slice none 0 0,.slice none 0 0,.string hd]:=by rw [← hW2];exact ((hk2.set_ 0 _).set_ 1 _).set_ 2 _
 have x0:W1.cell? ⟨N+1+1,0,none⟩=some (.slice none 0 0):=hk2.cell 0;have x1:W1.cell? ⟨N+1+1,1,none⟩=some (.slice none 0 0):=hk2.cell 1;have x2:W1.cell? ⟨N+1+1,2,none⟩=some (.string ⟨#[]⟩):=hk2.cell 2;have y0:=hk2.frozen 0;have y1:=hk2.frozen 1;have y2:=hk2.frozen 2;have HN:=hid hN;have HLP:=hid hlp;have HLE:=hid hle;have HLX:=hid hlx;have HL:=hid (show lp≤1000000∧le≤1000000∧lx≤1000000 from⟨hl1,hl2,hl3⟩);have HV:=hid hv;have HU:=hid hu;have HX:=hid hx;have HB:=hid hb2;have HS:=hid (show N+3≤W2.heap.size by rw [hs2];exact Nat.le_refl _);have HK0:=hid j0;have HK1:=hid j1;have HK2:=hid j2;clear hlp hle hlx hhp hv hu hx hl1 hl2 hl3 hb1 hs1 hk0 hk1 hk2 hb2 hs2 j0 j1 j2;go_enter Tryz.func92,Tryz.ntmps92;go_wp2_with fail;clear x0 x1 x2 y0 y1 y2 hW1 hW2;go_loopw [10] (fun v10 wr=>Below N w wr∧N+3≤wr.heap.size∧Blk wr N 59 #[.slice A lp c,.slice B le d,.string hp]∧Blk wr (N+1) 59 #[.slice none 0 0,.slice none 0 0,.string ⟨#[]⟩]∧∃ (i:Nat) (G:Option Addr) (k:Nat),v10=.int .i64 (i:Int)∧i≤lp∧Blk wr (N+1+1) 59 #[.slice G (i) k,.slice none 0 0,.string hd]∧InR wr (N+3) (.slice G (i) k) (p.ports.take i)) (fun v10 _=>lp - (intOf v10).toNat)
 case atStart=>exact⟨HB.out,HS.out,HK0.out,HK1.out,0,none,0,rfl,Nat.zero_le _,HK2.out,by rw [List.take_zero];exact World.ownsRow_nil _ _ _ _⟩
 case round=>
  clear HB HS HK0 HK1 HK2;obtain⟨hb,hs,hk0,hk1,i,G,k,rfl,hi,hk2,hown⟩:=hrel
  obtain⟨wa,hwa⟩:∃ wa,wa=wr:=⟨_,rfl⟩
  subst hwa;have HB:=hid hb;have HS:=hid hs;have HK0:=hid hk0;have HK1:=hid hk1;have HK2:=hid hk2;have HO:=hid hown.own;have i0:(0:Int)≤(i:Int):=by omega
  have n1:wa.cell? ⟨N,0,none⟩=some (.slice A lp c):=hk0.cell 0;by_cases hlt:i<lp
  ·have p1:decide ((i:Int)<(lp:Int))=true:=dT;have p2:decide (i<lp)=true:=decide_eq_true hlt;(have p3:(i:Int)<(lp:Int):=by omega);have z1:IntKind.i64.wrap ((i:Int)+1)=(i:Int)+1:=by have:=HL.out.1;rw [IntKind.wrap_i64];omega
   obtain⟨x,hx⟩:∃ x,(p.ports)[i]?=some x:=⟨_,List.getElem?_eq_getElem (by rw [HLP.out];exact hlt)⟩
   obtain⟨g,o,rfl,hg,a0⟩:=HV.out.at hx;rw [HN.out] at hg
   have hsw:∀ W,Below (N+3) wa W→(fun w':World=>w'.cell? ⟨N+1+1,0,none⟩=some (.slice G (i) k)∧w'.cell? ⟨N,0,none⟩=some (.slice (some ⟨g,o,none⟩) lp c)∧w'.cell? ⟨g,o+i,none⟩=some (.int .i64 x)) W:=fun W hW=>by
    have hW2:Below N w W:=HB.out.trans (hW.mono (by omega));exact⟨(hW.cell (p:=⟨N+1+1,0,none⟩) (by show N+1+1<N+3;omega)).trans (HK2.out.cell 0),(hW.cell (p:=⟨N,0,none⟩) (by show N<N+3;omega)).trans (HK0.out.cell 0),(hW2.cell (p:=⟨g,o+i,none⟩) hg).trans a0⟩
   have hS0:=hsw _ ((Below.refl _ _).drew)
   have hacc:(p.ports.take i).map oneI ++ [[.int .i64 x]]=(p.ports.take (i+1)).map oneI:=by
    rw [oneI_snoc,List.take_add_one,hx];simp
   have hlen:(p.ports.take i).length=i:=by
    rw [List.length_take,HLP.out];omega
   have hlen2:(p.ports.take (i+1)).length=(i+1):=by
    rw [List.length_take,HLP.out];omega
   have HSW:=hid hsw;have HACC:=hid hacc;have HLEN:=hid hlen;have HLEN2:=hid hlen2;have HI:=hid (show i+1≤lp by omega);clear hb hs hk0 hk1 hk2 hown hi hlt hx hg a0 hsw hacc hlen hlen2;go_wp2_with fail;clear n1;refine wp_region_K 10 (fun w':World=>w'.cell? ⟨N+1+1,0,none⟩=some (.slice G (i) k)∧w'.cell? ⟨N,0,none⟩=some (.slice (some ⟨g,o,none⟩) lp c)∧w'.cell? ⟨g,o+i,none⟩=some (.int .i64 x)) (by kernel_rfl) (fun hcl=>?_);have hS:=hS0;clear hS0;refine tk 0 hcl hS ?_;clear hcl;intro hcl;simp only [tkl];refine tk 1 hcl hS ?_;clear hcl;intro hcl;simp only [tkl];refine tk 2 hcl hS ?_;clear hcl;intro hcl;simp only [tkl];refine tk 3 hcl hS ?_;clear hcl;intro hcl;simp only [tkl];refine tk 4 hcl hS ?_;clear hcl;intro hcl;simp only [tkl];refine tk 5 hcl hS ?_;clear hcl;intro hcl;simp only [tkl];refine tk 6 hcl hS ?_;clear hcl;intro hcl;simp only [tkl];refine on1 7 hcl (fun K hK=>?_);go_simp;have hbA:Below (N+3) wa (wa.alloc (.cells #[.int .i64 x] 3)):=(Below.refl _ _).alloc HS.out _;have HBA:=hid hbA;refine hK.out _ _ (Or.inr (HSW.out _ hbA.drew)) (fun hcl2=>?_);clear hK K hcl hS hbA;have hcl:=hcl2;clear hcl2;refine on1 8 hcl (fun K hK=>?_);refine wp_els _ _ (by rfl) Tryz.underlying42 iinfo9 (by rfl) (by decide) (N+3) (.slice G (i) k) ((p.ports.take i).map oneI) (by rfl) _ wa.heap.size [.int .i64 x] rfl (by simp [Value.oneCell']) (by rfl) (Blk.new wa 3 #[.int .i64 x]) (HO.out.below ((Below.refl _ _).alloc (Nat.le_refl _) _).drew) (by show N+3≤(wa.alloc _).heap.size;rw [World.size_alloc];have:=HS.out;omega) (by rw [List.length_map,HLEN.out];have:=HL.out;have:=HI.out;omega) (by rw [List.length_map,HLEN.out];have:=HL.out;have:=HI.out;omega) ?_;intro v' w1 hown1 hbel hoth _;rw [HACC.out] at hown1;obtain⟨G',k',rfl⟩:=hown1.slice;rw [List.length_map,HLEN2.out] at hown1 ⊢;have hb1:Below (N+3) wa w1:=HBA.out.drew.trans hbel;have HB1:=hid hb1;have HO9:=hid hown1;have e1:w1.cell? ⟨N+1+1,0,none⟩=some (.slice G (i) k):=(HSW.out w1 hb1).1;have fz1:w1.frozen? ⟨N+1+1,0,none⟩=false:=(HK2.out.below hb1 (by omega)).frozen 0;have hS:=HSW.out w1 hb1;refine hK.out _ _ (Or.inr hS) (fun hcl2=>?_);clear hK K hcl hb1 hown1 hbel hoth;have hcl:=hcl2;clear hcl2;(try simp only [Act.put,pu]);refine tk 9 hcl hS ?_;clear hcl;intro hcl;simp only [tkl];clear hS;refine on1 10 hcl (fun K hK=>?_);go_simp;refine hK.out _ _ (Or.inl (by kernel_rfl)) (fun hcl2=>?_);clear hK K hcl hcl2 e1 fz1;refine wpAnyK_done (by kernel_rfl) ?_ _;go_wp2_with fail;go_roundw
   case rel=>
    skip
    refine⟨?_,?_,?_,?_,i+1,G',k',by rfl,HI.out,?_,(HO9.out.set (p:=⟨N+1+1,0,none⟩) (by show N+1+1<N+3;omega) _).inR⟩
    ·exact (HB.out.trans (HB1.out.mono (by omega))).setCell (p:=⟨N+1+1,0,none⟩) (by show N≤N+1+1;omega) _
    ·rw [World.size_setCell];exact Nat.le_trans HS.out HB1.out.size
    ·exact (HK0.out.below HB1.out (by omega)).far (p:=⟨N+1+1,0,none⟩) (by show N≠N+1+1;omega) _
    ·exact (HK1.out.below HB1.out (by omega)).far (p:=⟨N+1+1,0,none⟩) (by show N+1≠N+1+1;omega) _
    ·exact (HK2.out.below HB1.out (by omega)).set_ 0 _
   case measure=>have:=HI.out;simp [intOf];omega
  ·have p1:decide ((i:Int)<(lp:Int))=false:=dF;have p2:decide (i<lp)=false:=decide_eq_false hlt;(obtain rfl:lp=i:=by omega);rw [List.take_of_length_le (by rw [HLP.out];exact Nat.le_refl _)] at hown;have HO:=hid hown;clear hb hs hk0 hk1 hk2 hown hi hlt;go_wp2_with fail;clear p1 p2 n1 i0;go_loopw [11] (fun v11 wr=>Below N w wr∧N+3≤wr.heap.size∧Blk wr N 59 #[.slice A lp c,.slice B le d,.string hp]∧Blk wr (N+1) 59 #[.slice none 0 0,.slice none 0 0,.string ⟨#[]⟩]∧∃ (i:Nat) (G:Option Addr) (k:Nat),v11=.int .i64 (i:Int)∧i≤lx∧Blk wr (N+1+1) 59 #[.slice G (lp+i) k,.slice none 0 0,.string hd]∧InR wr (N+3) (.slice G (lp+i) k) (p.ports ++ l.take i)) (fun v11 _=>lx - (intOf v11).toNat)
   case atStart=>exact⟨HB.out,HS.out,HK0.out,HK1.out,0,G,k,rfl,Nat.zero_le _,HK2.out,by rw [List.take_zero,List.append_nil];exact HO.out⟩
   case round=>
    clear HB HS HK0 HK1 HK2 HO;obtain⟨hb,hs,hk0,hk1,i,G,k,rfl,hi,hk2,hown⟩:=hrel
    obtain⟨wa,hwa⟩:∃ wa,wa=wr:=⟨_,rfl⟩
    subst hwa;have HB:=hid hb;have HS:=hid hs;have HK0:=hid hk0;have HK1:=hid hk1;have HK2:=hid hk2;have HO:=hid hown.own;(have i0:(0:Int)≤(i:Int):=by omega);by_cases hlt:i<lx
    ·have p1:decide ((i:Int)<(lx:Int))=true:=dT;have p2:decide (i<lx)=true:=decide_eq_true hlt;(have p3:(i:Int)<(lx:Int):=by omega);have z1:IntKind.i64.wrap ((i:Int)+1)=(i:Int)+1:=by have:=HL.out.2.2;rw [IntKind.wrap_i64];omega
     obtain⟨x,hx⟩:∃ x,(l)[i]?=some x:=⟨_,List.getElem?_eq_getElem (by rw [HLX.out];exact hlt)⟩
     obtain⟨g,o,rfl,hg,a0⟩:=HX.out.at hx;rw [HN.out] at hg
     have hsw:∀ W,Below (N+3) wa W→(fun w':World=>w'.cell? ⟨N+1+1,0,none⟩=some (.slice G (lp+i) k)∧w'.cell? ⟨g,o+i,none⟩=some (.int .i64 x)) W:=fun W hW=>by
      have hW2:Below N w W:=HB.out.trans (hW.mono (by omega));exact⟨(hW.cell (p:=⟨N+1+1,0,none⟩) (by show N+1+1<N+3;omega)).trans (HK2.out.cell 0),(hW2.cell (p:=⟨g,o+i,none⟩) hg).trans a0⟩
     have hS0:=hsw _ ((Below.refl _ _).drew)
     have hacc:(p.ports ++ l.take i).map oneI ++ [[.int .i64 x]]=(p.ports ++ l.take (i+1)).map oneI:=by
      rw [oneI_snoc,List.take_add_one,hx];simp
     have hlen:(p.ports ++ l.take i).length=lp+i:=by
      rw [List.length_append,List.length_take,HLP.out,HLX.out];omega
     have hlen2:(p.ports ++ l.take (i+1)).length=lp+(i+1):=by
      rw [List.length_append,List.length_take,HLP.out,HLX.out];omega
     have HSW:=hid hsw;have HACC:=hid hacc;have HLEN:=hid hlen;have HLEN2:=hid hlen2;have HI:=hid (show i+1≤lx by omega);clear hb hs hk0 hk1 hk2 hown hi hlt hx hg a0 hsw hacc hlen hlen2;go_wp2_with fail
     skip
     refine wp_region_K 9 (fun w':World=>w'.cell? ⟨N+1+1,0,none⟩=some (.slice G (lp+i) k)∧w'.cell? ⟨g,o+i,none⟩=some (.int .i64 x)) (by kernel_rfl) (fun hcl=>?_);have hS:=hS0;clear hS0;refine tk 0 hcl hS ?_;clear hcl;intro hcl;simp only [tkl];refine tk 1 hcl hS ?_;clear hcl;intro hcl;simp only [tkl];refine tk 2 hcl hS ?_;clear hcl;intro hcl;simp only [tkl];refine tk 3 hcl hS ?_;clear hcl;intro hcl;simp only [tkl];refine tk 4 hcl hS ?_;clear hcl;intro hcl;simp only [tkl];refine tk 5 hcl hS ?_;clear hcl;intro hcl;simp only [tkl];refine on1 6 hcl (fun K hK=>?_);go_simp;have hbA:Below (N+3) wa (wa.alloc (.cells #[.int .i64 x] 3)):=(Below.refl _ _).alloc HS.out _;have HBA:=hid hbA;refine hK.out _ _ (Or.inr (HSW.out _ hbA.drew)) (fun hcl2=>?_);clear hK K hcl hS hbA;have hcl:=hcl2;clear hcl2;refine on1 7 hcl (fun K hK=>?_);refine wp_els _ _ (by rfl) Tryz.underlying42 iinfo9 (by rfl) (by decide) (N+3) (.slice G (lp+i) k) ((p.ports ++ l.take i).map oneI) (by rfl) _ wa.heap.size [.int .i64 x] rfl (by simp [Value.oneCell']) (by rfl) (Blk.new wa 3 #[.int .i64 x]) (HO.out.below ((Below.refl _ _).alloc (Nat.le_refl _) _).drew) (by show N+3≤(wa.alloc _).heap.size;rw [World.size_alloc];have:=HS.out;omega) (by rw [List.length_map,HLEN.out];have:=HL.out;have:=HI.out;omega) (by rw [List.length_map,HLEN.out];have:=HL.out;have:=HI.out;omega) ?_;intro v' w1 hown1 hbel hoth _;rw [HACC.out] at hown1;obtain⟨G',k',rfl⟩:=hown1.slice;rw [List.length_map,HLEN2.out] at hown1 ⊢;have hb1:Below (N+3) wa w1:=HBA.out.drew.trans hbel;have HB1:=hid hb1;have HO9:=hid hown1;have e1:w1.cell? ⟨N+1+1,0,none⟩=some (.slice G (lp+i) k):=(HSW.out w1 hb1).1;have fz1:w1.frozen? ⟨N+1+1,0,none⟩=false:=(HK2.out.below hb1 (by omega)).frozen 0;have hS:=HSW.out w1 hb1;refine hK.out _ _ (Or.inr hS) (fun hcl2=>?_);clear hK K hcl hb1 hown1 hbel hoth;have hcl:=hcl2;clear hcl2;(try simp only [Act.put,pu]);refine tk 8 hcl hS ?_;clear hcl;intro hcl;simp only [tkl];clear hS;refine on1 9 hcl (fun K hK=>?_);go_simp;refine hK.out _ _ (Or.inl (by kernel_rfl)) (fun hcl2=>?_);clear hK K hcl hcl2 e1 fz1;refine wpAnyK_done (by kernel_rfl) ?_ _;go_wp2_with fail;go_roundw
     case rel=>
      skip
      refine⟨?_,?_,?_,?_,i+1,G',k',by rfl,HI.out,?_,(HO9.out.set (p:=⟨N+1+1,0,none⟩) (by show N+1+1<N+3;omega) _).inR⟩
      ·exact (HB.out.trans (HB1.out.mono (by omega))).setCell (p:=⟨N+1+1,0,none⟩) (by show N≤N+1+1;omega) _
      ·rw [World.size_setCell];exact Nat.le_trans HS.out HB1.out.size
      ·exact (HK0.out.below HB1.out (by omega)).far (p:=⟨N+1+1,0,none⟩) (by show N≠N+1+1;omega) _
      ·exact (HK1.out.below HB1.out (by omega)).far (p:=⟨N+1+1,0,none⟩) (by show N+1≠N+1+1;omega) _
      ·exact (HK2.out.below HB1.out (by omega)).set_ 0 _
     case measure=>have:=HI.out;simp [intOf];omega
    ·have p1:decide ((i:Int)<(lx:Int))=false:=dF;have p2:decide (i<lx)=false:=decide_eq_false hlt;(obtain rfl:lx=i:=by omega);rw [List.take_of_length_le (by rw [HLX.out];exact Nat.le_refl _)] at hown;obtain⟨M,hM⟩:=nM wa.heap.size;obtain⟨G1,hG1⟩:=nM G;obtain⟨k1,hk1'⟩:=nM k;rw [hG1,hk1'] at hown hk2;have HK2:=hid hk2;have HO1:=hid hown;have HG1:=hid (show ∀ g,(Value.slice G1 (lp+lx) k1).ownBlock=some g→g<M from fun g hg=>by rw [← hM];exact hown.own.lt g hg);have HMS:=hid hM;have HM:=hid (show N+3≤M by rw [← hM];exact hs);clear hb hs hk0 hk1 hk2 hown hi hlt hM hG1 hk1';go_wp2_with fail;clear p1 p2 i0;go_loopw [12] (fun v12 wr=>Below N w wr∧N+3≤wr.heap.size∧Blk wr N 59 #[.slice A lp c,.slice B le d,.string hp]∧Blk wr (N+1) 59 #[.slice none 0 0,.slice none 0 0,.string ⟨#[]⟩]∧M≤wr.heap.size∧InR wr (N+3) (.slice G1 (lp+lx) k1) (p.ports ++ l)∧Hid (∀ g,(Value.slice G1 (lp+lx) k1).ownBlock=some g→g<M)∧∃ (i:Nat) (G:Option Addr) (k:Nat),v12=.int .i64 (i:Int)∧i≤le∧Blk wr (N+1+1) 59 #[.slice G1 (lp+lx) k1,.slice G (i) k,.string hd]∧InR wr (M) (.slice G (i) k) (p.entries.take i)) (fun v12 _=>le - (intOf v12).toNat)
     case atStart=>exact⟨HB.out,HS.out,HK0.out,HK1.out,Nat.le_of_eq HMS.out.symm,HO1.out,hid HG1.out,0,none,0,rfl,Nat.zero_le _,HK2.out,by rw [List.take_zero];exact World.ownsRow_nil _ _ _ _⟩
     case round=>
      clear HB HS HK0 HK1 HK2 HO1 HG1 HMS;obtain⟨hb,hs,hk0,hk1,hms,ho1,hg1,i,G,k,rfl,hi,hk2,hown⟩:=hrel
      obtain⟨wa,hwa⟩:∃ wa,wa=wr:=⟨_,rfl⟩
      subst hwa;have HB:=hid hb;have HS:=hid hs;have HK0:=hid hk0;have HK1:=hid hk1;have HK2:=hid hk2;have HO:=hid hown.own;have HMS:=hid hms;have HO1:=hid ho1;have HG1:=hg1;(have i0:(0:Int)≤(i:Int):=by omega);have n1:wa.cell? ⟨N,1,none⟩=some (.slice B le d):=hk0.cell 1;by_cases hlt:i<le
      ·have p1:decide ((i:Int)<(le:Int))=true:=dT;have p2:decide (i<le)=true:=decide_eq_true hlt;(have p3:(i:Int)<(le:Int):=by omega);have z1:IntKind.i64.wrap ((i:Int)+1)=(i:Int)+1:=by have:=HL.out.2.1;rw [IntKind.wrap_i64];omega
       obtain⟨x,hx⟩:∃ x,(p.entries)[i]?=some x:=⟨_,List.getElem?_eq_getElem (by rw [HLE.out];exact hlt)⟩
       obtain⟨g,o,rfl,hg,a0⟩:=HU.out.at hx;rw [HN.out] at hg
       have hsw:∀ W,Below (M) wa W→(fun w':World=>w'.cell? ⟨N+1+1,1,none⟩=some (.slice G (i) k)∧w'.cell? ⟨N,1,none⟩=some (.slice (some ⟨g,o,none⟩) le d)∧w'.cell? ⟨g,o+i,none⟩=some (.int .i64 x)) W:=fun W hW=>by
        have hW2:Below N w W:=HB.out.trans (hW.mono (by have:=HM.out;omega));exact⟨(hW.cell (p:=⟨N+1+1,1,none⟩) (by show N+1+1<M;have:=HM.out;omega)).trans (HK2.out.cell 1),(hW.cell (p:=⟨N,1,none⟩) (by show N<M;have:=HM.out;omega)).trans (HK0.out.cell 1),(hW2.cell (p:=⟨g,o+i,none⟩) hg).trans a0⟩
       have hS0:=hsw _ ((Below.refl _ _).drew)
       have hacc:(p.entries.take i).map oneI ++ [[.int .i64 x]]=(p.entries.take (i+1)).map oneI:=by
        rw [oneI_snoc,List.take_add_one,hx];simp
       have hlen:(p.entries.take i).length=i:=by
        rw [List.length_take,HLE.out];omega
       have hlen2:(p.entries.take (i+1)).length=(i+1):=by
        rw [List.length_take,HLE.out];omega
       have HSW:=hid hsw;have HACC:=hid hacc;have HLEN:=hid hlen;have HLEN2:=hid hlen2;have HI:=hid (show i+1≤le by omega);clear hb hs hk0 hk1 hk2 hown hi hlt hx hg a0 hsw hacc hlen hlen2 hms ho1 hg1;go_wp2_with fail;clear n1;refine wp_region_K 10 (fun w':World=>w'.cell? ⟨N+1+1,1,none⟩=some (.slice G (i) k)∧w'.cell? ⟨N,1,none⟩=some (.slice (some ⟨g,o,none⟩) le d)∧w'.cell? ⟨g,o+i,none⟩=some (.int .i64 x)) (by kernel_rfl) (fun hcl=>?_);have hS:=hS0;clear hS0;refine tk 0 hcl hS ?_;clear hcl;intro hcl;simp only [tkl];refine tk 1 hcl hS ?_;clear hcl;intro hcl;simp only [tkl];refine tk 2 hcl hS ?_;clear hcl;intro hcl;simp only [tkl];refine tk 3 hcl hS ?_;clear hcl;intro hcl;simp only [tkl];refine tk 4 hcl hS ?_;clear hcl;intro hcl;simp only [tkl];refine tk 5 hcl hS ?_;clear hcl;intro hcl;simp only [tkl];refine tk 6 hcl hS ?_;clear hcl;intro hcl;simp only [tkl];refine on1 7 hcl (fun K hK=>?_);go_simp;have hbA:Below (M) wa (wa.alloc (.cells #[.int .i64 x] 3)):=(Below.refl _ _).alloc HMS.out _;have HBA:=hid hbA;refine hK.out _ _ (Or.inr (HSW.out _ hbA.drew)) (fun hcl2=>?_);clear hK K hcl hS hbA;have hcl:=hcl2;clear hcl2;refine on1 8 hcl (fun K hK=>?_);refine wp_els _ _ (by rfl) Tryz.underlying42 iinfo9 (by rfl) (by decide) (M) (.slice G (i) k) ((p.entries.take i).map oneI) (by rfl) _ wa.heap.size [.int .i64 x] rfl (by simp [Value.oneCell']) (by rfl) (Blk.new wa 3 #[.int .i64 x]) (HO.out.below ((Below.refl _ _).alloc (Nat.le_refl _) _).drew) (by show M≤(wa.alloc _).heap.size;rw [World.size_alloc];have:=HMS.out;omega) (by rw [List.length_map,HLEN.out];have:=HL.out;have:=HI.out;omega) (by rw [List.length_map,HLEN.out];have:=HL.out;have:=HI.out;omega) ?_;intro v' w1 hown1 hbel hoth _;rw [HACC.out] at hown1;obtain⟨G',k',rfl⟩:=hown1.slice;rw [List.length_map,HLEN2.out] at hown1 ⊢;have hb1:Below (M) wa w1:=HBA.out.drew.trans hbel;have HB1:=hid hb1;have HO9:=hid hown1;have e1:w1.cell? ⟨N+1+1,1,none⟩=some (.slice G (i) k):=(HSW.out w1 hb1).1;have fz1:w1.frozen? ⟨N+1+1,1,none⟩=false:=(HK2.out.below hb1 (by have:=HM.out;omega)).frozen 1;have hS:=HSW.out w1 hb1;refine hK.out _ _ (Or.inr hS) (fun hcl2=>?_);clear hK K hcl hb1 hown1 hbel hoth;have hcl:=hcl2;clear hcl2;(try simp only [Act.put,pu]);refine tk 9 hcl hS ?_;clear hcl;intro hcl;simp only [tkl];clear hS;refine on1 10 hcl (fun K hK=>?_);go_simp;refine hK.out _ _ (Or.inl (by kernel_rfl)) (fun hcl2=>?_);clear hK K hcl hcl2 e1 fz1;refine wpAnyK_done (by kernel_rfl) ?_ _;go_wp2_with fail;go_roundw
       case rel=>
        have:=HM.out;refine⟨?_,?_,?_,?_,?_,?_,HG1,i+1,G',k',by rfl,HI.out,?_,(HO9.out.set (p:=⟨N+1+1,1,none⟩) (by show N+1+1<M;omega) _).inR⟩
        ·exact (HB.out.trans (HB1.out.mono (by omega))).setCell (p:=⟨N+1+1,1,none⟩) (by show N≤N+1+1;omega) _
        ·rw [World.size_setCell];exact Nat.le_trans HS.out HB1.out.size
        ·exact (HK0.out.below HB1.out (by omega)).far (p:=⟨N+1+1,1,none⟩) (by show N≠N+1+1;omega) _
        ·exact (HK1.out.below HB1.out (by omega)).far (p:=⟨N+1+1,1,none⟩) (by show N+1≠N+1+1;omega) _
        ·rw [World.size_setCell];exact Nat.le_trans HMS.out HB1.out.size
        ·exact ((HO1.out.own.under HG1.out HB1.out).set (p:=⟨N+1+1,1,none⟩) (by show N+1+1<N+3;omega) _).inR
        ·exact (HK2.out.below HB1.out (by omega)).set_ 1 _
       case measure=>have:=HI.out;simp [intOf];omega
      ·have p1:decide ((i:Int)<(le:Int))=false:=dF;have p2:decide (i<le)=false:=decide_eq_false hlt;(obtain rfl:le=i:=by omega);rw [List.take_of_length_le (by rw [HLE.out];exact Nat.le_refl _)] at hown;clear HO;have HO:=hid hown.own;have hown0:=hown;have k2':wa.cell? ⟨N+1+1,0,none⟩=some (.slice G1 (lp+lx) k1):=hk2.cell 0;have k1':wa.cell? ⟨N+1+1,1,none⟩=some (.slice G (le) k):=hk2.cell 1;have k3':wa.cell? ⟨N+1+1,2,none⟩=some (.string hd):=hk2.cell 2;have x0:wa.cell? ⟨N+1,0,none⟩=some (.slice none 0 0):=hk1.cell 0;have x1:wa.cell? ⟨N+1,1,none⟩=some (.slice none 0 0):=hk1.cell 1;have x2:wa.cell? ⟨N+1,2,none⟩=some (.string ⟨#[]⟩):=hk1.cell 2;have y0:=hk1.frozen 0;have y1:=hk1.frozen 1;have y2:=hk1.frozen 2;have hM3:=HM.out;by_cases he:0≤e
       ·have t1:decide (e ≥ 0)=true:=decide_eq_true he;(have hif:(p.entries.map oneI ++ [[.int .i64 e]])=(p.entries ++ Sp.ifL e).map oneI:=by rw [oneI_snoc,Sp.ifL_yes he]);have HIF:=hid hif;have HLN:=hid (show (p.entries ++ Sp.ifL e).length=le+1 by rw [List.length_append,HLE.out,Sp.ifL_yes he];rfl);clear hb hs hk0 hk1 hk2 hown hown0 hi hlt he hif hms ho1 hg1 x0 x1 x2 y0 y1 y2 k2' k3'
        go_wp2_with (at_builtin;refine wpList_els rfl _ _ rfl Tryz.underlying42 iinfo9 (by rfl) (by decide) M (.slice G le k) (p.entries.map oneI) rfl wa [.int .i64 e] rfl (by simp [Value.oneCell']) rfl HO.out HMS.out (by rw [List.length_map,HLE.out];have:=HL.out;omega) (by rw [List.length_map,HLE.out];have:=HL.out;omega) ?_;intro v' w4 ho4 hb4 hk4;rw [HIF.out] at ho4;obtain⟨G',k',rfl⟩:=ho4.slice;rw [List.length_map,HLN.out] at ho4 ⊢;have hz2:=HK2.out.below hb4 (by omega);have hz1:=HK1.out.below hb4 (by omega);have fz:w4.frozen? ⟨N+1+1,1,none⟩=false:=hz2.frozen 1;have kz:w4.cell? ⟨N+1+1,1,none⟩=some (.slice G le k):=hz2.cell 1;obtain⟨W6,hW6⟩:=nM (w4.setCell ⟨N+1+1,1,none⟩ (.slice G' (le+1) k'));have hw2:Blk W6 (N+1+1) 59 #[.slice G1 (lp+lx) k1,.slice G' (le+1) k',.string hd]:=(by rw [← hW6];exact hz2.set_ 1 _);have hw1:Blk W6 (N+1) 59 #[.slice none 0 0,.slice none 0 0,.string ⟨#[]⟩]:=(by rw [← hW6];exact hz1.far (p:=⟨N+1+1,1,none⟩) (by show N+1≠N+1+1;omega) _);have k0:W6.cell? ⟨N+1+1,0,none⟩=some (.slice G1 (lp+lx) k1):=hw2.cell 0;have k1a:W6.cell? ⟨N+1+1,1,none⟩=some (.slice G' (le+1) k'):=hw2.cell 1;have k2a:W6.cell? ⟨N+1+1,2,none⟩=some (.string hd):=hw2.cell 2;have x0:W6.cell? ⟨N+1,0,none⟩=some (.slice none 0 0):=hw1.cell 0;have x1:W6.cell? ⟨N+1,1,none⟩=some (.slice none 0 0):=hw1.cell 1;have x2:W6.cell? ⟨N+1,2,none⟩=some (.string ⟨#[]⟩):=hw1.cell 2;have y0:=hw1.frozen 0;have y1:=hw1.frozen 1;have y2:=hw1.frozen 2;have HW1:=hid hw1;have HO4:=hid (show OwnL 3 1 W6 M (.slice G' (le+1) k') ((p.entries ++ Sp.ifL e).map oneI) by rw [← hW6];exact ho4.set (p:=⟨N+1+1,1,none⟩) (by show N+1+1<M;omega) _);have HP4:=hid (show OwnL 3 1 W6 (N+3) (.slice G1 (lp+lx) k1) ((p.ports ++ l).map oneI) by rw [← hW6];exact (HO1.out.own.under HG1.out hb4).set (p:=⟨N+1+1,1,none⟩) (by show N+1+1<N+3;omega) _);have HB4:=hid (show Below N w W6 by rw [← hW6];exact (HB.out.trans (hb4.mono (by omega))).setCell (p:=⟨N+1+1,1,none⟩) (by show N≤N+1+1;omega) _);clear ho4 hb4 hk4 hz2 hz1 hw2 hw1)
        refine bodyPost_ret (results_cell_row rfl _ _ (N+1) 59 #[.slice G1 (lp+lx) k1,.slice G' (le+1) k',.string hd] (0,0) _ rfl (((HW1.out.set_ 0 (.slice G1 (lp+lx) k1)).set_ 1 (.slice G' (le+1) k')).set_ 2 (.string hd)) Tryz.underlying59 rfl (by kernel_rfl)) rfl ?_;refine⟨_,_,rfl,?_,?_,?_⟩
        ·exact ((((HP4.out.set (p:=⟨N+1,0,none⟩) (by show N+1<N+3;omega) _).set (p:=⟨N+1,1,none⟩) (by show N+1<N+3;omega) _).set (p:=⟨N+1,2,none⟩) (by show N+1<N+3;omega) _).mono (by omega)).inR
        ·exact ((((HO4.out.set (p:=⟨N+1,0,none⟩) (by show N+1<M;omega) _).set (p:=⟨N+1,1,none⟩) (by show N+1<M;omega) _).set (p:=⟨N+1,2,none⟩) (by show N+1<M;omega) _).mono (by omega)).inR
        ·exact ((HB4.out.setCell (p:=⟨N+1,0,none⟩) (by show N≤N+1;omega) _).setCell (p:=⟨N+1,1,none⟩) (by show N≤N+1;omega) _).setCell (p:=⟨N+1,2,none⟩) (by show N≤N+1;omega) _
       ·have t1:decide (e ≥ 0)=false:=decide_eq_false he;have HIF:=hid (show p.entries ++ Sp.ifL e=p.entries by rw [Sp.ifL_no he,List.append_nil]);clear hb hs hk0 hk1 hk2 hown hown0 hi hlt he hms ho1 hg1;go_wp2_with fail;refine bodyPost_ret (results_cell_row rfl _ _ (N+1) 59 #[.slice G1 (lp+lx) k1,.slice G le k,.string hd] (0,0) _ rfl (((HK1.out.set_ 0 (.slice G1 (lp+lx) k1)).set_ 1 (.slice G le k)).set_ 2 (.string hd)) Tryz.underlying59 rfl (by kernel_rfl)) rfl ?_;refine⟨_,_,rfl,?_,?_,?_⟩
        ·exact ((((HO1.out.own.set (p:=⟨N+1,0,none⟩) (by show N+1<N+3;omega) _).set (p:=⟨N+1,1,none⟩) (by show N+1<N+3;omega) _).set (p:=⟨N+1,2,none⟩) (by show N+1<N+3;omega) _).mono (by omega)).inR
        ·rw [HIF.out];exact ((((HO.out.set (p:=⟨N+1,0,none⟩) (by show N+1<M;omega) _).set (p:=⟨N+1,1,none⟩) (by show N+1<M;omega) _).set (p:=⟨N+1,2,none⟩) (by show N+1<M;omega) _).mono (by omega)).inR
        ·exact ((HB.out.setCell (p:=⟨N+1,0,none⟩) (by show N≤N+1;omega) _).setCell (p:=⟨N+1,1,none⟩) (by show N≤N+1;omega) _).setCell (p:=⟨N+1,2,none⟩) (by show N≤N+1;omega) _
end Go.Proofs.YthnamoedpnknmaaGreatDoor
