/-
 THE WALK of step.begin at an out-port (chapter 10).
-/
import Derived.Test.YtedfppbnkgffcaaGreatDoorAv
set_option linter.unusedVariables false
set_option linter.unusedSimpArgs false
set_option maxRecDepth 100000
set_option maxHeartbeats 8000000
namespace Go.Proofs.YtedfppbnkgffcaaGreatDoor
open Go.RowKit
open Go.Lib (hid)
attribute [local go_sem] Oper.semAt_some
def FBg (M Bx:Nat) (a:Act):Prop:=∃ u:Nat→Value,a={ tmps:=#[u 0,u 1,u 2,u 3,.pointer (some ⟨M+1,0,none⟩),.pointer (some ⟨M+1+1,0,none⟩),.pointer (some ⟨M+1+1+1+1,0,none⟩),.pointer (some ⟨Bx,0,none⟩),u 8,u 9,u 10,u 11,u 12,u 13,u 14,u 15,u 16,u 17,u 18,u 19,u 20,u 21,u 22,u 23,u 24,u 25,u 26,u 27,u 28,u 29,u 30,u 31,u 32,u 33,u 34,u 35,u 36,u 37],defers:=[] }
theorem FBg.of {M Bx:Nat} (v0 v1 v2 v3 v8 v9 v10 v11 v12 v13 v14 v15 v16 v17 v18 v19 v20 v21 v22 v23 v24 v25 v26 v27 v28 v29 v30 v31 v32 v33 v34 v35 v36 v37:Value):FBg M Bx { tmps:=#[v0,v1,v2,v3,.pointer (some ⟨M+1,0,none⟩),.pointer (some ⟨M+1+1,0,none⟩),.pointer (some ⟨M+1+1+1+1,0,none⟩),.pointer (some ⟨Bx,0,none⟩),v8,v9,v10,v11,v12,v13,v14,v15,v16,v17,v18,v19,v20,v21,v22,v23,v24,v25,v26,v27,v28,v29,v30,v31,v32,v33,v34,v35,v36,v37],defers:=[] }:=
 ⟨fun i=>([v0,v1,v2,v3,undef,undef,undef,undef,v8,v9,v10,v11,v12,v13,v14,v15,v16,v17,v18,v19,v20,v21,v22,v23,v24,v25,v26,v27,v28,v29,v30,v31,v32,v33,v34,v35,v36,v37]:List Value).getD i undef,rfl⟩
structure BgI (N M:Nat) (cs:List Value) (s:Int) (h:ByteArray) (w W:World):Prop where
 b1:Blk W (M+1) 31 #[.slice none 0 0,.slice none 0 0,.string ⟨#[]⟩]
 b2:Blk W (M+1+1) 4 #[.bool false]
 b4:Blk W (M+1+1+1+1) 31 #[.slice (some ⟨M+1+1+1,0,none⟩) 1 1,.slice none 0 0,.string h]
 row:InR W M (.slice (some ⟨M+1+1+1,0,none⟩) 1 1) [s]
 below:Below M w W
theorem bg_row {B b:Nat} {v:Value} {l:List Int} {A C:World} {row:Option Nat} (h:InR A b v l) (hg:A.grownBy C row) (hr:∀ r,row=some r→B≤r∧∃ o:Obj,A.heap[r]?=some o∧o.isCells=false):InR C b v l:=
 row_turn h hg (fun r e=>by obtain⟨_,o,h1,h2⟩:=hr r e;exact⟨o,h1,.inl h2⟩)
theorem BgI.own {β:Type} {N M B:Nat} {cs:List Value} {s:Int} {h:ByteArray} {w:World} (hM:M≤w.heap.size) (hB:M≤B):OwnFrom B (fun (_:β) W=>BgI N M cs s h w W):=fun x A C row hs hg hr=>
 ⟨own_blk B _ _ _ x A C row hs.b1 hg hr,own_blk B _ _ _ x A C row hs.b2 hg hr,own_blk B _ _ _ x A C row hs.b4 hg hr,bg_row hs.row hg hr,ownFrom_below hM hB x A C row hs.below hg hr⟩
def BgX (M:Nat) (s:Int) (h:ByteArray) (w:World) (m:Sp.Mv) (W:World):Prop:=
 ∃ v1 v2,Blk W (M+1) 31 #[v1,v2,.string m.header]∧Blk W (M+1+1) 4 #[.bool true]∧InR W M v1 (Sp.onP ⟨[s],[],h⟩ m).ports∧InR W M v2 (Sp.onP ⟨[s],[],h⟩ m).entries∧Below M w W
theorem BgX.own {β:Type} {M B:Nat} {s:Int} {h:ByteArray} {w:World} {m:Sp.Mv} (hM:M≤w.heap.size) (hB:M≤B):OwnFrom B (fun (_:β) W=>BgX M s h w m W):=fun x A C row hs hg hr=>by
 obtain⟨v1,v2,h1,h2,h3,h4,h5⟩:=hs;exact⟨v1,v2,own_blk B _ _ _ x A C row h1 hg hr,own_blk B _ _ _ x A C row h2 hg hr,bg_row h3 hg hr,bg_row h4 hg hr,ownFrom_below hM hB x A C row h5 hg hr⟩
theorem own_lt {A:World} {b:Nat} {v:Value} {l:List Int} (h:InR A b v l) {g:Nat} (hg:v.ownBlock=some g):g<A.heap.size:=by
 rcases h.2 with⟨rfl,_⟩ | ⟨g',cap,cur,rfl,_,h3,_⟩
 ·cases hg
 ·have hg:some g'=some g:=hg;injection hg with hg
  subst hg;exact heap_lt h3
theorem beg_end {n:Sp.Net} {s:Nat} {h:ByteArray} {w C:World} {M D:Nat} {v1 v2:Value} {ok:Bool} {p:Sp.Path} (hM:w.heap.size=M) (h1:Blk C (M+1) 31 #[v1,v2,.string p.header]) (h2:Blk C (M+1+1) 4 #[.bool ok]) (h3:InR C M v1 p.ports) (h4:InR C M v2 p.entries) (h5:Below M w C) (hD:M+5≤D) (hK:C.heap[D]?=some (.deferred (some []))) (hR:Sp.BegR n s h p ok):
  C.heap[D]?=some (.deferred (some []))∧(C.putObj D (.deferred none)).heap[M+1]?=some (.cells #[v1,v2,.string p.header] 31 (0,0))∧(C.putObj D (.deferred none)).cell? ⟨M+1+1,0,none⟩=some (.bool ok)∧BegEnd n s h w (.returned (.tuple #[.agg #[v1,v2,.string p.header],.bool ok])) (C.putObj D (.deferred none)):=by
 have hg:=grownBy_putObj' C D (.deferred none);have hr:∀ r,(some D:Option Nat)=some r→∃ o:Obj,C.heap[r]?=some o∧TurnOk o:=fun r e=>by cases e;exact⟨_,hK,.inl rfl⟩
 have b2:Blk (C.putObj D (.deferred none)) (M+1+1) 4 #[.bool ok]:=(World.putObj_heap_other (by omega)).trans h2;exact⟨hK,(World.putObj_heap_other (by omega)).trans h1,b2.cell 0,v1,v2,p,ok,rfl,by rw [hM];exact row_turn h3 hg hr,by rw [hM];exact row_turn h4 hg hr,by rw [hM];exact h5.trans (belowK_b (w:=w) (by omega) C D _ _ (by omega) hK rfl rfl),hR⟩
theorem step_begin_out (N:Nat) (n:Sp.Net) (s:Nat) (h:ByteArray) (w:World) (hn:NetAt w N n) (hs:Sp.portIn n s=false) (hok:Sp.NetOk n) (hst:Sp.StateOk n (s:Int) h) (h48:n.ports.length≤48):
  Calls Tryz.prog 29 #[.pointer (some ⟨N,0,none⟩),.agg #[.int .i64 (s:Int),.string h]] w (BegEnd n s h w):=by
 obtain⟨M,hM⟩:=nM w.heap.size;obtain⟨q,hq⟩:=Sp.port_at hst;rw [Int.toNat_natCast] at hq;have hqi:q.inn=false:=by unfold Sp.portIn at hs;rw [hq] at hs;exact hs
 have HQ:=hid hq;have HOK:=hid hok;have HST:=hid hst;have HNA:=hid hn;obtain⟨A1,c1,A2,c2,A3,c3,hlt,n0,n1,n2,n3,hpv,_⟩:=hn.at;obtain⟨gq,oq,rfl,hgq,k0,k1,k2,k3⟩:=hpv.at hq;rw [hqi] at k2;obtain⟨np,hnp⟩:=nM n.ports.length;have hsn:s<np:=by rw [← hnp];exact (List.getElem?_eq_some_iff.1 hq).1
 rw [hnp] at n1 h48;obtain⟨W3,hW3⟩:=nM (((w.alloc (.cells #[.int .i64 (s:Int),.string h] 28)).alloc (.cells #[.slice none 0 0,.slice none 0 0,.string ⟨#[]⟩] 31)).alloc (.cells #[.bool false] 4));have hb3:Below M w W3:=by rw [← hW3,← hM];exact (((Below.refl _ _).alloc (Nat.le_refl _) _).alloc (by simp) _).alloc (by simp;omega) _
 have hs3:W3.heap.size=M+3:=by rw [← hW3,← hM];simp
 have b0:Blk W3 M 28 #[.int .i64 (s:Int),.string h]:=by rw [← hW3,← hM];exact ((Blk.new w _ _).alloc _).alloc _
 have b1:Blk W3 (M+1) 31 #[.slice none 0 0,.slice none 0 0,.string ⟨#[]⟩]:=by rw [← hW3];exact (blk_at (by rw [World.size_alloc];omega)).alloc _
 have b2:Blk W3 (M+2) 4 #[.bool false]:=by rw [← hW3];exact blk_at (by rw [World.size_alloc,World.size_alloc];omega)
 obtain⟨W5,hW5⟩:=nM ((W3.alloc (.cells #[.int .i64 (s:Int)] 3)).alloc (.cells #[.slice (some ⟨M+1+1+1,0,none⟩) 1 1,.slice none 0 0,.string h] 31));have hb5:Below M W3 W5:=by rw [← hW5];exact ((Below.refl M W3).alloc (by omega) _).alloc (by rw [World.size_alloc];omega) _
 have hs5:W5.heap.size=M+5:=by rw [← hW5];simp;omega
 have d0:Blk W5 M 28 #[.int .i64 (s:Int),.string h]:=by rw [← hW5];exact (b0.alloc _).alloc _
 have d1:Blk W5 (M+1) 31 #[.slice none 0 0,.slice none 0 0,.string ⟨#[]⟩]:=by rw [← hW5];exact (b1.alloc _).alloc _
 have d2:Blk W5 (M+1+1) 4 #[.bool false]:=by rw [← hW5];exact (b2.alloc _).alloc _
 have d4:Blk W5 (M+1+1+1+1) 31 #[.slice (some ⟨M+1+1+1,0,none⟩) 1 1,.slice none 0 0,.string h]:=by rw [← hW5];exact blk_at (by rw [World.size_alloc];omega)
 have hrow:InR W5 M (.slice (some ⟨M+1+1+1,0,none⟩) 1 1) [(s:Int)]:=by
  have h1:=one_row W3 (s:Int) M (by omega);rw [hs3] at h1;rw [← hW5];exact in_below h1 ((Below.refl _ _).alloc (by simp) _)
 have x0:W3.cell? ⟨M,0,none⟩=some (.int .i64 (s:Int)):=b0.cell 0;have x1:W3.cell? ⟨M,1,none⟩=some (.string h):=b0.cell 1;have HM:=hid hM;have HB3:=hid hb3;have HB5:=hid hb5;have HS3:=hid hs3;have HS5:=hid hs5;have HD0:=hid d0;have HD1:=hid d1;have HD2:=hid d2;have HD4:=hid d4;have HROW:=hid hrow;have HPI:=hid hs;have hbw:Below w.heap.size w W5:=by rw [hM];exact hb3.trans hb5
 have HN1:=hid ((hbw.cell (p:=⟨N,1,none⟩) hlt).trans n1);have HK2:=hid ((hbw.cell (p:=⟨gq,oq+s * 4+2,none⟩) hgq).trans k2);have p0:(0:Int)≤(s:Int):=by omega
 have p1:(s:Int)<(np:Int):=by omega
 clear hn hs hok hst hq hqi n0 n2 n3 n1 hpv hgq k0 k1 k2 k3 hnp hb3 hs3 b0 b1 b2 hb5 hs5 d0 d1 d2 d4 hrow hbw hlt;refine (callsIn_wide (n:=9)).1 ?_;refine callsIn_of_wp_marks Tryz.func29 rfl trivial ?_ rfl;simp only [Tryz.ntmps29,List.size_toArray,List.length_cons,List.length_nil,Nat.reduceAdd,Nat.reduceSub,Array.replicate_succ,Array.replicate_zero,List.push_toArray,List.append_toArray,List.nil_append,List.cons_append];have h33:W3.heap.size=M+1+1+1:=HS3.out;gi_wp2;refine wpIn_noPanic ?_;refine wpIn_region_K 8 (fun w'=>w'.cell? ⟨N,1,none⟩=some (.slice (some ⟨gq,oq,none⟩) np c1)∧w'.cell? ⟨M,0,none⟩=some (.int .i64 (s:Int))∧w'.cell? ⟨gq,oq+s * 4+2,none⟩=some (.bool false)) (by kernel_rfl) (fun hcl=>?_);refine mSIn (⟨HN1.out,HD0.out.cell 0,HK2.out⟩) (fun hS=>?_);refine tkI 0 hcl hS ?_;clear hcl;intro hcl;simp only [tkl];refine tkI 1 hcl hS ?_;clear hcl;intro hcl;simp only [tkl];refine tkI 2 hcl hS ?_;clear hcl;intro hcl;simp only [tkl];refine tkI 3 hcl hS ?_;clear hcl;intro hcl;simp only [tkl];refine tkI 4 hcl hS ?_;clear hcl;intro hcl;simp only [tkl];refine tkI 5 hcl hS ?_;clear hcl;intro hcl;simp only [tkl];refine tkI 6 hcl hS ?_;clear hcl;intro hcl;simp only [tkl];refine tkI 7 hcl hS ?_;clear hcl;intro hcl;simp only [tkl];clear hS;refine on1I 8 hcl (fun K hK=>?_);simp only [ly];refine⟨(fun f hf=>by cases hf),?_⟩;rw [show Fence.wide.round=none from rfl,Oper.semAt_none];have hk2:W5.drew.cell? ⟨gq,oq+s * 4+2,none⟩=some (.bool false):=HK2.out;go_simp;refine hK.out _ _ (Or.inl (by kernel_rfl)) (fun hcl2=>?_);clear hK K hcl hcl2 hk2;refine wpAnyKIn_done (by kernel_rfl) ?_ _;refine NoPanic.normal ?_;(try simp only [Act.put,pu]);obtain⟨W6,hW6⟩:=nM W5.drew;have hb6:Below M W3 W6:=by rw [← hW6];exact HB5.out.drew
 have e1:Blk W6 (M+1) 31 #[.slice none 0 0,.slice none 0 0,.string ⟨#[]⟩]:=by rw [← hW6];exact HD1.out
 have e2:Blk W6 (M+1+1) 4 #[.bool false]:=by rw [← hW6];exact HD2.out
 have e4:Blk W6 (M+1+1+1+1) 31 #[.slice (some ⟨M+1+1+1,0,none⟩) 1 1,.slice none 0 0,.string h]:=by rw [← hW6];exact HD4.out
 have e5:InR W6 M (.slice (some ⟨M+1+1+1,0,none⟩) 1 1) [(s:Int)]:=by rw [← hW6];exact HROW.out
 rw [hW6];have HI6:=hid (show BgI N M [] (s:Int) h w W6 from⟨e1,e2,e4,e5,HB3.out.trans hb6⟩);have d0:Blk W6 M 28 #[.int .i64 (s:Int),.string h]:=by rw [← hW6];exact HD0.out
 have x0:W6.cell? ⟨M,0,none⟩=some (.int .i64 (s:Int)):=d0.cell 0;have x1:W6.cell? ⟨M,1,none⟩=some (.string h):=d0.cell 1;have hs6:M+5≤W6.heap.size:=by rw [← hW6];exact Nat.le_of_eq HS5.out.symm
 have HS6:=hid hs6;clear e1 e2 e4 e5 hb6 d0 hs6;gi_wp2;refine⟨trivial,?_⟩;refine (step_moves _ N s h W6).mono ?_;rintro e w' ⟨rfl,rfl⟩;obtain⟨cs,hnr,hlt,hcs⟩:=HNA.out;obtain⟨A,hA⟩:=nM W6.heap.size;obtain⟨V,hV⟩:=nM ((W6.alloc (.cells #[.pointer (some ⟨N,0,none⟩)] 69)).alloc (.cells #[.int .i64 (s:Int),.string h] 28));have hvb:Below W6.heap.size W6 V:=by rw [← hV];exact ((Below.refl _ _).alloc (Nat.le_refl _) _).alloc (by simp) _
 have hvs:V.heap.size=A+2:=by rw [← hV,← hA];simp
 have bN:Blk V A 69 #[.pointer (some ⟨N,0,none⟩)]:=by rw [← hV,← hA];exact (Blk.new W6 _ _).alloc _
 have bS:Blk V (A+1) 28 #[.int .i64 (s:Int),.string h]:=by rw [← hV];exact blk_at (by rw [World.size_alloc];omega)
 have hbv:Below M w V:=HI6.out.below.trans (hvb.mono (by have:=HS6.out;omega))
 have hIV:BgI N M [] (s:Int) h w V:=⟨HI6.out.b1.below hvb HI6.out.b1.lt,HI6.out.b2.below hvb HI6.out.b2.lt,HI6.out.b4.below hvb HI6.out.b4.lt,in_below HI6.out.row hvb,hbv⟩
 have hbw:Below w.heap.size w V:=by rw [HM.out];exact hbv
 have hXL:XLow 0 (fun _ _=>False):=fun _ _ _ _ hx=>hx
 have hsq:=moves_stopsX 8 N A (A+1) 0 (fun _ _=>False) (XLow.ok hXL) n s h (Sp.mvOk_of HOK.out HST.out) w V (by omega) cs hnr ⟨Nat.lt_of_lt_of_le hlt hbw.size,fun f u hf=>(hbw.cell (p:=⟨N,f,none⟩) hlt).trans (hcs f u hf)⟩ (fun hx=>hx) hbw (Nat.zero_le _) (fun _ _ _ _ _ _ hx=>hx) (fun hx=>hx) (bN.cell 0) (bS.cell 0) (bS.cell 1);have HSQ:=hid hsq;have HIV:=hid hIV;have HXL:=hid hXL;have HWV:=hid hbw.size;have HMV:=hid (show M+5≤V.heap.size by have:=HS6.out;omega);clear hnr hlt hcs hvb hvs bN bS hbv hIV hbw hXL hsq x0 x1 hW5 HN1 HK2 HNA HD0 HD1 HD2 HD4 HROW HI6;rw [hA];gi_wp2;clear hV
 refine wpIn_rangeFunc_ownH rfl (by omega) (gf:=47) (lb:=#[.pointer (some ⟨A,0,none⟩),.pointer (some ⟨A+1,0,none⟩)]) rfl trivial (enters_of Tryz.func47 (by kernel_rfl) rfl)
  HSQ.out KpX.trans (KpX.book (XLow.ok HXL.out) HWV.out (Nat.zero_le _)) (Below.refl _ _) (fun _=>rfl)
  (fun ms W'=>(BgI N M [] (s:Int) h w W'∧V.heap.size≤W'.heap.size)∧ms=[])
  (fun c (ms:List { x:Sp.Mv // x ∈ Sp.movesV n s h }) W'=>c=.ret∧∃ x,ms=[x]∧BgX M (s:Int) h w x.1 W')
  (fun ms X' Y row hs hg hr=>⟨⟨BgI.own (β:=Unit) (by rw [HM.out];exact Nat.le_refl _) (by have:=HMV.out;omega) () X' Y row hs.1.1 hg hr,Nat.le_trans hs.1.2 hg.size⟩,hs.2⟩)
  (fun c ms X' Y row hs hg hr=>by
   obtain⟨h1,x,h2,h3⟩:=hs
   exact⟨h1,x,h2,BgX.own (β:=Unit) (by rw [HM.out];exact Nat.le_refl _) (by have:=HMV.out;omega) () X' Y row h3 hg hr⟩)
  ⟨⟨HIV.out,Nat.le_refl _⟩,rfl⟩
  (fun x a' W'=>∃ Bx,V.heap.size≤Bx∧Blk W' Bx 77 #[.int .i64 x.1.entry,.int .i64 x.1.out,.int .i64 x.1.inn,.string x.1.header]∧FBg M Bx a')
  (fun x a' _ X' Y row hs hg hr=>by
   obtain⟨Bx,h1,h2,h3⟩:=hs
   exact⟨Bx,h1,own_blk (β:=Unit) _ Bx _ _ () X' Y row h2 hg hr,h3⟩)
  ?assign ?body ?done ?stop
 case assign=>
  rintro l2 ms ⟨⟨xe,xo,xi,xh⟩,hx⟩ C K ⟨⟨hI,hVC⟩,hms⟩ hK;dsimp only [mvC];gi_wp2;have hb:Below C.heap.size C (C.alloc (.cells #[.int .i64 xe,.int .i64 xo,.int .i64 xi,.string xh] 77)):=(Below.refl _ C).alloc (Nat.le_refl _) _;exact hK _ _ ((KeepsOthers.alloc _ _).from _) (KpX.of_below (XLow.ok HXL.out) hb (Nat.le_trans HWV.out hVC) (Nat.zero_le _)) ⟨⟨⟨hI.b1.alloc _,hI.b2.alloc _,hI.b4.alloc _,in_below hI.row hb,hI.below.trans (hb.mono (by have:=HMV.out;omega))⟩,Nat.le_trans hVC hb.size⟩,hms⟩ ⟨C.heap.size,hVC,Blk.new _ _ _,FBg.of _ _ _ _ _ _ _ _ _ _ _ _ _ _ _ _ _ _ _ _ _ _ _ _ _ _ _ _ _ _ _ _ _ _⟩
 case body=>
  rintro l2 ms ⟨⟨xe,xo,xi,xh⟩,hx⟩ a' C hl2 _ ⟨⟨hI,hVC⟩,hms⟩ ⟨Bx,hBx,hkx,⟨u2,rfl⟩⟩ hlen;subst hms;have hkx':Blk C Bx 77 #[.int .i64 xe,.int .i64 xo,.int .i64 xi,.string xh]:=hkx;have q2:C.cell? ⟨M+1+1+1+1,0,none⟩=some (.slice (some ⟨M+1+1+1,0,none⟩) 1 1):=hI.b4.cell 0;have q3:C.cell? ⟨M+1+1+1+1,1,none⟩=some (.slice none 0 0):=hI.b4.cell 1;have q4:C.cell? ⟨M+1+1+1+1,2,none⟩=some (.string h):=hI.b4.cell 2;have q5:C.cell? ⟨Bx,0,none⟩=some (.int .i64 xe):=hkx'.cell 0;have q6:C.cell? ⟨Bx,1,none⟩=some (.int .i64 xo):=hkx'.cell 1;have q7:C.cell? ⟨Bx,2,none⟩=some (.int .i64 xi):=hkx'.cell 2;have q8:C.cell? ⟨Bx,3,none⟩=some (.string xh):=hkx'.cell 3;have HI:=hid hI;have HVC:=hid hVC;have HKD:=hid (mv_kind HOK.out HQ.out hx);have HX:=hid hx;clear hI hkx hkx' hlen hl2 hBx hVC HSQ HIV;gi_wp2;clear q2 q3 q4 q5 q6 q7 q8;refine⟨trivial,?_⟩;refine (CallsIn.inRound l2 (callsIn_wide.2 (step_on h ⟨xe,xo,xi,xh⟩ C HI.out.row (in_nil C M) (by simp) (by simp) HKD.out))).mono ?_;rintro e C2 ⟨s1,s2,r1,r2,rfl,hs1,hs2,hr1,hr2,hb2⟩;obtain⟨a1,a2,a3,rfl⟩:=in_slice hs1;obtain⟨a4,a5,a6,rfl⟩:=in_slice hs2;obtain⟨a7,a8,a9,rfl⟩:=in_slice hr1;obtain⟨d1,d2,d3,rfl⟩:=in_slice hr2;obtain⟨Dz,hDz⟩:=nM C2.heap.size;obtain⟨C4,hC4⟩:=nM ((C2.alloc (.cells #[.slice a1 a2 a3,.slice a4 a5 a6,.string xh] 31)).alloc (.cells #[.slice a7 a8 a9,.slice d1 d2 d3,.string xh] 31));have hb4:Below C2.heap.size C2 C4:=by rw [← hC4];exact ((Below.refl _ _).alloc (Nat.le_refl _) _).alloc (by simp) _
  have hbc:Below C.heap.size C C4:=hb2.trans (hb4.mono hb2.size);have bw:Blk C4 (Dz+1) 31 #[.slice a7 a8 a9,.slice d1 d2 d3,.string xh]:=by rw [← hC4];exact blk_at (by rw [World.size_alloc];omega)
  have e1:=HI.out.b1.below hbc HI.out.b1.lt;have e2:=HI.out.b2.below hbc HI.out.b2.lt;obtain⟨C8,hC8⟩:=nM ((((C4.setCell ⟨M+1,0,none⟩ (.slice a7 a8 a9)).setCell ⟨M+1,1,none⟩ (.slice d1 d2 d3)).setCell ⟨M+1,2,none⟩ (.string xh)).setCell ⟨M+1+1,0,none⟩ (.bool true));have hcs:M+5≤C.heap.size:=Nat.le_trans HMV.out HVC.out;have f1:Blk C8 (M+1) 31 #[.slice a7 a8 a9,.slice d1 d2 d3,.string xh]:=by rw [← hC8];exact (((e1.set_ 0 _).set_ 1 _).set_ 2 _).far (by show M+1≠M+1+1;omega) _
  have f2:Blk C8 (M+1+1) 4 #[.bool true]:=by rw [← hC8];exact (((e2.far (by show M+1+1≠M+1;omega) _).far (by show M+1+1≠M+1;omega) _).far (by show M+1+1≠M+1;omega) _).set_ 0 _
  have k1:M+1<C.heap.size:=by omega
  have k2:M+1+1<C.heap.size:=by omega
  have f5:InR C8 C.heap.size (.slice a7 a8 a9) ([(s:Int)] ++ Sp.ifL xo ++ Sp.ifL xi):=by
   rw [← hC8];exact in_set (in_set (in_set (in_set (in_under hr1 (fun g hg=>own_lt hr1 hg) hb4) (p:=⟨M+1,0,none⟩) k1 _) (p:=⟨M+1,1,none⟩) k1 _) (p:=⟨M+1,2,none⟩) k1 _) (p:=⟨M+1+1,0,none⟩) k2 _
  have f6:InR C8 C.heap.size (.slice d1 d2 d3) ([] ++ Sp.ifL xe):=by
   rw [← hC8];exact in_set (in_set (in_set (in_set (in_under hr2 (fun g hg=>own_lt hr2 hg) hb4) (p:=⟨M+1,0,none⟩) k1 _) (p:=⟨M+1,1,none⟩) k1 _) (p:=⟨M+1,2,none⟩) k1 _) (p:=⟨M+1+1,0,none⟩) k2 _
  have hbM:Below M w C4:=HI.out.below.trans (hbc.mono (by omega));have f7:Below M w C8:=by rw [← hC8];exact (((hbM.setCell (p:=⟨M+1,0,none⟩) (by show M≤M+1;omega) _).setCell (p:=⟨M+1,1,none⟩) (by show M≤M+1;omega) _).setCell (p:=⟨M+1,2,none⟩) (by show M≤M+1;omega) _).setCell (p:=⟨M+1+1,0,none⟩) (by show M≤M+1+1;omega) _
  have f8:KeepsFrom V.heap.size C C8:=by rw [← hC8];exact (keeps_below hbc).trans ((((KeepsOthers.setCell _ _ _).trans (KeepsOthers.setCell _ _ _)).trans (KeepsOthers.setCell _ _ _)).trans (KeepsOthers.setCell _ _ _) |>.from _)
  have HFX:=hid (show BgX M (s:Int) h w ⟨xe,xo,xi,xh⟩ C8 from⟨_,_,f1,f2,in_mono f5 (by omega),in_mono f6 (by omega),f7⟩);have HF8:=hid f8;have x30:C4.cell? ⟨Dz+1,0,none⟩=some (.slice a7 a8 a9):=bw.cell 0;have x31:C4.cell? ⟨Dz+1,1,none⟩=some (.slice d1 d2 d3):=bw.cell 1;have x32:C4.cell? ⟨Dz+1,2,none⟩=some (.string xh):=bw.cell 2;have y0:C4.cell? ⟨M+1,0,none⟩=some (.slice none 0 0):=e1.cell 0;have y1:C4.cell? ⟨M+1,1,none⟩=some (.slice none 0 0):=e1.cell 1;have y2:C4.cell? ⟨M+1,2,none⟩=some (.string ⟨#[]⟩):=e1.cell 2;have y3:C4.cell? ⟨M+1+1,0,none⟩=some (.bool false):=e2.cell 0;have z0:=e1.frozen 0;have z1:=e1.frozen 1;have z2:=e1.frozen 2;have z3:=e2.frozen 0;clear hs1 hs2 hr1 hr2 hb2 hb4 hbc bw e1 e2 hcs f1 f2 f5 f6 f7 f8 k1 k2 hbM;gi_wp2;exact⟨HF8.out,rfl,⟨_,HX.out⟩,rfl,HFX.out⟩
 case done=>
  rintro D ys C hD hS ⟨⟨hI,hVC⟩,rfl⟩ hK;replace hS:[]=Sp.movesV n s h:=hS;have e1:=hI.b1;have e2:=hI.b2;obtain⟨C8,hC8⟩:=nM ((((C.setCell ⟨M+1,0,none⟩ (.slice (some ⟨M+1+1+1,0,none⟩) 1 1)).setCell ⟨M+1,1,none⟩ (.slice none 0 0)).setCell ⟨M+1,2,none⟩ (.string h)).setCell ⟨M+1+1,0,none⟩ (.bool false));have f1:Blk C8 (M+1) 31 #[.slice (some ⟨M+1+1+1,0,none⟩) 1 1,.slice none 0 0,.string h]:=by rw [← hC8];exact (((e1.set_ 0 _).set_ 1 _).set_ 2 _).far (by show M+1≠M+1+1;omega) _
  have f2:Blk C8 (M+1+1) 4 #[.bool false]:=by rw [← hC8];exact (((e2.far (by show M+1+1≠M+1;omega) _).far (by show M+1+1≠M+1;omega) _).far (by show M+1+1≠M+1;omega) _).set_ 0 _
  have hf:∀ (k:Nat) (g:Nat),k<M+1+1+1→Value.ownBlock (.slice (some ⟨M+1+1+1,0,none⟩) 1 1)=some g→k≠g:=fun k g hk e=>by
   have e:some (M+1+1+1)=some g:=e;(injection e with e);omega
  have f5:InR C8 M (.slice (some ⟨M+1+1+1,0,none⟩) 1 1) [(s:Int)]:=by
   rw [← hC8];exact in_put (in_put (in_put (in_put hI.row (fun g e=>hf _ g (by show M+1<_;omega) e) _) (fun g e=>hf _ g (by show M+1<_;omega) e) _) (fun g e=>hf _ g (by show M+1<_;omega) e) _) (fun g e=>hf _ g (by show M+1+1<_;omega) e) _
  have f7:Below M w C8:=by rw [← hC8];exact (((hI.below.setCell (p:=⟨M+1,0,none⟩) (by show M≤M+1;omega) _).setCell (p:=⟨M+1,1,none⟩) (by show M≤M+1;omega) _).setCell (p:=⟨M+1,2,none⟩) (by show M≤M+1;omega) _).setCell (p:=⟨M+1+1,0,none⟩) (by show M≤M+1+1;omega) _
  have f9:C8.heap[D]?=some (.deferred (some [])):=by rw [← hC8];exact ((((KeepsOthers.setCell _ _ _).trans (KeepsOthers.setCell _ _ _)).trans (KeepsOthers.setCell _ _ _)).trans (KeepsOthers.setCell _ _ _)).same D _ hK rfl
  have x30:C.cell? ⟨M+1+1+1+1,0,none⟩=some (.slice (some ⟨M+1+1+1,0,none⟩) 1 1):=hI.b4.cell 0;have x31:C.cell? ⟨M+1+1+1+1,1,none⟩=some (.slice none 0 0):=hI.b4.cell 1;have x32:C.cell? ⟨M+1+1+1+1,2,none⟩=some (.string h):=hI.b4.cell 2;have y0:C.cell? ⟨M+1,0,none⟩=some (.slice none 0 0):=e1.cell 0;have y1:C.cell? ⟨M+1,1,none⟩=some (.slice none 0 0):=e1.cell 1;have y2:C.cell? ⟨M+1,2,none⟩=some (.string ⟨#[]⟩):=e1.cell 2;have y3:C.cell? ⟨M+1+1,0,none⟩=some (.bool false):=e2.cell 0;have z0:=e1.frozen 0;have z1:=e1.frozen 1;have z2:=e1.frozen 2;have z3:=e2.frozen 0;have HE:=hid (beg_end HM.out f1 f2 f5 (World.ownsRow_nil C8 M 3 1) f7 (show M+5≤D from Nat.le_trans HMV.out hD) f9 (h:=h) (n:=n) (s:=s) (p:=⟨[(s:Int)],[],h⟩) (.inr (.inr ⟨HPI.out,hS.symm,rfl,rfl⟩)));clear e1 e2 f1 f2 hf f5 f7 f9 hI hVC hS hK hD HSQ HIV;gi_wp2;exact⟨by simp,.inl ⟨_,_,rfl,run_takeDeferred HE.out.1,_,results_pb rfl _ _ (M+1) (M+1+1) 31 #[.slice (some ⟨M+1+1+1,0,none⟩) 1 1,.slice none 0 0,.string h] (.bool false) _ rfl rfl HE.out.2.1 HE.out.2.2.1 Tryz.underlying31 rfl (by kernel_rfl) rfl,HE.out.2.2.2⟩⟩
 case stop=>
  rintro D c ms C hD hpre ⟨rfl,x,rfl,v1,v2,h1,h2,h3,h4,h5⟩ hK;obtain⟨r,hr⟩:=hpre;have HE:=hid (beg_end HM.out h1 h2 h3 h4 h5 (show M+5≤D from Nat.le_trans HMV.out hD) hK (h:=h) (n:=n) (s:=s) (p:=Sp.onP ⟨[(s:Int)],[],h⟩ x.1) (.inr (.inl ⟨HPI.out,x.1,r,hr.symm,rfl,rfl⟩)));clear h1 h2 h3 h4 h5 hK hD hr HSQ HIV;gi_wp2;exact⟨by simp,.inl ⟨_,_,rfl,run_takeDeferred HE.out.1,_,results_pb rfl _ _ (M+1) (M+1+1) 31 #[v1,v2,.string x.1.header] (.bool true) _ rfl rfl HE.out.2.1 HE.out.2.2.1 Tryz.underlying31 rfl (by kernel_rfl) rfl,HE.out.2.2.2⟩⟩
theorem step_begin (N:Nat) (n:Sp.Net) (s:Nat) (h:ByteArray) (w:World) (hn:NetAt w N n) (hok:Sp.NetOk n) (hst:Sp.StateOk n (s:Int) h):
  Calls Tryz.prog 29 #[.pointer (some ⟨N,0,none⟩),.agg #[.int .i64 (s:Int),.string h]] w (BegEnd n s h w):=by
 cases hs:Sp.portIn n s with
 | true=>exact step_begin_in N n s h w hn hs hok.nports
 | false=>exact step_begin_out N n s h w hn hs hok hst hok.nports
end Go.Proofs.YtedfppbnkgffcaaGreatDoor
