/-
 THE WALK of step.begin at an in-port (chapter 10).
-/
import Derived.Test.YtedfppbnkgffcaaGreatDoorAt
import Derived.Deep.RegionHeld3
set_option linter.unusedVariables false
set_option linter.unusedSimpArgs false
set_option maxRecDepth 100000
set_option maxHeartbeats 8000000
namespace Go.Proofs.YtedfppbnkgffcaaGreatDoor
open Go.RowKit
open Go.Lib (hid)
theorem in_put {A:World} {b:Nat} {v:Value} {l:List Int} (h:InR A b v l) {p:Addr} (hp:∀ g,v.ownBlock=some g→p.block≠g) (u:Value):InR (A.setCell p u) b v l:=by
 have hg:A.grownBy (A.setCell p u) (some p.block):=⟨rfl,rfl,rfl,(KeepsWalks.setCell A _ u).size,fun k _ hk=>Below.heap_setCell _ _ _ k (fun e=>hk (by rw [e]))⟩
 refine World.ownsRow.kept h hg ?_
 cases hv:v.ownBlock with
 | none=>exact .inl rfl
 | some g=>exact .inr (fun e=>hp g hv (by injection e with e;exact e.symm))
theorem step_begin_in (N:Nat) (n:Sp.Net) (s:Nat) (h:ByteArray) (w:World) (hn:NetAt w N n) (hs:Sp.portIn n s=true) (h48:n.ports.length≤48):
  Calls Tryz.prog 29 #[.pointer (some ⟨N,0,none⟩),.agg #[.int .i64 (s:Int),.string h]] w (BegEnd n s h w):=by
 obtain⟨M,hM⟩:=nM w.heap.size
 obtain⟨q,hq,hqi⟩:∃ q,n.ports[s]?=some q∧q.inn=true:=by
  unfold Sp.portIn at hs;split at hs
  ·rename_i q hq;exact⟨q,hq,hs⟩
  ·cases hs
 obtain⟨A1,c1,A2,c2,A3,c3,hlt,n0,n1,n2,n3,hpv,_⟩:=hn.at;obtain⟨gq,oq,rfl,hgq,k0,k1,k2,k3⟩:=hpv.at hq;rw [hqi] at k2;obtain⟨np,hnp⟩:=nM n.ports.length;have hsn:s<np:=by rw [← hnp];exact (List.getElem?_eq_some_iff.1 hq).1
 rw [hnp] at n1 h48;obtain⟨W3,hW3⟩:=nM (((w.alloc (.cells #[.int .i64 (s:Int),.string h] 28)).alloc (.cells #[.slice none 0 0,.slice none 0 0,.string ⟨#[]⟩] 31)).alloc (.cells #[.bool false] 4));have hb3:Below M w W3:=by rw [← hW3,← hM];exact (((Below.refl _ _).alloc (Nat.le_refl _) _).alloc (by simp) _).alloc (by simp;omega) _
 have hs3:W3.heap.size=M+3:=by rw [← hW3,← hM];simp
 have b0:Blk W3 M 28 #[.int .i64 (s:Int),.string h]:=by rw [← hW3,← hM];exact ((Blk.new w _ _).alloc _).alloc _
 have b1:Blk W3 (M+1) 31 #[.slice none 0 0,.slice none 0 0,.string ⟨#[]⟩]:=by rw [← hW3];exact (blk_at (by rw [World.size_alloc];omega)).alloc _
 have b2:Blk W3 (M+2) 4 #[.bool false]:=by rw [← hW3];exact blk_at (by rw [World.size_alloc,World.size_alloc];omega)
 obtain⟨W5,hW5⟩:=nM ((W3.alloc (.cells #[.int .i64 (s:Int)] 3)).alloc (.cells #[.slice (some ⟨M+1+1+1,0,none⟩) 1 1,.slice none 0 0,.string h] 31));have hb5:Below M W3 W5:=by rw [← hW5];exact ((Below.refl M W3).alloc (by omega) _).alloc (by rw [World.size_alloc];omega) _
 have hs5:W5.heap.size=M+5:=by rw [← hW5];simp;omega
 have d0:Blk W5 M 28 #[.int .i64 (s:Int),.string h]:=by rw [← hW5];exact (b0.alloc _).alloc _
 have d1:Blk W5 (M+1) 31 #[.slice none 0 0,.slice none 0 0,.string ⟨#[]⟩]:=by rw [← hW5];exact (b1.alloc _).alloc _
 have d2:Blk W5 (M+1+1) 4 #[.bool false]:=by rw [← hW5];exact (b2.alloc _).alloc _
 have d4:Blk W5 (M+1+1+1+1) 31 #[.slice (some ⟨M+1+1+1,0,none⟩) 1 1,.slice none 0 0,.string h]:=by rw [← hW5];exact blk_at (by rw [World.size_alloc];omega)
 have hrow:InR W5 M (.slice (some ⟨M+1+1+1,0,none⟩) 1 1) [(s:Int)]:=by
  have h1:=one_row W3 (s:Int) M (by omega);rw [hs3] at h1;rw [← hW5];exact in_below h1 ((Below.refl _ _).alloc (by simp) _)
 have x0:W3.cell? ⟨M,0,none⟩=some (.int .i64 (s:Int)):=b0.cell 0;have x1:W3.cell? ⟨M,1,none⟩=some (.string h):=b0.cell 1;have HM:=hid hM;have HB3:=hid hb3;have HB5:=hid hb5;have HS3:=hid hs3;have HS5:=hid hs5;have HD0:=hid d0;have HD1:=hid d1;have HD2:=hid d2;have HD4:=hid d4;have HROW:=hid hrow;have HPI:=hid hs;have hbw:Below w.heap.size w W5:=by rw [hM];exact hb3.trans hb5
 have HN1:=hid ((hbw.cell (p:=⟨N,1,none⟩) hlt).trans n1);have HK2:=hid ((hbw.cell (p:=⟨gq,oq+s * 4+2,none⟩) hgq).trans k2);have p0:(0:Int)≤(s:Int):=by omega
 have p1:(s:Int)<(np:Int):=by omega
 clear hn hs hq hqi n0 n2 n3 n1 hpv hgq k0 k1 k2 k3 hnp hb3 hs3 b0 b1 b2 hb5 hs5 d0 d1 d2 d4 hrow hbw hlt;refine (callsIn_wide (n:=9)).1 ?_;refine callsIn_of_wp_marks Tryz.func29 rfl trivial ?_ rfl;simp only [Tryz.ntmps29,List.size_toArray,List.length_cons,List.length_nil,Nat.reduceAdd,Nat.reduceSub,Array.replicate_succ,Array.replicate_zero,List.push_toArray,List.append_toArray,List.nil_append,List.cons_append];have h33:W3.heap.size=M+1+1+1:=HS3.out;gi_wp2;refine wpIn_noPanic ?_;refine wpIn_region_K 8 (fun w'=>w'.cell? ⟨N,1,none⟩=some (.slice (some ⟨gq,oq,none⟩) np c1)∧w'.cell? ⟨M,0,none⟩=some (.int .i64 (s:Int))∧w'.cell? ⟨gq,oq+s * 4+2,none⟩=some (.bool true)) (by kernel_rfl) (fun hcl=>?_);refine mSIn (⟨HN1.out,HD0.out.cell 0,HK2.out⟩) (fun hS=>?_);refine tkI 0 hcl hS ?_;clear hcl;intro hcl;simp only [tkl];refine tkI 1 hcl hS ?_;clear hcl;intro hcl;simp only [tkl];refine tkI 2 hcl hS ?_;clear hcl;intro hcl;simp only [tkl];refine tkI 3 hcl hS ?_;clear hcl;intro hcl;simp only [tkl];refine tkI 4 hcl hS ?_;clear hcl;intro hcl;simp only [tkl];refine tkI 5 hcl hS ?_;clear hcl;intro hcl;simp only [tkl];refine tkI 6 hcl hS ?_;clear hcl;intro hcl;simp only [tkl];refine tkI 7 hcl hS ?_;clear hcl;intro hcl;simp only [tkl];clear hS;refine on1I 8 hcl (fun K hK=>?_);simp only [ly];refine⟨(fun f hf=>by cases hf),?_⟩;rw [show Fence.wide.round=none from rfl,Oper.semAt_none];have hk2:W5.drew.cell? ⟨gq,oq+s * 4+2,none⟩=some (.bool true):=HK2.out;go_simp;refine hK.out _ _ (Or.inl (by kernel_rfl)) (fun hcl2=>?_);clear hK K hcl hcl2 hk2;refine wpAnyKIn_done (by kernel_rfl) ?_ _;refine NoPanic.normal ?_;(try simp only [Act.put,pu]);obtain⟨W6,hW6⟩:=nM W5.drew;have hb6:Below M W3 W6:=by rw [← hW6];exact HB5.out.drew
 have e1:Blk W6 (M+1) 31 #[.slice none 0 0,.slice none 0 0,.string ⟨#[]⟩]:=by rw [← hW6];exact HD1.out
 have e2:Blk W6 (M+1+1) 4 #[.bool false]:=by rw [← hW6];exact HD2.out
 have e4:Blk W6 (M+1+1+1+1) 31 #[.slice (some ⟨M+1+1+1,0,none⟩) 1 1,.slice none 0 0,.string h]:=by rw [← hW6];exact HD4.out
 have e5:InR W6 M (.slice (some ⟨M+1+1+1,0,none⟩) 1 1) [(s:Int)]:=by rw [← hW6];exact HROW.out
 rw [hW6];obtain⟨W9,hW9⟩:=nM ((((W6.setCell ⟨M+1,0,none⟩ (.slice (some ⟨M+1+1+1,0,none⟩) 1 1)).setCell ⟨M+1,1,none⟩ (.slice none 0 0)).setCell ⟨M+1,2,none⟩ (.string h)).setCell ⟨M+1+1,0,none⟩ (.bool true));have hb9:Below M W3 W9:=by rw [← hW9];exact (((hb6.setCell (p:=⟨M+1,0,none⟩) (by show M≤M+1;omega) _).setCell (p:=⟨M+1,1,none⟩) (by show M≤M+1;omega) _).setCell (p:=⟨M+1,2,none⟩) (by show M≤M+1;omega) _).setCell (p:=⟨M+1+1,0,none⟩) (by show M≤M+1+1;omega) _
 have f1:Blk W9 (M+1) 31 #[.slice (some ⟨M+1+1+1,0,none⟩) 1 1,.slice none 0 0,.string h]:=by rw [← hW9];exact (((e1.set_ 0 _).set_ 1 _).set_ 2 _).far (by show M+1≠M+1+1;omega) _
 have f2:Blk W9 (M+1+1) 4 #[.bool true]:=by rw [← hW9];exact (((e2.far (by show M+1+1≠M+1;omega) _).far (by show M+1+1≠M+1;omega) _).far (by show M+1+1≠M+1;omega) _).set_ 0 _
 have f5:InR W9 M (.slice (some ⟨M+1+1+1,0,none⟩) 1 1) [(s:Int)]:=by
  rw [← hW9]
  have hf:∀ (k:Nat) (g:Nat),k<M+1+1+1→Value.ownBlock (.slice (some ⟨M+1+1+1,0,none⟩) 1 1)=some g→k≠g:=fun k g hk e=>by
   have e:some (M+1+1+1)=some g:=e;(injection e with e);omega
  exact in_put (in_put (in_put (in_put e5 (fun g e=>hf _ g (by show M+1<_;omega) e) _) (fun g e=>hf _ g (by show M+1<_;omega) e) _) (fun g e=>hf _ g (by show M+1<_;omega) e) _) (fun g e=>hf _ g (by show M+1+1<_;omega) e) _
 have HF1:=hid f1;have HF2:=hid f2;have HF5:=hid f5;have HB9:=hid hb9;have x40:W6.cell? ⟨M+1+1+1+1,0,none⟩=some (.slice (some ⟨M+1+1+1,0,none⟩) 1 1):=e4.cell 0;have x41:W6.cell? ⟨M+1+1+1+1,1,none⟩=some (.slice none 0 0):=e4.cell 1;have x42:W6.cell? ⟨M+1+1+1+1,2,none⟩=some (.string h):=e4.cell 2;have y0:W6.cell? ⟨M+1,0,none⟩=some (.slice none 0 0):=e1.cell 0;have y1:W6.cell? ⟨M+1,1,none⟩=some (.slice none 0 0):=e1.cell 1;have y2:W6.cell? ⟨M+1,2,none⟩=some (.string ⟨#[]⟩):=e1.cell 2;have y3:W6.cell? ⟨M+1+1,0,none⟩=some (.bool false):=e2.cell 0;have z0:=e1.frozen 0;have z1:=e1.frozen 1;have z2:=e1.frozen 2;have z3:=e2.frozen 0;clear e1 e2 e4 e5 f1 f2 f5 hb6 hb9 hW6;gi_wp2;refine⟨_,results_pb rfl _ _ (M+1) (M+1+1) 31 #[.slice (some ⟨M+1+1+1,0,none⟩) 1 1,.slice none 0 0,.string h] (.bool true) _ rfl rfl HF1.out (HF2.out.cell 0) Tryz.underlying31 rfl (by kernel_rfl) rfl,?_⟩;exact⟨_,_,⟨[(s:Int)],[],h⟩,true,rfl,by rw [HM.out];exact HF5.out,World.ownsRow_nil _ _ _ _,by rw [HM.out];exact HB3.out.trans HB9.out,.inl ⟨HPI.out,rfl,rfl⟩⟩
end Go.Proofs.YtedfppbnkgffcaaGreatDoor
