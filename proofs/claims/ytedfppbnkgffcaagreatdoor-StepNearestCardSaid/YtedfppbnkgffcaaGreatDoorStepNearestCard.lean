/-
 The statement StepNearestCardSaid: Reach's path is followed, comes to the port with its last port alone, and none is nearer among the whole paths taken here; with one hop less there is none.
 Conditions: those of the given card alone (the listed package-level variables read as the program's text lays them).
-/
import Derived.Test.YtedfppbnkgffcaaGreatDoorBf
import Derived.Test.YtedfppbnkgffcaaGreatDoorGn
import Derived.SizedLaws
set_option linter.unusedVariables false
set_option linter.unusedSimpArgs false
set_option maxRecDepth 100000
set_option maxHeartbeats 4000000
namespace Go.Proofs.YtedfppbnkgffcaaGreatDoor.stepNearest
open Go.ChangeShapes Go.WideShapes Go.ChangeAt Go.RowKit
open Go.ChangeMaps (open_string shut_string)

theorem laidOut:laidOutB Tryz.prog=true:=by kernel_rfl
theorem laid_met (os:Os) (args:Array Value):laidMetH Tryz.prog Rows.stepNearestRow.laid ((World.laidAll Tryz.prog os Rows.stepNearestRow.laid).forCall (fun _ _=>0) ⟨#[],args,[]⟩).memory:=by
 rw [MakeChecks.laidMetH_plain _ _ _ (by kernel_rfl)];exact laidMet_laidAll _ (by kernel_rfl) (by kernel_rfl)

theorem witness_row (os:Os) {H:Type} (enc:TypeId × Value→H):
  (OpenSpec.ofChange Rows.stepNearestSpec).preRow enc Tryz.prog Tryz.f4 Rows.stepNearestRow.domain false Rows.stepNearestRow.laid ((World.laidAll Tryz.prog os Rows.stepNearestRow.laid).forCall (fun _ _=>0) ⟨#[],#[.agg #[.int .i64 0,.slice none 0 0,.slice none 0 0,.slice none 0 0],.agg #[.int .i64 0,.string ⟨#[]⟩],.int .i64 0,.int .i64 0,.int .i64 0],[]⟩).memory #[.agg #[.int .i64 0,.slice none 0 0,.slice none 0 0,.slice none 0 0],.agg #[.int .i64 0,.string ⟨#[]⟩],.int .i64 0,.int .i64 0,.int .i64 0]:=by
 have hw:(DataW.whole enc Tryz.prog ((World.laidAll Tryz.prog os Rows.stepNearestRow.laid).forCall (fun _ _=>0) ⟨#[],#[.agg #[.int .i64 0,.slice none 0 0,.slice none 0 0,.slice none 0 0],.agg #[.int .i64 0,.string ⟨#[]⟩],.int .i64 0,.int .i64 0,.int .i64 0],[]⟩).memory Tryz.f4.params.toList (OpenSpec.ofChange Rows.stepNearestSpec).vars false #[(.agg #[.int .i64 0,.slice none 0 0,.slice none 0 0,.slice none 0 0]:Value),.agg #[.int .i64 0,.string ⟨#[]⟩],.int .i64 0,.int .i64 0,.int .i64 0].toList 8).map (fun x=>(x.1,x.2.1))=
   some ([.agg [.lit (.int .i64 0),.nil,.nil,.nil],.agg [.lit (.int .i64 0),.lit (.string [])],.lit (.int .i64 0),.lit (.int .i64 0),.lit (.int .i64 0)],[]):=by kernel_rfl
 obtain⟨⟨x1,x2,x3⟩,hx,hx1⟩:=Option.map_eq_some_iff.1 hw;simp only [Prod.mk.injEq] at hx1;obtain⟨rfl,rfl⟩:=hx1;exact OpenSpec.preRow_of_cond 8 hx (by kernel_rfl) (fun k hk=>by cases hk) (by kernel_rfl) (laid_met os _)

theorem lifted (os:Os) (started:os.Started) (H:Type) (enc:TypeId × Value→H) (F:Stop.Interp):
  ReturnsInHanded {} Tryz.checked os 4 .any ((OpenSpec.ofChange Rows.stepNearestSpec).preRow enc Tryz.prog Tryz.f4 Rows.stepNearestRow.domain false Rows.stepNearestRow.laid) (((OpenSpec.ofChange Rows.stepNearestSpec).at F).post enc Tryz.prog Tryz.f4 false true false false):=by
 have hok:Input.okWideB Tryz.checked.prog ((World.laidAll Tryz.prog os Rows.stepNearestRow.laid).forCall (fun _ _=>0) ⟨#[],#[.agg #[.int .i64 0,.slice none 0 0,.slice none 0 0,.slice none 0 0],.agg #[.int .i64 0,.string ⟨#[]⟩],.int .i64 0,.int .i64 0,.int .i64 0],[]⟩) 4 ⟨#[],#[.agg #[.int .i64 0,.slice none 0 0,.slice none 0 0,.slice none 0 0],.agg #[.int .i64 0,.string ⟨#[]⟩],.int .i64 0,.int .i64 0,.int .i64 0],[]⟩=true:=by kernel_rfl
 refine returnsInHanded_of_row (C:=Tryz.checked) (s:=OpenSpec.ofChange Rows.stepNearestSpec) own started (by kernel_rfl) Tryz.func4
  ⟨World.laidAll Tryz.prog os Rows.stepNearestRow.laid,fun _ _=>0,⟨#[],#[.agg #[.int .i64 0,.slice none 0 0,.slice none 0 0,.slice none 0 0],.agg #[.int .i64 0,.string ⟨#[]⟩],.int .i64 0,.int .i64 0,.int .i64 0],[]⟩,World.laidAll_os _ _ _,World.shaped_of_ZipB (by kernel_rfl) (by kernel_rfl),(Input.okWide_of_okWideB (base:=0) hok).1,(Input.okWide_of_okWideB hok).2,witness_row os enc,by
   simp only [Assume.holds]
   exact⟨by simp,by simp,fun _=>Modest.zero,by simp,by simp⟩⟩ ?_
 intro W base args ds gs before hval0 hW _ _ hsz0 hL hsh _;have hval:∀ (j:Nat) t v,Tryz.f4.params[j]?=some t→args[j]?=some v→Value.okWide Tryz.prog W .any base t v:=hval0;have hW':=hW;obtain⟨p,q,hA0,hV0,rfl,_,_⟩:=hW;have hA:DataW.TrodAll enc Tryz.prog W 0 (fun _=>true) true Tryz.f4.params.toList args.toList ds p:=hA0;have hsz:(DataW.weightsEach Tryz.prog (Tryz.f4.params.toList ++ (OpenSpec.ofChange Rows.stepNearestSpec).bare.plain.varTypes Tryz.prog) (ds ++ gs)).all (·≤reachBytes)=true:=hsz0;rw [Tryz.params4] at hA hval hsz;obtain⟨v0,vs0,d0,ds0,p0,q0,ha0,rfl,rfl,h0,hr0⟩:=trodAll_cons hA;obtain⟨v1,vs1,d1,ds1,p1,q1,rfl,rfl,rfl,h1,hr1⟩:=trodAll_cons hr0;obtain⟨v2,vs2,d2,ds2,p2,q2,rfl,rfl,rfl,h2,hr2⟩:=trodAll_cons hr1;obtain⟨v3,vs3,d3,ds3,p3,q3,rfl,rfl,rfl,h3,hr3⟩:=trodAll_cons hr2;obtain⟨v4,vs4,d4,ds4,p4,q4,rfl,rfl,rfl,h4,hr4⟩:=trodAll_cons hr3;obtain⟨rfl,rfl,rfl⟩:=trodAll_nil hr4;obtain rfl:args=#[v0,v1,v2,v3,v4]:=by cases args;simp_all
 obtain⟨rfl,rfl⟩:=trodVars_none hV0;have g0:=h0;obtain⟨c0,rfl,z0⟩:=okWide_struct Tryz.underlying26 (hval 0 26 v0 rfl rfl);obtain⟨fu0,hf0⟩:=h0;obtain⟨n0,A01,A02,A03,k01,k02,k03,hc0,hn0,hl0⟩:=net_open fu0 _ _ hf0 (by rw [show (Value.agg c0).cells=c0 from rfl,Array.length_toList,z0];kernel_rfl);obtain rfl:c0=#[.int .i64 n0.bits,.slice A01 n0.ports.length k01,.slice A02 n0.tables.length k02,.slice A03 n0.guards.length k03]:=Array.toList_inj.1 hc0;have sz0:=hl0 (light_of hsz (j:=0) rfl rfl);have g1:=h1;obtain⟨c1,rfl,z1⟩:=okWide_struct Tryz.underlying28 (hval 1 28 v1 rfl rfl);obtain⟨fu1,hf1⟩:=h1;obtain⟨s1,t1,hc1,hl1⟩:=state_open fu1 _ _ hf1 (by rw [show (Value.agg c1).cells=c1 from rfl,Array.length_toList,z1];kernel_rfl);obtain rfl:c1=#[.int .i64 s1,.string t1]:=Array.toList_inj.1 hc1;have sz1:=hl1 (light_of hsz (j:=1) rfl rfl);have g2:=h2;obtain⟨x2,rfl,rfl,rfl,wi2⟩:=open_int Tryz.underlying3 (hval 2 3 v2 rfl rfl) h2;have g3:=h3;obtain⟨x3,rfl,rfl,rfl,wi3⟩:=open_int Tryz.underlying3 (hval 3 3 v3 rfl rfl) h3;have g4:=h4;obtain⟨x4,rfl,rfl,rfl,wi4⟩:=open_int Tryz.underlying3 (hval 4 3 v4 rfl rfl) h4;have hlt0:∀ x ∈ p0,x.block<W.heap.size:=fun x hx=>by have:=hW'.lt x;simp at this;exact this (by simp [hx])
 have hlt1:∀ x ∈ p1,x.block<W.heap.size:=fun x hx=>by have:=hW'.lt x;simp at this;exact this (by simp [hx])
 clear hA0 hV0 hval0 hsz0;have hG:Gn W:=gn_of hL (by kernel_rfl) hsh (by simp [Rows.stepNearestRow]) (by simp [Rows.stepNearestRow]) (by simp [Rows.stepNearestRow]) (by simp [Rows.stepNearestRow]) (by simp [Rows.stepNearestRow]) (by simp [Rows.stepNearestRow]) (by simp [Rows.stepNearestRow]);refine (law_nearest n0 A01 A02 A03 k01 k02 k03 s1 t1 x2 x3 x4 W hG hn0 sz0 (by have:=sz1;unfold reachBytes at this;omega)).mono ?_;rintro e W' ⟨rfl,bel⟩;have e1:((OpenSpec.ofChange Rows.stepNearestSpec).at F).fn H ([d0,d1,.lit (.int .i64 x2),.lit (.int .i64 x3),.lit (.int .i64 x4)] ++ [])={ results:=[.lit (.bool true)],args:=[d0,d1,.lit (.int .i64 x2),.lit (.int .i64 x3),.lit (.int .i64 x4)] }:=rfl;refine⟨_,rfl,_,_,_,[],p0 ++ (p1 ++ ([] ++ ([] ++ ([])))),[],hW',?_,?_,?_,bel.frame _,fun h=>by cases h⟩
 ·rw [e1];exact trodAll_mk1 (shut_bool Tryz.underlying4 _)
 ·rw [e1];exact⟨_,_,(Below.trod laidOut (by kernel_rfl) (of_decide_eq_true (by kernel_rfl)) g0 bel hlt0),trodAll_mk4 (Below.trod laidOut (by kernel_rfl) (of_decide_eq_true (by kernel_rfl)) g1 bel hlt1) (shut_int Tryz.underlying3 wi2) (shut_int Tryz.underlying3 wi3) (shut_int Tryz.underlying3 wi4),rfl⟩
 ·rw [e1];rfl

theorem said:Rows.StepNearestSaid:=
 OpenClaim.holds_of_cond 4 Tryz.f4 rfl rfl rfl rfl rfl rfl rfl ⟨rfl,rfl,rfl,rfl,rfl⟩ rfl rfl rfl rfl rfl (by kernel_rfl) Tryz.func4 (by kernel_rfl)
  (of_decide_eq_true (by kernel_rfl)) (by unfold Func.isWrapper;first | (rw [if_pos (by decide +kernel)];kernel_rfl) | (rw [if_neg (by decide +kernel)];exact⟨rfl,rfl⟩))
  (fun os started H enc _ F=>by rw [OpenClaim.pre_eq_preRow];exact lifted os started H enc F)

theorem plain (f : FuncId) (fn : Func) (hf : Tryz.pinned.checked.prog.funcNamed "reach/reachlaw10.StepNearest" = some f) (hfn : Tryz.pinned.checked.prog.funcs[f]? = some fn) :
  true=Tryz.pinned.checked.prog.looks []∧∀ (j:Nat) t,fn.params[j]?=some t→Tryz.pinned.checked.prog.wantsStandIn t=false:=by
 obtain rfl : f = 4 := Option.some.inj ((show Tryz.prog.funcNamed "reach/reachlaw10.StepNearest" = some 4 by kernel_rfl).symm.trans hf) |>.symm
 obtain rfl:fn=Tryz.f4:=(Option.some.inj (Tryz.func4.symm.trans hfn)).symm;refine⟨by kernel_rfl,fun j t ht=>?_⟩;rw [Tryz.params4] at ht;have hor:t=26∨t=28∨t=3:=by have:=Array.mem_of_getElem? ht;simp at this;omega
 rcases hor with rfl | rfl | rfl
 ·exact (show Tryz.prog.wantsStandIn 26=false by kernel_rfl)
 ·exact (show Tryz.prog.wantsStandIn 28=false by kernel_rfl)
 ·exact (show Tryz.prog.wantsStandIn 3=false by kernel_rfl)

theorem card:Rows.StepNearestCardSaid:=
 Claim7.holds_tied_plain_at .later [] _ _ _ _ said (fun _ h=>by cases h) (by kernel_rfl) (fun _ h=>by cases h) stepNearest_row_tie rfl ⟨rfl,rfl⟩ (by kernel_rfl) rfl plain (by kernel_rfl)
end Go.Proofs.YtedfppbnkgffcaaGreatDoor.stepNearest
