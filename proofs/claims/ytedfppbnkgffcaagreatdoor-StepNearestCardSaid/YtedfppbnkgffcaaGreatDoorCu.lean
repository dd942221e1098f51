/-
 A LAW of the walk: a statement that draws its order, in a round of a range over a function.
-/
import Derived.Test.YtedfppbnkgffcaaGreatDoorMs
set_option linter.unusedVariables false
set_option linter.unusedSimpArgs false
set_option maxRecDepth 100000
set_option maxHeartbeats 8000000
namespace Go.Proofs.YtedfppbnkgffcaaGreatDoor
open Go.RowKit
section
variable {F:Fence} {n:Nat} {P:Program} {ops:Array Oper} {Q:Exit→Act→World→Prop} {md:Region.Mode} {S:World→Prop} {L:Nat}
def noDeferB (ops:Array Oper):Bool:=ops.all fun o=>match o.op with | .defer _=>false | _=>true
theorem noDefer_spec (h:noDeferB ops=true) {j:Nat} {o:Oper} (ho:ops[j]?=some o):∀ c,o.op≠.defer c:=by
 intro c hc;have h1:=Array.all_eq_true_iff_forall_mem.1 h o (Array.mem_of_getElem? ho);rw [hc] at h1
 cases h1
theorem YieldsIfF.wpOpR {i:Nat} {o:Oper} {v:Value} {a:Act} (hnd:∀ c,o.op≠.defer c) (hi:ops[i]?=some o) (hy:YieldsIfF P ops S o v a)
  {K:Act→World→Prop} {w:World} (hS:S w) (h:K (a.put o.dst v) w):Go.wpOpIn F n P ops Q i K a w:=by
 unfold Go.wpOpIn;simp only [hi];have hab:∀ f,o.about P w a.eval=some f→F.fn f:=fun f hf=>by rw [hy.2 w] at hf;cases hf
 rcases hy.1 with⟨hw,hv⟩ | ⟨hw,rfl⟩
 ·simp only [hw,if_true,Oper.wpIn];rw [Oper.semAt_eq _ _ _ hnd,hv w hS];simp only [Oper.uponIn];exact⟨hab,h⟩
 ·simp only [hw,Bool.false_eq_true,if_false];exact⟨hab,h⟩
theorem wpOpR_putIf {j:Nat} {oi oj:Oper} {v:Value} (hnd:∀ c,oj.op≠.defer c) (hj:ops[j]?=some oj) (hap:oi.apart ops oj=true)
  (hsi:∀ cs b,oi.op≠.select cs b) (hsj:∀ cs b,oj.op≠.select cs b)
  (hQ:∀ c a w,Q (.panic c) (a.put oi.dst v) w→Q (.panic c) a w) {K:Act→World→Prop} {a:Act} {w:World}
  (hy:YieldsIfF P ops S oi v a) (h:wpOpIn F n P ops Q j K (a.put oi.dst v) w):
  wpOpIn F n P ops Q j (fun a' w'=>YieldsIfF P ops S oi v a'∧K (a'.put oi.dst v) w') a w:=by
 obtain⟨h1,h2,h3⟩:=Oper.apart_spec hap
 have keep:∀ (a:Act),YieldsIfF P ops S oi v a→∀ u,YieldsIfF P ops S oi v (a.put oj.dst u):=fun a hy u=>
  hy.of_same (execOp_put oi hsi a oj.dst u h3) (wanted_put oi a oj.dst u h3) (fun w=>about_put oi w a oj.dst u h3)
 have keepD:∀ d,YieldsIfF P ops S oi v { a with defers:=d :: a.defers }:=fun d=>hy.of_same rfl rfl (fun _=>rfl)
 unfold wpOpIn at *;simp only [hj] at *;rw [wanted_put oj a oi.dst v h1,about_put oj w a oi.dst v h1] at h;split
 ·rename_i hw;simp only [hw,if_true] at h;unfold Oper.wpIn at *;rw [about_put oj w a oi.dst v h1] at h;refine⟨h.1,?_⟩;have h:=h.2;rw [Oper.semAt_eq _ _ _ hnd,execOp_put oj hsj a oi.dst v h1] at h;rw [Oper.semAt_eq _ _ _ hnd];generalize (execOp a.eval oj).run P w=r at *
  cases r with
  | ok x w'=>
   cases x <;> simp only [Oper.uponIn] at h ⊢
   case value u=>exact⟨keep a hy u,by rw [← Act.put_comm a v u h2];exact h⟩
   case skip=>exact⟨keep a hy _,by rw [← Act.put_comm a v undef h2];exact h⟩
   case defer d=>
    refine⟨keep _ (keepD d) _,?_⟩;rw [← Act.put_comm _ v undef h2,← Act.put_defers];exact h
   case enter f args=>
    refine⟨h.1,CallsIn.mono h.2 fun e w'' he=>?_⟩
    cases e with
    | returned u=>exact⟨keep a hy u,by rw [← Act.put_comm a v u h2];exact he⟩
    | panicked c=>exact hQ _ _ _ he
    | outgrown=>exact he
   case row row args=>exact⟨h.1,RowsIn.mono h.2 fun u w'' he=>⟨keep a hy u,by rw [← Act.put_comm a v u h2];exact he⟩⟩
   case round l f tmps assign body=>
    refine⟨h.1,RoundIn.mono h.2 fun e w'' he=>?_⟩
    cases e with
    | returned u=>exact⟨keep a hy u,by rw [← Act.put_comm a v u h2];exact he⟩
    | panicked c=>exact hQ _ _ _ he
    | outgrown=>exact he
  | halt x w'=>
   cases x <;> simp only [Oper.uponIn] at h ⊢
   case panic u=>exact hQ _ _ _ h
 ·rename_i hw;simp only [hw] at h;exact⟨h.1,keep a hy _,by rw [← Act.put_comm a v undef h2];exact h.2⟩
theorem wpAnyKR_first {i m:Nat} {oi:Oper} {v:Value} (hnd:noDeferB ops=true) (hi:ops[i]?=some oi) (hsel:∀ (j:Nat) (o:Oper) cs b,ops[j]?=some o→o.op≠.select cs b)
  (hLi:L≠i) (hwt:waitsB md ops i m L=true)
  (hQ:∀ c a w,Q (.panic c) (a.put oi.dst v) w→Q (.panic c) a w):
  ∀ (fuel:Nat) (listed:Array Bool) (a:Act) (w:World),ClosedL md ops listed →
   (∀ j oj,ops[j]?=some oj→j≠i→listed.getD j true=false→(∀ e ∈ oj.after,Region.binds md e=true→e.on≠i)→oi.apart ops oj=true) →
   i ∈ Region.ready md ops listed→YieldsIfF P ops S oi v a→S w →
   wpAnyKIn F n P md ops Q S L fuel (listed.setIfInBounds i true) (a.put oi.dst v) w→wpAnyKIn F n P md ops Q S L (fuel+1) listed a w:=by
 intro fuel
 induction fuel with
 | zero=>
  intro listed a w _ _ hr hy hS H;refine⟨fun h=>(by rw [h] at hr;cases hr),fun j hj=>?_⟩;by_cases hji:j=i
  ·subst hji;exact hy.wpOpR (noDefer_spec hnd hi) hi hS ⟨Or.inr hS,H⟩
  ·have:=ready_mono hj hji;rw [H.1] at this
   cases this
 | succ fuel ih=>
  intro listed a w hcl hfree hr hy hS H;refine⟨fun h=>(by rw [h] at hr;cases hr),fun j hj=>?_⟩;by_cases hji:j=i
  ·subst hji;exact hy.wpOpR (noDefer_spec hnd hi) hi hS ⟨Or.inr hS,H⟩
  ·have h1:=H.2 j (ready_mono hj hji);obtain⟨hjun,oj,hoj,hall⟩:=mem_ready.1 hj;have hiun:=(mem_ready.1 hr).1
   have hnot:∀ e ∈ oj.after,Region.binds md e=true→e.on≠i:=fun e he hb heq=>by
    have h1:=hall e he hb;rw [heq] at h1;rcases Nat.lt_or_ge i listed.size with h' | h'
    ·simp [h'] at hiun h1;rw [hiun] at h1;cases h1
    ·simp [Array.getElem?_eq_none h'] at h1
   have h2:=wpOpR_putIf (noDefer_spec hnd hoj) hoj (hfree j oj hoj hji hjun hnot) (fun cs b=>hsel i oi cs b hi) (fun cs b=>hsel j oj cs b hoj) hQ hy h1
   have hfree':∀ k ok,ops[k]?=some ok→k≠i→(listed.setIfInBounds j true).getD k true=false →
     (∀ e ∈ ok.after,Region.binds md e=true→e.on≠i)→oi.apart ops ok=true:=fun k ok hk hki hun hno=>by
    refine hfree k ok hk hki ?_ hno;by_cases hjk:j=k
    ·subst hjk;exact hjun
    ·rw [getD_set_ne true hjk] at hun;exact hun
   have hcl':=closedL_set hcl hj
   have hi2:(listed.setIfInBounds j true).getD i false=false:=by
    rw [getD_set_ne false hji];rcases Nat.lt_or_ge i listed.size with h' | h'
    ·simp [h'] at hiun ⊢;exact hiun
    ·simp [Array.getElem?_eq_none h']
   have hLun:¬ (listed.setIfInBounds j true).getD L false=true:=fun hL=>by
    rw [waitsB_spec hcl' m L hwt hL] at hi2
    cases hi2
   refine wpOpIn_mono (fun a' w' h3=>?_) h2
   have hS':S w':=by
    rcases h3.2.1 with h4 | h4
    ·exfalso;apply hLun;rw [Array.setIfInBounds_comm _ _ (Ne.symm hji),getD_set_ne false (Ne.symm hLi)] at h4;exact h4
    ·exact h4
   refine⟨Or.inr hS',ih (listed.setIfInBounds j true) a' w' hcl' hfree' (ready_mono hr (Ne.symm hji)) h3.1 hS' ?_⟩;rw [Array.setIfInBounds_comm _ _ hji];exact h3.2.2
theorem wpAnyKR_take {i:Nat} {oi:Oper} {v:Value} {fuel:Nat} {listed:Array Bool} {a:Act} {w:World} (hnd:noDeferB ops=true) (hc:ClosedL md ops listed) (hS:S w) (hi:ops[i]?=some oi)
  (hs:(Region.noSelect ops && Region.free md ops listed i && (Region.ready md ops listed).contains i && waitsB md ops i 40 L && (L != i))=true)
  (hQ:∀ c a w,Q (.panic c) (a.put oi.dst v) w→Q (.panic c) a w) (hw:Region.wanted oi (yielded ops a.tmps)=true) (hy:∀ w,S w→(execOp a.eval oi).run P w=.ok (.value v) w) (hb:∀ w,oi.about P w a.eval=none)
  (h:ClosedL md ops (listed.setIfInBounds i true)→wpAnyKIn F n P md ops Q S L fuel (listed.setIfInBounds i true) (a.put oi.dst v) w):wpAnyKIn F n P md ops Q S L (fuel+1) listed a w:=by
 simp only [Bool.and_eq_true] at hs;obtain⟨⟨⟨⟨h1,h2⟩,h3⟩,h4⟩,h5⟩:=hs;have hr:i ∈ Region.ready md ops listed:=by simpa using h3
 exact wpAnyKR_first hnd hi (Region.noSelect_spec h1) (by simpa using h5) h4 hQ fuel listed a w hc (Region.free_spec hi h2) hr ⟨Or.inl ⟨hw,hy⟩,hb⟩ hS (h (closedL_set hc hr))
theorem tkR (i:Nat) {oi:Oper} {v:Value} {fuel:Nat} {listed:Array Bool} {a:Act} {w:World} (hc:ClosedL md ops listed) (hS:S w)
  (h:ClosedL md ops (listed.setIfInBounds i true)→wpAnyKIn F n P md ops Q S L fuel (listed.setIfInBounds i true) (a.put oi.dst v) w) (hi:ops[i]?=some oi:=by rfl) (hnd:noDeferB ops=true:=by kernel_rfl) 
  (hs:(Region.noSelect ops && Region.free md ops listed i && (Region.ready md ops listed).contains i && waitsB md ops i 40 L && (L != i))=true:=by kernel_rfl)
  (hQ:∀ c a w,Q (.panic c) (a.put oi.dst v) w→Q (.panic c) a w:=by exact fun _ _ _ h=>h) (hw:Region.wanted oi (yielded ops a.tmps)=true:=by rfl) (hb:∀ w,oi.about P w a.eval=none:=by exact fun _=>rfl) (hy:∀ w,S w→(execOp a.eval oi).run P w=.ok (.value v) w:=by intro w hSw;(try dsimp only at hSw);first | (go_simp;done) | (go_simp;with_reducible rfl)):wpAnyKIn F n P md ops Q S L (fuel+1) listed a w:=
 wpAnyKR_take hnd hc hS hi hs hQ hw hy hb h
end
end Go.Proofs.YtedfppbnkgffcaaGreatDoor
