/-
 Texts joined: Ta Rk Tb.
-/
import Derived.Test.YtedfppbnkgffcaaGreatDoorYa
import Derived.Deep.RegionHeld3
import Derived.Deep.AppendLies
import Derived.Deep.DrawnRows
import Derived.Deep.RegionHeld
import Derived.StillTail
set_option linter.unusedVariables false
set_option linter.unusedSimpArgs false
set_option maxRecDepth 100000
set_option maxHeartbeats 2000000
namespace Go.Proofs.YtedfppbnkgffcaaGreatDoor
open Go.RowKit
open Go.Lib (hid)
section
variable {a w w':World}
theorem only_drew {row:Option Nat} (h:a.grownBy w row):a.grownBy w.drew row:=⟨h.os,h.tape,h.output,h.size,h.block⟩
theorem only_alloc {row:Option Nat} (h:a.grownBy w row) (o:Obj):a.grownBy (w.alloc o) row:=
 ⟨h.os,h.tape,h.output,Nat.le_trans h.size (by simp),fun i hi hne=>(Below.heap_alloc w o i (Nat.lt_of_lt_of_le hi h.size)).trans (h.block i hi hne)⟩
theorem only_setCell {g:Nat} (h:a.grownBy w (some g)) {p:Addr} (hp:p.block=g∨a.heap.size≤p.block) (u:Value):a.grownBy (w.setCell p u) (some g):=
 ⟨h.os,h.tape,h.output,by simpa [World.setCell] using h.size,fun i hi hne=>(Below.heap_setCell w p u i (by
  rintro rfl;rcases hp with hp | hp
  ·exact hne (by rw [hp])
  ·omega)).trans (h.block i hi hne)⟩
theorem only_of_below (h:Below a.heap.size a w) (row:Option Nat):a.grownBy w row:=⟨h.os,h.tape,h.output,h.size,fun i hi _=>h.block i hi⟩
end
def Blk (w:World) (g:Nat) (t:TypeId) (cs:Array Value):Prop:=w.heap[g]?=some (.cells cs t (0,0))
section
variable {w w':World} {g:Nat} {t:TypeId} {cs:Array Value}
theorem Blk.lt (h:Blk w g t cs):g<w.heap.size:=by
 rcases Nat.lt_or_ge g w.heap.size with hlt | hge
 ·exact hlt
 ·unfold Blk at h;rw [Array.getElem?_eq_none hge] at h;cases h
theorem Blk.cell (h:Blk w g t cs) (i:Nat):w.cell? ⟨g,i,none⟩=cs[i]?:=cell_of_row w g i cs t (0,0) h
theorem Blk.frozen (h:Blk w g t cs) (i:Nat):w.frozen? ⟨g,i,none⟩=false:=by
 unfold Blk at h;simp [World.frozen?,h]
theorem Blk.new (w:World) (t:TypeId) (cs:Array Value):Blk (w.alloc (.cells cs t)) w.heap.size t cs:=heap_alloc_new w _
theorem Blk.drewN (h:Blk w g t cs) (n:Nat):Blk (w.drewN n) g t cs:=h
theorem Blk.alloc (h:Blk w g t cs) (o:Obj):Blk (w.alloc o) g t cs:=(Below.heap_alloc w o g h.lt).trans h
theorem Blk.set_ (h:Blk w g t cs) (i:Nat) (u:Value):Blk (w.setCell ⟨g,i,none⟩ u) g t (cs.setIfInBounds i u):=by
 unfold Blk at h ⊢;simp [World.setCell,Array.getElem?_modify,h]
theorem Blk.far (h:Blk w g t cs) {p:Addr} (hp:g≠p.block) (u:Value):Blk (w.setCell p u) g t cs:=(Below.heap_setCell w p u g hp).trans h
theorem Blk.below {B:Nat} (h:Blk w g t cs) (hb:Below B w w') (hg:g<B):Blk w' g t cs:=(hb.block g hg).trans h
theorem Blk.grown {row:Option Nat} (h:Blk w g t cs) (hb:w.grownBy w' row) (hg:some g≠row):Blk w' g t cs:=(hb.block g h.lt hg).trans h
end
def Mach (w:World) (N:Nat) (s:ByteArray) (at_ line col:Nat) (op:Bool) (tv:Value):Prop:=
 Blk w N 150 #[.string s,.int .i64 at_,.int .i64 line,.int .i64 col,.bool op,tv]
theorem mach_forward (s:ByteArray) (N p n line col:Nat) (op:Bool) (tv:Value) (w:World) (hM:Mach w N s p line col op tv) (hs:s.size≤1073741824) (hpn:p+n≤s.size) (hcol:col≤1073741824):
  Calls Tryz.prog 109 #[.pointer (some ⟨N,0,none⟩),.int .i64 n] w fun e w'=>e=.returned (.tuple #[])∧Mach w' N s (p+n) line (col+Sp.chars ((s.data.toList.drop p).take n)) op tv∧w.grownBy w' (some N):=by
 have c0:w.cell? ⟨N,0,none⟩=some (.string s):=hM.cell 0;have c1:w.cell? ⟨N,1,none⟩=some (.int .i64 p):=hM.cell 1;have c3:w.cell? ⟨N,3,none⟩=some (.int .i64 col):=hM.cell 3;have f1:=hM.frozen 1;have f3:=hM.frozen 3;have b1:(0:Int)≤(p:Int):=by omega
 have b2:(p:Int)+n≤s.size:=by omega
 have b3:(s.size:Int)≤1073741824:=by omega
 have b4:(p:Int)≤(p:Int)+n:=by omega
 have b5:(0:Int)≤(p:Int)+n:=by omega
 have w1:IntKind.i64.wrap ((p:Int)+n)=(p:Int)+n:=by rw [IntKind.wrap_i64];omega
 have w2:((p:Int)+n).toNat=p+n:=by omega
 have hNw:=hM.lt;obtain⟨t,ht⟩:=nM (s.extract p (p+n));have htl:t.data.toList=(s.data.toList.drop p).take n:=by rw [← ht,Lib.extract_data];congr 1;omega
 have hts:t.size=n:=by rw [Lib.size_eq,htl,List.length_take,List.length_drop,← Lib.size_eq];omega
 have kk:∀ (j:Nat) (W:World),W.heap.size=w.heap.size→(W.iter t 0).cell? ⟨N,j,none⟩=W.cell? ⟨N,j,none⟩:=fun j W hW=>World.cell?_alloc_lt _ _ _ (by rw [hW];exact hNw)
 have k0:(w.drew.iter t 0).cell? ⟨N,0,none⟩=some (.string s):=(kk 0 w.drew rfl).trans c0;have k1:(w.drew.iter t 0).cell? ⟨N,1,none⟩=some (.int .i64 p):=(kk 1 w.drew rfl).trans c1;have HK0:=hid k0;have HK1:=hid k1;have HT:=hid ht;have HTL:=hid htl;have HTS:=hid hts;have HM:=hid hM;clear kk k0 k1 htl hts hM;go_enter Tryz.func109,Tryz.ntmps109;go_wp2;go_region_held3 (fun w'=>w'.cell? ⟨N,0,none⟩=some (.string s)∧w'.cell? ⟨N,1,none⟩=some (.int .i64 p)) (first | go_keep | exact⟨HK0.out,HK1.out⟩) (fail)
 all_goals go_wp2
 go_loopw [20,21,22,23,24,25,26,27,28] (fun _ _ _ _ _ _ _ _ _ wr=>∃ (pos q:Nat),wr.heap[w.heap.size]?=some (.stringIter t pos)∧Mach wr N s p line q op tv∧w.grownBy wr (some N)∧pos≤t.size∧Hid (q=col+Sp.chars (t.data.toList.take pos)∧Sp.Bd t.data.toList pos∧q≤col+pos)) (fun _ _ _ _ _ _ _ _ _ wr=>t.size - wr.iterPos w.heap.size)
 case atStart=>
  refine⟨0,col,World.iter_heap w.drew t 0,HM.out.alloc _,only_alloc (only_drew (World.grownBy.refl w _)) _,by omega,?_⟩;refine⟨?_,Sp.Bd.zero _,by omega⟩;rw [List.take_zero,Sp.chars_nil];rfl
 case round=>
  obtain⟨pos,q,hit,hM,hgr,hps,HF⟩:=hrel;have hpos0:=iterPos_of hit;have hts:=HTS.out;have hq:=HF.out.2.2;by_cases hp:pos<t.size
  ·have hnx:=fun ty=>Lib.run_next_any_at (P:=Tryz.prog) wr w.heap.size t pos ty hit hp
   simp only [Sp.dec_at] at hnx;obtain⟨l,hl⟩:=nM (t.data.toList.drop pos);rw [hl] at hnx;(have hlne:l≠[]:=by rw [← hl,Sp.drop_cons t pos hp];simp);have hkl:=Sp.dec_len l hlne;have hll:l.length=t.size - pos:=by rw [← hl,List.length_drop,← Lib.size_eq]
   have hF2:q+1=col+Sp.chars (t.data.toList.take (pos+(Sp.dec l).2))∧Sp.Bd t.data.toList (pos+(Sp.dec l).2)∧q+1≤col+(pos+(Sp.dec l).2):=by
    have h1:=Sp.dec_pos l hlne;(have hb1:Sp.Bd (t.data.toList.drop pos) ((Sp.dec l).2+0):=by rw [hl];exact Sp.Bd.step l 0 hlne (Sp.Bd.zero _));rw [Nat.add_zero] at hb1
    have hne2:l.take (Sp.dec l).2≠[]:=by
     intro e;have:=congrArg List.length e;rw [List.length_take,List.length_nil] at this;omega
    refine⟨?_,HF.out.2.1.trans hb1,by omega⟩;rw [Sp.chars_take_add HF.out.2.1,hl,Sp.chars_step _ hne2,Sp.dec_take l hlne _ (Nat.le_refl _),List.drop_eq_nil_of_le (by rw [List.length_take];omega),Sp.chars_nil,HF.out.1];rfl
   obtain⟨c,hc⟩:∃ c:Nat,(Sp.dec l).1=c:=⟨_,rfl⟩
   obtain⟨k,hk⟩:∃ k:Nat,(Sp.dec l).2=k:=⟨_,rfl⟩
   rw [hc,hk] at hnx;rw [hk] at hF2 hkl;(have hkp:1≤k:=by rw [← hk];exact Sp.dec_pos l hlne);(have hkt:pos+k≤t.size:=by omega);have hit2:=Lib.iterAt_heap wr w.heap.size t pos (pos+k) hit;have hb2:=Lib.below_iterAt (Below.refl w.heap.size wr) (k:=w.heap.size) (Nat.le_refl _) t (pos+k);obtain⟨W2,hW2⟩:=nM (wr.iterAt w.heap.size t (pos+k));rw [hW2] at hnx hit2 hb2;have hM2:Mach W2 N s p line q op tv:=hM.below hb2 hNw;have c3:W2.cell? ⟨N,3,none⟩=some (.int .i64 q):=hM2.cell 3;have f3:=hM2.frozen 3
   have hgr2:w.grownBy W2 (some N):=⟨hb2.os.trans hgr.os,hb2.tape.trans hgr.tape,hb2.output.trans hgr.output,Nat.le_trans hgr.size hb2.size,fun i hi hne=>(hb2.block i hi).trans (hgr.block i hi hne)⟩
   have HG2:=hid hgr2;have HM2:=hid hM2;have HIT:=hid hit2;have HF2:=hid hF2;clear hit hM hgr HF hl hlne hll hF2 hc hk hit2 hb2 hW2 hM2 hgr2;go_wp2;have hit3:(W2.setCell ⟨N,3,none⟩ (.int .i64 ((q:Int)+1))).heap[w.heap.size]?=some (.stringIter t (pos+k)):=(Below.heap_setCell _ _ _ _ (by show w.heap.size≠N;omega)).trans HIT.out;go_roundw
   case rel=>exact⟨pos+k,q+1,hit3,HM2.out.set_ 3 _,only_setCell HG2.out (Or.inl rfl) _,by omega,HF2.out⟩
   case measure=>
    rw [iterPos_of hit3,hpos0];omega
  ·have hnx:=fun ty=>Lib.run_next_end_at (P:=Tryz.prog) wr w.heap.size t pos ty hit hp
   have c1:wr.cell? ⟨N,1,none⟩=some (.int .i64 p):=hM.cell 1;have f1:=hM.frozen 1
   have HQ:Hid (q=col+Sp.chars ((s.data.toList.drop p).take n)):=by
    show _=_;rw [HF.out.1,List.take_of_length_le (by rw [← Lib.size_eq];omega),HTL.out]
   have HM2:=hid hM;clear HF hM;go_wp2;go_end0;refine⟨rfl,?_,only_setCell hgr (Or.inl rfl) _⟩;rw [← HQ.out];exact HM2.out.set_ 1 _
section
variable {P:Program} {ops:Array Oper} {Q:Exit→Act→World→Prop} {md:Region.Mode} {S:World→Prop} {L:Nat}
def wpAnyK (P:Program) (md:Region.Mode) (ops:Array Oper) (Q:Exit→Act→World→Prop) (S:World→Prop) (L:Nat):Nat→Array Bool→Act→World→Prop
 | 0,listed,a,w=>Region.ready md ops listed=[]∧Q .normal a w
 | fuel+1,listed,a,w=>
  (Region.ready md ops listed=[]→Q .normal a w) ∧
  ∀ i ∈ Region.ready md ops listed,wpOp P ops Q i (fun a' w'=>((listed.setIfInBounds i true).getD L false=true∨S w')∧wpAnyK P md ops Q S L fuel (listed.setIfInBounds i true) a' w') a w
theorem wpAny_of_K:∀ (fuel:Nat) (listed:Array Bool) (a:Act) (w:World),wpAnyK P md ops Q S L fuel listed a w→wpAny P md ops Q fuel listed a w
 | 0,_,_,_,h=>h
 | fuel+1,_,_,_,h=>⟨h.1,fun i hi=>wpOp_mono (fun a' w' h'=>wpAny_of_K fuel _ a' w' h'.2) (h.2 i hi)⟩
def ClosedL (md:Region.Mode) (ops:Array Oper) (listed:Array Bool):Prop:=
 ∀ (j:Nat) (o:Oper),ops[j]?=some o→listed.getD j false=true→∀ e ∈ o.after,Region.binds md e=true→listed.getD e.on false=true
theorem closedL_start (n:Nat):ClosedL md ops (Array.replicate n false):=by
 intro j o _ h;rw [Go.getD_replicate_false] at h
 cases h
theorem closedL_set {i:Nat} {listed:Array Bool} (hc:ClosedL md ops listed) (hi:i ∈ Region.ready md ops listed):ClosedL md ops (listed.setIfInBounds i true):=by
 intro j o ho hj e he hb;obtain⟨_,oi,hoi,hall⟩:=mem_ready.1 hi;by_cases hij:i=j
 ·subst hij;rw [hoi] at ho;injection ho with ho
  subst ho;exact getD_set_true (hall e he hb)
 ·rw [getD_set_ne false hij] at hj;exact getD_set_true (hc j o ho hj e he hb)
def waitsB (md:Region.Mode) (ops:Array Oper) (i:Nat):Nat→Nat→Bool
 | 0,_=>false
 | n+1,j=>match ops[j]? with
  | none=>false
  | some o=>o.after.any fun e=>Region.binds md e && (e.on == i || waitsB md ops i n e.on)
theorem waitsB_spec {i:Nat} {listed:Array Bool} (hc:ClosedL md ops listed):∀ (n j:Nat),waitsB md ops i n j=true→listed.getD j false=true→listed.getD i false=true:=by
 intro n
 induction n with
 | zero=>intro j h;cases h
 | succ n ih=>
  intro j h hj;unfold waitsB at h;split at h
  ·cases h
  ·rename_i o ho;obtain⟨e,he,hb⟩:=Array.any_eq_true'.1 h;rw [Bool.and_eq_true,Bool.or_eq_true,beq_iff_eq] at hb;have h1:=hc j o ho hj e he hb.1;rcases hb.2 with h2 | h2
   ·rw [h2] at h1;exact h1
   ·exact ih e.on h2 h1
theorem wpAnyK_first {i n:Nat} {oi:Oper} {v:Value} (hi:ops[i]?=some oi) (hsel:∀ (j:Nat) (o:Oper) cs b,ops[j]?=some o→o.op≠.select cs b)
  (hLi:L≠i) (hwt:waitsB md ops i n L=true)
  (hQ:∀ c a w,Q (.panic c) (a.put oi.dst v) w→Q (.panic c) a w):
  ∀ (fuel:Nat) (listed:Array Bool) (a:Act) (w:World),ClosedL md ops listed →
   (∀ j oj,ops[j]?=some oj→j≠i→listed.getD j true=false→(∀ e ∈ oj.after,Region.binds md e=true→e.on≠i)→oi.apart ops oj=true) →
   i ∈ Region.ready md ops listed→YieldsIf P ops S oi v a→S w →
   wpAnyK P md ops Q S L fuel (listed.setIfInBounds i true) (a.put oi.dst v) w→wpAnyK P md ops Q S L (fuel+1) listed a w:=by
 intro fuel
 induction fuel with
 | zero=>
  intro listed a w _ _ hr hy hS H;refine⟨fun h=>(by rw [h] at hr;cases hr),fun j hj=>?_⟩;by_cases hji:j=i
  ·subst hji;exact hy.wpOp hi hS ⟨Or.inr hS,H⟩
  ·have:=ready_mono hj hji;rw [H.1] at this
   cases this
 | succ fuel ih=>
  intro listed a w hcl hfree hr hy hS H;refine⟨fun h=>(by rw [h] at hr;cases hr),fun j hj=>?_⟩;by_cases hji:j=i
  ·subst hji;exact hy.wpOp hi hS ⟨Or.inr hS,H⟩
  ·have h1:=H.2 j (ready_mono hj hji);obtain⟨hjun,oj,hoj,hall⟩:=mem_ready.1 hj;have hiun:=(mem_ready.1 hr).1
   have hnot:∀ e ∈ oj.after,Region.binds md e=true→e.on≠i:=fun e he hb heq=>by
    have h1:=hall e he hb;rw [heq] at h1;rcases Nat.lt_or_ge i listed.size with h' | h'
    ·simp [h'] at hiun h1;rw [hiun] at h1;cases h1
    ·simp [Array.getElem?_eq_none h'] at h1
   have h2:=wpOp_putIf hoj (hfree j oj hoj hji hjun hnot) (fun cs b=>hsel i oi cs b hi) (fun cs b=>hsel j oj cs b hoj) hQ hy h1
   have hfree':∀ k ok,ops[k]?=some ok→k≠i→(listed.setIfInBounds j true).getD k true=false →
     (∀ e ∈ ok.after,Region.binds md e=true→e.on≠i)→oi.apart ops ok=true:=fun k ok hk hki hun hno=>by
    refine hfree k ok hk hki ?_ hno;by_cases hjk:j=k
    ·subst hjk;exact hjun
    ·rw [getD_set_ne true hjk] at hun;exact hun
   have hcl':=closedL_set hcl hj
   have hi2:(listed.setIfInBounds j true).getD i false=false:=by
    rw [getD_set_ne false hji];rcases Nat.lt_or_ge i listed.size with h' | h'
    ·simp [h'] at hiun ⊢;exact hiun
    ·simp [Array.getElem?_eq_none h']
   have hLun:¬ (listed.setIfInBounds j true).getD L false=true:=fun hL=>by
    rw [waitsB_spec hcl' n L hwt hL] at hi2
    cases hi2
   refine wpOp_mono (fun a' w' h3=>?_) h2
   have hS':S w':=by
    rcases h3.2.1 with h4 | h4
    ·exfalso;apply hLun;rw [Array.setIfInBounds_comm _ _ (Ne.symm hji),getD_set_ne false (Ne.symm hLi)] at h4;exact h4
    ·exact h4
   refine⟨Or.inr hS',ih (listed.setIfInBounds j true) a' w' hcl' hfree' (ready_mono hr (Ne.symm hji)) h3.1 hS' ?_⟩;rw [Array.setIfInBounds_comm _ _ hji];exact h3.2.2
theorem wpAnyK_take {i:Nat} {oi:Oper} {v:Value} {fuel:Nat} {listed:Array Bool} {a:Act} {w:World} (hc:ClosedL md ops listed) (hS:S w) (hi:ops[i]?=some oi)
  (hs:(Region.noSelect ops && Region.free md ops listed i && (Region.ready md ops listed).contains i && waitsB md ops i 40 L && (L != i))=true)
  (hQ:∀ c a w,Q (.panic c) (a.put oi.dst v) w→Q (.panic c) a w) (hw:Region.wanted oi (yielded ops a.tmps)=true) (hy:∀ w,S w→(execOp a.eval oi).run P w=.ok (.value v) w)
  (h:ClosedL md ops (listed.setIfInBounds i true)→wpAnyK P md ops Q S L fuel (listed.setIfInBounds i true) (a.put oi.dst v) w):wpAnyK P md ops Q S L (fuel+1) listed a w:=by
 simp only [Bool.and_eq_true] at hs;obtain⟨⟨⟨⟨h1,h2⟩,h3⟩,h4⟩,h5⟩:=hs;have hr:i ∈ Region.ready md ops listed:=by simpa using h3
 exact wpAnyK_first hi (Region.noSelect_spec h1) (by simpa using h5) h4 hQ fuel listed a w hc (Region.free_spec hi h2) hr (Or.inl ⟨hw,hy⟩) hS (h (closedL_set hc hr))
theorem tk (i:Nat) {oi:Oper} {v:Value} {fuel:Nat} {listed:Array Bool} {a:Act} {w:World} (hc:ClosedL md ops listed) (hS:S w)
  (h:ClosedL md ops (listed.setIfInBounds i true)→wpAnyK P md ops Q S L fuel (listed.setIfInBounds i true) (a.put oi.dst v) w) (hi:ops[i]?=some oi:=by rfl) 
  (hs:(Region.noSelect ops && Region.free md ops listed i && (Region.ready md ops listed).contains i && waitsB md ops i 40 L && (L != i))=true:=by kernel_rfl)
  (hQ:∀ c a w,Q (.panic c) (a.put oi.dst v) w→Q (.panic c) a w:=by exact fun _ _ _ h=>h) (hw:Region.wanted oi (yielded ops a.tmps)=true:=by rfl) (hy:∀ w,S w→(execOp a.eval oi).run P w=.ok (.value v) w:=by intro w hSw;(try dsimp only at hSw);first | (go_simp;done) | (go_simp;with_reducible rfl)):wpAnyK P md ops Q S L (fuel+1) listed a w:=
 wpAnyK_take hc hS hi hs hQ hw hy h
theorem tkM (m i:Nat) {oi:Oper} {v:Value} {fuel:Nat} {listed:Array Bool} {a:Act} {w:World} (hc:ClosedL md ops listed) (hS:S w)
  (h:ClosedL md ops (listed.setIfInBounds i true)→wpAnyK P md ops Q S L fuel (listed.setIfInBounds i true) (a.put oi.dst v) w) (hi:ops[i]?=some oi:=by rfl)
  (hs:(Region.noSelect ops && Region.free md ops listed i && (Region.ready md ops listed).contains i && waitsB md ops i m L && (L != i))=true:=by kernel_rfl)
  (hQ:∀ c a w,Q (.panic c) (a.put oi.dst v) w→Q (.panic c) a w:=by exact fun _ _ _ h=>h) (hw:Region.wanted oi (yielded ops a.tmps)=true:=by rfl) (hy:∀ w,S w→(execOp a.eval oi).run P w=.ok (.value v) w:=by intro w hSw;(try dsimp only at hSw);first | (go_simp;done) | (go_simp;with_reducible rfl)):wpAnyK P md ops Q S L (fuel+1) listed a w:=by
 simp only [Bool.and_eq_true] at hs;obtain⟨⟨⟨⟨h1,h2⟩,h3⟩,h4⟩,h5⟩:=hs;have hr:i ∈ Region.ready md ops listed:=by simpa using h3
 exact wpAnyK_first hi (Region.noSelect_spec h1) (by simpa using h5) h4 hQ fuel listed a w hc (Region.free_spec hi h2) hr (Or.inl ⟨hw,hy⟩) hS (h (closedL_set hc hr))
theorem ly {α:Type}:(∀ (l:List α) (i:Nat) (h:i<l.toArray.size),l.toArray[i]=l[i]'(by simpa using h))∧(∀ (x:α) (l:List α) (i:Nat) (h:i+1<(x :: l).length),(x :: l)[i+1]=l[i]'(by simpa using h))∧(∀ (x:α) (l:List α) (h:0<(x :: l).length),(x :: l)[0]=x):=⟨fun l i h=>List.getElem_toArray h,fun x l i h=>List.getElem_cons_succ ..,fun x l h=>List.getElem_cons_zero ..⟩
theorem pu {α:Type}:(∀ (l:List α) (i:Nat) (x:α),l.toArray.setIfInBounds i x=(l.set i x).toArray)∧(∀ (x y:α) (l:List α),(x :: l).set 0 y=y :: l)∧(∀ (x y:α) (l:List α) (i:Nat),(x :: l).set (i+1) y=x :: l.set i y):=⟨fun l i x=>List.setIfInBounds_toArray ..,fun x y l=>List.set_cons_zero ..,fun x y l i=>List.set_cons_succ ..⟩
theorem pt:(∀ (a:Act) (v:Value),a.put none v=a)∧(∀ (a:Act) (t:Tmp) (v:Value),a.put (some t) v={ a with tmps:=a.tmps.setIfInBounds t v }):=⟨fun _ _=>rfl,fun _ _ _=>rfl⟩
theorem lq:((∀ (a:Act) (v:Value),a.put none v=a)∧(∀ (a:Act) (t:Tmp) (v:Value),a.put (some t) v={ a with tmps:=a.tmps.setIfInBounds t v }))∧(∀ (l:List Value) (i:Nat) (x:Value),l.toArray.setIfInBounds i x=(l.set i x).toArray)∧(∀ (x y:Value) (l:List Value),(x :: l).set 0 y=y :: l)∧(∀ (x y:Value) (l:List Value) (i:Nat),(x :: l).set (i+1) y=x :: l.set i y):=⟨pt,pu⟩
theorem tkl:(∀ (α:Type),(∀ (l:List α) (i:Nat) (h:i<l.toArray.size),l.toArray[i]=l[i]'(by simpa using h))∧(∀ (x:α) (l:List α) (i:Nat) (h:i+1<(x :: l).length),(x :: l)[i+1]=l[i]'(by simpa using h))∧(∀ (x:α) (l:List α) (h:0<(x :: l).length),(x :: l)[0]=x))∧((∀ (a:Act) (v:Value),a.put none v=a)∧(∀ (a:Act) (t:Tmp) (v:Value),a.put (some t) v={ a with tmps:=a.tmps.setIfInBounds t v }))∧(∀ (l:List Value) (i:Nat) (x:Value),l.toArray.setIfInBounds i x=(l.set i x).toArray)∧(∀ (x y:Value) (l:List Value),(x :: l).set 0 y=y :: l)∧(∀ (x y:Value) (l:List Value) (i:Nat),(x :: l).set (i+1) y=x :: l.set i y):=⟨fun _=>ly,lq⟩
theorem wpAnyK_one {i:Nat} {o:Oper} {fuel:Nat} {listed:Array Bool} {a:Act} {w:World} (hc:ClosedL md ops listed) (hr:Region.ready md ops listed=[i]) (ho:ops[i]?=some o) (hw:Region.wanted o (yielded ops a.tmps)=true)
  (h:∀ K':Act→World→Prop,Shut (∀ a w,((listed.setIfInBounds i true).getD L false=true∨S w)→(ClosedL md ops (listed.setIfInBounds i true)→wpAnyK P md ops Q S L fuel (listed.setIfInBounds i true) a w)→K' a w)→Oper.wp P o a w K' Q):wpAnyK P md ops Q S L (fuel+1) listed a w:=by
 have hmem:i ∈ Region.ready md ops listed:=by rw [hr];exact List.mem_singleton.2 rfl
 refine⟨fun h0=>(by rw [hr] at h0;cases h0),fun j hj=>?_⟩;have hji:j=i:=by rw [hr] at hj;exact List.mem_singleton.1 hj
 subst hji;refine wpOp_step ho (fun K' hK=>?_);rw [if_pos hw];exact h K' (fun a w hS hW=>hK a w ⟨hS,hW (closedL_set hc hj)⟩)
theorem on1 (i:Nat) {o:Oper} {fuel:Nat} {listed:Array Bool} {a:Act} {w:World} (hc:ClosedL md ops listed)
  (h:∀ K':Act→World→Prop,Shut (∀ a w,((listed.setIfInBounds i true).getD L false=true∨S w)→(ClosedL md ops (listed.setIfInBounds i true)→wpAnyK P md ops Q S L fuel (listed.setIfInBounds i true) a w)→K' a w)→Oper.wp P o a w K' Q) (hr:Region.ready md ops listed=[i]:=by kernel_rfl) (ho:ops[i]?=some o:=by rfl) (hw:Region.wanted o (yielded ops a.tmps)=true:=by rfl):wpAnyK P md ops Q S L (fuel+1) listed a w:=wpAnyK_one hc hr ho hw h
theorem mS {fuel:Nat} {listed:Array Bool} {a:Act} {w:World} (h:S w) (k:S w→wpAnyK P md ops Q S L fuel listed a w):wpAnyK P md ops Q S L fuel listed a w:=k h
theorem wpAnyK_done {listed:Array Bool} {a:Act} {w:World} (hr:Region.ready md ops listed=[]) (h:Q .normal a w):∀ fuel,wpAnyK P md ops Q S L fuel listed a w
 | 0=>⟨hr,h⟩
 | _+1=>⟨fun _=>h,by rw [hr];simp⟩
theorem wp_region_K {id:Nat} {a:Act} {w:World} (L:Nat) (S:World→Prop) (hm:P.follows .mixedOrders=true)
  (h:ClosedL .any ops (Array.replicate ops.size false)→wpAnyK P .any ops Q S L ops.size (Array.replicate ops.size false) a w.drew):(Code.region id ops true).wp P Q a w:=
 wp_region_any hm (wpAny_of_K _ _ _ _ (h (closedL_start _)))
end
def tokCell (t:Sp.Tok):List Value:=[.int .i64 (t.1:Nat),.string ⟨t.2.1.toArray⟩,.int .i64 (t.2.2.1:Nat),.int .i64 (t.2.2.2:Nat)]
def tokCells (ts:List Sp.Tok):List Value:=ts.flatMap tokCell
theorem tokCells_append (a b:List Sp.Tok):tokCells (a ++ b)=tokCells a ++ tokCells b:=List.flatMap_append
theorem tokCells_one (t:Sp.Tok):tokCells [t]=tokCell t:=by simp [tokCells]
theorem tinfo:(Tryz.prog.info? 142).map (fun i=>(i.zero,i.size,i.bytes))=some (some (.agg #[.int .i64 0,.string ⟨#[]⟩,.int .i64 0,.int .i64 0]),4,40):=by kernel_rfl
def Toks (w:World) (B:Nat) (v:Value) (ts:List Sp.Tok):Prop:=w.ownsRow B 142 4 v ts.length (tokCells ts)
def MSt (W0:World) (N:Nat) (s:ByteArray) (p line col:Nat) (op:Bool) (acc:List Sp.Tok) (w:World):Prop:=
 ∃ tv,Mach w N s p line col op tv∧Toks w (N+1) tv acc∧Below N W0 w
theorem toks_ne {w:World} {N:Nat} {tv:Value} {ts:List Sp.Tok} (h:Toks w (N+1) tv ts):tv.ownBlock≠some N:=by
 intro e;have:=(World.ownsRow.lt h N e).1;omega
theorem toks_grown {w w':World} {N:Nat} {tv:Value} {ts:List Sp.Tok} (h:Toks w (N+1) tv ts) (hg:w.grownBy w' (some N)):Toks w' (N+1) tv ts:=
 World.ownsRow.kept h hg (Or.inr (toks_ne h))
theorem below_only {W0 w w':World} {N:Nat} (h:Below N W0 w) (hN:N≤w.heap.size) {row:Option Nat} (hg:w.grownBy w' row) (hr:∀ g,row=some g→N≤g):Below N W0 w':=
 h.grown hg hN hr
theorem mst_forward (W0:World) (s:ByteArray) (N p line col:Nat) (n:Nat) (op:Bool) (acc:List Sp.Tok) (w:World) (hM:MSt W0 N s p line col op acc w) (hs:s.size≤1073741824) (hpn:p+n≤s.size) (hcol:col≤1073741824):
  Calls Tryz.prog 109 #[.pointer (some ⟨N,0,none⟩),.int .i64 n] w fun e w'=>e=.returned (.tuple #[])∧MSt W0 N s (p+n) line (col+Sp.chars ((s.data.toList.drop p).take n)) op acc w':=by
 obtain⟨tv,hm,ht,hb⟩:=hM;refine (mach_forward s N p n line col op tv w hm hs hpn hcol).mono ?_;rintro e w' ⟨rfl,h1,h2⟩;exact⟨rfl,tv,h1,toks_grown ht h2,below_only hb (by have:=hm.lt;omega) h2 (fun g e=>by injection e with e;omega)⟩
theorem mst_endLine_no (W0:World) (s:ByteArray) (N p line col:Nat) (acc:List Sp.Tok) (w:World) (hM:MSt W0 N s p line col false acc w) (hp:p≤1073741824) (hl:line≤1073741824):
  Calls Tryz.prog 111 #[.pointer (some ⟨N,0,none⟩)] w fun e w'=>e=.returned (.tuple #[])∧MSt W0 N s (p+1) (line+1) 1 false acc w':=by
 obtain⟨tv,hm,ht,hb⟩:=hM;have c1:w.cell? ⟨N,1,none⟩=some (.int .i64 p):=hm.cell 1;have c2:w.cell? ⟨N,2,none⟩=some (.int .i64 line):=hm.cell 2;have c3:w.cell? ⟨N,3,none⟩=some (.int .i64 col):=hm.cell 3;have c4:w.cell? ⟨N,4,none⟩=some (.bool false):=hm.cell 4;have f1:=hm.frozen 1;have f2:=hm.frozen 2;have f3:=hm.frozen 3;have f4:=hm.frozen 4;have HM:=hid hm;have HT:=hid ht;have HB:=hid hb;clear hm ht hb;go_enter Tryz.func111,Tryz.ntmps111;go_wp2;go_end0;have hg:w.grownBy _ (some N):=only_setCell (only_setCell (only_setCell (only_setCell (World.grownBy.refl w (some N)) (Or.inl rfl) (.bool false) (p:=⟨N,4,none⟩)) (Or.inl rfl) (.int .i64 ((p:Int)+1)) (p:=⟨N,1,none⟩)) (Or.inl rfl) (.int .i64 ((line:Int)+1)) (p:=⟨N,2,none⟩)) (Or.inl rfl) (.int .i64 1) (p:=⟨N,3,none⟩);exact⟨rfl,tv,((((HM.out.set_ 4 _).set_ 1 _).set_ 2 _).set_ 3 _),toks_grown HT.out hg,below_only HB.out (by have:=HM.out.lt;omega) hg (fun g e=>by injection e with e;omega)⟩
theorem mst_endLine_yes (W0:World) (s:ByteArray) (N p line col:Nat) (acc:List Sp.Tok) (w:World) (hM:MSt W0 N s p line col true acc w) (hp:p≤1073741824) (hl:line≤1073741824) (hn:acc.length≤1073741824):
  Calls Tryz.prog 111 #[.pointer (some ⟨N,0,none⟩)] w fun e w'=>e=.returned (.tuple #[])∧MSt W0 N s (p+1) (line+1) 1 false (acc ++ [(1,[10],line,col)]) w':=by
 obtain⟨tv,hm,ht,hb⟩:=hM;have c1:w.cell? ⟨N,1,none⟩=some (.int .i64 p):=hm.cell 1;have c2:w.cell? ⟨N,2,none⟩=some (.int .i64 line):=hm.cell 2;have c3:w.cell? ⟨N,3,none⟩=some (.int .i64 col):=hm.cell 3;have c4:w.cell? ⟨N,4,none⟩=some (.bool true):=hm.cell 4;have c5:w.cell? ⟨N,5,none⟩=some tv:=hm.cell 5;have f1:=hm.frozen 1;have f2:=hm.frozen 2;have f3:=hm.frozen 3;have f4:=hm.frozen 4;have f5:=hm.frozen 5;have hNw:=hm.lt;obtain⟨i0,hi0,hz0,hz1,hz2⟩:=info_parts tinfo;have hne:=toks_ne ht;have hFA:∀ o,(w.alloc o).frozen? ⟨N,5,none⟩=false:=fun o=>(World.frozen?_alloc_past _ _ _ hNw).trans f5
 have hCA:∀ o,(w.alloc o).cell? ⟨N,5,none⟩=some tv∧(w.alloc o).cell? ⟨N,2,none⟩=some (.int .i64 line)∧(w.alloc o).cell? ⟨N,3,none⟩=some (.int .i64 col):=fun o=>⟨(World.cell?_alloc_lt w o ⟨N,5,none⟩ hNw).trans c5,(World.cell?_alloc_lt w o ⟨N,2,none⟩ hNw).trans c2,(World.cell?_alloc_lt w o ⟨N,3,none⟩ hNw).trans c3⟩
 have HFA:=hid hFA;have HCA:=hid hCA;clear hFA hCA;have HM:=hid hm;have HT:=hid ht;have HB:=hid hb;clear hm ht hb;go_enter Tryz.func111,Tryz.ntmps111;go_wp2;refine wp_region_K 18 (fun w'=>w'.cell? ⟨N,5,none⟩=some tv∧w'.cell? ⟨N,2,none⟩=some (.int .i64 line)∧w'.cell? ⟨N,3,none⟩=some (.int .i64 col)) (by kernel_rfl) (fun hcl=>?_)
 have hS:(fun w':World=>w'.cell? ⟨N,5,none⟩=some tv∧w'.cell? ⟨N,2,none⟩=some (.int .i64 line)∧w'.cell? ⟨N,3,none⟩=some (.int .i64 col)) w.drew:=⟨c5,c2,c3⟩
 refine tk 0 hcl hS ?_;clear hcl;intro hcl;simp only [tkl];refine tk 1 hcl hS ?_;clear hcl;intro hcl;simp only [tkl];refine tk 2 hcl hS ?_;clear hcl;intro hcl;simp only [tkl];refine tk 3 hcl hS ?_;clear hcl;intro hcl;simp only [tkl];refine tk 4 hcl hS ?_;clear hcl;intro hcl;simp only [tkl];refine tk 5 hcl hS ?_;clear hcl;intro hcl;simp only [tkl];refine tk 6 hcl hS ?_;clear hcl;intro hcl;simp only [tkl];refine tk 7 hcl hS ?_;clear hcl;intro hcl;simp only [tkl];refine tk 8 hcl hS ?_;clear hcl;intro hcl;simp only [tkl];refine tk 9 hcl hS ?_;clear hcl;intro hcl;simp only [tkl];refine tk 10 hcl hS ?_;clear hcl;intro hcl;simp only [tkl];refine tk 11 hcl hS ?_;clear hcl;intro hcl;simp only [tkl];refine tk 12 hcl hS ?_;clear hcl;intro hcl;simp only [tkl];refine tk 13 hcl hS ?_;clear hcl;intro hcl;simp only [tkl];refine wpAnyK_one (i:=14) hcl (by kernel_rfl) rfl (by rfl) (fun K hK=>?_);go_simp;refine hK.out _ _ (Or.inr (HCA.out _)) (fun hcl2=>?_);clear hK K hcl hS;have hcl:=hcl2;clear hcl2;refine wpAnyK_one (i:=15) hcl (by kernel_rfl) rfl (by rfl) (fun K hK=>?_);refine wp_append_lies _ _ _ _ (by rfl) (N+1) 142 i0 _ 4 40 Tryz.underlying138 hi0 hz0 hz1 hz2 rfl (by omega) tv acc.length (tokCells acc) (by rfl) ((HT.out.alloc _).drew) ⟨w.heap.size,0,none⟩ 1 1 (tokCell (1,[10],line,col)) (by rfl) (by rfl) (World.news_of_block (cs:=#[.int .i64 1,.string ⟨#[10]⟩,.int .i64 line,.int .i64 col]) (t:=142) (fr:=(0,0)) (heap_alloc_new w _)) (by simp [Value.oneCell',tokCell]) (by omega) (by unfold maxLen;omega) (by omega) (by simp;omega) (w.heap.size+1) (by simp) ?_;intro gg cap w1 hown1 hgrow hat hlt;have f5':w1.frozen? ⟨N,5,none⟩=false:=(hgrow.frozen_far ⟨N,5,none⟩ (by simp;omega) (Ne.symm hne)).trans (HFA.out _);have c5':w1.cell? ⟨N,5,none⟩=some tv:=(hgrow.cell_far ⟨N,5,none⟩ (by simp;omega) (Ne.symm hne)).trans (HCA.out _).1;have c2':w1.cell? ⟨N,2,none⟩=some (.int .i64 line):=(hgrow.cell_far ⟨N,2,none⟩ (by simp;omega) (Ne.symm hne)).trans (HCA.out _).2.1;have c3':w1.cell? ⟨N,3,none⟩=some (.int .i64 col):=(hgrow.cell_far ⟨N,3,none⟩ (by simp;omega) (Ne.symm hne)).trans (HCA.out _).2.2;refine hK.out _ _ (Or.inr ⟨c5',c2',c3'⟩) (fun hcl2=>?_);clear hK K hcl;have hcl:=hcl2;clear hcl2
 have hS:(fun w':World=>w'.cell? ⟨N,5,none⟩=some tv∧w'.cell? ⟨N,2,none⟩=some (.int .i64 line)∧w'.cell? ⟨N,3,none⟩=some (.int .i64 col)) w1:=⟨c5',c2',c3'⟩
 (try simp only [Act.put,pu]);refine tk 16 hcl hS ?_;clear hcl;intro hcl;simp only [tkl];refine tk 17 hcl hS ?_;clear hcl;intro hcl;simp only [tkl];refine wpAnyK_one (i:=18) hcl (by kernel_rfl) rfl (by rfl) (fun K hK=>?_);go_simp;refine hK.out _ _ (Or.inl (by kernel_rfl)) (fun hcl2=>?_);clear hK K hcl hcl2 hS;refine wpAnyK_done (by kernel_rfl) ?_ _;have hm1:Mach w1 N s p line col true tv:=((HM.out.alloc _).drewN 1).grown hgrow (Ne.symm hne);have hm2:Mach _ N s p line col true _:=hm1.set_ 5 (.slice (some ⟨gg,0,none⟩) (acc.length+1) cap)
 have ht2:Toks (w1.setCell ⟨N,5,none⟩ (.slice (some ⟨gg,0,none⟩) (acc.length+1) cap)) (N+1) (.slice (some ⟨gg,0,none⟩) (acc.length+1) cap) (acc ++ [(1,[10],line,col)]):=by
  unfold Toks;rw [List.length_append,List.length_singleton,tokCells_append,tokCells_one];exact ownsRow_setCell_below hown1 (a:=⟨N,5,none⟩) (Nat.lt_succ_self N) (.slice (some ⟨gg,0,none⟩) (acc.length+1) cap)
 have hb2:=(Below.grown ((HB.out.alloc (by omega) (.cells #[.int .i64 1,.string ⟨#[10]⟩,.int .i64 line,.int .i64 col] 142)).drew) hgrow (by simp;omega) (fun g e=>by have:=(World.ownsRow.lt HT.out g e).1;omega)).setCell (p:=⟨N,5,none⟩) (Nat.le_refl _) (.slice (some ⟨gg,0,none⟩) (acc.length+1) cap);obtain⟨w2,hw2⟩:=nM (w1.setCell ⟨N,5,none⟩ (.slice (some ⟨gg,0,none⟩) (acc.length+1) cap));rw [hw2] at hm2 ht2 hb2 ⊢;clear hw2 hown1 hgrow hat hlt hm1 c5' c2' c3' f5' c1 c2 c3 c4 c5 f1 f2 f3 f4 f5;have c1:w2.cell? ⟨N,1,none⟩=some (.int .i64 p):=hm2.cell 1;have c2:w2.cell? ⟨N,2,none⟩=some (.int .i64 line):=hm2.cell 2;have f1:=hm2.frozen 1;have f2:=hm2.frozen 2;have f3:=hm2.frozen 3;have f4:=hm2.frozen 4;have c3:w2.cell? ⟨N,3,none⟩=some (.int .i64 col):=hm2.cell 3;have c4:w2.cell? ⟨N,4,none⟩=some (.bool true):=hm2.cell 4;have HM2:=hid hm2;have HT2:=hid ht2;have HB2:=hid hb2;clear hm2 ht2 hb2;go_wp2;go_end0;have hg:w2.grownBy _ (some N):=only_setCell (only_setCell (only_setCell (only_setCell (World.grownBy.refl w2 (some N)) (Or.inl rfl) (.bool false) (p:=⟨N,4,none⟩)) (Or.inl rfl) (.int .i64 ((p:Int)+1)) (p:=⟨N,1,none⟩)) (Or.inl rfl) (.int .i64 ((line:Int)+1)) (p:=⟨N,2,none⟩)) (Or.inl rfl) (.int .i64 1) (p:=⟨N,3,none⟩);exact⟨rfl,_,((((HM2.out.set_ 4 _).set_ 1 _).set_ 2 _).set_ 3 _),toks_grown HT2.out hg,below_only HB2.out (by have:=HM2.out.lt;omega) hg (fun g e=>by injection e with e;omega)⟩
theorem mst_endLine (W0:World) (s:ByteArray) (N p line col:Nat) (op:Bool) (acc:List Sp.Tok) (w:World) (hM:MSt W0 N s p line col op acc w) (hp:p≤1073741824) (hl:line≤1073741824) (hn:acc.length≤1073741824):
  Calls Tryz.prog 111 #[.pointer (some ⟨N,0,none⟩)] w fun e w'=>e=.returned (.tuple #[])∧MSt W0 N s (p+1) (line+1) 1 false (Sp.endT op acc line col) w':=by
 cases op with
 | true=>exact mst_endLine_yes W0 s N p line col acc w hM hp hl hn
 | false=>exact mst_endLine_no W0 s N p line col acc w hM hp hl
theorem ext_mk (s:ByteArray) (p n:Nat):s.extract p (p+n)=⟨((s.data.toList.drop p).take n).toArray⟩:=by
 apply ByteArray.ext;apply Array.toList_inj.1;rw [Lib.extract_data];show _=(s.data.toList.drop p).take n;congr 1;omega
theorem mst_put (W0:World) (s:ByteArray) (N p line col k n:Nat) (op:Bool) (acc:List Sp.Tok) (w:World) (hM:MSt W0 N s p line col op acc w) (hs:s.size≤1073741824) (hpn:p+n≤s.size) (hcol:col≤1073741824) (hn:acc.length≤1073741824):
  Calls Tryz.prog 110 #[.pointer (some ⟨N,0,none⟩),.int .i64 k,.int .i64 n] w fun e w'=>e=.returned (.tuple #[])∧MSt W0 N s (p+n) line (col+Sp.chars ((s.data.toList.drop p).take n)) true (acc ++ [(k,(s.data.toList.drop p).take n,line,col)]) w':=by
 obtain⟨tv,hm,ht,hb⟩:=hM;have c0:w.cell? ⟨N,0,none⟩=some (.string s):=hm.cell 0;have c1:w.cell? ⟨N,1,none⟩=some (.int .i64 p):=hm.cell 1;have c2:w.cell? ⟨N,2,none⟩=some (.int .i64 line):=hm.cell 2;have c3:w.cell? ⟨N,3,none⟩=some (.int .i64 col):=hm.cell 3;have c5:w.cell? ⟨N,5,none⟩=some tv:=hm.cell 5;have f5:=hm.frozen 5;have hNw:=hm.lt;have b1:(0:Int)≤(p:Int):=by omega
 have b2:(p:Int)+n≤s.size:=by omega
 have b3:(s.size:Int)≤1073741824:=by omega
 have b4:(p:Int)≤(p:Int)+n:=by omega
 have b5:(0:Int)≤(p:Int)+n:=by omega
 have w1:IntKind.i64.wrap ((p:Int)+n)=(p:Int)+n:=by rw [IntKind.wrap_i64];omega
 have w2:((p:Int)+n).toNat=p+n:=by omega
 obtain⟨i0,hi0,hz0,hz1,hz2⟩:=info_parts tinfo;have hne:=toks_ne ht
 have hS0:w.cell? ⟨N,5,none⟩=some tv∧w.cell? ⟨N,0,none⟩=some (.string s)∧w.cell? ⟨N,1,none⟩=some (.int .i64 p)∧w.cell? ⟨N,2,none⟩=some (.int .i64 line)∧w.cell? ⟨N,3,none⟩=some (.int .i64 col):=⟨c5,c0,c1,c2,c3⟩
 have hFA:∀ o,(w.alloc o).frozen? ⟨N,5,none⟩=false:=fun o=>(World.frozen?_alloc_past _ _ _ hNw).trans f5
 have hCA:∀ o,(w.alloc o).cell? ⟨N,5,none⟩=some tv∧(w.alloc o).cell? ⟨N,0,none⟩=some (.string s)∧(w.alloc o).cell? ⟨N,1,none⟩=some (.int .i64 p)∧(w.alloc o).cell? ⟨N,2,none⟩=some (.int .i64 line)∧(w.alloc o).cell? ⟨N,3,none⟩=some (.int .i64 col):=fun o=>
  ⟨(World.cell?_alloc_lt w o ⟨N,5,none⟩ hNw).trans c5,(World.cell?_alloc_lt w o ⟨N,0,none⟩ hNw).trans c0,(World.cell?_alloc_lt w o ⟨N,1,none⟩ hNw).trans c1,(World.cell?_alloc_lt w o ⟨N,2,none⟩ hNw).trans c2,(World.cell?_alloc_lt w o ⟨N,3,none⟩ hNw).trans c3⟩
 have HFA:=hid hFA;have HCA:=hid hCA
 have HTOK:Hid (tokCell (k,(s.data.toList.drop p).take n,line,col)=[.int .i64 k,.string (s.extract p (p+n)),.int .i64 line,.int .i64 col]):=by
  show _=_;rw [ext_mk];rfl
 clear hFA hCA c0 c1 c2 c3 c5;have HM:=hid hm;have HT:=hid ht;have HB:=hid hb;clear hm ht hb;go_enter Tryz.func110,Tryz.ntmps110;go_wp2;refine wp_region_K 34 (fun w'=>w'.cell? ⟨N,5,none⟩=some tv∧w'.cell? ⟨N,0,none⟩=some (.string s)∧w'.cell? ⟨N,1,none⟩=some (.int .i64 p)∧w'.cell? ⟨N,2,none⟩=some (.int .i64 line)∧w'.cell? ⟨N,3,none⟩=some (.int .i64 col)) (by kernel_rfl) (fun hcl=>?_);have hS:(fun w':World=>w'.cell? ⟨N,5,none⟩=some tv∧w'.cell? ⟨N,0,none⟩=some (.string s)∧w'.cell? ⟨N,1,none⟩=some (.int .i64 p)∧w'.cell? ⟨N,2,none⟩=some (.int .i64 line)∧w'.cell? ⟨N,3,none⟩=some (.int .i64 col)) w.drew:=hS0;refine tk 0 hcl hS ?_;clear hcl;intro hcl;simp only [tkl];refine tk 1 hcl hS ?_;clear hcl;intro hcl;simp only [tkl];refine tk 2 hcl hS ?_;clear hcl;intro hcl;simp only [tkl];refine tk 3 hcl hS ?_;clear hcl;intro hcl;simp only [tkl];refine tk 4 hcl hS ?_;clear hcl;intro hcl;simp only [tkl];refine tk 5 hcl hS ?_;clear hcl;intro hcl;simp only [tkl];refine tk 6 hcl hS ?_;clear hcl;intro hcl;simp only [tkl];refine tk 7 hcl hS ?_;clear hcl;intro hcl;simp only [tkl];refine tk 8 hcl hS ?_;clear hcl;intro hcl;simp only [tkl];refine tk 9 hcl hS ?_;clear hcl;intro hcl;simp only [tkl];refine tk 10 hcl hS ?_;clear hcl;intro hcl;simp only [tkl];refine tk 11 hcl hS ?_;clear hcl;intro hcl;simp only [tkl];refine tk 12 hcl hS ?_;clear hcl;intro hcl;simp only [tkl];refine tk 13 hcl hS ?_;clear hcl;intro hcl;simp only [tkl];refine tk 14 hcl hS ?_;clear hcl;intro hcl;simp only [tkl];refine tk 15 hcl hS ?_;clear hcl;intro hcl;simp only [tkl];refine tk 16 hcl hS ?_;clear hcl;intro hcl;simp only [tkl];refine tk 17 hcl hS ?_;clear hcl;intro hcl;simp only [tkl];refine tk 18 hcl hS ?_;clear hcl;intro hcl;simp only [tkl];refine tk 19 hcl hS ?_;clear hcl;intro hcl;simp only [tkl];refine tk 20 hcl hS ?_;clear hcl;intro hcl;simp only [tkl];refine tk 21 hcl hS ?_;clear hcl;intro hcl;simp only [tkl];refine tk 22 hcl hS ?_;clear hcl;intro hcl;simp only [tkl];refine tk 23 hcl hS ?_;clear hcl;intro hcl;simp only [tkl];refine tk 24 hcl hS ?_;clear hcl;intro hcl;simp only [tkl];refine tk 25 hcl hS ?_;clear hcl;intro hcl;simp only [tkl];refine tk 26 hcl hS ?_;clear hcl;intro hcl;simp only [tkl];refine tk 27 hcl hS ?_;clear hcl;intro hcl;simp only [tkl];refine tk 28 hcl hS ?_;clear hcl;intro hcl;simp only [tkl];refine tk 29 hcl hS ?_;clear hcl;intro hcl;simp only [tkl];refine wpAnyK_one (i:=30) hcl (by kernel_rfl) rfl (by rfl) (fun K hK=>?_);go_simp;refine hK.out _ _ (Or.inr (HCA.out _)) (fun hcl2=>?_);clear hK K hcl hS;have hcl:=hcl2;clear hcl2;refine wpAnyK_one (i:=31) hcl (by kernel_rfl) rfl (by rfl) (fun K hK=>?_);refine wp_append_lies _ _ _ _ (by rfl) (N+1) 142 i0 _ 4 40 Tryz.underlying138 hi0 hz0 hz1 hz2 rfl (by omega) tv acc.length (tokCells acc) (by rfl) ((HT.out.alloc _).drew) ⟨w.heap.size,0,none⟩ 1 1 [.int .i64 k,.string (s.extract p (p+n)),.int .i64 line,.int .i64 col] (by rfl) (by rfl) (World.news_of_block (cs:=#[.int .i64 k,.string (s.extract p (p+n)),.int .i64 line,.int .i64 col]) (t:=142) (fr:=(0,0)) (heap_alloc_new w _)) (by simp [Value.oneCell']) (by omega) (by unfold maxLen;omega) (by omega) (by simp;omega) (w.heap.size+1) (by simp) ?_;intro gg cap w1 hown1 hgrow hat hlt;have f5':w1.frozen? ⟨N,5,none⟩=false:=(hgrow.frozen_far ⟨N,5,none⟩ (by simp;omega) (Ne.symm hne)).trans (HFA.out _)
 have hS1:w1.cell? ⟨N,5,none⟩=some tv∧w1.cell? ⟨N,0,none⟩=some (.string s)∧w1.cell? ⟨N,1,none⟩=some (.int .i64 p)∧w1.cell? ⟨N,2,none⟩=some (.int .i64 line)∧w1.cell? ⟨N,3,none⟩=some (.int .i64 col):=
  ⟨(hgrow.cell_far ⟨N,5,none⟩ (by simp;omega) (Ne.symm hne)).trans (HCA.out _).1,(hgrow.cell_far ⟨N,0,none⟩ (by simp;omega) (Ne.symm hne)).trans (HCA.out _).2.1,(hgrow.cell_far ⟨N,1,none⟩ (by simp;omega) (Ne.symm hne)).trans (HCA.out _).2.2.1,(hgrow.cell_far ⟨N,2,none⟩ (by simp;omega) (Ne.symm hne)).trans (HCA.out _).2.2.2.1,(hgrow.cell_far ⟨N,3,none⟩ (by simp;omega) (Ne.symm hne)).trans (HCA.out _).2.2.2.2⟩
 have c5':=hS1.1;refine hK.out _ _ (Or.inr hS1) (fun hcl2=>?_);clear hK K hcl;have hcl:=hcl2;clear hcl2;have hS:(fun w':World=>w'.cell? ⟨N,5,none⟩=some tv∧w'.cell? ⟨N,0,none⟩=some (.string s)∧w'.cell? ⟨N,1,none⟩=some (.int .i64 p)∧w'.cell? ⟨N,2,none⟩=some (.int .i64 line)∧w'.cell? ⟨N,3,none⟩=some (.int .i64 col)) w1:=hS1;(try simp only [Act.put,pu]);refine tk 32 hcl hS ?_;clear hcl;intro hcl;simp only [tkl];refine tk 33 hcl hS ?_;clear hcl;intro hcl;simp only [tkl];clear hS1;refine wpAnyK_one (i:=34) hcl (by kernel_rfl) rfl (by rfl) (fun K hK=>?_);go_simp;refine hK.out _ _ (Or.inl (by kernel_rfl)) (fun hcl2=>?_);clear hK K hcl hcl2 hS;refine wpAnyK_done (by kernel_rfl) ?_ _;have hm1:Mach w1 N s p line col op tv:=((HM.out.alloc _).drewN 1).grown hgrow (Ne.symm hne);have hm2:Mach _ N s p line col op _:=hm1.set_ 5 (.slice (some ⟨gg,0,none⟩) (acc.length+1) cap)
 have ht2:Toks (w1.setCell ⟨N,5,none⟩ (.slice (some ⟨gg,0,none⟩) (acc.length+1) cap)) (N+1) (.slice (some ⟨gg,0,none⟩) (acc.length+1) cap) (acc ++ [(k,(s.data.toList.drop p).take n,line,col)]):=by
  unfold Toks;rw [List.length_append,List.length_singleton,tokCells_append,tokCells_one,HTOK.out];exact ownsRow_setCell_below hown1 (a:=⟨N,5,none⟩) (Nat.lt_succ_self N) (.slice (some ⟨gg,0,none⟩) (acc.length+1) cap)
 have hb2:=(Below.grown ((HB.out.alloc (by omega) (.cells #[.int .i64 k,.string (s.extract p (p+n)),.int .i64 line,.int .i64 col] 142)).drew) hgrow (by simp;omega) (fun g e=>by have:=(World.ownsRow.lt HT.out g e).1;omega)).setCell (p:=⟨N,5,none⟩) (Nat.le_refl _) (.slice (some ⟨gg,0,none⟩) (acc.length+1) cap);obtain⟨w2,hw2⟩:=nM (w1.setCell ⟨N,5,none⟩ (.slice (some ⟨gg,0,none⟩) (acc.length+1) cap));rw [hw2] at hm2 ht2 hb2 ⊢;have f4:=hm2.frozen 4;have c4:w2.cell? ⟨N,4,none⟩=some (.bool op):=hm2.cell 4;have hg:w2.grownBy (w2.setCell ⟨N,4,none⟩ (.bool true)) (some N):=only_setCell (World.grownBy.refl w2 (some N)) (Or.inl rfl) (.bool true) (p:=⟨N,4,none⟩)
 have hfin:MSt W0 N s p line col true (acc ++ [(k,(s.data.toList.drop p).take n,line,col)]) (w2.setCell ⟨N,4,none⟩ (.bool true)):=
  ⟨_,hm2.set_ 4 _,toks_grown ht2 hg,below_only hb2 (by have:=hm2.lt;omega) hg (fun g e=>by injection e with e;omega)⟩
 have hfw:=mst_forward W0 s N p line col n true _ _ hfin hs hpn hcol;have HF:=hid hfw;clear hw2 hown1 hgrow hat hlt hm1 c5' f5' f5 hm2 ht2 hb2 hg hfin hfw hS0
 go_wp2_with (go_at_call 109;refine HF.out.mono ?_;rintro e w3 ⟨rfl,hm3⟩)
 go_end0;exact⟨rfl,hm3⟩
end Go.Proofs.YtedfppbnkgffcaaGreatDoor
