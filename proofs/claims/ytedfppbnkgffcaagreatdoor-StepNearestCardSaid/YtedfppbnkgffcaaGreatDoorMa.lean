/-
  Texts joined: Gl Ns Ma.
-/
import Derived.Test.YtedfppbnkgffcaaGreatDoorWg
import Derived.Test.YtedfppbnkgffcaaGreatDoorCards
import Derived.Test.YtedfppbnkgffcaaGreatDoorTie
import Derived.WalkKit
import Derived.ProofKit
import Derived.OpenShut
import Derived.LaidLaws
import Derived.Lay
import Derived.PinnedBridge
import Derived.MakeChecks
import Derived.Deep.DeepHandedRow
import Derived.Lib.LaidU8T
import Derived.SevenTiedAt
import Derived.Carry
import Derived.ChangeArms
import Derived.Deep.Slices
import Derived.SizedLaws
import Derived.Lib.Hide
set_option linter.unusedVariables false
set_option linter.unusedSimpArgs false
set_option maxRecDepth 100000
set_option maxHeartbeats 8000000
namespace Go.Proofs.YtedfppbnkgffcaaGreatDoor
open Go.ChangeShapes Go.WideShapes Go.ChangeAt Go.RowKit
theorem own:ownKnob Tryz.prog.godebug=none:=by kernel_rfl
theorem accept_eq:(Rows.laid_unicode_utf8_acceptRanges:DataW Unit)=Lib.acceptData:=by kernel_rfl
theorem first_eq:Rows.laid_unicode_utf8_first=Lib.firstData:=Pinned.utf8First_eq
theorem iface_var {W:World} {name tn:String} {d:DataW Unit} {g t:Nat} {ms:Array (String × TypeId)} (hg:Tryz.prog.globalNamed name=some g) (hty:(Tryz.prog.globals[g]?).map (·.type)=some t) (ht:Tryz.prog.underlying t=some (.interface ms))
  (h:Lib.VarReads Tryz.prog W name (.iface tn d)):∃ ev,W.cell? ⟨g,0,none⟩=some ev∧(ev=.nilIface∨∃ te pe,ev=.iface te pe):=by
 obtain⟨g',t',cs,fuel,p,h1,h2,h3,h4⟩:=h;obtain rfl:=Option.some.inj (hg.symm.trans h1);obtain rfl:=Option.some.inj (hty.symm.trans h2);obtain⟨f',u,v,hcs,_,_⟩:=iface_of_trod ht h4;refine⟨.iface u v,?_,Or.inr ⟨u,v,rfl⟩⟩;have:=World.var?_cell hg h3 0;rw [this,← Array.getElem?_toList,hcs];rfl
theorem gl_of {laid:List (String × DataW Unit)} {W:World} (hL:laidMetH Tryz.prog laid W) (hp:(laid.all fun x=>x.2.handleName?.isNone)=true) (hsh:W.ShapedOpen Tryz.prog)
  (m1 : ("unicode/utf8.first", Rows.laid_unicode_utf8_first) ∈ laid) (m2 : ("unicode/utf8.acceptRanges", Rows.laid_unicode_utf8_acceptRanges) ∈ laid)
  (m3 : ("strconv.ErrSyntax", Rows.laid_strconv_ErrSyntax) ∈ laid) (m4 : ("strconv.ErrRange", Rows.laid_strconv_ErrRange) ∈ laid) : Gl W := by
 rw [MakeChecks.laidMetH_plain _ _ _ hp] at hL;have r1:=Lib.laidMet.reads hL m1;have r2:=Lib.laidMet.reads hL m2;have r3:=Lib.laidMet.reads hL m3;have r4:=Lib.laidMet.reads hL m4;rw [first_eq] at r1;rw [accept_eq] at r2
 exact {
  tabs:=utf8Tabs_of_readsT (U8Types.of260 Tryz.lays260) ⟨by kernel_rfl,by kernel_rfl,by kernel_rfl,by kernel_rfl,by kernel_rfl,by kernel_rfl,by kernel_rfl⟩ r1 r2
  syn:=iface_var (g:=6) (t:=211) (by kernel_rfl) (by kernel_rfl) Tryz.underlying211 r3
  ran:=iface_var (g:=7) (t:=211) (by kernel_rfl) (by kernel_rfl) Tryz.underlying211 r4
  maxLen:=Tryz.laysM143.s1_3 W hsh }
open Go.ChangeShapes Go.WideShapes Go.ChangeAt Go.RowKit
section
variable {H:Type} {enc:TypeId × Value→H} {w:World} {base:Nat} {spare:Nat→Bool} {held:Bool}
theorem xcell_lt {w:World} {a:Addr} {v:Value} (h:w.cell? a=some v):a.block<w.heap.size:=by
 rcases Nat.lt_or_ge a.block w.heap.size with hlt | hge
 ·exact hlt
 ·unfold World.cell? at h;rw [Array.getElem?_eq_none hge] at h
  cases h
theorem xadd_plain (g o n:Nat):(⟨g,o,none⟩:Addr).add n=⟨g,o+n,none⟩:=by
 unfold Addr.add;split
 ·rename_i h;rw [h,Nat.add_zero]
 ·rfl
theorem xlist_of {α:Type} {p:Nat→α→Prop}:∀ n:Nat,(∀ i,i<n→∃ a,p i a)→∃ l:List α,l.length=n∧∀ i a,l[i]?=some a→p i a
 | 0,_=>⟨[],rfl,fun i a h=>by simp at h⟩
 | n+1,h=>by
  obtain⟨l,hl,hp⟩:=xlist_of n (fun i hi=>h i (by omega));obtain⟨a,ha⟩:=h n (by omega);refine⟨l ++ [a],by simp [hl],fun i b hb=>?_⟩;rcases Nat.lt_or_ge i n with hi | hi
  ·rw [List.getElem?_append_left (by omega)] at hb;exact hp i b hb
  ·rw [List.getElem?_append_right (by omega)] at hb
   have:i - l.length=0:=by
    rcases Nat.eq_zero_or_pos (i - l.length) with h0 | h0
    ·exact h0
    ·rw [List.getElem?_eq_none (by simp;omega)] at hb
     cases hb
   rw [this] at hb;(injection hb with hb);subst hb;rw [show i=n by omega];exact ha
def Light (P:Program) (t:TypeId) (d:DataW H):Prop:=∀ n ∈ d.weights P t,n≤reachBytes
def LView {α:Type} (k:Nat) (R:World→α→List Value→Prop) (w:World) (A:Option Addr) (al:List α):Prop:=
 ∀ i a,al[i]?=some a→∃ g o cs,A=some ⟨g,o,none⟩∧g<w.heap.size∧cs.length=k∧R w a cs∧∀ f u,cs[f]?=some u→w.cell? ⟨g,o+i * k+f,none⟩=some u
theorem mem_weightsAllx {P:Program} {e:TypeId}:∀ {l:List (DataW H)} {d:DataW H},d ∈ l→∀ n ∈ d.weights P e,n ∈ DataW.weightsAll P e l
 | x :: r,d,hd,n,hn=>by
  rw [DataW.weightsAll,List.mem_append];rcases List.mem_cons.1 hd with rfl | hd
  ·exact Or.inl hn
  ·exact Or.inr (mem_weightsAllx hd n hn)
theorem slice_open {α:Type} {P:Program} {ts te:TypeId} {k:Nat} (hu:P.underlying ts=some (.slice te)) (hk:P.cellsOf te=k) (hk0:0<k) (R:World→α→List Value→Prop) (Sz:α→Prop)
  (hop:∀ fuel cs x,DataW.trod enc P w base spare held fuel te cs=some x→cs.length=k→∃ a,R w a cs∧(Light P te x.1→Sz a))
  {fuel:Nat} {cs:List Value} {x:DataW H × List MemPlace} (h:DataW.trod enc P w base spare held fuel ts cs=some x):
  ∃ (A:Option Addr) (cap:Nat) (al:List α),cs=[.slice A al.length cap]∧al.length≤cap∧cap≤maxLen∧LView k R w A al∧(al=[]→A=none∨True)∧(Light P ts x.1→al.length * P.bytesOf te≤reachBytes∧∀ a ∈ al,Sz a):=by
 rcases DataW.trod_slice hu h with⟨rfl,rfl⟩ | ⟨a,len,cap,elems,rest,n,_,rfl,rfl,hb,hlc,hcm,hel,hat,_,_⟩
 ·exact⟨none,0,[],rfl,Nat.le_refl _,by unfold maxLen;omega,fun i z hz=>by simp at hz,fun _=>Or.inr trivial,fun _=>⟨by simp,fun a ha=>by cases ha⟩⟩
 ·rw [hk] at hat
  have key:∀ i,i<len→∃ z:α,∃ cs,cs.length=k∧R w z cs∧(∀ f u,cs[f]?=some u→w.cell? ((a.add (i * k)).add f)=some u)∧∃ e,elems[i]?=some e∧(Light P te e.1→Sz z):=by
   intro i hi;have e:=hat i hi;(have hil:i<elems.length:=by omega);rw [List.getElem?_eq_getElem hil] at e;obtain⟨cs,hcs,ht⟩:=Option.bind_eq_some_iff.1 e;obtain⟨_,hsz,hc⟩:=World.cells?_some hcs;obtain⟨z,hz,hz2⟩:=hop n cs _ ht hsz;refine⟨z,cs,hsz,hz,?_,elems[i],List.getElem?_eq_getElem hil,hz2⟩;intro f u hf;(have hfl:f<k:=by have:=(List.getElem?_eq_some_iff.1 hf).1;omega);rw [hc f hfl,hf]
  obtain⟨al,hl,hp⟩:=xlist_of len key;refine⟨some a,cap,al,by rw [hl],by omega,hcm,fun i z hz=>?_,fun _=>Or.inr trivial,fun hw=>⟨?_,fun z hz=>?_⟩⟩
  ·obtain⟨cs,hcl,hR,hc,_⟩:=hp i z hz;(have hil:i<len:=by have:=(List.getElem?_eq_some_iff.1 hz).1;omega);obtain⟨z0,cs0,hl0,_,hc0,_⟩:=key 0 (by omega);have k0:=hc0 0 (cs0[0]'(by omega)) (List.getElem?_eq_getElem (by omega))
   have hsp:a.spot=none:=by
    rw [show (a.add (0 * k)).add 0=a by rw [Nat.zero_mul];rfl] at k0;exact World.cell?_spot (a:=a) k0
   obtain⟨g,o,sp⟩:=a;simp only at hsp;subst hsp;have ki:=hc 0 (cs[0]'(by omega)) (List.getElem?_eq_getElem (by omega));rw [xadd_plain,xadd_plain] at ki;refine⟨g,o,cs,rfl,xcell_lt ki,hcl,hR,fun f u hf=>?_⟩;have:=hc f u hf;rw [xadd_plain,xadd_plain] at this;exact this
  ·have:=hw ((elems.length+rest.length) * P.bytesOf te) (by simp [DataW.weights,hu]);refine Nat.le_trans (Nat.mul_le_mul_right _ ?_) this;omega
  ·obtain⟨i,hi⟩:=List.mem_iff_getElem?.1 hz;obtain⟨cs,_,_,_,e,he,hs⟩:=hp i z hi;refine hs (fun n hn=>hw n ?_);rw [DataW.weights,hu];simp only [];refine List.mem_cons_of_mem _ (List.mem_append_left _ (mem_weightsAllx (d:=e.1) (List.mem_map.2 ⟨e,List.mem_of_getElem? he,rfl⟩) _ hn))
theorem string_open {P:Program} {t:TypeId} (hu:P.underlying t=some .string):∀ fuel cs x,DataW.trod enc P w base spare held fuel t cs=some x→cs.length=1→∃ a:ByteArray,cs=[.string a]∧(Light P t x.1→a.size≤reachBytes):=by
 intro fuel cs x h _;obtain⟨s,hs0,hs1,_⟩:=DataW.trod_string hu (x:=x) h;refine⟨s,hs0,fun hl=>?_⟩;have:=hl s.data.toList.length (by rw [hs1];simp [DataW.weights]);simpa using this
theorem light_of {P:Program} {ts:List TypeId} {ds:List (DataW H)} (h:(DataW.weightsEach P ts ds).all (·≤reachBytes)=true) {j:Nat} {t:TypeId} {d:DataW H} (ht:ts[j]?=some t) (hj:ds[j]?=some d):Light P t d:=by
 intro n hn;have:=List.all_eq_true.1 h _ (DataW.weights_mem_each ht hj n hn);simpa using this
end
open Go.RowKit
namespace Sp
structure Port where
 name:ByteArray
 box:Int
 inn:Bool
 dst:Int
structure Entry where
 name:ByteArray
 ins:List Int
 cubes:List ByteArray
 write:ByteArray
 outs:List Int
structure Guard where
 permit:Bool
 cubes:List ByteArray
structure Net where
 bits:Int
 ports:List Port
 tables:List (List Entry)
 guards:List (List Guard)
end Sp
theorem LView.more {α:Type} {k:Nat} {R:World→α→List Value→Prop} {w w':World} {A:Option Addr} {al:List α} (h:LView k R w A al) (hb:Below w.heap.size w w') (hR:∀ a cs,R w a cs→R w' a cs):LView k R w' A al:=by
 intro i a ha;obtain⟨g,o,cs,hA,hg,hk,hr,hc⟩:=h i a ha;exact⟨g,o,cs,hA,Nat.lt_of_lt_of_le hg hb.size,hk,hR a cs hr,fun f u hf=>(hb.cell (p:=⟨g,o+i * k+f,none⟩) hg).trans (hc f u hf)⟩
def IntR (_:World) (x:Int) (cs:List Value):Prop:=cs=[.int .i64 x]
def StrR (_:World) (s:ByteArray) (cs:List Value):Prop:=cs=[.string s]
def PortR (_:World) (p:Sp.Port) (cs:List Value):Prop:=cs=[.string p.name,.int .i64 p.box,.bool p.inn,.int .i64 p.dst]
def IV (w:World) (A:Option Addr) (l:List Int):Prop:=LView 1 IntR w A l
def SV (w:World) (A:Option Addr) (l:List ByteArray):Prop:=LView 1 StrR w A l
def PV (w:World) (A:Option Addr) (l:List Sp.Port):Prop:=LView 4 PortR w A l
theorem IV.more {w w':World} {A:Option Addr} {l:List Int} (h:IV w A l) (hb:Below w.heap.size w w'):IV w' A l:=LView.more h hb (fun _ _ h=>h)
theorem SV.more {w w':World} {A:Option Addr} {l:List ByteArray} (h:SV w A l) (hb:Below w.heap.size w w'):SV w' A l:=LView.more h hb (fun _ _ h=>h)
theorem PV.more {w w':World} {A:Option Addr} {l:List Sp.Port} (h:PV w A l) (hb:Below w.heap.size w w'):PV w' A l:=LView.more h hb (fun _ _ h=>h)
def GuardR (w:World) (x:Sp.Guard) (cs:List Value):Prop:=∃ A c,cs=[.bool x.permit,.slice A x.cubes.length c]∧SV w A x.cubes∧x.cubes.length≤c
def EntryR (w:World) (x:Sp.Entry) (cs:List Value):Prop:=∃ A1 c1 A2 c2 A3 c3,cs=[.string x.name,.slice A1 x.ins.length c1,.slice A2 x.cubes.length c2,.string x.write,.slice A3 x.outs.length c3]∧IV w A1 x.ins∧SV w A2 x.cubes∧IV w A3 x.outs∧x.ins.length≤c1∧x.cubes.length≤c2∧x.outs.length≤c3
def GV (w:World) (A:Option Addr) (l:List Sp.Guard):Prop:=LView 2 GuardR w A l
def EV (w:World) (A:Option Addr) (l:List Sp.Entry):Prop:=LView 5 EntryR w A l
theorem GuardR.more {w w':World} {x:Sp.Guard} {cs:List Value} (h:GuardR w x cs) (hb:Below w.heap.size w w'):GuardR w' x cs:=by
 obtain⟨A,c,h1,h2,h3⟩:=h;exact⟨A,c,h1,h2.more hb,h3⟩
theorem EntryR.more {w w':World} {x:Sp.Entry} {cs:List Value} (h:EntryR w x cs) (hb:Below w.heap.size w w'):EntryR w' x cs:=by
 obtain⟨A1,c1,A2,c2,A3,c3,h1,h2,h3,h4,h5⟩:=h;exact⟨A1,c1,A2,c2,A3,c3,h1,h2.more hb,h3.more hb,h4.more hb,h5⟩
theorem GV.more {w w':World} {A:Option Addr} {l:List Sp.Guard} (h:GV w A l) (hb:Below w.heap.size w w'):GV w' A l:=LView.more h hb (fun _ _ h=>h.more hb)
theorem EV.more {w w':World} {A:Option Addr} {l:List Sp.Entry} (h:EV w A l) (hb:Below w.heap.size w w'):EV w' A l:=LView.more h hb (fun _ _ h=>h.more hb)
def GuardsR (w:World) (x:List Sp.Guard) (cs:List Value):Prop:=∃ A c,cs=[.slice A x.length c]∧GV w A x∧x.length≤c
def TableR (w:World) (x:List Sp.Entry) (cs:List Value):Prop:=∃ A c,cs=[.slice A x.length c]∧EV w A x∧x.length≤c
def GGV (w:World) (A:Option Addr) (l:List (List Sp.Guard)):Prop:=LView 1 GuardsR w A l
def TTV (w:World) (A:Option Addr) (l:List (List Sp.Entry)):Prop:=LView 1 TableR w A l
theorem GGV.more {w w':World} {A:Option Addr} {l:List (List Sp.Guard)} (h:GGV w A l) (hb:Below w.heap.size w w'):GGV w' A l:=
 LView.more h hb (fun _ _ ⟨A,c,h1,h2,h3⟩=>⟨A,c,h1,h2.more hb,h3⟩)
theorem TTV.more {w w':World} {A:Option Addr} {l:List (List Sp.Entry)} (h:TTV w A l) (hb:Below w.heap.size w w'):TTV w' A l:=
 LView.more h hb (fun _ _ ⟨A,c,h1,h2,h3⟩=>⟨A,c,h1,h2.more hb,h3⟩)
def NetR (w:World) (n:Sp.Net) (cs:List Value):Prop:=∃ A1 c1 A2 c2 A3 c3,cs=[.int .i64 n.bits,.slice A1 n.ports.length c1,.slice A2 n.tables.length c2,.slice A3 n.guards.length c3]∧PV w A1 n.ports∧TTV w A2 n.tables∧GGV w A3 n.guards∧n.ports.length≤c1∧n.tables.length≤c2∧n.guards.length≤c3
theorem NetR.more {w w':World} {x:Sp.Net} {cs:List Value} (h:NetR w x cs) (hb:Below w.heap.size w w'):NetR w' x cs:=by
 obtain⟨A1,c1,A2,c2,A3,c3,h1,h2,h3,h4,h5⟩:=h;exact⟨A1,c1,A2,c2,A3,c3,h1,h2.more hb,h3.more hb,h4.more hb,h5⟩
theorem IV.at {w:World} {A:Option Addr} {l:List Int} (h:IV w A l) {i:Nat} {x:Int} (hx:l[i]?=some x):∃ g o,A=some ⟨g,o,none⟩∧g<w.heap.size∧w.cell? ⟨g,o+i,none⟩=some (.int .i64 x):=by
 obtain⟨g,o,cs,hA,hg,hk,rfl,hc⟩:=h i x hx;have:=hc 0 _ rfl;rw [Nat.mul_one,Nat.add_zero] at this;exact⟨g,o,hA,hg,this⟩
theorem SV.at {w:World} {A:Option Addr} {l:List ByteArray} (h:SV w A l) {i:Nat} {x:ByteArray} (hx:l[i]?=some x):∃ g o,A=some ⟨g,o,none⟩∧g<w.heap.size∧w.cell? ⟨g,o+i,none⟩=some (.string x):=by
 obtain⟨g,o,cs,hA,hg,hk,rfl,hc⟩:=h i x hx;have:=hc 0 _ rfl;rw [Nat.mul_one,Nat.add_zero] at this;exact⟨g,o,hA,hg,this⟩
theorem PV.at {w:World} {A:Option Addr} {l:List Sp.Port} (h:PV w A l) {i:Nat} {x:Sp.Port} (hx:l[i]?=some x):∃ g o,A=some ⟨g,o,none⟩∧g<w.heap.size ∧
  w.cell? ⟨g,o+i * 4,none⟩=some (.string x.name)∧w.cell? ⟨g,o+i * 4+1,none⟩=some (.int .i64 x.box)∧w.cell? ⟨g,o+i * 4+2,none⟩=some (.bool x.inn)∧w.cell? ⟨g,o+i * 4+3,none⟩=some (.int .i64 x.dst):=by
 obtain⟨g,o,cs,hA,hg,hk,rfl,hc⟩:=h i x hx;exact⟨g,o,hA,hg,hc 0 _ rfl,hc 1 _ rfl,hc 2 _ rfl,hc 3 _ rfl⟩
theorem GV.at {w:World} {A:Option Addr} {l:List Sp.Guard} (h:GV w A l) {i:Nat} {x:Sp.Guard} (hx:l[i]?=some x):∃ g o A1 c1,A=some ⟨g,o,none⟩∧g<w.heap.size ∧
  w.cell? ⟨g,o+i * 2,none⟩=some (.bool x.permit)∧w.cell? ⟨g,o+i * 2+1,none⟩=some (.slice A1 x.cubes.length c1)∧SV w A1 x.cubes∧x.cubes.length≤c1:=by
 obtain⟨g,o,cs,hA,hg,hk,⟨A1,c1,rfl,hs⟩,hc⟩:=h i x hx;exact⟨g,o,A1,c1,hA,hg,hc 0 _ rfl,hc 1 _ rfl,hs⟩
theorem EV.at {w:World} {A:Option Addr} {l:List Sp.Entry} (h:EV w A l) {i:Nat} {x:Sp.Entry} (hx:l[i]?=some x):∃ g o A1 c1 A2 c2 A3 c3,A=some ⟨g,o,none⟩∧g<w.heap.size ∧
  w.cell? ⟨g,o+i * 5,none⟩=some (.string x.name)∧w.cell? ⟨g,o+i * 5+1,none⟩=some (.slice A1 x.ins.length c1)∧w.cell? ⟨g,o+i * 5+2,none⟩=some (.slice A2 x.cubes.length c2)∧w.cell? ⟨g,o+i * 5+3,none⟩=some (.string x.write)∧w.cell? ⟨g,o+i * 5+4,none⟩=some (.slice A3 x.outs.length c3) ∧
  IV w A1 x.ins∧SV w A2 x.cubes∧IV w A3 x.outs∧x.ins.length≤c1∧x.cubes.length≤c2∧x.outs.length≤c3:=by
 obtain⟨g,o,cs,hA,hg,hk,⟨A1,c1,A2,c2,A3,c3,rfl,h1,h2,h3⟩,hc⟩:=h i x hx;exact⟨g,o,A1,c1,A2,c2,A3,c3,hA,hg,hc 0 _ rfl,hc 1 _ rfl,hc 2 _ rfl,hc 3 _ rfl,hc 4 _ rfl,h1,h2,h3⟩
theorem GGV.at {w:World} {A:Option Addr} {l:List (List Sp.Guard)} (h:GGV w A l) {i:Nat} {x:List Sp.Guard} (hx:l[i]?=some x):∃ g o A1 c1,A=some ⟨g,o,none⟩∧g<w.heap.size∧w.cell? ⟨g,o+i,none⟩=some (.slice A1 x.length c1)∧GV w A1 x∧x.length≤c1:=by
 obtain⟨g,o,cs,hA,hg,hk,⟨A1,c1,rfl,hs⟩,hc⟩:=h i x hx;have:=hc 0 _ rfl;rw [Nat.mul_one,Nat.add_zero] at this;exact⟨g,o,A1,c1,hA,hg,this,hs⟩
theorem TTV.at {w:World} {A:Option Addr} {l:List (List Sp.Entry)} (h:TTV w A l) {i:Nat} {x:List Sp.Entry} (hx:l[i]?=some x):∃ g o A1 c1,A=some ⟨g,o,none⟩∧g<w.heap.size∧w.cell? ⟨g,o+i,none⟩=some (.slice A1 x.length c1)∧EV w A1 x∧x.length≤c1:=by
 obtain⟨g,o,cs,hA,hg,hk,⟨A1,c1,rfl,hs⟩,hc⟩:=h i x hx;have:=hc 0 _ rfl;rw [Nat.mul_one,Nat.add_zero] at this;exact⟨g,o,A1,c1,hA,hg,this,hs⟩
end Go.Proofs.YtedfppbnkgffcaaGreatDoor
