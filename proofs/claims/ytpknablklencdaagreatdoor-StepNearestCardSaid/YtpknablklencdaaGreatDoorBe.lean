/-
  THE WALK of step.Reach (chapter 10).
-/
import Derived.Test.YtpknablklencdaaGreatDoorBd
import Derived.Maps.OwnIn
import Derived.DeepKeys4
set_option linter.unusedVariables false
set_option linter.unusedSimpArgs false
set_option maxRecDepth 100000
set_option maxHeartbeats 8000000
namespace Go.Proofs.YtpknablklencdaaGreatDoor
open Go.RowKit
attribute [local go_sem] Oper.semAt_some
section
variable {F : Fence} {n : Nat} {P : Program} {ops : Array Oper} {Q : Exit → Act → World → Prop} {md : Region.Mode} {S : World → Prop} {L : Nat}
def noDeferB (ops : Array Oper) : Bool := ops.all fun o => match o.op with | .defer _ => false | _ => true
theorem noDefer_spec (h : noDeferB ops = true) {j : Nat} {o : Oper} (ho : ops[j]? = some o) : ∀ c, o.op ≠ .defer c := by
  intro c hc
  have h1 := Array.all_eq_true_iff_forall_mem.1 h o (Array.mem_of_getElem? ho)
  rw [hc] at h1
  cases h1
theorem YieldsIfF.wpOpR {i : Nat} {o : Oper} {v : Value} {a : Act} (hnd : ∀ c, o.op ≠ .defer c) (hi : ops[i]? = some o) (hy : YieldsIfF P ops S o v a)
    {K : Act → World → Prop} {w : World} (hS : S w) (h : K (a.put o.dst v) w) : Go.wpOpIn F n P ops Q i K a w := by
  unfold Go.wpOpIn
  simp only [hi]
  have hab : ∀ f, o.about P w a.eval = some f → F.fn f := fun f hf => by rw [hy.2 w] at hf; cases hf
  rcases hy.1 with ⟨hw, hv⟩ | ⟨hw, rfl⟩
  · simp only [hw, if_true, Oper.wpIn]
    rw [Oper.semAt_eq _ _ _ hnd, hv w hS]
    simp only [Oper.uponIn]
    exact ⟨hab, h⟩
  · simp only [hw, Bool.false_eq_true, if_false]; exact ⟨hab, h⟩
theorem wpOpR_putIf {j : Nat} {oi oj : Oper} {v : Value} (hnd : ∀ c, oj.op ≠ .defer c) (hj : ops[j]? = some oj) (hap : oi.apart ops oj = true)
    (hsi : ∀ cs b, oi.op ≠ .select cs b) (hsj : ∀ cs b, oj.op ≠ .select cs b)
    (hQ : ∀ c a w, Q (.panic c) (a.put oi.dst v) w → Q (.panic c) a w) {K : Act → World → Prop} {a : Act} {w : World}
    (hy : YieldsIfF P ops S oi v a) (h : wpOpIn F n P ops Q j K (a.put oi.dst v) w) :
    wpOpIn F n P ops Q j (fun a' w' => YieldsIfF P ops S oi v a' ∧ K (a'.put oi.dst v) w') a w := by
  obtain ⟨h1, h2, h3⟩ := Oper.apart_spec hap
  have keep : ∀ (a : Act), YieldsIfF P ops S oi v a → ∀ u, YieldsIfF P ops S oi v (a.put oj.dst u) := fun a hy u =>
    hy.of_same (execOp_put oi hsi a oj.dst u h3) (wanted_put oi a oj.dst u h3) (fun w => about_put oi w a oj.dst u h3)
  have keepD : ∀ d, YieldsIfF P ops S oi v { a with defers := d :: a.defers } := fun d => hy.of_same rfl rfl (fun _ => rfl)
  unfold wpOpIn at *
  simp only [hj] at *
  rw [wanted_put oj a oi.dst v h1, about_put oj w a oi.dst v h1] at h
  split
  · rename_i hw
    simp only [hw, if_true] at h
    unfold Oper.wpIn at *
    rw [about_put oj w a oi.dst v h1] at h
    refine ⟨h.1, ?_⟩
    have h := h.2
    rw [Oper.semAt_eq _ _ _ hnd, execOp_put oj hsj a oi.dst v h1] at h
    rw [Oper.semAt_eq _ _ _ hnd]
    generalize (execOp a.eval oj).run P w = r at *
    cases r with
    | ok x w' =>
      cases x <;> simp only [Oper.uponIn] at h ⊢
      case value u => exact ⟨keep a hy u, by rw [← Act.put_comm a v u h2]; exact h⟩
      case skip => exact ⟨keep a hy _, by rw [← Act.put_comm a v undef h2]; exact h⟩
      case defer d =>
        refine ⟨keep _ (keepD d) _, ?_⟩
        rw [← Act.put_comm _ v undef h2, ← Act.put_defers]
        exact h
      case enter f args =>
        refine ⟨h.1, CallsIn.mono h.2 fun e w'' he => ?_⟩
        cases e with
        | returned u => exact ⟨keep a hy u, by rw [← Act.put_comm a v u h2]; exact he⟩
        | panicked c => exact hQ _ _ _ he
        | outgrown => exact he
      case row row args => exact ⟨h.1, RowsIn.mono h.2 fun u w'' he => ⟨keep a hy u, by rw [← Act.put_comm a v u h2]; exact he⟩⟩
      case round l f tmps assign body =>
        refine ⟨h.1, RoundIn.mono h.2 fun e w'' he => ?_⟩
        cases e with
        | returned u => exact ⟨keep a hy u, by rw [← Act.put_comm a v u h2]; exact he⟩
        | panicked c => exact hQ _ _ _ he
        | outgrown => exact he
    | halt x w' =>
      cases x <;> simp only [Oper.uponIn] at h ⊢
      case panic u => exact hQ _ _ _ h
  · rename_i hw
    simp only [hw] at h
    exact ⟨h.1, keep a hy _, by rw [← Act.put_comm a v undef h2]; exact h.2⟩
theorem wpAnyKR_first {i m : Nat} {oi : Oper} {v : Value} (hnd : noDeferB ops = true) (hi : ops[i]? = some oi) (hsel : ∀ (j : Nat) (o : Oper) cs b, ops[j]? = some o → o.op ≠ .select cs b)
    (hLi : L ≠ i) (hwt : waitsB md ops i m L = true)
    (hQ : ∀ c a w, Q (.panic c) (a.put oi.dst v) w → Q (.panic c) a w) :
    ∀ (fuel : Nat) (listed : Array Bool) (a : Act) (w : World), ClosedL md ops listed →
      (∀ j oj, ops[j]? = some oj → j ≠ i → listed.getD j true = false → (∀ e ∈ oj.after, Region.binds md e = true → e.on ≠ i) → oi.apart ops oj = true) →
      i ∈ Region.ready md ops listed → YieldsIfF P ops S oi v a → S w →
      wpAnyKIn F n P md ops Q S L fuel (listed.setIfInBounds i true) (a.put oi.dst v) w → wpAnyKIn F n P md ops Q S L (fuel + 1) listed a w := by
  intro fuel
  induction fuel with
  | zero =>
    intro listed a w _ _ hr hy hS H
    refine ⟨fun h => (by rw [h] at hr; cases hr), fun j hj => ?_⟩
    by_cases hji : j = i
    · subst hji; exact hy.wpOpR (noDefer_spec hnd hi) hi hS ⟨Or.inr hS, H⟩
    · have := ready_mono hj hji
      rw [H.1] at this
      cases this
  | succ fuel ih =>
    intro listed a w hcl hfree hr hy hS H
    refine ⟨fun h => (by rw [h] at hr; cases hr), fun j hj => ?_⟩
    by_cases hji : j = i
    · subst hji; exact hy.wpOpR (noDefer_spec hnd hi) hi hS ⟨Or.inr hS, H⟩
    · have h1 := H.2 j (ready_mono hj hji)
      obtain ⟨hjun, oj, hoj, hall⟩ := mem_ready.1 hj
      have hiun := (mem_ready.1 hr).1
      have hnot : ∀ e ∈ oj.after, Region.binds md e = true → e.on ≠ i := fun e he hb heq => by
        have h1 := hall e he hb
        rw [heq] at h1
        rcases Nat.lt_or_ge i listed.size with h' | h'
        · simp [h'] at hiun h1; rw [hiun] at h1; cases h1
        · simp [Array.getElem?_eq_none h'] at h1
      have h2 := wpOpR_putIf (noDefer_spec hnd hoj) hoj (hfree j oj hoj hji hjun hnot) (fun cs b => hsel i oi cs b hi) (fun cs b => hsel j oj cs b hoj) hQ hy h1
      have hfree' : ∀ k ok, ops[k]? = some ok → k ≠ i → (listed.setIfInBounds j true).getD k true = false →
          (∀ e ∈ ok.after, Region.binds md e = true → e.on ≠ i) → oi.apart ops ok = true := fun k ok hk hki hun hno => by
        refine hfree k ok hk hki ?_ hno
        by_cases hjk : j = k
        · subst hjk; exact hjun
        · rw [getD_set_ne true hjk] at hun; exact hun
      have hcl' := closedL_set hcl hj
      have hi2 : (listed.setIfInBounds j true).getD i false = false := by
        rw [getD_set_ne false hji]
        rcases Nat.lt_or_ge i listed.size with h' | h'
        · simp [h'] at hiun ⊢; exact hiun
        · simp [Array.getElem?_eq_none h']
      have hLun : ¬ (listed.setIfInBounds j true).getD L false = true := fun hL => by
        rw [waitsB_spec hcl' m L hwt hL] at hi2
        cases hi2
      refine wpOpIn_mono (fun a' w' h3 => ?_) h2
      have hS' : S w' := by
        rcases h3.2.1 with h4 | h4
        · exfalso
          apply hLun
          rw [Array.setIfInBounds_comm _ _ (Ne.symm hji), getD_set_ne false (Ne.symm hLi)] at h4
          exact h4
        · exact h4
      refine ⟨Or.inr hS', ih (listed.setIfInBounds j true) a' w' hcl' hfree' (ready_mono hr (Ne.symm hji)) h3.1 hS' ?_⟩
      rw [Array.setIfInBounds_comm _ _ hji]
      exact h3.2.2
theorem wpAnyKR_take {i : Nat} {oi : Oper} {v : Value} {fuel : Nat} {listed : Array Bool} {a : Act} {w : World} (hnd : noDeferB ops = true) (hc : ClosedL md ops listed) (hS : S w) (hi : ops[i]? = some oi)
    (hs : (Region.noSelect ops && Region.free md ops listed i && (Region.ready md ops listed).contains i && waitsB md ops i 40 L && (L != i)) = true)
    (hQ : ∀ c a w, Q (.panic c) (a.put oi.dst v) w → Q (.panic c) a w) (hw : Region.wanted oi (yielded ops a.tmps) = true) (hy : ∀ w, S w → (execOp a.eval oi).run P w = .ok (.value v) w) (hb : ∀ w, oi.about P w a.eval = none)
    (h : ClosedL md ops (listed.setIfInBounds i true) → wpAnyKIn F n P md ops Q S L fuel (listed.setIfInBounds i true) (a.put oi.dst v) w) : wpAnyKIn F n P md ops Q S L (fuel + 1) listed a w := by
  simp only [Bool.and_eq_true] at hs
  obtain ⟨⟨⟨⟨h1, h2⟩, h3⟩, h4⟩, h5⟩ := hs
  have hr : i ∈ Region.ready md ops listed := by simpa using h3
  exact wpAnyKR_first hnd hi (Region.noSelect_spec h1) (by simpa using h5) h4 hQ fuel listed a w hc (Region.free_spec hi h2) hr ⟨Or.inl ⟨hw, hy⟩, hb⟩ hS (h (closedL_set hc hr))
theorem tkR (i : Nat) {oi : Oper} (v : Value) {fuel : Nat} {listed : Array Bool} {a : Act} {w : World} (hc : ClosedL md ops listed) (hS : S w) (hy : ∀ w, S w → (execOp a.eval oi).run P w = .ok (.value v) w)
    (h : ClosedL md ops (listed.setIfInBounds i true) → wpAnyKIn F n P md ops Q S L fuel (listed.setIfInBounds i true) (a.put oi.dst v) w) (hi : ops[i]? = some oi := by rfl) (hnd : noDeferB ops = true := by kernel_rfl) 
    (hs : (Region.noSelect ops && Region.free md ops listed i && (Region.ready md ops listed).contains i && waitsB md ops i 40 L && (L != i)) = true := by kernel_rfl)
    (hQ : ∀ c a w, Q (.panic c) (a.put oi.dst v) w → Q (.panic c) a w := by exact fun _ _ _ h => h) (hw : Region.wanted oi (yielded ops a.tmps) = true := by rfl) (hb : ∀ w, oi.about P w a.eval = none := by exact fun _ => rfl) : wpAnyKIn F n P md ops Q S L (fuel + 1) listed a w :=
  wpAnyKR_take hnd hc hS hi hs hQ hw hy hb h
end
theorem st_laid : laidOutB Tryz.prog = true := by kernel_rfl
theorem st_key : Maps.Keyed Tryz.prog 28 := Maps.Keyed.of_law (deep_law_laid st_laid (m := 2) (by omega) (of_decide_eq_true (by kernel_rfl)) (by kernel_rfl) (by rw [Tryz.underlying28]))
theorem run_st_port (p : Int) (h : ByteArray) (w : World) : (Instr.field 28 (.agg #[.int .i64 p, .string h]) 0).run Tryz.prog w = .ok (.int .i64 p) w := by kernel_rfl
def stVal (p : Int) (h : ByteArray) : Value := .agg #[.int .i64 p, .string h]
noncomputable def stKey (p : Int) (h : ByteArray) : Lit := (keyOf Tryz.prog 28 (stVal p h)).getD (.bool false)
theorem stKey_of {p : Int} {h : ByteArray} (h1 : -9223372036854775808 ≤ p) (h2 : p ≤ 9223372036854775807) (hh : h.size ≤ 9223372036854775807) : keyOf Tryz.prog 28 (stVal p h) = some (stKey p h) := by
  have e := Tryz.underlying28
  have hc : Tryz.prog.cellsOf 28 = 2 := by kernel_rfl
  have hf : (stVal p h).formed Tryz.prog 28 = true := by simp [stVal, Value.formed, e, hc]
  have hk : Tryz.prog.keyType 28 = true := by kernel_rfl
  obtain ⟨d, hd⟩ : ∃ d, Tryz.prog.types.size = d + 1 := ⟨Tryz.prog.types.size - 1, by kernel_rfl⟩
  have hl : ∃ ls, Tryz.prog.keyLits (Tryz.prog.types.size + 1) 28 [.int .i64 p, .string h] = some ls := by
    have hw : (Lit.int .i64 p).wf = true := by simp [Lit.wf, IntKind.min, IntKind.max, IntKind.signed, IntKind.bits]; omega
    have hm : h.size ≤ maxLen := by unfold maxLen; omega
    have ci : Tryz.prog.cellsOf 3 = 1 := by kernel_rfl
    have cs : Tryz.prog.cellsOf 9 = 1 := by kernel_rfl
    rw [hd]
    simp [Program.keyLits, e, hc, ci, cs, Tryz.underlying3, Tryz.underlying9, hw, hm]
  have : ∃ l, keyOf Tryz.prog 28 (stVal p h) = some l := by
    obtain ⟨ls, hls⟩ := hl
    refine ⟨.string (keyBytes ls), ?_⟩
    unfold keyOf
    rw [e]
    simp only [hk, hf, Bool.and_self, if_true]
    rw [show (stVal p h).cells.toList = [.int .i64 p, .string h] from rfl, hls]
    rfl
  obtain ⟨l, hl⟩ := this
  unfold stKey
  rw [hl]
  rfl
theorem stKey_inj {p p' : Int} {h h' : ByteArray} (a1 : keyOf Tryz.prog 28 (stVal p h) = some (stKey p h)) (a2 : keyOf Tryz.prog 28 (stVal p' h') = some (stKey p' h')) (e : stKey p h = stKey p' h') : p = p' ∧ h = h' := by
  rw [e] at a1
  have h3 := st_key.inj a1 a2
  unfold stVal at h3
  injection h3 with h3
  injection h3 with h3
  injection h3 with h4 h5
  injection h5 with h5 _
  injection h4 with _ h4
  injection h5 with h5
  exact ⟨h4, h5⟩
def StFit (p : Int) (h : ByteArray) : Prop := -9223372036854775808 ≤ p ∧ p ≤ 9223372036854775807 ∧ h.size ≤ 9223372036854775807
theorem st_fit {n : Sp.Net} (hn : Sp.NetOk n) {p : Int} {h : ByteArray} (hs : Sp.StateOk n p h) : StFit p h := by
  have h1 := hs.port
  have h2 := hs.bits
  have h3 := hn.bits
  have h4 := hn.nports
  exact ⟨by omega, by omega, by omega⟩
abbrev CameM (W : World) (b nn : Nat) (D : DataW Unit) : Prop := W.ownsMap Tryz.prog 28 (plainElem Tryz.prog 3) b nn D
def CameD (D : DataW Unit) (g : List Sp.Path) : Prop := Maps.IsMap D ∧ ∀ z : Sp.Path, StFit (Sp.lastP z) z.header → (Maps.has D (stKey (Sp.lastP z) z.header) = true ↔ Sp.Came g z)
theorem CameD.first : CameD (.map []) [] := ⟨Maps.isMap_empty, fun z _ => ⟨fun e => (by cases e), fun ⟨x, hx, _⟩ => (by cases hx)⟩⟩
theorem CameD.put {D : DataW Unit} {g : List Sp.Path} (h : CameD D g) {y : Sp.Path} (hy : StFit (Sp.lastP y) y.header) (d : DataW Unit) : CameD (D.put (stKey (Sp.lastP y) y.header) d) (g ++ [y]) := by
  have ky := stKey_of hy.1 hy.2.1 hy.2.2
  refine ⟨h.1.put _ _, fun z hz => ?_⟩
  have kz := stKey_of hz.1 hz.2.1 hz.2.2
  by_cases e : Sp.stP y = Sp.stP z
  · have e1 : Sp.lastP y = Sp.lastP z := congrArg Prod.fst e
    have e2 : y.header = z.header := congrArg Prod.snd e
    rw [← e1, ← e2, Maps.has_put_same h.1 (st_key.key ky)]
    exact ⟨fun _ => ⟨y, by simp, e⟩, fun _ => rfl⟩
  · rw [Maps.has_put_other (fun e9 => e (by
      obtain ⟨e1, e2⟩ := stKey_inj kz ky e9
      unfold Sp.stP
      rw [e1, e2]))]
    rw [h.2 z hz]
    refine ⟨fun ⟨x, hx, hxe⟩ => ⟨x, List.mem_append_left _ hx, hxe⟩, fun ⟨x, hx, hxe⟩ => ?_⟩
    rcases List.mem_append.1 hx with h9 | h9
    · exact ⟨x, h9, hxe⟩
    · obtain rfl := List.mem_singleton.1 h9
      exact absurd hxe e
def subV {p : Sp.Mv → Prop} (ms : List { x : Sp.Mv // p x }) : List Sp.Mv := ms.map (·.1)
theorem subV_snoc {p : Sp.Mv → Prop} (ms : List { x : Sp.Mv // p x }) (x : { x : Sp.Mv // p x }) : subV (ms ++ [x]) = subV ms ++ [x.1] := by unfold subV; rw [List.map_append]; rfl
theorem int_zero (w : World) : (zeroValue 3).run Tryz.prog w = .ok (.int .i64 0) w := by kernel_rfl
structure ReI (n : Sp.Net) (s : Nat) (h : ByteArray) (tp hops : Int) (M S T U : Nat) (cn : Array Value) (w : World) (Ds : List Nat) (xs : List PathV) (W : World) : Prop where
  net : Blk W M 26 cn
  tob : Blk W (M + 1 + 1) 3 #[.int .i64 tp]
  res : LpC (M + 1) (.slice none 0 0) (.slice none 0 0) (.string ⟨#[]⟩) false 0 W
  px : ∃ u1 u2 u3, Blk W S 40 #[u1, u2, u3]
  mbox : Blk W U 75 #[.map (some T)]
  came : ∃ D nn, CameM W T nn D ∧ nn ≤ xs.length ∧ CameD D (xs.map PathV.path)
  row : ∃ v, Boxed W (U + 1 + 1) 29 v ∧ PtR W (U + 1) v xs
  each : ∀ x ∈ xs, PvAt M x W
  few : xs.length ≤ 4096
  below : Below M w W
  ds : DsOk M Ds W
  once : Ds.Nodup
theorem map_put {W : World} {b nn : Nat} {D : DataW Unit} (h : CameM W b nn D) {p : Addr} (hp : b ≠ p.block) (u : Value) : CameM (W.setCell p u) b nn D := World.ownsMap.setCell h hp u
theorem map_later {W W' : World} {b nn : Nat} {D : DataW Unit} (h : CameM W b nn D) (hb : Below W.heap.size W W') : CameM W' b nn D := World.ownsMap.kept h (grown_of_below hb) (by simp)
theorem ReI.put {n : Sp.Net} {s : Nat} {h : ByteArray} {tp hops : Int} {M S T U : Nat} {cn : Array Value} {w : World} {Ds : List Nat} {xs : List PathV} {W : World} (hI : ReI n s h tp hops M S T U cn w Ds xs W) (hMS : M + 6 ≤ S) (hST : S < T) (hTU : T < U) (i : Nat) (u : Value) : ReI n s h tp hops M S T U cn w Ds xs (W.setCell ⟨S, i, none⟩ u) := by
  obtain ⟨u1, u2, u3, hp⟩ := hI.px
  obtain ⟨v, hb, hr⟩ := hI.row
  obtain ⟨D, nn, hD, hN, hC⟩ := hI.came
  refine ⟨hI.net.far (by show M ≠ S; omega) _, hI.tob.far (by show M + 1 + 1 ≠ S; omega) _, ⟨hI.res.c2.far (by show M + 1 + 1 + 1 ≠ S; omega) _, hI.res.c3.far (by show M + 1 + 1 + 1 + 1 ≠ S; omega) _, hI.res.c4.far (by show M + 1 + 1 + 1 + 1 + 1 ≠ S; omega) _⟩, ?_, Blk.far hI.mbox (by show U ≠ S; omega) _, ⟨D, nn, map_put hD (by show T ≠ S; omega) u, hN, hC⟩, ⟨v, Blk.far hb (by show U + 1 + 1 ≠ S; omega) _, ownsRow_setCell_below hr (by show S < U + 1; omega) _⟩, fun x hx => ?_, hI.few, hI.below.setCell (p := ⟨S, i, none⟩) (by show M ≤ S; omega) _, fun D hD => ⟨(hI.ds D hD).1, (KeepsOthers.setCell _ _ _).same D _ (hI.ds D hD).2 rfl⟩, hI.once⟩
  · have hs := hp.set_ i u
    rcases i with _ | _ | _ | i
    · exact ⟨_, _, _, hs⟩
    · exact ⟨_, _, _, hs⟩
    · exact ⟨_, _, _, hs⟩
    · exact ⟨_, _, _, by simpa using hs⟩
  · obtain ⟨h1, h2⟩ := hI.each x hx
    exact ⟨in_put h1 (in_far h1 hp (by decide)) u, in_put h2 (in_far h2 hp (by decide)) u⟩
theorem ReI.later {n : Sp.Net} {s : Nat} {h : ByteArray} {tp hops : Int} {M S T U : Nat} {cn : Array Value} {w : World} {Ds : List Nat} {xs : List PathV} {W W' : World} (hI : ReI n s h tp hops M S T U cn w Ds xs W) (hb : Below W.heap.size W W') : ReI n s h tp hops M S T U cn w Ds xs W' := by
  obtain ⟨u1, u2, u3, hp⟩ := hI.px
  obtain ⟨v, hbx, hr⟩ := hI.row
  obtain ⟨D, nn, hD, hN, hC⟩ := hI.came
  refine ⟨hI.net.below hb hI.net.lt, hI.tob.below hb hI.tob.lt, hI.res.below hb, ⟨u1, u2, u3, hp.below hb hp.lt⟩, hI.mbox.below hb hI.mbox.lt, ⟨D, nn, map_later hD hb, hN, hC⟩, ⟨v, Blk.below hbx hb (Blk.lt hbx), ?_⟩, fun x hx => ⟨in_below (hI.each x hx).1 hb, in_below (hI.each x hx).2 hb⟩, hI.few, hI.below.trans (hb.mono (by have := hI.net.lt; omega)), fun D hD => ⟨(hI.ds D hD).1, (hb.block D (heap_lt (hI.ds D hD).2)).trans (hI.ds D hD).2⟩, hI.once⟩
  refine World.ownsRow.kept hr (grown_of_below hb) ?_
  cases hv : v.ownBlock with
  | none => exact .inl rfl
  | some g => exact .inr (fun e => by cases e)
theorem ReI.own {β : Type} {n : Sp.Net} {s : Nat} {h : ByteArray} {tp hops : Int} {M S T U B : Nat} {cn : Array Value} {w : World} {Ds : List Nat} {xs : List PathV} (hM : M ≤ w.heap.size) (hMB : M ≤ B) (hTB : T < B) (hB : ∀ D ∈ Ds, D < B) : OwnFrom B (fun (_ : β) W => ReI n s h tp hops M S T U cn w Ds xs W) := fun x A C row hs hg hr => by
  obtain ⟨u1, u2, u3, hp⟩ := hs.px
  obtain ⟨v, hbx, hrw⟩ := hs.row
  obtain ⟨D, nn, hD, hN, hC⟩ := hs.came
  have hr2 : ∀ r, row = some r → ∃ o : Obj, A.heap[r]? = some o ∧ TurnOk o := fun r e => by obtain ⟨_, o, h1, h2⟩ := hr r e; exact ⟨o, h1, .inl h2⟩
  exact ⟨own_blk B _ _ _ x A C row hs.net hg hr, own_blk B _ _ _ x A C row hs.tob hg hr, ⟨own_blk B _ _ _ x A C row hs.res.c2 hg hr, own_blk B _ _ _ x A C row hs.res.c3 hg hr, own_blk B _ _ _ x A C row hs.res.c4 hg hr⟩, ⟨u1, u2, u3, own_blk B _ _ _ x A C row hp hg hr⟩, own_blk B _ _ _ x A C row hs.mbox hg hr, ⟨D, nn, World.ownsMap.kept hD hg (fun e => by have := (hr _ e.symm).1; omega), hN, hC⟩, ⟨v, own_blk B _ _ _ x A C row hbx hg hr, ptR_turn hrw hg hr2⟩,
    fun y hy => ⟨row_turn (hs.each y hy).1 hg hr2, row_turn (hs.each y hy).2 hg hr2⟩, hs.few, ownFrom_below hM hMB x A C row hs.below hg hr, own_ds hB x A C row hs.ds hg hr, hs.once⟩
theorem map_same {A C : World} {b nn : Nat} {D : DataW Unit} (h : CameM A b nn D) (e : C.heap[b]? = A.heap[b]?) : CameM C b nn D := by
  obtain ⟨es, ck, hb, r⟩ := h
  exact ⟨es, ck, e.trans hb, r⟩
theorem map_row {A C : World} {b nn : Nat} {D : DataW Unit} (h : CameM A b nn D) : ∀ r, (some b : Option Nat) = some r → b ≤ r ∧ ∃ o : Obj, A.heap[r]? = some o ∧ o.isCells = false := fun r e => by
  cases e
  obtain ⟨es, ck, hb, _⟩ := h
  exact ⟨Nat.le_refl _, _, hb, rfl⟩
theorem map_blk {A C : World} {b nn g : Nat} {D : DataW Unit} {t : TypeId} {cs : Array Value} (h : CameM A b nn D) (hg : A.grownBy C (some b)) (hk : Blk A g t cs) : Blk C g t cs := own_blk (β := Unit) b _ _ _ () A C (some b) hk hg (map_row (C := C) h)
theorem map_in {A C : World} {b nn B : Nat} {D : DataW Unit} {v : Value} {l : List Int} (h : CameM A b nn D) (hg : A.grownBy C (some b)) (hv : InR A B v l) : InR C B v l :=
  row_turn hv hg (fun r e => by obtain ⟨_, o, h1, h2⟩ := map_row (C := C) h r e; exact ⟨o, h1, .inl h2⟩)
theorem ReI.turn {n : Sp.Net} {s : Nat} {h : ByteArray} {tp hops : Int} {M S T U : Nat} {cn : Array Value} {w : World} {Ds : List Nat} {xs : List PathV} {A C : World} {nn : Nat} {D : DataW Unit} (hM : M ≤ w.heap.size) (hMT : M ≤ T) (hs : ReI n s h tp hops M S T U cn w Ds xs A) (hD : CameM A T nn D) (hg : A.grownBy C (some T)) :
    Blk C M 26 cn ∧ Blk C (M + 1 + 1) 3 #[.int .i64 tp] ∧ LpC (M + 1) (.slice none 0 0) (.slice none 0 0) (.string ⟨#[]⟩) false 0 C ∧ (∃ u1 u2 u3, Blk C S 40 #[u1, u2, u3]) ∧ Blk C U 75 #[.map (some T)] ∧ (∃ v, Boxed C (U + 1 + 1) 29 v ∧ PtR C (U + 1) v xs) ∧ (∀ x ∈ xs, PvAt M x C) ∧ Below M w C ∧ DsOk M Ds C := by
  obtain ⟨u1, u2, u3, hp⟩ := hs.px
  obtain ⟨v, hbx, hrw⟩ := hs.row
  have hr := map_row (C := C) hD
  have hr2 : ∀ r, (some T : Option Nat) = some r → ∃ o : Obj, A.heap[r]? = some o ∧ TurnOk o := fun r e => by obtain ⟨_, o, h1, h2⟩ := hr r e; exact ⟨o, h1, .inl h2⟩
  refine ⟨map_blk hD hg hs.net, map_blk hD hg hs.tob, ⟨map_blk hD hg hs.res.c2, map_blk hD hg hs.res.c3, map_blk hD hg hs.res.c4⟩, ⟨u1, u2, u3, map_blk hD hg hp⟩, map_blk hD hg hs.mbox, ⟨v, map_blk hD hg hbx, ptR_turn hrw hg hr2⟩, fun y hy => ⟨row_turn (hs.each y hy).1 hg hr2, row_turn (hs.each y hy).2 hg hr2⟩, ownFrom_below (β := Unit) (B := T) hM (by omega) () A C _ hs.below hg hr, fun E hE => ⟨(hs.ds E hE).1, ?_⟩⟩
  have h9 := (hs.ds E hE).2
  refine (hg.block E (heap_lt h9) (fun e => ?_)).trans h9
  injection e with e
  obtain ⟨es, ck, hb, _⟩ := hD
  rw [e, hb] at h9
  cases h9
theorem kpx_map {A C : World} {n0 b nn Bo : Nat} {D : DataW Unit} {cs : Value} {t : TypeId} (hD : CameM A b nn D) (hg : A.grownBy C (some b)) (hn : n0 ≤ b) (hb : Boxed A Bo t cs) : KpX n0 (rowX Bo) A C := by
  refine ⟨(Below.refl n0 A).grown hg (by have := hD.lt; omega) (fun k e => by cases e; exact hn), fun g o ho hc _ => ?_, fun g hx => ?_⟩
  · refine (hg.block g (heap_lt ho) (fun e => ?_)).trans ho
    injection e with e
    obtain ⟨es, ck, hb2, _⟩ := hD
    rw [e, hb2] at ho
    cases ho
    cases hc
  · rcases hx with e | e
    · exact .inl (.inl e)
    · refine .inl (.inr ?_)
      rw [← e]
      have h1 : Boxed C Bo t cs := map_blk hD hg hb
      exact (rowAt_same (show A.cell? ⟨Bo, 0, none⟩ = C.cell? ⟨Bo, 0, none⟩ from (Boxed.cell hb).trans (Boxed.cell h1).symm))
theorem keeps_map {A C : World} {N b nn : Nat} {D : DataW Unit} (hD : CameM A b nn D) (hg : A.grownBy C (some b)) (hN : b < N) : KeepsFrom N A C :=
  ⟨hg.size, fun k o hk ho hc => (hg.block k (heap_lt ho) (fun e => by injection e with e; omega)).trans ho⟩
def RFr (M S U cur : Nat) (hops : Int) (ds : List Deferred) (a : Act) : Prop := ∃ u : Nat → Value, a = { tmps := #[u 0, u 1, u 2, .int .i64 hops, .pointer (some ⟨M, 0, none⟩), u 5, .pointer (some ⟨M + 1 + 1, 0, none⟩), u 7, .pointer (some ⟨M + 1 + 1 + 1, 0, none⟩), .pointer (some ⟨M + 1 + 1 + 1 + 1, 0, none⟩), .pointer (some ⟨M + 1 + 1 + 1 + 1 + 1, 0, none⟩), u 11, .pointer (some ⟨S, 0, none⟩), u 13, .pointer (some ⟨U, 0, none⟩), .pointer (some ⟨U + 1 + 1, 0, none⟩), .int .i64 (cur : Int), u 17, u 18, u 19, u 20, u 21, u 22, u 23, u 24, u 25, u 26, u 27, u 28, u 29, u 30, u 31, u 32, u 33, u 34, u 35, u 36, u 37, u 38, u 39, u 40, u 41, u 42, u 43, u 44, u 45, u 46, u 47, u 48, u 49, u 50, u 51, u 52, u 53, u 54, u 55, u 56, u 57, u 58, u 59, u 60, u 61, u 62, u 63, u 64, u 65, u 66, u 67, u 68, u 69, u 70, u 71, u 72, u 73, u 74, u 75, u 76, u 77, u 78, u 79, u 80, u 81, u 82, u 83, u 84, u 85, u 86, u 87, u 88, u 89, u 90, u 91, u 92, u 93, u 94, u 95, u 96, u 97, u 98, u 99, u 100, u 101, u 102, u 103, u 104, u 105, u 106, u 107, u 108, u 109, u 110, u 111, u 112, u 113, u 114, u 115, u 116, u 117, u 118, u 119, u 120], defers := ds }
theorem RFr.of {M S U cur : Nat} {hops : Int} {ds : List Deferred} (v0 v1 v2 v5 v7 v11 v13 v17 v18 v19 v20 v21 v22 v23 v24 v25 v26 v27 v28 v29 v30 v31 v32 v33 v34 v35 v36 v37 v38 v39 v40 v41 v42 v43 v44 v45 v46 v47 v48 v49 v50 v51 v52 v53 v54 v55 v56 v57 v58 v59 v60 v61 v62 v63 v64 v65 v66 v67 v68 v69 v70 v71 v72 v73 v74 v75 v76 v77 v78 v79 v80 v81 v82 v83 v84 v85 v86 v87 v88 v89 v90 v91 v92 v93 v94 v95 v96 v97 v98 v99 v100 v101 v102 v103 v104 v105 v106 v107 v108 v109 v110 v111 v112 v113 v114 v115 v116 v117 v118 v119 v120 : Value) : RFr M S U cur hops ds { tmps := #[v0, v1, v2, .int .i64 hops, .pointer (some ⟨M, 0, none⟩), v5, .pointer (some ⟨M + 1 + 1, 0, none⟩), v7, .pointer (some ⟨M + 1 + 1 + 1, 0, none⟩), .pointer (some ⟨M + 1 + 1 + 1 + 1, 0, none⟩), .pointer (some ⟨M + 1 + 1 + 1 + 1 + 1, 0, none⟩), v11, .pointer (some ⟨S, 0, none⟩), v13, .pointer (some ⟨U, 0, none⟩), .pointer (some ⟨U + 1 + 1, 0, none⟩), .int .i64 (cur : Int), v17, v18, v19, v20, v21, v22, v23, v24, v25, v26, v27, v28, v29, v30, v31, v32, v33, v34, v35, v36, v37, v38, v39, v40, v41, v42, v43, v44, v45, v46, v47, v48, v49, v50, v51, v52, v53, v54, v55, v56, v57, v58, v59, v60, v61, v62, v63, v64, v65, v66, v67, v68, v69, v70, v71, v72, v73, v74, v75, v76, v77, v78, v79, v80, v81, v82, v83, v84, v85, v86, v87, v88, v89, v90, v91, v92, v93, v94, v95, v96, v97, v98, v99, v100, v101, v102, v103, v104, v105, v106, v107, v108, v109, v110, v111, v112, v113, v114, v115, v116, v117, v118, v119, v120], defers := ds } :=
  ⟨fun i => ([v0, v1, v2, undef, undef, v5, undef, v7, undef, undef, undef, v11, undef, v13, undef, undef, undef, v17, v18, v19, v20, v21, v22, v23, v24, v25, v26, v27, v28, v29, v30, v31, v32, v33, v34, v35, v36, v37, v38, v39, v40, v41, v42, v43, v44, v45, v46, v47, v48, v49, v50, v51, v52, v53, v54, v55, v56, v57, v58, v59, v60, v61, v62, v63, v64, v65, v66, v67, v68, v69, v70, v71, v72, v73, v74, v75, v76, v77, v78, v79, v80, v81, v82, v83, v84, v85, v86, v87, v88, v89, v90, v91, v92, v93, v94, v95, v96, v97, v98, v99, v100, v101, v102, v103, v104, v105, v106, v107, v108, v109, v110, v111, v112, v113, v114, v115, v116, v117, v118, v119, v120] : List Value).getD i undef, rfl⟩
def RGr (M S U cur Bx : Nat) (hops : Int) (a : Act) : Prop := ∃ u : Nat → Value, a = { tmps := #[u 0, u 1, u 2, .int .i64 hops, .pointer (some ⟨M, 0, none⟩), u 5, .pointer (some ⟨M + 1 + 1, 0, none⟩), u 7, .pointer (some ⟨M + 1 + 1 + 1, 0, none⟩), .pointer (some ⟨M + 1 + 1 + 1 + 1, 0, none⟩), .pointer (some ⟨M + 1 + 1 + 1 + 1 + 1, 0, none⟩), u 11, .pointer (some ⟨S, 0, none⟩), u 13, .pointer (some ⟨U, 0, none⟩), .pointer (some ⟨U + 1 + 1, 0, none⟩), .int .i64 (cur : Int), .pointer (some ⟨Bx, 0, none⟩), u 18, u 19, u 20, u 21, u 22, u 23, u 24, u 25, u 26, u 27, u 28, u 29, u 30, u 31, u 32, u 33, u 34, u 35, u 36, u 37, u 38, u 39, u 40, u 41, u 42, u 43, u 44, u 45, u 46, u 47, u 48, u 49, u 50, u 51, u 52, u 53, u 54, u 55, u 56, u 57, u 58, u 59, u 60, u 61, u 62, u 63, u 64, u 65, u 66, u 67, u 68, u 69, u 70, u 71, u 72, u 73, u 74, u 75, u 76, u 77, u 78, u 79, u 80, u 81, u 82, u 83, u 84, u 85, u 86, u 87, u 88, u 89, u 90, u 91, u 92, u 93, u 94, u 95, u 96, u 97, u 98, u 99, u 100, u 101, u 102, u 103, u 104, u 105, u 106, u 107, u 108, u 109, u 110, u 111, u 112, u 113, u 114, u 115, u 116, u 117, u 118, u 119, u 120], defers := [] }
theorem RGr.of {M S U cur Bx : Nat} {hops : Int} (v0 v1 v2 v5 v7 v11 v13 v18 v19 v20 v21 v22 v23 v24 v25 v26 v27 v28 v29 v30 v31 v32 v33 v34 v35 v36 v37 v38 v39 v40 v41 v42 v43 v44 v45 v46 v47 v48 v49 v50 v51 v52 v53 v54 v55 v56 v57 v58 v59 v60 v61 v62 v63 v64 v65 v66 v67 v68 v69 v70 v71 v72 v73 v74 v75 v76 v77 v78 v79 v80 v81 v82 v83 v84 v85 v86 v87 v88 v89 v90 v91 v92 v93 v94 v95 v96 v97 v98 v99 v100 v101 v102 v103 v104 v105 v106 v107 v108 v109 v110 v111 v112 v113 v114 v115 v116 v117 v118 v119 v120 : Value) : RGr M S U cur Bx hops { tmps := #[v0, v1, v2, .int .i64 hops, .pointer (some ⟨M, 0, none⟩), v5, .pointer (some ⟨M + 1 + 1, 0, none⟩), v7, .pointer (some ⟨M + 1 + 1 + 1, 0, none⟩), .pointer (some ⟨M + 1 + 1 + 1 + 1, 0, none⟩), .pointer (some ⟨M + 1 + 1 + 1 + 1 + 1, 0, none⟩), v11, .pointer (some ⟨S, 0, none⟩), v13, .pointer (some ⟨U, 0, none⟩), .pointer (some ⟨U + 1 + 1, 0, none⟩), .int .i64 (cur : Int), .pointer (some ⟨Bx, 0, none⟩), v18, v19, v20, v21, v22, v23, v24, v25, v26, v27, v28, v29, v30, v31, v32, v33, v34, v35, v36, v37, v38, v39, v40, v41, v42, v43, v44, v45, v46, v47, v48, v49, v50, v51, v52, v53, v54, v55, v56, v57, v58, v59, v60, v61, v62, v63, v64, v65, v66, v67, v68, v69, v70, v71, v72, v73, v74, v75, v76, v77, v78, v79, v80, v81, v82, v83, v84, v85, v86, v87, v88, v89, v90, v91, v92, v93, v94, v95, v96, v97, v98, v99, v100, v101, v102, v103, v104, v105, v106, v107, v108, v109, v110, v111, v112, v113, v114, v115, v116, v117, v118, v119, v120], defers := [] } :=
  ⟨fun i => ([v0, v1, v2, undef, undef, v5, undef, v7, undef, undef, undef, v11, undef, v13, undef, undef, undef, undef, v18, v19, v20, v21, v22, v23, v24, v25, v26, v27, v28, v29, v30, v31, v32, v33, v34, v35, v36, v37, v38, v39, v40, v41, v42, v43, v44, v45, v46, v47, v48, v49, v50, v51, v52, v53, v54, v55, v56, v57, v58, v59, v60, v61, v62, v63, v64, v65, v66, v67, v68, v69, v70, v71, v72, v73, v74, v75, v76, v77, v78, v79, v80, v81, v82, v83, v84, v85, v86, v87, v88, v89, v90, v91, v92, v93, v94, v95, v96, v97, v98, v99, v100, v101, v102, v103, v104, v105, v106, v107, v108, v109, v110, v111, v112, v113, v114, v115, v116, v117, v118, v119, v120] : List Value).getD i undef, rfl⟩
def ReX (n : Sp.Net) (tp hops : Int) (M : Nat) (w : World) (Ds : List Nat) (g0 : List Sp.Path) (cur : Nat) (ms : List Sp.Mv) (W : World) : Prop :=
  ∃ v1 v2 p ok e r, LpC (M + 1) v1 v2 (.string p.header) ok e W ∧ InR W M v1 p.ports ∧ InR W M v2 p.entries ∧ Below M w W ∧ DsOk M Ds W ∧ Sp.StopsAt n tp hops g0 cur ms r ∧ Sp.TellR r p ok e
theorem ReX.own {β : Type} {n : Sp.Net} {tp hops : Int} {M B : Nat} {w : World} {Ds : List Nat} {g0 : List Sp.Path} {cur : Nat} {ms : List Sp.Mv} (hM : M ≤ w.heap.size) (hMB : M ≤ B) (hB : ∀ D ∈ Ds, D < B) : OwnFrom B (fun (_ : β) W => ReX n tp hops M w Ds g0 cur ms W) := fun x A C row hs hg hr => by
  obtain ⟨v1, v2, p, ok, e, r, h1, h2, h3, h4, h5, h6⟩ := hs
  have hr2 : ∀ r, row = some r → ∃ o : Obj, A.heap[r]? = some o ∧ TurnOk o := fun r e => by obtain ⟨_, o, h1, h2⟩ := hr r e; exact ⟨o, h1, .inl h2⟩
  exact ⟨v1, v2, p, ok, e, r, ⟨own_blk B _ _ _ x A C row h1.c2 hg hr, own_blk B _ _ _ x A C row h1.c3 hg hr, own_blk B _ _ _ x A C row h1.c4 hg hr⟩, row_turn h2 hg hr2, row_turn h3 hg hr2, ownFrom_below hM hMB x A C row h4 hg hr, own_ds hB x A C row h5 hg hr, h6⟩
theorem rex_of {n : Sp.Net} {tp hops : Int} {M : Nat} {w W : World} {Ds : List Nat} {g0 : List Sp.Path} {cur : Nat} {ms : List Sp.Mv} {v1 v2 a1 a2 a3 : Value} {o0 : Bool} {e0 : Int} {b : Nat} {p : Sp.Path} {ok : Bool} {e : Int} {r : Sp.RRes} (hc : LpC (M + 1) a1 a2 a3 o0 e0 W) (h1 : InR W b v1 p.ports) (h2 : InR W b v2 p.entries) (hb : M + 6 ≤ b) (hw : Below M w W) (hd : DsOk M Ds W) (hS : Sp.StopsAt n tp hops g0 cur ms r) (hT : Sp.TellR r p ok e) : ReX n tp hops M w Ds g0 cur ms (lpSet (M + 1) v1 v2 (.string p.header) ok e W) :=
  ⟨v1, v2, p, ok, e, r, hc.set _ _ _ _ _, in_mono (in_lpSet h1 (by omega)) (by omega), in_mono (in_lpSet h2 (by omega)) (by omega), lpSet_below hw (by omega), fun D hD => ⟨(hd D hD).1, (lpSet_others W).same D _ (hd D hD).2 rfl⟩, hS, hT⟩
def ReA (n : Sp.Net) (s : Nat) (h : ByteArray) (tp hops : Int) (q : Sp.Path) (M S T U : Nat) (cn : Array Value) (w : World) (a : Act) (W : World) : Prop :=
  ∃ Ds xs cur, RFr M S U cur hops (dsOf Ds) a ∧ ReI n s h tp hops M S T U cn w Ds xs W ∧ Sp.NJ n s h tp hops q (xs.map PathV.path) cur ∧ cur ≤ xs.length
theorem step_Reach (n : Sp.Net) (A1 A2 A3 : Option Addr) (c1 c2 c3 : Nat) (p : Int) (h : ByteArray) (tp hops : Int) (w : World) (hG : Gn w)
    (hnr : NetR w n [.int .i64 n.bits, .slice A1 n.ports.length c1, .slice A2 n.tables.length c2, .slice A3 n.guards.length c3]) (hsz : Sp.Szd n) (hh : h.size ≤ 9223372036854775807) :
    Calls Tryz.prog 17 #[.agg #[.int .i64 n.bits, .slice A1 n.ports.length c1, .slice A2 n.tables.length c2, .slice A3 n.guards.length c3], .agg #[.int .i64 p, .string h], .int .i64 tp, .int .i64 hops] w (ReRes n p h tp hops w) := by
  obtain ⟨M, hM⟩ : ∃ M, w.heap.size = M := ⟨_, rfl⟩
  obtain ⟨W5, hW5⟩ : ∃ W5, (((((w.alloc (.cells #[.int .i64 n.bits, .slice A1 n.ports.length c1, .slice A2 n.tables.length c2, .slice A3 n.guards.length c3] 26)).alloc (.cells #[.int .i64 p, .string h] 28)).alloc (.cells #[.int .i64 tp] 3)).alloc (.cells #[.slice none 0 0, .slice none 0 0, .string ⟨#[]⟩] 40)).alloc (.cells #[.bool false] 4)).alloc (.cells #[.int .i64 0] 33) = W5 := ⟨_, rfl⟩
  have hb5 : Below M w W5 := by rw [← hW5, ← hM]; exact ((((((Below.refl _ _).alloc (Nat.le_refl _) _).alloc (by simp) _).alloc (by simp; omega) _).alloc (by simp; omega) _).alloc (by simp; omega) _).alloc (by simp; omega) _
  have hs5 : W5.heap.size = M + 6 := by rw [← hW5, ← hM]; simp
  have b0 : Blk W5 M 26 #[.int .i64 n.bits, .slice A1 n.ports.length c1, .slice A2 n.tables.length c2, .slice A3 n.guards.length c3] := by rw [← hW5, ← hM]; exact (((((Blk.new w _ _).alloc _).alloc _).alloc _).alloc _).alloc _
  have b1 : Blk W5 (M + 1) 28 #[.int .i64 p, .string h] := by rw [← hW5]; exact ((((blk_at (by rw [World.size_alloc]; omega)).alloc _).alloc _).alloc _).alloc _
  have bt : Blk W5 (M + 1 + 1) 3 #[.int .i64 tp] := by rw [← hW5]; exact (((blk_at (by rw [World.size_alloc, World.size_alloc]; omega)).alloc _).alloc _).alloc _
  have b2 : Blk W5 (M + 1 + 1 + 1) 40 #[.slice none 0 0, .slice none 0 0, .string ⟨#[]⟩] := by rw [← hW5]; exact ((blk_at (by rw [World.size_alloc, World.size_alloc, World.size_alloc]; omega)).alloc _).alloc _
  have b3 : Blk W5 (M + 1 + 1 + 1 + 1) 4 #[.bool false] := by rw [← hW5]; exact (blk_at (by rw [World.size_alloc, World.size_alloc, World.size_alloc, World.size_alloc]; omega)).alloc _
  have b4 : Blk W5 (M + 1 + 1 + 1 + 1 + 1) 33 #[.int .i64 0] := by rw [← hW5]; exact blk_at (by rw [World.size_alloc, World.size_alloc, World.size_alloc, World.size_alloc, World.size_alloc]; omega)
  have hbw : Below w.heap.size w W5 := by rw [hM]; exact hb5
  have hnA : NetAt W5 M n := ⟨_, hnr.more hbw, by omega, fun f u hf => by rw [b0.cell f, ← Array.getElem?_toList]; exact hf⟩
  have hbd := step_bounds M n p h tp hops W5 (hG.below hbw) hnA hsz hh
  obtain ⟨E, hE⟩ : ∃ E, Sp.boundsE n p h tp hops = E := ⟨_, rfl⟩
  rw [hE] at hbd
  obtain ⟨np, hnp⟩ : ∃ np, n.ports.length = np := ⟨_, rfl⟩
  obtain ⟨nt, hnt⟩ : ∃ nt, n.tables.length = nt := ⟨_, rfl⟩
  obtain ⟨ng, hng⟩ : ∃ ng, n.guards.length = ng := ⟨_, rfl⟩
  obtain ⟨b, hbi⟩ : ∃ b, n.bits = b := ⟨_, rfl⟩
  have hnr2 := hnr
  rw [hbi, hnp, hnt, hng] at b0 hW5 hnr2 ⊢
  have HNR := Lib.hid hnr2
  have HHH := Lib.hid hh
  clear hnr2
  have x0 : W5.cell? ⟨M + 1, 0, none⟩ = some (.int .i64 p) := b1.cell 0
  have x1 : W5.cell? ⟨M + 1, 1, none⟩ = some (.string h) := b1.cell 1
  have x2 : W5.cell? ⟨M + 1 + 1, 0, none⟩ = some (.int .i64 tp) := bt.cell 0
  have HM := Lib.hid hM
  have HB5 := Lib.hid hb5
  have HS5 := Lib.hid hs5
  have HD0 := Lib.hid b0
  have HD1 := Lib.hid b1
  have HDT := Lib.hid bt
  have HD2 := Lib.hid b2
  have HD3 := Lib.hid b3
  have HD4 := Lib.hid b4
  have HNA := Lib.hid hnA
  have HE := Lib.hid hE
  have HBD := Lib.hid hbd
  clear hG hnr hsz hh hb5 hs5 b0 b1 bt b2 b3 b4 hbw hnA hbd hE hnp hnt hng hbi
  refine (callsIn_wide (n := 9)).1 ?_
  refine callsIn_of_wp_marks Tryz.func17 rfl trivial ?_ rfl
  simp only [Tryz.ntmps17, List.size_toArray, List.length_cons, List.length_nil, Nat.reduceAdd, Nat.reduceSub, Array.replicate_succ, Array.replicate_zero, List.push_toArray, List.append_toArray, List.nil_append, List.cons_append]
  gi_wp2
  refine ⟨trivial, ?_⟩
  refine (callsIn_wide.2 HBD.out).mono ?_
  rintro e W6 ⟨rfl, hb6⟩
  clear x0 x1 x2 hW5
  have e1 := HD1.out.below hb6 HD1.out.lt
  have et := HDT.out.below hb6 HDT.out.lt
  have e2 := HD2.out.below hb6 HD2.out.lt
  have e3 := HD3.out.below hb6 HD3.out.lt
  have e4 := HD4.out.below hb6 HD4.out.lt
  have HD06 := Lib.hid (HD0.out.below hb6 HD0.out.lt)
  have HB6 := Lib.hid (HB5.out.trans (hb6.mono (by have := HS5.out; omega)))
  have HS6 := Lib.hid (show M + 6 ≤ W6.heap.size by have := HS5.out; have := hb6.size; omega)
  have HNA6 := Lib.hid (HNA.out.more hb6)
  have x0 : W6.cell? ⟨M + 1, 0, none⟩ = some (.int .i64 p) := e1.cell 0
  have x1 : W6.cell? ⟨M + 1, 1, none⟩ = some (.string h) := e1.cell 1
  have x2 : W6.cell? ⟨M + 1 + 1, 0, none⟩ = some (.int .i64 tp) := et.cell 0
  have y0 : W6.cell? ⟨M + 1 + 1 + 1, 0, none⟩ = some (.slice none 0 0) := e2.cell 0
  have y1 : W6.cell? ⟨M + 1 + 1 + 1, 1, none⟩ = some (.slice none 0 0) := e2.cell 1
  have y2 : W6.cell? ⟨M + 1 + 1 + 1, 2, none⟩ = some (.string ⟨#[]⟩) := e2.cell 2
  have y3 : W6.cell? ⟨M + 1 + 1 + 1 + 1, 0, none⟩ = some (.bool false) := e3.cell 0
  have y4 : W6.cell? ⟨M + 1 + 1 + 1 + 1 + 1, 0, none⟩ = some (.int .i64 0) := e4.cell 0
  have z0 := e2.frozen 0
  have z1 := e2.frozen 1
  have z2 := e2.frozen 2
  have z3 := e3.frozen 0
  have z4 := e4.frozen 0
  by_cases hz : E = 0
  case neg =>
    have te : (E != 0) = true := bne_iff_ne.2 hz
    have HZ := Lib.hid hz
    have hc := (LpC.mk (M := M + 1) e2 e3 e4).set (.slice none 0 0) (.slice none 0 0) (.string ⟨#[]⟩) false E
    have HC := Lib.hid hc
    have HBS := Lib.hid (lpSet_below (M := M + 1) (N := M) (u1 := .slice none 0 0) (u2 := .slice none 0 0) (u3 := .string ⟨#[]⟩) (ok := false) (e := E) HB6.out (by omega))
    clear hb6 hz e1 et e2 e3 e4 hc
    gi_wp2
    exact ⟨_, results_pbe rfl _ _ (M + 1 + 1 + 1) (M + 1 + 1 + 1 + 1) (M + 1 + 1 + 1 + 1 + 1) 40 #[.slice none 0 0, .slice none 0 0, .string ⟨#[]⟩] (.bool false) (.int .i64 E) _ rfl rfl rfl HC.out.c2 (HC.out.c3.cell 0) (HC.out.c4.cell 0) Tryz.underlying40 rfl (by kernel_rfl) rfl rfl, _, _, ⟨[], [], ⟨#[]⟩⟩, false, E, rfl, World.ownsRow_nil _ _ _ _, World.ownsRow_nil _ _ _ _, by rw [HM.out]; exact HBS.out, .inl ⟨by rw [HE.out]; exact HZ.out, rfl, rfl, HE.out.symm⟩⟩
  subst hz
  have te : ((0 : Int) != 0) = false := rfl
  have hok := Sp.bounds_ok HE.out
  obtain ⟨hnk, hst⟩ := Sp.checkE_zero hok.1
  obtain ⟨s, rfl⟩ : ∃ s : Nat, p = s := ⟨p.toNat, by have := hst.port; omega⟩
  have hbg := step_begin M n s h W6 HNA6.out hnk hst
  have HBG := Lib.hid hbg
  have HOK := Lib.hid hok
  have HNK := Lib.hid hnk
  have HST := Lib.hid hst
  have HC6 := Lib.hid (LpC.mk (M := M + 1) e2 e3 e4)
  have HE1 := Lib.hid e1
  have HET := Lib.hid et
  by_cases hto : (s : Int) = tp
  case pos =>
    have HTO := Lib.hid hto
    have hb7 : Below W6.heap.size W6 (W6.alloc (.cells #[.int .i64 tp] 3)) := (Below.refl _ _).alloc (Nat.le_refl _) _
    have f1 := HE1.out.below hb7 HE1.out.lt
    obtain ⟨W7, hW7⟩ : ∃ W7, W6.alloc (.cells #[.int .i64 tp] 3) = W7 := ⟨_, rfl⟩
    rw [hW7] at hb7 f1
    have g6 := HC6.out.below (show Below W6.heap.size W6 W7 from hb7)
    clear x0 x1 x2 y0 y1 y2 y3 y4 z0 z1 z2 z3 z4
    have x0 : W6.cell? ⟨M + 1, 0, none⟩ = some (.int .i64 (s : Int)) := HE1.out.cell 0
    have x2 : W6.cell? ⟨M + 1 + 1, 0, none⟩ = some (.int .i64 tp) := HET.out.cell 0
    have x1 : W7.cell? ⟨M + 1, 1, none⟩ = some (.string h) := f1.cell 1
    have y0 : W7.cell? ⟨M + 1 + 1 + 1, 0, none⟩ = some (.slice none 0 0) := g6.c2.cell 0
    have y1 : W7.cell? ⟨M + 1 + 1 + 1, 1, none⟩ = some (.slice none 0 0) := g6.c2.cell 1
    have y2 : W7.cell? ⟨M + 1 + 1 + 1, 2, none⟩ = some (.string ⟨#[]⟩) := g6.c2.cell 2
    have y3 : W7.cell? ⟨M + 1 + 1 + 1 + 1, 0, none⟩ = some (.bool false) := g6.c3.cell 0
    have y4 : W7.cell? ⟨M + 1 + 1 + 1 + 1 + 1, 0, none⟩ = some (.int .i64 0) := g6.c4.cell 0
    have z0 := g6.c2.frozen 0
    have z1 := g6.c2.frozen 1
    have z2 := g6.c2.frozen 2
    have z3 := g6.c3.frozen 0
    have z4 := g6.c4.frozen 0
    have HC := Lib.hid ((HC6.out.below (show Below W6.heap.size W6 W7 from hb7)).set (.slice (some ⟨W6.heap.size, 0, none⟩) 1 1) (.slice none 0 0) (.string h) true 0)
    have HBS := Lib.hid (lpSet_below (M := M + 1) (N := M) (u1 := .slice (some ⟨W6.heap.size, 0, none⟩) 1 1) (u2 := .slice none 0 0) (u3 := .string h) (ok := true) (e := 0) (HB6.out.trans (hb7.mono (by have := HS6.out; omega))) (by omega))
    have HIN := Lib.hid (in_mono (in_lpSet (M := M + 1) (u1 := .slice (some ⟨W6.heap.size, 0, none⟩) 1 1) (u2 := .slice none 0 0) (u3 := .string h) (ok := true) (e := 0) (by rw [← hW7]; exact one_row W6 tp W6.heap.size (Nat.le_refl _) : InR W7 W6.heap.size _ [tp]) (by have := HS6.out; omega)) (show M ≤ M + 1 by omega))
    have t5 : ((s : Int) == tp) = true := beq_iff_eq.2 hto
    clear hb6 hbg hok hnk hst e1 et e2 e3 e4 hb7 f1 g6 hto
    gi_wp2
    exact ⟨_, results_pbe rfl _ _ (M + 1 + 1 + 1) (M + 1 + 1 + 1 + 1) (M + 1 + 1 + 1 + 1 + 1) 40 #[.slice (some ⟨W6.heap.size, 0, none⟩) 1 1, .slice none 0 0, .string h] (.bool true) (.int .i64 0) _ rfl rfl rfl HC.out.c2 (HC.out.c3.cell 0) (HC.out.c4.cell 0) Tryz.underlying40 rfl (by kernel_rfl) rfl rfl, _, _, ⟨[tp], [], h⟩, true, 0, rfl, by rw [HM.out]; exact HIN.out, World.ownsRow_nil _ _ _ _, by rw [HM.out]; exact HBS.out, .inr ⟨HE.out, s, rfl, .inl ⟨HTO.out, rfl, rfl, rfl⟩⟩⟩
  have t5 : ((s : Int) == tp) = false := beq_eq_false_iff_ne.2 hto
  have HTO := Lib.hid hto
  clear hb6 hbg hok hnk hst e1 et e2 e3 e4 hto
  gi_wp2
  refine ⟨trivial, ?_⟩
  refine (callsIn_wide.2 HBG.out).mono ?_
  rintro e W7 ⟨v1, v2, q, ok, rfl, hv1, hv2, hb7, hB⟩
  obtain ⟨a1, a2, a3, rfl⟩ := in_slice hv1
  obtain ⟨d1, d2, d3, rfl⟩ := in_slice hv2
  obtain ⟨S, hS⟩ : ∃ S, W7.heap.size = S := ⟨_, rfl⟩
  obtain ⟨W8, hW8⟩ : ∃ W8, W7.alloc (.cells #[.slice a1 a2 a3, .slice d1 d2 d3, .string q.header] 40) = W8 := ⟨_, rfl⟩
  have hb78 : Below W7.heap.size W7 W8 := by rw [← hW8]; exact (Below.refl _ _).alloc (Nat.le_refl _) _
  have hb68 : Below W6.heap.size W6 W8 := hb7.trans (hb78.mono hb7.size)
  have bp : Blk W8 S 40 #[.slice a1 a2 a3, .slice d1 d2 d3, .string q.header] := by rw [← hW8, ← hS]; exact Blk.new _ _ _
  have hs8 : W8.heap.size = S + 1 := by rw [← hW8, ← hS]; simp
  have hc8 := HC6.out.below hb68
  have HB8 := Lib.hid (HB6.out.trans (hb68.mono (by have := HS6.out; omega)))
  have HS8 := Lib.hid hs8
  have HSM := Lib.hid (show M + 6 ≤ S by have := HS6.out; have := hb7.size; omega)
  have HBP := Lib.hid bp
  have HV1 := Lib.hid (in_below hv1 hb78)
  have HV2 := Lib.hid (in_below hv2 hb78)
  have HBR := Lib.hid hB
  have HC8 := Lib.hid hc8
  have HD08 := Lib.hid (HD06.out.below hb68 HD06.out.lt)
  have HT8 := Lib.hid (HET.out.below hb68 HET.out.lt)
  clear x0 x1 x2 y0 y1 y2 y3 y4 z0 z1 z2 z3 z4
  have y0 : W8.cell? ⟨M + 1 + 1 + 1, 0, none⟩ = some (.slice none 0 0) := hc8.c2.cell 0
  have y1 : W8.cell? ⟨M + 1 + 1 + 1, 1, none⟩ = some (.slice none 0 0) := hc8.c2.cell 1
  have y2 : W8.cell? ⟨M + 1 + 1 + 1, 2, none⟩ = some (.string ⟨#[]⟩) := hc8.c2.cell 2
  have y3 : W8.cell? ⟨M + 1 + 1 + 1 + 1, 0, none⟩ = some (.bool false) := hc8.c3.cell 0
  have y4 : W8.cell? ⟨M + 1 + 1 + 1 + 1 + 1, 0, none⟩ = some (.int .i64 0) := hc8.c4.cell 0
  have z0 := hc8.c2.frozen 0
  have z1 := hc8.c2.frozen 1
  have z2 := hc8.c2.frozen 2
  have z3 := hc8.c3.frozen 0
  have z4 := hc8.c4.frozen 0
  clear hv1 hv2 hb7 hB hb78 hb68 bp hs8 hc8 HBG HNA6 HNA HD0 HD1 HD2 HD3 HD4 HDT HBD HC6 HE1 HET
  cases ok with
  | false =>
    have HC := Lib.hid (HC8.out.set (.slice none 0 0) (.slice none 0 0) (.string ⟨#[]⟩) false 0)
    have HBS := Lib.hid (lpSet_below (M := M + 1) (N := M) (u1 := .slice none 0 0) (u2 := .slice none 0 0) (u3 := .string ⟨#[]⟩) (ok := false) (e := 0) HB8.out (by omega))
    gi_wp2
    exact ⟨_, results_pbe rfl _ _ (M + 1 + 1 + 1) (M + 1 + 1 + 1 + 1) (M + 1 + 1 + 1 + 1 + 1) 40 #[.slice none 0 0, .slice none 0 0, .string ⟨#[]⟩] (.bool false) (.int .i64 0) _ rfl rfl rfl HC.out.c2 (HC.out.c3.cell 0) (HC.out.c4.cell 0) Tryz.underlying40 rfl (by kernel_rfl) rfl rfl, _, _, ⟨[], [], ⟨#[]⟩⟩, false, 0, rfl, World.ownsRow_nil _ _ _ _, World.ownsRow_nil _ _ _ _, by rw [HM.out]; exact HBS.out, .inr ⟨HE.out, s, rfl, .inr ⟨HTO.out, q, false, HBR.out, .inl ⟨rfl, rfl, rfl, rfl⟩⟩⟩⟩
  | true =>
    have hq := (Sp.beg_ok HOK.out HBR.out).1
    have HQL := Lib.hid hq.ok.len
    have HQN := Lib.hid hq.ok.ne
    have HQS := Lib.hid hq.ok.st
    have hq3 : q.ports.length ≤ 1000000 := by have h1 := hq.ok.len; have h2 := hq.ok.ents; have h3 := HOK.out.2.2; omega
    have HQ3 := Lib.hid hq3
    clear hq hq3
    have x0 : W8.cell? ⟨S, 0, none⟩ = some (.slice a1 a2 a3) := HBP.out.cell 0
    have x1 : W8.cell? ⟨S, 1, none⟩ = some (.slice d1 d2 d3) := HBP.out.cell 1
    have x2 : W8.cell? ⟨S, 2, none⟩ = some (.string q.header) := HBP.out.cell 2
    have x3 : W8.cell? ⟨M + 1 + 1, 0, none⟩ = some (.int .i64 tp) := HT8.out.cell 0
    gi_wp2
    refine wpIn_noPanic ?_
    refine wpIn_region_K 4 (fun w' => w'.cell? ⟨S, 0, none⟩ = some (.slice a1 a2 a3) ∧ w'.cell? ⟨S, 1, none⟩ = some (.slice d1 d2 d3) ∧ w'.cell? ⟨S, 2, none⟩ = some (.string q.header) ∧ w'.cell? ⟨M + 1 + 1, 0, none⟩ = some (.int .i64 tp)) (by kernel_rfl) (fun hcl => ?_)
    have hS2 : (fun w' : World => w'.cell? ⟨S, 0, none⟩ = some (.slice a1 a2 a3) ∧ w'.cell? ⟨S, 1, none⟩ = some (.slice d1 d2 d3) ∧ w'.cell? ⟨S, 2, none⟩ = some (.string q.header) ∧ w'.cell? ⟨M + 1 + 1, 0, none⟩ = some (.int .i64 tp)) W8.drew := ⟨x0, x1, x2, x3⟩
    have hS := hS2
    clear x0 x1 x2 x3
    refine tkI 0 ?_ hcl hS ?_ (fun hcl2 => ?_); rotate_left
    · (intro w hSw; (try dsimp only at hSw); first | (go_simp; done) | (go_simp; with_reducible rfl))
    (try simp only [ly]); (try simp only [Act.put, pu]); clear hcl; have hcl := hcl2; clear hcl2
    refine tkI 3 ?_ hcl hS ?_ (fun hcl2 => ?_); rotate_left
    · (intro w hSw; (try dsimp only at hSw); first | (go_simp; done) | (go_simp; with_reducible rfl))
    (try simp only [ly]); (try simp only [Act.put, pu]); clear hcl; have hcl := hcl2; clear hcl2
    refine wpAnyKIn_one (i := 1) hcl (by kernel_rfl) rfl (by rfl) (fun K hK => ?_)
    simp only [ly]
    refine ⟨(fun _ _ => trivial), ?_⟩
    rw [show Fence.wide.round = none from rfl, Oper.semAt_none]
    go_simp
    refine (callsIn_wide.2 (step_last (B := M) (v1 := .slice a1 a2 a3) (v2 := .slice d1 d2 d3) (P := q.ports) q.header W8.drew (in_below (in_mono HV1.out (by have := HS6.out; omega)) (Below.refl _ _).drew) HQN.out HQ3.out)).mono ?_
    rintro r W9 ⟨rfl, hb9⟩
    have hb89 : Below W8.heap.size W8 W9 := ((Below.refl _ _).drew).trans hb9
    have HC9 := Lib.hid (HC8.out.below hb89)
    have HD09 := Lib.hid (HD08.out.below hb89 HD08.out.lt)
    have HT9 := Lib.hid (HT8.out.below hb89 HT8.out.lt)
    have HBP9 := Lib.hid (HBP.out.below hb89 HBP.out.lt)
    have HV19 := Lib.hid (in_below HV1.out hb89)
    have HV29 := Lib.hid (in_below HV2.out hb89)
    have HB9 := Lib.hid (HB8.out.trans (hb89.mono (by have := HS8.out; have := HSM.out; omega)))
    have HS9 := Lib.hid (show S + 1 ≤ W9.heap.size by have := HS8.out; have := hb89.size; omega)
    clear hS2 hb9 hb89
    have hS2 : (fun w' : World => w'.cell? ⟨S, 0, none⟩ = some (.slice a1 a2 a3) ∧ w'.cell? ⟨S, 1, none⟩ = some (.slice d1 d2 d3) ∧ w'.cell? ⟨S, 2, none⟩ = some (.string q.header) ∧ w'.cell? ⟨M + 1 + 1, 0, none⟩ = some (.int .i64 tp)) W9 := ⟨HBP9.out.cell 0, HBP9.out.cell 1, HBP9.out.cell 2, HT9.out.cell 0⟩
    refine hK.out _ _ (Or.inr hS2) (fun hcl2 => ?_)
    clear hK K hcl
    have hcl := hcl2
    clear hcl2
    obtain ⟨lq, hlq⟩ : ∃ lq, q.ports.getLastD 0 = lq := ⟨_, rfl⟩
    have HLQ := Lib.hid (show Sp.lastP q = lq from hlq)
    rw [hlq]
    clear hlq
    have hS := hS2
    have hrf := run_st_port lq q.header
    refine tkI 2 ?_ hcl hS ?_ (fun hcl2 => ?_); rotate_left
    · (intro w hSw; (try dsimp only at hSw); first | (go_simp; done) | (go_simp; with_reducible rfl))
    (try simp only [ly]); (try simp only [Act.put, pu]); clear hcl; have hcl := hcl2; clear hcl2
    clear hrf
    refine wpAnyKIn_one (i := 4) hcl (by kernel_rfl) rfl (by rfl) (fun K hK => ?_)
    simp only [ly]
    refine ⟨(fun f hf => by cases hf), ?_⟩
    rw [show Fence.wide.round = none from rfl, Oper.semAt_none]
    go_simp
    refine hK.out _ _ (Or.inl (by kernel_rfl)) (fun hcl2 => ?_)
    clear hK K hcl hcl2 hS hS2
    refine wpAnyKIn_done (by kernel_rfl) ?_ _
    refine NoPanic.normal ?_
    (try simp only [Act.put, pu])
    have x0 : W9.cell? ⟨S, 0, none⟩ = some (.slice a1 a2 a3) := HBP9.out.cell 0
    have x1 : W9.cell? ⟨S, 1, none⟩ = some (.slice d1 d2 d3) := HBP9.out.cell 1
    have x2 : W9.cell? ⟨S, 2, none⟩ = some (.string q.header) := HBP9.out.cell 2
    clear y0 y1 y2 y3 y4 z0 z1 z2 z3 z4
    have y0 : W9.cell? ⟨M + 1 + 1 + 1, 0, none⟩ = some (.slice none 0 0) := HC9.out.c2.cell 0
    have y1 : W9.cell? ⟨M + 1 + 1 + 1, 1, none⟩ = some (.slice none 0 0) := HC9.out.c2.cell 1
    have y2 : W9.cell? ⟨M + 1 + 1 + 1, 2, none⟩ = some (.string ⟨#[]⟩) := HC9.out.c2.cell 2
    have y3 : W9.cell? ⟨M + 1 + 1 + 1 + 1, 0, none⟩ = some (.bool false) := HC9.out.c3.cell 0
    have y4 : W9.cell? ⟨M + 1 + 1 + 1 + 1 + 1, 0, none⟩ = some (.int .i64 0) := HC9.out.c4.cell 0
    have z0 := HC9.out.c2.frozen 0
    have z1 := HC9.out.c2.frozen 1
    have z2 := HC9.out.c2.frozen 2
    have z3 := HC9.out.c3.frozen 0
    have z4 := HC9.out.c4.frozen 0
    clear hW8
    by_cases hlt : lq = tp
    case pos =>
      have t6 : (lq == tp) = true := beq_iff_eq.2 hlt
      have HLT := Lib.hid hlt
      have HC := Lib.hid (HC9.out.set (.slice a1 a2 a3) (.slice d1 d2 d3) (.string q.header) true 0)
      have HBS := Lib.hid (lpSet_below (M := M + 1) (N := M) (u1 := .slice a1 a2 a3) (u2 := .slice d1 d2 d3) (u3 := .string q.header) (ok := true) (e := 0) HB9.out (by omega))
      have HI1 := Lib.hid (in_mono (in_lpSet (M := M + 1) (u1 := .slice a1 a2 a3) (u2 := .slice d1 d2 d3) (u3 := .string q.header) (ok := true) (e := 0) HV19.out (by have := HS6.out; omega)) (show M ≤ M + 1 by omega))
      have HI2 := Lib.hid (in_mono (in_lpSet (M := M + 1) (u1 := .slice a1 a2 a3) (u2 := .slice d1 d2 d3) (u3 := .string q.header) (ok := true) (e := 0) HV29.out (by have := HS6.out; omega)) (show M ≤ M + 1 by omega))
      clear hlt
      gi_wp2
      exact ⟨_, results_pbe rfl _ _ (M + 1 + 1 + 1) (M + 1 + 1 + 1 + 1) (M + 1 + 1 + 1 + 1 + 1) 40 #[.slice a1 a2 a3, .slice d1 d2 d3, .string q.header] (.bool true) (.int .i64 0) _ rfl rfl rfl HC.out.c2 (HC.out.c3.cell 0) (HC.out.c4.cell 0) Tryz.underlying40 rfl (by kernel_rfl) rfl rfl, _, _, q, true, 0, rfl, by rw [HM.out]; exact HI1.out, by rw [HM.out]; exact HI2.out, by rw [HM.out]; exact HBS.out, .inr ⟨HE.out, s, rfl, .inr ⟨HTO.out, q, true, HBR.out, .inr (.inl ⟨rfl, HLQ.out.trans HLT.out, rfl, rfl, rfl⟩)⟩⟩⟩
    have t6 : (lq == tp) = false := beq_eq_false_iff_ne.2 hlt
    have HLT := Lib.hid hlt
    have hnok := Sp.beg_nok HOK.out HBR.out HTO.out (by rw [HLQ.out]; exact hlt)
    have HNOK := Lib.hid hnok.1
    clear hlt hnok
    have hfit := st_fit HNK.out HQS.out
    rw [HLQ.out] at hfit
    have HKEY := Lib.hid (show keyOf Tryz.prog 28 (.agg #[.int .i64 lq, .string q.header]) = some (stKey lq q.header) from stKey_of hfit.1 hfit.2.1 hfit.2.2)
    have HFIT := Lib.hid hfit
    have HVAL := Lib.hid (plainElem_int (H := Unit) Tryz.underlying3 (a := 0) (by decide))
    obtain ⟨T, hT⟩ : ∃ T, W9.heap.size = T := ⟨_, rfl⟩
    obtain ⟨Wm, hWm⟩ : ∃ Wm, W9.alloc (.map #[] 0) = Wm := ⟨_, rfl⟩
    have hmade : CameM Wm T 0 (.map []) := by rw [← hWm, ← hT]; exact World.ownsMap_made W9 _ _ _
    have hb9m : Below W9.heap.size W9 Wm := by rw [← hWm]; exact (Below.refl _ _).alloc (Nat.le_refl _) _
    have hbm : Blk Wm S 40 #[.slice a1 a2 a3, .slice d1 d2 d3, .string q.header] := HBP9.out.below hb9m HBP9.out.lt
    have HMADE := Lib.hid hmade
    have HB9M := Lib.hid hb9m
    have HBPM := Lib.hid hbm
    have HT := Lib.hid hT
    clear hfit x0 x1 x2 y0 y1 y2 y3 y4 z0 z1 z2 z3 z4 hmade hb9m hbm
    have x0 : Wm.cell? ⟨S, 0, none⟩ = some (.slice a1 a2 a3) := HBPM.out.cell 0
    have x1 : Wm.cell? ⟨S, 1, none⟩ = some (.slice d1 d2 d3) := HBPM.out.cell 1
    have x2 : Wm.cell? ⟨S, 2, none⟩ = some (.string q.header) := HBPM.out.cell 2
    have hmm := @run_makeMap Tryz.prog
    gi_wp2
    clear hmm
    refine ⟨trivial, ?_⟩
    refine (callsIn_wide.2 (step_last (B := W6.heap.size) (v1 := .slice a1 a2 a3) (v2 := .slice d1 d2 d3) (P := q.ports) q.header Wm (in_below HV19.out HB9M.out) HQN.out HQ3.out)).mono ?_
    rintro r W10 ⟨rfl, hb10⟩
    rw [show q.ports.getLastD 0 = lq from HLQ.out]
    have HB10 := Lib.hid (HB9M.out.trans (hb10.mono HB9M.out.size))
    have HM10 := Lib.hid (map_later HMADE.out hb10)
    have HBP10 := Lib.hid (HBPM.out.below hb10 HBPM.out.lt)
    clear x0 x1 x2 hb10 hWm
    obtain ⟨W11, hrun, hown1, hgr1⟩ := World.ownsMap.update HM10.out st_key Tryz.underlying75 (by unfold maxLen; omega) HKEY.out HVAL.out
    have hbp11 := map_blk HM10.out hgr1 HBP10.out
    obtain ⟨U, hU⟩ : ∃ U, W11.heap.size = U := ⟨_, rfl⟩
    obtain ⟨W12, hW12⟩ : ∃ W12, W11.alloc (.cells #[.map (some T)] 75) = W12 := ⟨_, rfl⟩
    have hb12 : Below W11.heap.size W11 W12 := by rw [← hW12]; exact (Below.refl _ _).alloc (Nat.le_refl _) _
    have hs12 : W12.heap.size = U + 1 := by rw [← hW12, ← hU]; simp
    have hmb12 : Blk W12 U 75 #[.map (some T)] := by rw [← hW12, ← hU]; exact Blk.new _ _ _
    have hbp12 := hbp11.below hb12 hbp11.lt
    have x0 : W12.cell? ⟨S, 0, none⟩ = some (.slice a1 a2 a3) := hbp12.cell 0
    have x1 : W12.cell? ⟨S, 1, none⟩ = some (.slice d1 d2 d3) := hbp12.cell 1
    have x2 : W12.cell? ⟨S, 2, none⟩ = some (.string q.header) := hbp12.cell 2
    have HB12 := Lib.hid hb12
    have HS12 := Lib.hid hs12
    have HMB12 := Lib.hid hmb12
    have HOWN1 := Lib.hid hown1
    have HGR1 := Lib.hid hgr1
    have HBP11 := Lib.hid hbp11
    clear hown1 hgr1 hbp11 hbp12 hb12 hs12 hmb12
    gi_wp2
    clear hrun hW12
    obtain ⟨VL, hVL⟩ : ∃ VL, (W12.alloc (.cells #[.slice a1 a2 a3, .slice d1 d2 d3, .string q.header] 40)).alloc (.cells #[.slice (some ⟨W12.heap.size, 0, none⟩) 1 1] 29) = VL := ⟨_, rfl⟩
    have hbv2 : Below W12.heap.size W12 VL := by rw [← hVL]; exact ((Below.refl _ _).alloc (Nat.le_refl _) _).alloc (by simp) _
    have hbv : Below W11.heap.size W11 VL := HB12.out.trans (hbv2.mono HB12.out.size)
    have hmbx : Blk VL U 75 #[.map (some T)] := HMB12.out.below hbv2 HMB12.out.lt
    have hbox : Boxed VL (U + 1 + 1) 29 (.slice (some ⟨U + 1, 0, none⟩) 1 1) := by rw [← hVL, HS12.out]; exact blk_at (by rw [World.size_alloc, HS12.out])
    have hrw : PtR VL (U + 1) (.slice (some ⟨U + 1, 0, none⟩) 1 1) [⟨.slice a1 a2 a3, .slice d1 d2 d3, q⟩] := by
      have h1 := World.ownsRow_lit (base := U + 1) (e := 40) (size := 3) W12 #[.slice a1 a2 a3, .slice d1 d2 d3, .string q.header] 1 (Nat.le_of_eq HS12.out.symm) (by unfold maxLen; omega) (by rfl)
      rw [HS12.out] at h1
      rw [← hVL]
      exact World.ownsRow.alloc h1 _
    have hTU : T < U := by have := HOWN1.out.lt; omega
    have h911 : Below W9.heap.size W9 W11 := HB10.out.grown HGR1.out (by have := HB10.out.size; omega) (fun k e => by cases e; exact Nat.le_of_eq HT.out)
    have h9v : Below W9.heap.size W9 VL := h911.trans (hbv.mono h911.size)
    have hST : S < T := by have := HS9.out; have := HT.out; omega
    have HL0 := Lib.hid (show ReI n s h tp hops M S T U #[.int .i64 b, .slice A1 np c1, .slice A2 nt c2, .slice A3 ng c3] w [] [⟨.slice a1 a2 a3, .slice d1 d2 d3, q⟩] VL from
      ⟨HD09.out.below h9v HD09.out.lt, HT9.out.below h9v HT9.out.lt, HC9.out.below h9v, ⟨_, _, _, HBP9.out.below h9v HBP9.out.lt⟩, hmbx, ⟨_, 1, map_later HOWN1.out hbv, Nat.le_refl _, by
        have h9 := CameD.first.put (y := q) (by rw [HLQ.out]; exact HFIT.out) (.lit (.int .i64 0))
        rw [HLQ.out] at h9
        exact h9⟩, ⟨_, hbox, hrw⟩, fun x hx => by
        obtain rfl := List.mem_singleton.1 hx
        exact ⟨in_mono (in_below HV19.out h9v) (by have := HS6.out; omega), in_mono (in_below HV29.out h9v) (by have := HS6.out; omega)⟩, by simp, HB9.out.trans (h9v.mono (by have := HS9.out; have := HSM.out; omega)), (fun D hD => by cases hD), List.nodup_nil⟩)
    have HNJ0 := Lib.hid (Sp.NJ.first HNOK.out)
    have HST := Lib.hid hST
    have HTU := Lib.hid hTU
    have HUE := Lib.hid hU
    have hs12 := HS12.out
    rw [hVL]
    (try rw [hs12])
    (try rw [hU])
    clear hVL hs12 hbv hbv2 hmbx hbox hrw hTU h911 h9v hST x0 x1 x2
    refine wpIn_loop (ReA n s h tp hops q M S T U #[.int .i64 b, .slice A1 np c1, .slice A2 nt c2, .slice A3 ng c3] w) (fun a' _ => 4097 - (intOf (a'.tmps.getD 16 undef)).toNat) ⟨[], _, 0, RFr.of _ _ _ _ _ _ _ _ _ _ _ _ _ _ _ _ _ _ _ _ _ _ _ _ _ _ _ _ _ _ _ _ _ _ _ _ _ _ _ _ _ _ _ _ _ _ _ _ _ _ _ _ _ _ _ _ _ _ _ _ _ _ _ _ _ _ _ _ _ _ _ _ _ _ _ _ _ _ _ _ _ _ _ _ _ _ _ _ _ _ _ _ _ _ _ _ _ _ _ _ _ _ _ _ _ _ _ _ _ _ _, HL0.out, HNJ0.out, by simp⟩ ?_
    rintro a' W ⟨Ds, xs, cur, ⟨u, rfl⟩, hI, hJ, hcur⟩
    obtain ⟨v, hbx, hrw⟩ := hI.row
    obtain ⟨Av, cv, rfl⟩ := ptr_slice hrw
    obtain ⟨L, hL⟩ : ∃ L, xs.length = L := ⟨_, rfl⟩
    rw [hL] at hbx hrw hcur
    have HI := Lib.hid hI
    have HJ := Lib.hid hJ
    have HRW := Lib.hid hrw
    have HBX := Lib.hid hbx
    have HL := Lib.hid hL
    have w0 : W.cell? ⟨U + 1 + 1, 0, none⟩ = some (.slice Av L cv) := hbx.cell
    have k0 : (0 : Int) ≤ (cur : Int) := by omega
    have y0 : W.cell? ⟨M + 1 + 1 + 1, 0, none⟩ = some (.slice none 0 0) := hI.res.c2.cell 0
    have y1 : W.cell? ⟨M + 1 + 1 + 1, 1, none⟩ = some (.slice none 0 0) := hI.res.c2.cell 1
    have y2 : W.cell? ⟨M + 1 + 1 + 1, 2, none⟩ = some (.string ⟨#[]⟩) := hI.res.c2.cell 2
    have y3 : W.cell? ⟨M + 1 + 1 + 1 + 1, 0, none⟩ = some (.bool false) := hI.res.c3.cell 0
    have y4 : W.cell? ⟨M + 1 + 1 + 1 + 1 + 1, 0, none⟩ = some (.int .i64 0) := hI.res.c4.cell 0
    have z0 := hI.res.c2.frozen 0
    have z1 := hI.res.c2.frozen 1
    have z2 := hI.res.c2.frozen 2
    have z3 := hI.res.c3.frozen 0
    have z4 := hI.res.c4.frozen 0
    by_cases hlt : cur < L
    case neg =>
      have s1 : decide ((cur : Int) < (L : Int)) = false := decide_eq_false (by omega)
      have s1' : decide (cur < L) = false := decide_eq_false hlt
      have HC := Lib.hid (hI.res.set (.slice none 0 0) (.slice none 0 0) (.string ⟨#[]⟩) false 0)
      have HBS := Lib.hid (lpSet_below (M := M + 1) (N := M) (u1 := .slice none 0 0) (u2 := .slice none 0 0) (u3 := .string ⟨#[]⟩) (ok := false) (e := 0) hI.below (by omega))
      have HNO := Lib.hid (hJ.stop (List.getElem?_eq_none (by rw [List.length_map, hL]; omega)))
      have HDS := Lib.hid (show ∀ D ∈ Ds, M ≤ D ∧ (lpSet (M + 1) (.slice none 0 0) (.slice none 0 0) (.string ⟨#[]⟩) false 0 W).heap[D]? = some (.deferred (some [])) from fun D hD => ⟨(hI.ds D hD).1, (lpSet_others W).same D _ (hI.ds D hD).2 rfl⟩)
      have HND := Lib.hid hI.once
      clear hI hJ hbx hrw hL hlt HI HJ HRW HBX
      gi_wp2
      refine leaves_keep HM.out Ds _ HDS.out HND.out (fun W' hW' hk => ?_)
      have hc' := HC.out.kc hk
      exact ⟨_, results_pbe rfl _ _ (M + 1 + 1 + 1) (M + 1 + 1 + 1 + 1) (M + 1 + 1 + 1 + 1 + 1) 40 #[.slice none 0 0, .slice none 0 0, .string ⟨#[]⟩] (.bool false) (.int .i64 0) _ rfl rfl rfl hc'.c2 (hc'.c3.cell 0) (hc'.c4.cell 0) Tryz.underlying40 rfl (by kernel_rfl) rfl rfl, _, _, ⟨[], [], ⟨#[]⟩⟩, false, 0, rfl, World.ownsRow_nil _ _ _ _, World.ownsRow_nil _ _ _ _, by rw [HM.out]; exact HBS.out.trans hW', .inr ⟨HE.out, s, rfl, .inr ⟨HTO.out, q, true, HBR.out, .inr (.inr ⟨rfl, by rw [HLQ.out]; exact HLT.out, .none, HNO.out, rfl, rfl, rfl⟩)⟩⟩⟩
    case pos =>
      obtain ⟨⟨e1, e2, ⟨P, Es, hd⟩⟩, hx⟩ : ∃ x, xs[cur]? = some x := ⟨_, List.getElem?_eq_getElem (by rw [HL.out]; exact hlt)⟩
      obtain ⟨hp1, hp2⟩ := hI.each _ (List.mem_of_getElem? hx)
      obtain ⟨B1, k1, he1, hk1, _⟩ := in_view hp1
      obtain ⟨B2, k2, he2, hk2, _⟩ := in_view hp2
      simp only [] at hp1 hp2 he1 he2 hk1 hk2
      subst he1
      subst he2
      rcases hrw.2 with ⟨_, h0⟩ | ⟨g, cv', cu, hvg, hg2, hg3, _⟩
      · omega
      obtain ⟨rfl, rfl⟩ : Av = some ⟨g, 0, none⟩ ∧ cv = cv' := by injection hvg with q1 q2 q3; exact ⟨q1, q3⟩
      have hxi : (xs.map PathV.path)[cur]? = some ⟨P, Es, hd⟩ := by rw [List.getElem?_map, hx]; rfl
      have hcell : ∀ j, j < 3 → W.cell? ⟨g, cur * 3 + j, none⟩ = (ptC ⟨.slice B1 P.length k1, .slice B2 Es.length k2, ⟨P, Es, hd⟩⟩)[j]? := fun j hj => by
        have hrw2 : W.ownsRow (U + 1) 40 3 (.slice (some ⟨g, 0, none⟩) L cv) L (xs.flatMap ptC) := by have h9 := hrw; unfold PtR at h9; rw [hL] at h9; exact h9
        rw [hrw2.cellAt (cur * 3 + j) (by omega), pts_flat xs cur _ hx j hj]
      have cc0 : W.cell? ⟨g, cur * 3, none⟩ = some (.slice B1 P.length k1) := hcell 0 (by omega)
      have cc1 : W.cell? ⟨g, cur * 3 + 1, none⟩ = some (.slice B2 Es.length k2) := hcell 1 (by omega)
      have cc2 : W.cell? ⟨g, cur * 3 + 2, none⟩ = some (.string hd) := hcell 2 (by omega)
      have hMS : M + 6 ≤ S := HSM.out
      obtain ⟨u1, u2, u3, hpx⟩ := hI.px
      have v0 : W.cell? ⟨S, 0, none⟩ = some u1 := hpx.cell 0
      have v1 : W.cell? ⟨S, 1, none⟩ = some u2 := hpx.cell 1
      have v2 : W.cell? ⟨S, 2, none⟩ = some u3 := hpx.cell 2
      have v3 := hpx.frozen 0
      have v4 := hpx.frozen 1
      have v5 := hpx.frozen 2
      obtain ⟨W3, hW3⟩ : ∃ W3, ((W.setCell ⟨S, 0, none⟩ (.slice B1 P.length k1)).setCell ⟨S, 1, none⟩ (.slice B2 Es.length k2)).setCell ⟨S, 2, none⟩ (.string hd) = W3 := ⟨_, rfl⟩
      have hI3 : ReI n s h tp hops M S T U #[.int .i64 b, .slice A1 np c1, .slice A2 nt c2, .slice A3 ng c3] w Ds xs W3 := by rw [← hW3]; exact ((hI.put hMS HST.out HTU.out 0 _).put hMS HST.out HTU.out 1 _).put hMS HST.out HTU.out 2 _
      have hP3 : Blk W3 S 40 #[.slice B1 P.length k1, .slice B2 Es.length k2, .string hd] := by rw [← hW3]; exact ((hpx.set_ 0 _).set_ 1 _).set_ 2 _
      have p1 : decide ((cur : Int) < (L : Int)) = true := decide_eq_true (by omega)
      have p2 : decide (cur < L) = true := decide_eq_true hlt
      have p3 : (cur : Int) < (L : Int) := by omega
      have zk : IntKind.i64.wrap ((cur : Int) + 1) = (cur : Int) + 1 := by have := hI.few; rw [IntKind.wrap_i64]; omega
      have w1 : W3.cell? ⟨S, 1, none⟩ = some (.slice B2 Es.length k2) := hP3.cell 1
      have HI3 := Lib.hid hI3
      have HP3 := Lib.hid hP3
      have HXI := Lib.hid hxi
      have HX := Lib.hid hx
      have HLTL := Lib.hid (show cur < L ∧ L ≤ 4096 from ⟨hlt, by have := hI.few; omega⟩)
      by_cases heq : (Es.length : Int) = hops
      case pos =>
        have te2 : ((Es.length : Int) == hops) = true := beq_iff_eq.2 heq
        have HON := Lib.hid (HJ.out.full hxi heq)
        clear hI hJ hbx hrw hL hlt HI HRW HBX hx hp1 hp2 hk1 hk2 hvg hg2 hg3 hcell hpx hI3 hP3 heq hxi
        gi_wp2
        refine ⟨⟨Ds, xs, cur + 1, RFr.of _ _ _ _ _ _ _ _ _ _ _ _ _ _ _ _ _ _ _ _ _ _ _ _ _ _ _ _ _ _ _ _ _ _ _ _ _ _ _ _ _ _ _ _ _ _ _ _ _ _ _ _ _ _ _ _ _ _ _ _ _ _ _ _ _ _ _ _ _ _ _ _ _ _ _ _ _ _ _ _ _ _ _ _ _ _ _ _ _ _ _ _ _ _ _ _ _ _ _ _ _ _ _ _ _ _ _ _ _ _ _, HI3.out, HON.out, by rw [HL.out]; have := HLTL.out; omega⟩, ?_⟩
        have := HLTL.out
        simp [intOf]
        omega
      case neg =>
        have te2 : ((Es.length : Int) == hops) = false := beq_eq_false_iff_ne.2 heq
        have HNEQ := Lib.hid heq
        have hG := hJ.inv.ok _ (List.mem_of_getElem? hxi)
        have hpl := hG.ok.len
        have hpe := hG.ok.ents
        have h64 := HOK.out.2.2
        simp only [] at hpl hpe
        obtain ⟨k, hk⟩ : ∃ k : Nat, Sp.lastP ⟨P, Es, hd⟩ = (k : Int) := ⟨(Sp.lastP ⟨P, Es, hd⟩).toNat, by have := hG.ok.st.port.1; omega⟩
        have hsl := step_last (B := M) (v1 := .slice B1 P.length k1) (v2 := .slice B2 Es.length k2) (P := P) hd W3 (hI3.each _ (List.mem_of_getElem? hx)).1 hG.ok.ne (show P.length ≤ 1000000 by omega)
        rw [show (P.getLastD 0) = (k : Int) from hk] at hsl
        have HSL := Lib.hid hsl
        have HGX := Lib.hid hG
        have HLK := Lib.hid hk
        have HRI := Lib.hid (Sp.RJ.first hJ.inv hxi heq)
        have HPE := Lib.hid (show P.length ≤ 130 ∧ Es.length ≤ 64 by omega)
        have w2 : W3.cell? ⟨S, 0, none⟩ = some (.slice B1 P.length k1) := hP3.cell 0
        have w3 : W3.cell? ⟨S, 2, none⟩ = some (.string hd) := hP3.cell 2
        clear hI hJ hbx hrw hL hlt HI HRW HBX hx hp1 hp2 hk1 hk2 hvg hg2 hg3 hcell hpx hI3 hP3 heq hxi hG hpl hpe h64 hk hsl
        gi_wp2
        refine ⟨trivial, ?_⟩
        refine (callsIn_wide.2 HSL.out).mono ?_
        rintro e W4 ⟨rfl, hb4⟩
        clear w0 w1 w2 w3 y0 y1 y2 y3 y4 z0 z1 z2 z3 z4 cc0 cc1 cc2 v0 v1 v2 v3 v4 v5 hW3
        have HI4 := Lib.hid (HI3.out.later hb4)
        have HP4 := Lib.hid (HP3.out.below hb4 HP3.out.lt)
        clear hb4
        gi_wp2
        refine ⟨trivial, ?_⟩
        refine (step_moves _ M k hd W4).mono ?_
        rintro e w' ⟨rfl, rfl⟩
        obtain ⟨A, hA⟩ : ∃ A, W4.heap.size = A := ⟨_, rfl⟩
        obtain ⟨V, hV⟩ : ∃ V, (W4.alloc (.cells #[.pointer (some ⟨M, 0, none⟩)] 59)).alloc (.cells #[.int .i64 (k : Int), .string hd] 28) = V := ⟨_, rfl⟩
        have hvb : Below W4.heap.size W4 V := by rw [← hV]; exact ((Below.refl _ _).alloc (Nat.le_refl _) _).alloc (by simp) _
        have bN : Blk V A 59 #[.pointer (some ⟨M, 0, none⟩)] := by rw [← hV, ← hA]; exact (Blk.new W4 _ _).alloc _
        have bS : Blk V (A + 1) 28 #[.int .i64 (k : Int), .string hd] := by rw [← hV]; exact blk_at (by rw [World.size_alloc]; omega)
        have HIV := Lib.hid (HI4.out.later hvb)
        have HPV := Lib.hid (HP4.out.below hvb HP4.out.lt)
        obtain ⟨v, hbx, hrw⟩ := HIV.out.row
        have hbw : Below w.heap.size w V := by rw [HM.out]; exact HIV.out.below
        have hXin : ∀ W' b cs, Below V.heap.size V W' → V.heap.size ≤ b → Blk W' b 44 cs → ¬ rowX (U + 1 + 1) W' b := fun W' b cs hb hle _ hx => by
          have h1 := rowX_low (U + 1 + 1) V W' b (hb.mono (Blk.lt hbx)) hx
          have h2 := xin_row hbx hrw b h1
          omega
        have hst := moves_stopsX 8 M A (A + 1) (U + 1 + 1 + 1) (rowX (U + 1 + 1)) (XLow.ok (rowX_low (U + 1 + 1))) n k hd (Sp.mvOk_of HNK.out (by have := HGX.out.ok.st; rw [HLK.out] at this; exact this)) w V (by omega) [.int .i64 b, .slice A1 np c1, .slice A2 nt c2, .slice A3 ng c3] HNR.out ⟨HIV.out.net.lt, fun f u hf => by rw [HIV.out.net.cell f, ← Array.getElem?_toList]; exact hf⟩ (blk_far HIV.out.net (by decide) (by decide) hbx hrw) hbw (Blk.lt hbx) hXin (blk_far bN (by decide) (by decide) hbx hrw) (bN.cell 0) (bS.cell 0) (bS.cell 1)
        have HST2 := Lib.hid hst
        clear hvb bN bS hbx hrw hbw hXin hst HI4 HP4
        rw [hA]
        gi_wp2
        clear hV
        have HDL := Lib.hid (show ∀ D ∈ Ds, D < V.heap.size from fun D hD => heap_lt (HIV.out.ds D hD).2)
        have HMV := Lib.hid (show M ≤ V.heap.size by have := HIV.out.net.lt; omega)
        have HWV := Lib.hid (show w.heap.size ≤ V.heap.size by rw [HM.out]; exact HMV.out)
        have HSV := Lib.hid (show U + 1 + 1 + 1 ≤ V.heap.size by obtain ⟨v, hbx, _⟩ := HIV.out.row; exact Blk.lt hbx)
        have HTV := Lib.hid (show T < V.heap.size by have := HSV.out; have := HTU.out; omega)
        have HNDS := Lib.hid HIV.out.once
        refine wpIn_rangeFunc_ownH rfl (by omega) (gf := 38) (lb := #[.pointer (some ⟨A, 0, none⟩), .pointer (some ⟨A + 1, 0, none⟩)]) rfl trivial (enters_of Tryz.func38 (by kernel_rfl) rfl)
          HST2.out KpX.trans (KpX.book (XLow.ok (rowX_low (U + 1 + 1))) HWV.out HSV.out) (Below.refl _ _) (fun _ => rfl)
          (fun ms W' => ∃ xs', ReI n s h tp hops M S T U #[.int .i64 b, .slice A1 np c1, .slice A2 nt c2, .slice A3 ng c3] w Ds xs' W' ∧ Blk W' S 40 #[.slice B1 P.length k1, .slice B2 Es.length k2, .string hd] ∧ Sp.RJ n s h tp hops q (xs.map PathV.path) (xs'.map PathV.path) cur ⟨P, Es, hd⟩ (subV ms) ∧ InR W' M (.slice B1 P.length k1) P ∧ InR W' M (.slice B2 Es.length k2) Es ∧ V.heap.size ≤ W'.heap.size)
          (fun c (ms : List { x : Sp.Mv // x ∈ Sp.movesV n k hd }) W' => c = .ret ∧ ReX n tp hops M w Ds (xs.map PathV.path) cur (subV ms) W')
          (fun ms X' Y row hs hg hr => by
            obtain ⟨xs', h1, h2, h3, h4, h5, h6⟩ := hs
            have hr2 : ∀ r, row = some r → ∃ o : Obj, X'.heap[r]? = some o ∧ TurnOk o := fun r e => by obtain ⟨_, o, h1, h2⟩ := hr r e; exact ⟨o, h1, .inl h2⟩
            exact ⟨xs', ReI.own (β := Unit) (Nat.le_of_eq HM.out.symm) HMV.out HTV.out HDL.out () X' Y row h1 hg hr, own_blk (β := Unit) _ _ _ _ () X' Y row h2 hg hr, h3, row_turn h4 hg hr2, row_turn h5 hg hr2, Nat.le_trans h6 hg.size⟩)
          (fun c (ms : List { x : Sp.Mv // x ∈ Sp.movesV n k hd }) X' Y row hs hg hr => ⟨hs.1, ReX.own (β := Unit) (Nat.le_of_eq HM.out.symm) HMV.out HDL.out () X' Y row hs.2 hg hr⟩)
          ⟨xs, HIV.out, HPV.out, HRI.out, (HIV.out.each _ (List.mem_of_getElem? HX.out)).1, (HIV.out.each _ (List.mem_of_getElem? HX.out)).2, Nat.le_refl _⟩
          (fun x a' W' => ∃ Bx, V.heap.size ≤ Bx ∧ Blk W' Bx 66 #[.int .i64 x.1.entry, .int .i64 x.1.out, .int .i64 x.1.inn, .string x.1.header] ∧ RGr M S U cur Bx hops a')
          (fun x a' _ X' Y row hs hg hr => by
            obtain ⟨Bx, h1, h2, h3⟩ := hs
            exact ⟨Bx, h1, own_blk (β := Unit) _ Bx _ _ () X' Y row h2 hg hr, h3⟩)
          ?assign ?body ?done ?stop
        case assign =>
          rintro l2 ms ⟨⟨xe, xo, xi, xh⟩, hx⟩ C K ⟨xs', h1, h2, h3, h4, h5, h6⟩ hK
          dsimp only [mvC]
          have HH1 := Lib.hid (And.intro h1 (And.intro h2 (And.intro h3 (And.intro h4 (And.intro h5 h6)))))
          clear h1 h2 h3 h4 h5 h6 HST2
          gi_wp2
          obtain ⟨h1, h2, h3, h4, h5, h6⟩ := HH1.out
          have hb : Below C.heap.size C (C.alloc (.cells #[.int .i64 xe, .int .i64 xo, .int .i64 xi, .string xh] 66)) := (Below.refl _ C).alloc (Nat.le_refl _) _
          exact hK _ _ ((KeepsOthers.alloc _ _).from _) (KpX.of_below (XLow.ok (rowX_low (U + 1 + 1))) hb (Nat.le_trans HWV.out h6) (Nat.le_trans HSV.out h6)) ⟨xs', h1.later hb, h2.alloc _, h3, in_below h4 hb, in_below h5 hb, Nat.le_trans h6 hb.size⟩ ⟨C.heap.size, h6, Blk.new _ _ _, RGr.of _ _ _ _ _ _ _ _ _ _ _ _ _ _ _ _ _ _ _ _ _ _ _ _ _ _ _ _ _ _ _ _ _ _ _ _ _ _ _ _ _ _ _ _ _ _ _ _ _ _ _ _ _ _ _ _ _ _ _ _ _ _ _ _ _ _ _ _ _ _ _ _ _ _ _ _ _ _ _ _ _ _ _ _ _ _ _ _ _ _ _ _ _ _ _ _ _ _ _ _ _ _ _ _ _ _ _ _ _ _⟩
        case body =>
          rintro l2 ms ⟨⟨xe, xo, xi, xh⟩, hx⟩ a' C hl2 _ ⟨xs', h1, h2, h3, h4, h5, h6⟩ ⟨Bx, hBx, hkx, ⟨u2, rfl⟩⟩ hlen
          have hkx' : Blk C Bx 66 #[.int .i64 xe, .int .i64 xo, .int .i64 xi, .string xh] := hkx
          obtain ⟨qp, hqp, _⟩ := HGX.out.ok.port
          rw [HLK.out, Int.toNat_natCast] at hqp
          have hkd := mv_kind HNK.out hqp hx
          have hmv : (⟨xe, xo, xi, xh⟩ : Sp.Mv) ∈ Sp.movesV n (Sp.lastP ⟨P, Es, hd⟩).toNat hd := by rw [HLK.out, Int.toNat_natCast]; exact hx
          have hok2 := (HGX.out.ok.next HNK.out (HGX.out.go h3.rn.lt hmv) hmv).1
          have hfit2 := st_fit HNK.out hok2.st
          have hle2 := hok2.len
          have hen2 := hok2.ents
          have h642 := HOK.out.2.2
          have hlen2 : (P ++ Sp.ifL xo ++ Sp.ifL xi).length ≤ 1000000 := by
            show (Sp.onP ⟨P, Es, hd⟩ ⟨xe, xo, xi, xh⟩).ports.length ≤ 1000000
            omega
          have HNE2 := Lib.hid (show P ++ Sp.ifL xo ++ Sp.ifL xi ≠ [] from hok2.ne)
          have HLEN2 := Lib.hid hlen2
          have q2 : C.cell? ⟨S, 0, none⟩ = some (.slice B1 P.length k1) := h2.cell 0
          have q3 : C.cell? ⟨S, 1, none⟩ = some (.slice B2 Es.length k2) := h2.cell 1
          have q4 : C.cell? ⟨S, 2, none⟩ = some (.string hd) := h2.cell 2
          have q5 : C.cell? ⟨Bx, 0, none⟩ = some (.int .i64 xe) := hkx'.cell 0
          have q6 : C.cell? ⟨Bx, 1, none⟩ = some (.int .i64 xo) := hkx'.cell 1
          have q7 : C.cell? ⟨Bx, 2, none⟩ = some (.int .i64 xi) := hkx'.cell 2
          have q8 : C.cell? ⟨Bx, 3, none⟩ = some (.string xh) := hkx'.cell 3
          obtain ⟨lw, hlw⟩ : ∃ lw, (P ++ Sp.ifL xo ++ Sp.ifL xi).getLastD 0 = lw := ⟨_, rfl⟩
          have hfit3 : StFit lw xh := by rw [← hlw]; exact hfit2
          have HLW := Lib.hid hlw
          have HKEY2 := Lib.hid (show keyOf Tryz.prog 28 (.agg #[.int .i64 lw, .string xh]) = some (stKey lw xh) from stKey_of hfit3.1 hfit3.2.1 hfit3.2.2)
          have HFIT2 := Lib.hid hfit3
          have G1 := Lib.hid h1
          have G2 := Lib.hid h2
          have G3 := Lib.hid h3
          have G4 := Lib.hid h4
          have G5 := Lib.hid h5
          have G6 := Lib.hid h6
          have GK := Lib.hid hkx'
          have GKD := Lib.hid hkd
          have GMV := Lib.hid hmv
          have GHX := Lib.hid hx
          have HMX := Lib.hid (show ∀ Wq, ReX n tp hops M w Ds (xs.map PathV.path) cur (subV ms ++ [⟨xe, xo, xi, xh⟩]) Wq → ReX n tp hops M w Ds (xs.map PathV.path) cur (subV (ms ++ [(⟨⟨xe, xo, xi, xh⟩, hx⟩ : { x : Sp.Mv // x ∈ Sp.movesV n k hd })])) Wq from fun Wq hq => by rw [subV_snoc]; exact hq)
          clear h1 h2 h3 h4 h5 h6 hkx hkx' hqp hkd hmv hlen hl2 hBx HST2 hok2 hfit2 hle2 hen2 h642 hlen2 hlw hfit3
          gi_wp2
          refine ⟨trivial, ?_⟩
          refine (CallsIn.inRound l2 (callsIn_wide.2 (step_on (B := M) (P := P) (E := Es) hd ⟨xe, xo, xi, xh⟩ C G4.out G5.out (by have := HPE.out; omega) (by have := HPE.out; omega) GKD.out))).mono ?_
          rintro e C2 ⟨s1, s2, r1, r2, rfl, hs1, hs2, hr1, hr2, hb2⟩
          clear q2 q3 q4 q5 q6 q7 q8
          obtain ⟨D1, l1, d1, rfl⟩ := in_slice hs1
          obtain ⟨D2, l2', d2, rfl⟩ := in_slice hs2
          obtain ⟨D3, l3, d3, rfl⟩ := in_slice hr1
          obtain ⟨D4, l4, d4, rfl⟩ := in_slice hr2
          obtain ⟨Z, hZ⟩ : ∃ Z, C2.heap.size = Z := ⟨_, rfl⟩
          obtain ⟨C4, hC4⟩ : ∃ C4, (C2.alloc (.cells #[.slice D1 l1 d1, .slice D2 l2' d2, .string xh] 40)).alloc (.cells #[.slice D3 l3 d3, .slice D4 l4 d4, .string xh] 40) = C4 := ⟨_, rfl⟩
          have hb24 : Below C2.heap.size C2 C4 := by rw [← hC4]; exact ((Below.refl _ _).alloc (Nat.le_refl _) _).alloc (by simp) _
          have hbc : Below C.heap.size C C4 := hb2.trans (hb24.mono hb2.size)
          have bs : Blk C4 Z 40 #[.slice D1 l1 d1, .slice D2 l2' d2, .string xh] := by rw [← hC4, ← hZ]; exact (Blk.new _ _ _).alloc _
          have bw : Blk C4 (Z + 1) 40 #[.slice D3 l3 d3, .slice D4 l4 d4, .string xh] := by rw [← hC4]; exact blk_at (by rw [World.size_alloc]; omega)
          have K1 := Lib.hid (G1.out.later hbc)
          have K2 := Lib.hid (G2.out.below hbc G2.out.lt)
          have K4 := Lib.hid (in_below G4.out hbc)
          have K5 := Lib.hid (in_below G5.out hbc)
          have KK := Lib.hid (GK.out.below hbc GK.out.lt)
          have KS := Lib.hid bs
          have KW := Lib.hid bw
          have N1 := Lib.hid (in_below hs1 hb24)
          have N2 := Lib.hid (in_below hs2 hb24)
          have N3 := Lib.hid (in_below hr1 hb24)
          have N4 := Lib.hid (in_below hr2 hb24)
          have HBC := Lib.hid hbc
          have hMC : M + 6 ≤ C.heap.size := by have := G6.out; have := HSV.out; have := HSM.out; have := HST.out; have := HTU.out; omega
          have HMC := Lib.hid hMC
          have q6 : C4.cell? ⟨Bx, 1, none⟩ = some (.int .i64 xo) := KK.out.cell 1
          have q7 : C4.cell? ⟨Bx, 2, none⟩ = some (.int .i64 xi) := KK.out.cell 2
          have q9 : C4.cell? ⟨M + 1 + 1, 0, none⟩ = some (.int .i64 tp) := K1.out.tob.cell 0
          have y0 : C4.cell? ⟨M + 1 + 1 + 1, 0, none⟩ = some (.slice none 0 0) := K1.out.res.c2.cell 0
          have y1 : C4.cell? ⟨M + 1 + 1 + 1, 1, none⟩ = some (.slice none 0 0) := K1.out.res.c2.cell 1
          have y2 : C4.cell? ⟨M + 1 + 1 + 1, 2, none⟩ = some (.string ⟨#[]⟩) := K1.out.res.c2.cell 2
          have y3 : C4.cell? ⟨M + 1 + 1 + 1 + 1, 0, none⟩ = some (.bool false) := K1.out.res.c3.cell 0
          have y4 : C4.cell? ⟨M + 1 + 1 + 1 + 1 + 1, 0, none⟩ = some (.int .i64 0) := K1.out.res.c4.cell 0
          have z0 := K1.out.res.c2.frozen 0
          have z1 := K1.out.res.c2.frozen 1
          have z2 := K1.out.res.c2.frozen 2
          have z3 := K1.out.res.c3.frozen 0
          have z4 := K1.out.res.c4.frozen 0
          have t0 : C4.cell? ⟨Z, 0, none⟩ = some (.slice D1 l1 d1) := KS.out.cell 0
          have t1 : C4.cell? ⟨Z, 1, none⟩ = some (.slice D2 l2' d2) := KS.out.cell 1
          have t2 : C4.cell? ⟨Z, 2, none⟩ = some (.string xh) := KS.out.cell 2
          have t3 : C4.cell? ⟨Z + 1, 0, none⟩ = some (.slice D3 l3 d3) := KW.out.cell 0
          have t4 : C4.cell? ⟨Z + 1, 1, none⟩ = some (.slice D4 l4 d4) := KW.out.cell 1
          have t5 : C4.cell? ⟨Z + 1, 2, none⟩ = some (.string xh) := KW.out.cell 2
          clear hs1 hs2 hr1 hr2 hb2 hb24 hbc bs bw hMC
          by_cases h7 : xo = tp
          case pos =>
            have s7 : (xo == tp) = true := beq_iff_eq.2 h7
            have HLX := Lib.hid (rex_of (p := Sp.shortP ⟨P, Es, hd⟩ ⟨xe, xo, xi, xh⟩) (ok := true) (e := 0) (r := .found (Sp.shortP ⟨P, Es, hd⟩ ⟨xe, xo, xi, xh⟩)) K1.out.res N1.out N2.out HMC.out K1.out.below K1.out.ds (G3.out.stops (m := ⟨xe, xo, xi, xh⟩) (fun rest => Sp.bstep_short G3.out.rn.here h7)) ⟨rfl, rfl, rfl⟩)
            clear h7
            gi_wp2
            exact ⟨(keeps_below HBC.out).trans ((lpSet_others C4).from _), rfl, HMX.out _ HLX.out⟩
          have s7 : (xo == tp) = false := beq_eq_false_iff_ne.2 h7
          have HO7 := Lib.hid h7
          clear h7
          by_cases h8 : xi = tp
          case pos =>
            have s8 : (xi == tp) = true := beq_iff_eq.2 h8
            have HLX := Lib.hid (rex_of (p := Sp.onP ⟨P, Es, hd⟩ ⟨xe, xo, xi, xh⟩) (ok := true) (e := 0) (r := .found (Sp.onP ⟨P, Es, hd⟩ ⟨xe, xo, xi, xh⟩)) K1.out.res N3.out N4.out HMC.out K1.out.below K1.out.ds (G3.out.stops (m := ⟨xe, xo, xi, xh⟩) (fun rest => Sp.bstep_whole G3.out.rn.here HO7.out h8)) ⟨rfl, rfl, rfl⟩)
            clear h8
            gi_wp2
            exact ⟨(keeps_below HBC.out).trans ((lpSet_others C4).from _), rfl, HMX.out _ HLX.out⟩
          have s8 : (xi == tp) = false := beq_eq_false_iff_ne.2 h8
          have HI8 := Lib.hid h8
          clear h8
          gi_wp2
          refine wpIn_noPanic ?_
          refine wpIn_region_K 8 (fun w' => w'.cell? ⟨U, 0, none⟩ = some (.map (some T)) ∧ w'.cell? ⟨Z + 1, 0, none⟩ = some (.slice D3 l3 d3) ∧ w'.cell? ⟨Z + 1, 1, none⟩ = some (.slice D4 l4 d4) ∧ w'.cell? ⟨Z + 1, 2, none⟩ = some (.string xh)) (by kernel_rfl) (fun hcl => ?_)
          have hS : (fun w' : World => w'.cell? ⟨U, 0, none⟩ = some (.map (some T)) ∧ w'.cell? ⟨Z + 1, 0, none⟩ = some (.slice D3 l3 d3) ∧ w'.cell? ⟨Z + 1, 1, none⟩ = some (.slice D4 l4 d4) ∧ w'.cell? ⟨Z + 1, 2, none⟩ = some (.string xh)) C4.drew := ⟨K1.out.mbox.cell 0, t3, t4, t5⟩
          clear q6 q7 q9 y0 y1 y2 y3 y4 z0 z1 z2 z3 z4 t0 t1 t2 t3 t4 t5 hC4
          refine tkR 0 ?_ hcl hS ?_ (fun hcl2 => ?_); rotate_left
          · (intro w hSw; (try dsimp only at hSw); first | (go_simp; done) | (go_simp; with_reducible rfl))
          (try simp only [ly]); (try simp only [Act.put, pu]); clear hcl; have hcl := hcl2; clear hcl2
          refine tkR 1 ?_ hcl hS ?_ (fun hcl2 => ?_); rotate_left
          · (intro w hSw; (try dsimp only at hSw); first | (go_simp; done) | (go_simp; with_reducible rfl))
          (try simp only [ly]); (try simp only [Act.put, pu]); clear hcl; have hcl := hcl2; clear hcl2
          refine wpAnyKIn_one (i := 2) hcl (by kernel_rfl) rfl (by rfl) (fun K hK => ?_)
          simp only [ly]
          refine ⟨(fun _ _ => trivial), ?_⟩
          rw [Oper.semAt_plain _ _ _ (by intro c hc; cases hc)]
          go_simp
          refine (CallsIn.inRound l2 (callsIn_wide.2 (step_last (B := M) (v1 := .slice D3 l3 d3) (v2 := .slice D4 l4 d4) (P := P ++ Sp.ifL xo ++ Sp.ifL xi) xh C4.drew (in_mono (in_below N3.out (Below.refl _ _).drew) (by have := HMC.out; omega)) HNE2.out HLEN2.out))).mono ?_
          rintro r C6 ⟨rfl, hb6⟩
          have hb46 : Below C4.heap.size C4 C6 := ((Below.refl _ _).drew).trans hb6
          have L1 := Lib.hid (K1.out.later hb46)
          have L2 := Lib.hid (K2.out.below hb46 K2.out.lt)
          have L4 := Lib.hid (in_below K4.out hb46)
          have L5 := Lib.hid (in_below K5.out hb46)
          have LK := Lib.hid (KK.out.below hb46 KK.out.lt)
          have LW := Lib.hid (KW.out.below hb46 KW.out.lt)
          have O3 := Lib.hid (in_below N3.out hb46)
          have O4 := Lib.hid (in_below N4.out hb46)
          have HB6C := Lib.hid (HBC.out.trans (hb46.mono HBC.out.size))
          clear hS hb6 hb46 K1 K2 K4 K5 KK KW KS N1 N2 N3 N4
          have hS : (fun w' : World => w'.cell? ⟨U, 0, none⟩ = some (.map (some T)) ∧ w'.cell? ⟨Z + 1, 0, none⟩ = some (.slice D3 l3 d3) ∧ w'.cell? ⟨Z + 1, 1, none⟩ = some (.slice D4 l4 d4) ∧ w'.cell? ⟨Z + 1, 2, none⟩ = some (.string xh)) C6 := ⟨L1.out.mbox.cell 0, LW.out.cell 0, LW.out.cell 1, LW.out.cell 2⟩
          rw [HLW.out]
          refine hK.out _ _ (Or.inr hS) (fun hcl2 => ?_)
          clear hK K hcl
          have hcl := hcl2
          clear hcl2
          obtain ⟨Dm, nn, hDm, hnn, hCD⟩ := L1.out.came
          obtain ⟨vl, pl, hlk, _⟩ := World.ownsMap.look_ok hDm st_key Tryz.underlying75 (z := .int .i64 0) (int_zero C6) (plainElem_int (H := Unit) Tryz.underlying3 (a := 0) (by decide)) HKEY2.out
          obtain ⟨bm, hbm⟩ : ∃ bm, Maps.has Dm (stKey lw xh) = bm := ⟨_, rfl⟩
          rw [hbm] at hlk
          have HDM := Lib.hid hDm
          have HNN := Lib.hid hnn
          have HCD := Lib.hid hCD
          have HBM := Lib.hid hbm
          clear hDm hnn hCD hbm
          refine wpAnyKIn_one (i := 3) hcl (by kernel_rfl) rfl (by rfl) (fun K hK => ?_)
          simp only [ly]
          refine ⟨(fun f hf => by cases hf), ?_⟩
          rw [Oper.semAt_plain _ _ _ (by intro c hc; cases hc)]
          go_simp
          clear hlk
          refine hK.out _ _ (Or.inr hS) (fun hcl2 => ?_)
          clear hK K hcl
          have hcl := hcl2
          clear hcl2
          refine tkR 4 ?_ hcl hS ?_ (fun hcl2 => ?_); rotate_left
          · (intro w hSw; (try dsimp only at hSw); first | (go_simp; done) | (go_simp; with_reducible rfl))
          (try simp only [ly]); (try simp only [Act.put, pu]); clear hcl; have hcl := hcl2; clear hcl2
          refine tkR 5 ?_ hcl hS ?_ (fun hcl2 => ?_); rotate_left
          · (intro w hSw; (try dsimp only at hSw); first | (go_simp; done) | (go_simp; with_reducible rfl))
          (try simp only [ly]); (try simp only [Act.put, pu]); clear hcl; have hcl := hcl2; clear hcl2
          refine tkR 6 ?_ hcl hS ?_ (fun hcl2 => ?_); rotate_left
          · (intro w hSw; (try dsimp only at hSw); first | (go_simp; done) | (go_simp; with_reducible rfl))
          (try simp only [ly]); (try simp only [Act.put, pu]); clear hcl; have hcl := hcl2; clear hcl2
          refine tkR 7 ?_ hcl hS ?_ (fun hcl2 => ?_); rotate_left
          · (intro w hSw; (try dsimp only at hSw); first | (go_simp; done) | (go_simp; with_reducible rfl))
          (try simp only [ly]); (try simp only [Act.put, pu]); clear hcl; have hcl := hcl2; clear hcl2
          refine wpAnyKIn_one (i := 8) hcl (by kernel_rfl) rfl (by rfl) (fun K hK => ?_)
          simp only [ly]
          refine ⟨(fun f hf => by cases hf), ?_⟩
          rw [Oper.semAt_plain _ _ _ (by intro c hc; cases hc)]
          go_simp
          refine hK.out _ _ (Or.inl (by kernel_rfl)) (fun hcl2 => ?_)
          clear hK K hcl hcl2 hS
          refine wpAnyKIn_done (by kernel_rfl) ?_ _
          refine NoPanic.normal ?_
          (try simp only [Act.put, pu])
          have q7 : C6.cell? ⟨Bx, 2, none⟩ = some (.int .i64 xi) := LK.out.cell 2
          have HSZ := Lib.hid (show w.heap.size ≤ C.heap.size ∧ U + 1 + 1 + 1 ≤ C.heap.size ∧ V.heap.size ≤ C6.heap.size from ⟨Nat.le_trans HWV.out G6.out, Nat.le_trans HSV.out G6.out, Nat.le_trans G6.out HB6C.out.size⟩)
          have hskip : ∀ h0 : xi < 0 ∨ Sp.Came (xs'.map PathV.path) (Sp.onP ⟨P, Es, hd⟩ ⟨xe, xo, xi, xh⟩), KeepsFrom V.heap.size C C6 ∧ KpX w.heap.size (rowX (U + 1 + 1)) C C6 ∧ ∃ xs'', ReI n s h tp hops M S T U #[.int .i64 b, .slice A1 np c1, .slice A2 nt c2, .slice A3 ng c3] w Ds xs'' C6 ∧ Blk C6 S 40 #[.slice B1 P.length k1, .slice B2 Es.length k2, .string hd] ∧ Sp.RJ n s h tp hops q (xs.map PathV.path) (xs''.map PathV.path) cur ⟨P, Es, hd⟩ (subV (ms ++ [(⟨⟨xe, xo, xi, xh⟩, hx⟩ : { x : Sp.Mv // x ∈ Sp.movesV n k hd })])) ∧ InR C6 M (.slice B1 P.length k1) P ∧ InR C6 M (.slice B2 Es.length k2) Es ∧ V.heap.size ≤ C6.heap.size := fun h0 => by
            refine ⟨keeps_below HB6C.out, KpX.of_below (XLow.ok (rowX_low (U + 1 + 1))) HB6C.out HSZ.out.1 HSZ.out.2.1, xs', L1.out, L2.out, ?_, L4.out, L5.out, HSZ.out.2.2⟩
            rw [subV_snoc]
            exact G3.out.skip (m := ⟨xe, xo, xi, xh⟩) HO7.out HI8.out h0
          have HSKIP := Lib.hid hskip
          have hcame : bm = true ↔ Sp.Came (xs'.map PathV.path) (Sp.onP ⟨P, Es, hd⟩ ⟨xe, xo, xi, xh⟩) := by
            have h9 := HCD.out.2 (Sp.onP ⟨P, Es, hd⟩ ⟨xe, xo, xi, xh⟩) (by show StFit ((P ++ Sp.ifL xo ++ Sp.ifL xi).getLastD 0) xh; rw [HLW.out]; exact HFIT2.out)
            rw [show Sp.lastP (Sp.onP ⟨P, Es, hd⟩ ⟨xe, xo, xi, xh⟩) = lw from HLW.out, show (Sp.onP ⟨P, Es, hd⟩ ⟨xe, xo, xi, xh⟩).header = xh from rfl, HBM.out] at h9
            exact h9
          have HCAME := Lib.hid hcame
          clear hskip hcame
          by_cases h0 : xi < 0
          case pos =>
            have s9 : decide (xi < 0) = true := decide_eq_true h0
            have HH0 := Lib.hid h0
            clear h0
            gi_wp2
            first | exact HSKIP.out (.inl HH0.out) | (have h9 := HSKIP.out (.inl HH0.out); rw [HM.out] at h9; exact h9)
          have s9 : decide (xi < 0) = false := decide_eq_false h0
          have HH0 := Lib.hid h0
          clear h0
          cases bm with
          | true =>
            gi_wp2
            first | exact HSKIP.out (.inr (HCAME.out.1 (by trivial))) | (have h9 := HSKIP.out (.inr (HCAME.out.1 (by trivial))); rw [HM.out] at h9; exact h9)
          | false =>
            have hnc : ¬ (xi < 0 ∨ Sp.Came (xs'.map PathV.path) (Sp.onP ⟨P, Es, hd⟩ ⟨xe, xo, xi, xh⟩)) := fun e => by
              rcases e with e | e
              · exact HH0.out e
              · have := HCAME.out.2 e; cases this
            have HNC := Lib.hid hnc
            obtain ⟨vr, hvb2, hvr2⟩ := L1.out.row
            obtain ⟨Ar, cr, rfl⟩ := ptr_slice hvr2
            obtain ⟨Lr, hLr⟩ : ∃ Lr, xs'.length = Lr := ⟨_, rfl⟩
            rw [hLr] at hvb2 hvr2
            have HVB2 := Lib.hid hvb2
            have HVR2 := Lib.hid hvr2
            have HLR := Lib.hid hLr
            have t6 : C6.cell? ⟨U + 1 + 1, 0, none⟩ = some (.slice Ar Lr cr) := Boxed.cell hvb2
            have y0 : C6.cell? ⟨M + 1 + 1 + 1, 0, none⟩ = some (.slice none 0 0) := L1.out.res.c2.cell 0
            have y1 : C6.cell? ⟨M + 1 + 1 + 1, 1, none⟩ = some (.slice none 0 0) := L1.out.res.c2.cell 1
            have y2 : C6.cell? ⟨M + 1 + 1 + 1, 2, none⟩ = some (.string ⟨#[]⟩) := L1.out.res.c2.cell 2
            have y3 : C6.cell? ⟨M + 1 + 1 + 1 + 1, 0, none⟩ = some (.bool false) := L1.out.res.c3.cell 0
            have y4 : C6.cell? ⟨M + 1 + 1 + 1 + 1 + 1, 0, none⟩ = some (.int .i64 0) := L1.out.res.c4.cell 0
            have z0 := L1.out.res.c2.frozen 0
            have z1 := L1.out.res.c2.frozen 1
            have z2 := L1.out.res.c2.frozen 2
            have z3 := L1.out.res.c3.frozen 0
            have z4 := L1.out.res.c4.frozen 0
            clear hnc hvb2 hvr2 hLr
            by_cases hbud : Lr = 4096
            case pos =>
              subst hbud
              have HLX := Lib.hid (rex_of (p := ⟨[], [], ⟨#[]⟩⟩) (v1 := .slice none 0 0) (v2 := .slice none 0 0) (ok := false) (e := 3) (r := .budget) L1.out.res (in_nil C6 C.heap.size) (in_nil C6 C.heap.size) HMC.out L1.out.below L1.out.ds (G3.out.stops (m := ⟨xe, xo, xi, xh⟩) (fun rest => Sp.bstep_budget G3.out.rn.here HO7.out HI8.out HNC.out (by rw [List.length_map]; exact HLR.out))) ⟨rfl, rfl, rfl⟩)
              gi_wp2
              exact ⟨(keeps_below HB6C.out).trans ((lpSet_others C6).from _), rfl, HMX.out _ HLX.out⟩
            have sb : ((Lr : Int) == 4096) = false := beq_eq_false_iff_ne.2 (by omega)
            have hnb : Lr ≤ 4095 := by have := L1.out.few; have := HLR.out; omega
            have HNB := Lib.hid hnb
            have HONE := Lib.hid (And.intro (one_of_in O3.out) (one_of_in O4.out))
            have hpush := G3.out.push HNK.out (m := ⟨xe, xo, xi, xh⟩) GMV.out HO7.out HI8.out HNC.out (by rw [List.length_map, HLR.out]; omega)
            have HPU := Lib.hid hpush
            clear hbud hnb hpush
            gi_wp2
            refine wpIn_noPanic ?_
            refine wpIn_region_K 5 (fun w' => w'.cell? ⟨U, 0, none⟩ = some (.map (some T)) ∧ w'.cell? ⟨Z + 1, 0, none⟩ = some (.slice D3 l3 d3) ∧ w'.cell? ⟨Z + 1, 1, none⟩ = some (.slice D4 l4 d4) ∧ w'.cell? ⟨Z + 1, 2, none⟩ = some (.string xh) ∧ w'.cell? ⟨U + 1 + 1, 0, none⟩ = some (.slice Ar Lr cr)) (by kernel_rfl) (fun hcl => ?_)
            have hS : (fun w' : World => w'.cell? ⟨U, 0, none⟩ = some (.map (some T)) ∧ w'.cell? ⟨Z + 1, 0, none⟩ = some (.slice D3 l3 d3) ∧ w'.cell? ⟨Z + 1, 1, none⟩ = some (.slice D4 l4 d4) ∧ w'.cell? ⟨Z + 1, 2, none⟩ = some (.string xh) ∧ w'.cell? ⟨U + 1 + 1, 0, none⟩ = some (.slice Ar Lr cr)) C6.drew := ⟨L1.out.mbox.cell 0, LW.out.cell 0, LW.out.cell 1, LW.out.cell 2, t6⟩
            clear t6 q7 y0 y1 y2 y3 y4 z0 z1 z2 z3 z4
            refine tkR 0 ?_ hcl hS ?_ (fun hcl2 => ?_); rotate_left
            · (intro w hSw; (try dsimp only at hSw); first | (go_simp; done) | (go_simp; with_reducible rfl))
            (try simp only [ly]); (try simp only [Act.put, pu]); clear hcl; have hcl := hcl2; clear hcl2
            refine tkR 1 ?_ hcl hS ?_ (fun hcl2 => ?_); rotate_left
            · (intro w hSw; (try dsimp only at hSw); first | (go_simp; done) | (go_simp; with_reducible rfl))
            (try simp only [ly]); (try simp only [Act.put, pu]); clear hcl; have hcl := hcl2; clear hcl2
            refine tkR 3 ?_ hcl hS ?_ (fun hcl2 => ?_); rotate_left
            · (intro w hSw; (try dsimp only at hSw); first | (go_simp; done) | (go_simp; with_reducible rfl))
            (try simp only [ly]); (try simp only [Act.put, pu]); clear hcl; have hcl := hcl2; clear hcl2
            refine tkR 4 ?_ hcl hS ?_ (fun hcl2 => ?_); rotate_left
            · (intro w hSw; (try dsimp only at hSw); first | (go_simp; done) | (go_simp; with_reducible rfl))
            (try simp only [ly]); (try simp only [Act.put, pu]); clear hcl; have hcl := hcl2; clear hcl2
            refine wpAnyKIn_one (i := 2) hcl (by kernel_rfl) rfl (by rfl) (fun K hK => ?_)
            simp only [ly]
            refine ⟨(fun _ _ => trivial), ?_⟩
            rw [Oper.semAt_plain _ _ _ (by intro c hc; cases hc)]
            go_simp
            refine (CallsIn.inRound l2 (callsIn_wide.2 (step_last (B := M) (v1 := .slice D3 l3 d3) (v2 := .slice D4 l4 d4) (P := P ++ Sp.ifL xo ++ Sp.ifL xi) xh C6.drew (in_mono (in_below O3.out (Below.refl _ _).drew) (by have := HMC.out; omega)) HNE2.out HLEN2.out))).mono ?_
            rintro r C8 ⟨rfl, hb8⟩
            have hb68 : Below C6.heap.size C6 C8 := ((Below.refl _ _).drew).trans hb8
            have R1 := Lib.hid (L1.out.later hb68)
            have R2 := Lib.hid (L2.out.below hb68 L2.out.lt)
            have R4 := Lib.hid (in_below L4.out hb68)
            have R5 := Lib.hid (in_below L5.out hb68)
            have RW := Lib.hid (LW.out.below hb68 LW.out.lt)
            have Q3 := Lib.hid (in_below O3.out hb68)
            have Q4 := Lib.hid (in_below O4.out hb68)
            have RDM := Lib.hid (map_later HDM.out hb68)
            have HB8C := Lib.hid (HB6C.out.trans (hb68.mono HB6C.out.size))
            have RVB := Lib.hid (Blk.below HVB2.out hb68 (Blk.lt HVB2.out))
            clear hS hb8 hb68 HVB2 HVR2
            have hS : (fun w' : World => w'.cell? ⟨U, 0, none⟩ = some (.map (some T)) ∧ w'.cell? ⟨Z + 1, 0, none⟩ = some (.slice D3 l3 d3) ∧ w'.cell? ⟨Z + 1, 1, none⟩ = some (.slice D4 l4 d4) ∧ w'.cell? ⟨Z + 1, 2, none⟩ = some (.string xh) ∧ w'.cell? ⟨U + 1 + 1, 0, none⟩ = some (.slice Ar Lr cr)) C8 := ⟨R1.out.mbox.cell 0, RW.out.cell 0, RW.out.cell 1, RW.out.cell 2, Boxed.cell RVB.out⟩
            rw [HLW.out]
            refine hK.out _ _ (Or.inr hS) (fun hcl2 => ?_)
            clear hK K hcl
            have hcl := hcl2
            clear hcl2 hS
            obtain ⟨Cm, hrun, hown, hgr⟩ := World.ownsMap.update RDM.out st_key Tryz.underlying75 (by have := HNN.out; have := HLR.out; have := HNB.out; unfold maxLen; omega) HKEY2.out (plainElem_int (H := Unit) Tryz.underlying3 (a := (Lr : Int)) (by have := HNB.out; simp [Lit.wf, IntKind.min, IntKind.max, IntKind.signed, IntKind.bits]; omega))
            have HOWN := Lib.hid hown
            have HGR := Lib.hid hgr
            refine wpAnyKIn_one (i := 5) hcl (by kernel_rfl) rfl (by rfl) (fun K hK => ?_)
            simp only [ly]
            refine ⟨(fun f hf => by cases hf), ?_⟩
            rw [Oper.semAt_plain _ _ _ (by intro c hc; cases hc)]
            go_simp
            refine hK.out _ _ (Or.inl (by kernel_rfl)) (fun hcl2 => ?_)
            clear hK K hcl hcl2 hrun hown hgr
            refine wpAnyKIn_done (by kernel_rfl) ?_ _
            refine NoPanic.normal ?_
            (try simp only [Act.put, pu])
            obtain ⟨m0, m1, m2, m3, m4, ⟨vr, m5, m5b⟩, m6, m7, m8⟩ := R1.out.turn (Nat.le_of_eq HM.out.symm) (by have := HSM.out; have := HST.out; omega) RDM.out HGR.out
            obtain rfl : vr = .slice Ar Lr cr := by
              have h9 := map_blk RDM.out HGR.out RVB.out
              have h8 := Boxed.cell m5
              have h7 := Boxed.cell (show Boxed Cm (U + 1 + 1) 29 (.slice Ar Lr cr) from h9)
              rw [h8] at h7
              injection h7
            have HVB3 := Lib.hid m5
            have HVR3 := Lib.hid m5b
            have T2 := Lib.hid (map_blk RDM.out HGR.out R2.out)
            have T4 := Lib.hid (map_in RDM.out HGR.out R4.out)
            have T5 := Lib.hid (map_in RDM.out HGR.out R5.out)
            have TW := Lib.hid (map_blk RDM.out HGR.out RW.out)
            have U3 := Lib.hid (map_in RDM.out HGR.out Q3.out)
            have U4 := Lib.hid (map_in RDM.out HGR.out Q4.out)
            have HMM := Lib.hid (And.intro m0 (And.intro m1 (And.intro m2 (And.intro m3 (And.intro m4 (And.intro m6 (And.intro m7 m8)))))))
            have HKF := Lib.hid ((keeps_below (B := V.heap.size) HB8C.out).trans (keeps_map RDM.out HGR.out HTV.out))
            have HKP := Lib.hid ((KpX.of_below (n0 := w.heap.size) (XLow.ok (rowX_low (U + 1 + 1))) HB8C.out HSZ.out.1 HSZ.out.2.1).trans (kpx_map RDM.out HGR.out (by have := HM.out; have := HSM.out; have := HST.out; omega) RVB.out))
            have HSZ9 := Lib.hid (show U + 1 ≤ Cm.heap.size ∧ V.heap.size ≤ Cm.heap.size by have h1 := HGR.out.size; have h2 := HB8C.out.size; have h3 := HSZ.out; have h4 := HB6C.out.size; have h5 := G6.out; omega)
            have t6 : Cm.cell? ⟨U + 1 + 1, 0, none⟩ = some (.slice Ar Lr cr) := Boxed.cell m5
            have t3 : Cm.cell? ⟨Z + 1, 0, none⟩ = some (.slice D3 l3 d3) := TW.out.cell 0
            have t4 : Cm.cell? ⟨Z + 1, 1, none⟩ = some (.slice D4 l4 d4) := TW.out.cell 1
            have t5 : Cm.cell? ⟨Z + 1, 2, none⟩ = some (.string xh) := TW.out.cell 2
            clear m0 m1 m2 m3 m4 m5 m5b m6 m7 m8
            gi_wp2_with (gi_at_builtin; refine pt_append Cm rfl _ _ rfl (U + 1) (U + 1 + 1) (.slice Ar Lr cr) xs' ⟨.slice D3 l3 d3, .slice D4 l4 d4, Sp.onP ⟨P, Es, hd⟩ ⟨xe, xo, xi, xh⟩⟩ HONE.out rfl rfl HVB3.out HVR3.out HSZ9.out.1 (by omega) (by have := HLR.out; have := HNB.out; omega) ?_; intro g1 cap1 wz hb1 hE1 hsz1; have hc1 := hb1.cell; have hf1 := hb1.frozen; obtain ⟨kz, hkz⟩ : ∃ kz, xs'.length + 1 = kz := ⟨_, rfl⟩; rw [hkz] at hE1; obtain ⟨Wa, hWa⟩ : ∃ Wa, wz.setCell ⟨U + 1 + 1, 0, none⟩ (.slice (some ⟨g1, 0, none⟩) kz cap1) = Wa := ⟨_, rfl⟩; rw [hWa] at hE1; have HE1 := Lib.hid hE1; clear hE1 hb1)
            have hbz := HE1.out.below
            have hkx : ∀ g t cs, Blk Cm g t cs → g < U + 1 → Blk _ g t cs := fun g t cs hb hl => (hbz.block g hl).trans hb
            have hfar := fun (u : Value) (l : List Int) (hu : InR Cm M u l) => row_far hu HVB3.out HVR3.out
            have hSM := HSM.out
            have hST9 := HST.out
            have hTU9 := HTU.out
            have hmp : (xs' ++ [(⟨.slice D3 l3 d3, .slice D4 l4 d4, Sp.onP ⟨P, Es, hd⟩ ⟨xe, xo, xi, xh⟩⟩ : PathV)]).map PathV.path = xs'.map PathV.path ++ [Sp.onP ⟨P, Es, hd⟩ ⟨xe, xo, xi, xh⟩] := by rw [List.map_append]; rfl
            have hCM : M ≤ C.heap.size := by have := HMC.out; omega
            obtain ⟨m0, m1, m2, m3, m4, m6, m7, m8⟩ := HMM.out
            have hmap : ∃ D nn, CameM _ T nn D ∧ nn ≤ (xs' ++ [(⟨.slice D3 l3 d3, .slice D4 l4 d4, Sp.onP ⟨P, Es, hd⟩ ⟨xe, xo, xi, xh⟩⟩ : PathV)]).length ∧ CameD D ((xs' ++ [(⟨.slice D3 l3 d3, .slice D4 l4 d4, Sp.onP ⟨P, Es, hd⟩ ⟨xe, xo, xi, xh⟩⟩ : PathV)]).map PathV.path) :=
              ⟨_, _, map_same HOWN.out (hbz.block T (by omega)), by rw [List.length_append]; exact Nat.succ_le_succ HNN.out, by
                rw [hmp]
                have h9 := HCD.out.put (y := Sp.onP ⟨P, Es, hd⟩ ⟨xe, xo, xi, xh⟩) (by show StFit ((P ++ Sp.ifL xo ++ Sp.ifL xi).getLastD 0) xh; rw [HLW.out]; exact HFIT2.out) (.lit (.int .i64 (Lr : Int)))
                rw [show Sp.lastP (Sp.onP ⟨P, Es, hd⟩ ⟨xe, xo, xi, xh⟩) = lw from HLW.out, show (Sp.onP ⟨P, Es, hd⟩ ⟨xe, xo, xi, xh⟩).header = xh from rfl] at h9
                exact h9⟩
            obtain ⟨u1, u2, u3, m3⟩ := m3
            refine ⟨HKF.out.trans (HE1.out.others.from _), (by first | exact HKP.out.trans (kpx_mono HE1.out.save.kpX (by have := HM.out; omega)) | (have h9 := HKP.out.trans (kpx_mono HE1.out.save.kpX (by have := HM.out; omega)); rw [HM.out] at h9; exact h9)), xs' ++ [(⟨.slice D3 l3 d3, .slice D4 l4 d4, Sp.onP ⟨P, Es, hd⟩ ⟨xe, xo, xi, xh⟩⟩ : PathV)], ⟨hkx _ _ _ m0 (by omega), hkx _ _ _ m1 (by omega), ⟨hkx _ _ _ m2.c2 (by omega), hkx _ _ _ m2.c3 (by omega), hkx _ _ _ m2.c4 (by omega)⟩, ⟨_, _, _, hkx _ _ _ T2.out (by omega)⟩, hkx _ _ _ m4 (by omega), hmap, ⟨_, HE1.out.box, HE1.out.row⟩, fun y hy => ?_, by rw [List.length_append]; have := HLR.out; have := HNB.out; simp only [List.length_singleton]; omega, m7.trans (hbz.mono (by omega)), fun D hD => ⟨(m8 D hD).1, HE1.out.others.same D _ (m8 D hD).2 rfl⟩, R1.out.once⟩, hkx _ _ _ T2.out (by omega), by rw [hmp, subV_snoc]; exact HPU.out, kpx_row HE1.out.save.kpX T4.out (hfar _ _ T4.out), kpx_row HE1.out.save.kpX T5.out (hfar _ _ T5.out), Nat.le_trans HSZ9.out.2 hbz.size⟩
            rcases List.mem_append.1 hy with h9 | h9
            · obtain ⟨n1, n2⟩ := m6 y h9
              exact ⟨kpx_row HE1.out.save.kpX n1 (hfar _ _ n1), kpx_row HE1.out.save.kpX n2 (hfar _ _ n2)⟩
            · obtain rfl := List.mem_singleton.1 h9
              exact ⟨kpx_row HE1.out.save.kpX (in_mono U3.out hCM) (hfar _ _ (in_mono U3.out hCM)), kpx_row HE1.out.save.kpX (in_mono U4.out hCM) (hfar _ _ (in_mono U4.out hCM))⟩
        case done =>
          rintro D ys C hD hS ⟨xs', h1, h2, h3, h4, h5, h6⟩ hK
          replace hS : subV ys = Sp.movesV n k hd := hS
          have hrd : Sp.NJ n s h tp hops q (xs'.map PathV.path) (cur + 1) := by
            rw [hS] at h3
            refine HJ.out.round (y := ⟨P, Es, hd⟩) HXI.out HNEQ.out ?_
            rw [HLK.out, Int.toNat_natCast]
            exact h3
          have hcl : cur < xs'.length := by have := (List.getElem?_eq_some_iff.1 h3.rn.here).1; rw [List.length_map] at this; exact this
          have HON := Lib.hid (show ReI n s h tp hops M S T U #[.int .i64 b, .slice A1 np c1, .slice A2 nt c2, .slice A3 ng c3] w (D :: Ds) xs' C from
            ⟨h1.net, h1.tob, h1.res, h1.px, h1.mbox, h1.came, h1.row, h1.each, h1.few, h1.below, fun D' hD' => by
              rcases List.mem_cons.1 hD' with rfl | hm
              · exact ⟨Nat.le_trans HMV.out hD, hK⟩
              · exact h1.ds D' hm, List.nodup_cons.2 ⟨fun hm => by have := HDL.out D hm; omega, h1.once⟩⟩)
          have HFEW := Lib.hid (show cur < 4096 by have := h1.few; omega)
          have HNJ := Lib.hid hrd
          have HCL := Lib.hid hcl
          clear h1 h2 h3 h4 h5 h6 hrd hcl hS hD hK HST2
          gi_wp2
          refine ⟨⟨D :: Ds, xs', cur + 1, RFr.of _ _ _ _ _ _ _ _ _ _ _ _ _ _ _ _ _ _ _ _ _ _ _ _ _ _ _ _ _ _ _ _ _ _ _ _ _ _ _ _ _ _ _ _ _ _ _ _ _ _ _ _ _ _ _ _ _ _ _ _ _ _ _ _ _ _ _ _ _ _ _ _ _ _ _ _ _ _ _ _ _ _ _ _ _ _ _ _ _ _ _ _ _ _ _ _ _ _ _ _ _ _ _ _ _ _ _ _ _ _ _, HON.out, HNJ.out, HCL.out⟩, ?_⟩
          have := HFEW.out
          simp [intOf]
          omega
        case stop =>
          rintro D c ms C hD hpre ⟨rfl, v1, v2, p, ok, e, r, h1, h2, h3, h4, h5, h6, h7⟩ hK
          replace hpre : subV ms <+: Sp.movesV n k hd := hpre
          have HBF := Lib.hid (HJ.out.found (y := ⟨P, Es, hd⟩) HXI.out HNEQ.out (by rw [HLK.out, Int.toNat_natCast]; exact hpre) h6)
          have HDS := Lib.hid (show ∀ D' ∈ D :: Ds, M ≤ D' ∧ C.heap[D']? = some (.deferred (some [])) from fun D' hD' => by
            rcases List.mem_cons.1 hD' with rfl | hm
            · exact ⟨Nat.le_trans HMV.out hD, hK⟩
            · exact h5 D' hm)
          have HND := Lib.hid (show (D :: Ds).Nodup from List.nodup_cons.2 ⟨fun hm => by have := HDL.out D hm; omega, HNDS.out⟩)
          have HH := Lib.hid (And.intro h1 (And.intro h2 (And.intro h3 (And.intro h4 h7))))
          clear h1 h2 h3 h4 h5 h6 h7 hD hpre hK HST2
          gi_wp2
          refine leaves_keep HM.out (D :: Ds) _ HDS.out HND.out (fun W' hW' hk => ?_)
          obtain ⟨h1, h2, h3, h4, h7⟩ := HH.out
          have hc' := h1.kc hk
          exact ⟨_, results_pbe rfl _ _ (M + 1 + 1 + 1) (M + 1 + 1 + 1 + 1) (M + 1 + 1 + 1 + 1 + 1) 40 #[v1, v2, .string p.header] (.bool ok) (.int .i64 e) _ rfl rfl rfl hc'.c2 (hc'.c3.cell 0) (hc'.c4.cell 0) Tryz.underlying40 rfl (by kernel_rfl) rfl rfl, v1, v2, p, ok, e, rfl, by rw [HM.out]; exact in_kc h2 hk, by rw [HM.out]; exact in_kc h3 hk, by rw [HM.out]; exact h4.trans hW', .inr ⟨HE.out, s, rfl, .inr ⟨HTO.out, q, true, HBR.out, .inr (.inr ⟨rfl, by rw [HLQ.out]; exact HLT.out, r, HBF.out, h7⟩)⟩⟩⟩
end Go.Proofs.YtpknablklencdaaGreatDoor
