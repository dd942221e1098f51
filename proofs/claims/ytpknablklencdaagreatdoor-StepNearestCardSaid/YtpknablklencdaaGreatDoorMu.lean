/-
  Texts joined: Mq Mu.
-/
import Derived.Test.YtpknablklencdaaGreatDoorMp

set_option linter.unusedVariables false
set_option linter.unusedSimpArgs false
set_option maxRecDepth 100000
set_option maxHeartbeats 4000000
namespace Go.Proofs.YtpknablklencdaaGreatDoor
open Go.RowKit
theorem step_moves (m N p : Nat) (h : ByteArray) (w : World) :
    CallsIn Fence.wide m Tryz.prog 23 #[.pointer (some ⟨N, 0, none⟩), .agg #[.int .i64 (p : Int), .string h]] w fun e w' =>
      e = .returned (.func (.func 38) #[] #[.pointer (some ⟨w.heap.size, 0, none⟩), .pointer (some ⟨w.heap.size + 1, 0, none⟩)]) ∧
      w' = (w.alloc (.cells #[.pointer (some ⟨N, 0, none⟩)] 59)).alloc (.cells #[.int .i64 (p : Int), .string h] 28) := by
  refine callsIn_of_wp Tryz.func23 rfl trivial ?_ rfl
  simp only [Tryz.ntmps23, List.size_toArray, List.length_cons, List.length_nil, Nat.reduceAdd, Nat.reduceSub, Array.replicate_succ, Array.replicate_zero, List.push_toArray, List.append_toArray, List.nil_append, List.cons_append]
  gi_wp2
  refine bodyPost_ret (results_tmp rfl _ _ _) rfl ?_
  exact ⟨rfl, rfl⟩
end Go.Proofs.YtpknablklencdaaGreatDoor

set_option linter.unusedVariables false
set_option maxRecDepth 100000
set_option maxHeartbeats 4000000
namespace Go.Proofs.YtpknablklencdaaGreatDoor
open Go.RowKit
def Sp.MvOk (n : Sp.Net) (p : Nat) (h : ByteArray) : Prop := (∃ q, n.ports[p]? = some q ∧ q.inn = false ∧ n.ports.length ≤ 1000000) ∨ ∃ q g t, Sp.InOk n p h q g t
theorem moves_stops (m N Bn Bs Bo : Nat) (n : Sp.Net) (p : Nat) (h : ByteArray) (hok : Sp.MvOk n p h) (w0 w : World) (hm : 1 ≤ m) (hn : NetAt w0 N n) (hw0 : Below w0.heap.size w0 w) (hb0 : w0.heap.size ≤ Bo) (hbo : Bo < w.heap.size) (hbon : Bo ≠ Bn) (hbos : Bo ≠ Bs) (hrow : rowAt w Bo = none)
    (hbn : w.cell? ⟨Bn, 0, none⟩ = some (.pointer (some ⟨N, 0, none⟩))) (hs0 : w.cell? ⟨Bs, 0, none⟩ = some (.int .i64 (p : Int))) (hs1 : w.cell? ⟨Bs, 1, none⟩ = some (.string h)) :
    SeqStopsK Fence.wide m Tryz.prog 38 #[.pointer (some ⟨Bn, 0, none⟩), .pointer (some ⟨Bs, 0, none⟩)] (fun x => #[mvC x]) (SaveRow w0.heap.size Bo) (fun xs => xs = Sp.movesV n p h) (fun pre => pre <+: Sp.movesV n p h) (Sp.movesV n p h).length w := by
  intro l J Jx W hW hJ hJx hY h0
  show CallsIn Fence.wide m Tryz.prog 38 #[.func (.yield l) #[] #[], .pointer (some ⟨Bn, 0, none⟩), .pointer (some ⟨Bs, 0, none⟩)] W _
  have hbnW := (hW.cell (p := ⟨Bn, 0, none⟩) (xcell_lt hbn)).trans hbn
  have hs0W := (hW.cell (p := ⟨Bs, 0, none⟩) (xcell_lt hs0)).trans hs0
  have hs1W := (hW.cell (p := ⟨Bs, 1, none⟩) (xcell_lt hs1)).trans hs1
  have hw0W : Below w0.heap.size w0 W := hw0.trans (hW.mono hw0.size)
  rcases hok with ⟨q, hq, hin, hlp⟩ | ⟨q, g, t, ok⟩
  · refine moves1_link m l Bn Bs N w0.heap.size n p h q hq hin J Jx W hJ (fun pre x W1 hj hl => ?_) hm (hn.more hw0W) hbnW hs0W hs1W hlp h0
    refine (hY pre x W1 hj (by have := hl.length_le; rw [List.length_append] at this; exact this)).mono ?_
    rintro e W2 (⟨h1, h2, h3⟩ | hx)
    · exact .inl ⟨h1, h2, h3.below⟩
    · exact .inr hx
  · exact moves1_in m l Bn Bs N Bo n p h q g t ok J Jx w0 W hJ hY hm hn hw0W hb0 (Nat.lt_of_lt_of_le hbo hW.size) hbon hbos ((rowAt_same (hW.cell (p := ⟨Bo, 0, none⟩) hbo)).trans hrow) hbnW hs0W hs1W h0
theorem moves_stopsX (m N Bn Bs m0 : Nat) (X : World → Nat → Prop) (hX : XOk m0 X) (n : Sp.Net) (p : Nat) (h : ByteArray) (hok : Sp.MvOk n p h) (w0 w : World) (hm : 1 ≤ m) (cs : List Value) (hn : NetR w0 n cs) (hnc : NetC cs N w) (hxn : ¬ X w N) (hw0 : Below w0.heap.size w0 w) (hm0 : m0 ≤ w.heap.size) (hXin : ∀ W' b cs, Below w.heap.size w W' → w.heap.size ≤ b → Blk W' b 44 cs → ¬ X W' b) (hbon : ¬ X w Bn)
    (hbn : w.cell? ⟨Bn, 0, none⟩ = some (.pointer (some ⟨N, 0, none⟩))) (hs0 : w.cell? ⟨Bs, 0, none⟩ = some (.int .i64 (p : Int))) (hs1 : w.cell? ⟨Bs, 1, none⟩ = some (.string h)) :
    SeqStopsK Fence.wide m Tryz.prog 38 #[.pointer (some ⟨Bn, 0, none⟩), .pointer (some ⟨Bs, 0, none⟩)] (fun x : { x : Sp.Mv // x ∈ Sp.movesV n p h } => #[mvC x.1]) (KpX w0.heap.size X) (fun xs => xs.map (·.1) = Sp.movesV n p h) (fun pre => pre.map (·.1) <+: Sp.movesV n p h) (Sp.movesV n p h).length w := by
  intro l J0 Jx0 W hW hJ0 hJx0 hY0 h00
  obtain ⟨J, hJe⟩ : ∃ J : List Sp.Mv → World → Prop, J = fun pre W => ∃ q : List { x : Sp.Mv // x ∈ Sp.movesV n p h }, q.map (·.1) = pre ∧ J0 q W := ⟨_, rfl⟩
  obtain ⟨Jx, hJxe⟩ : ∃ Jx : List Sp.Mv → World → Prop, Jx = fun pre W => ∃ q : List { x : Sp.Mv // x ∈ Sp.movesV n p h }, q.map (·.1) = pre ∧ Jx0 q W := ⟨_, rfl⟩
  have hJ : AbidesFrom W.heap.size J := by
    rw [hJe]
    rintro s A C row ⟨q, h1, h2⟩ hg hr
    exact ⟨q, h1, hJ0 q A C row h2 hg hr⟩
  have h0 : J [] W := by rw [hJe]; exact ⟨[], rfl, h00⟩
  have hY : ∀ pre x W1, J pre W1 → pre ++ [x] <+: Sp.movesV n p h → YieldAt Fence.wide (m - 1) Tryz.prog l #[mvC x] W1 fun e W' =>
      (e = .returned (.bool true) ∧ J (pre ++ [x]) W' ∧ KpX w0.heap.size X W1 W') ∨ (e = .returned (.bool false) ∧ Jx (pre ++ [x]) W') := by
    intro pre x W1 hj hp
    rw [hJe] at hj
    obtain ⟨q, h1, h2⟩ := hj
    have hx : x ∈ Sp.movesV n p h := hp.subset (by simp)
    have hl : q.length < (Sp.movesV n p h).length := by have := hp.length_le; rw [← h1, List.length_append, List.length_map] at this; exact this
    refine (hY0 q ⟨x, hx⟩ W1 h2 hl).mono ?_
    rintro e W2 (⟨e1, e2, e3⟩ | ⟨e1, e2⟩)
    · exact .inl ⟨e1, by rw [hJe]; exact ⟨_, by simp [h1], e2⟩, e3⟩
    · exact .inr ⟨e1, by rw [hJxe]; exact ⟨_, by simp [h1], e2⟩⟩
  refine CallsIn.mono (R := fun e W' => (∃ v, e = .returned v) ∧ ((∃ xs, xs = Sp.movesV n p h ∧ J xs W') ∨ (∃ pre, pre <+: Sp.movesV n p h ∧ Jx pre W'))) ?_ ?_
  rotate_left
  · rintro e W' ⟨e1, e2⟩
    refine ⟨e1, ?_⟩
    rcases e2 with ⟨xs, rfl, e3⟩ | ⟨pre, e3, e4⟩
    · rw [hJe] at e3
      obtain ⟨q, h1, h2⟩ := e3
      exact .inl ⟨q, h1, h2⟩
    · rw [hJxe] at e4
      obtain ⟨q, h1, h2⟩ := e4
      exact .inr ⟨q, (show q.map (·.1) <+: Sp.movesV n p h by rw [h1]; exact e3), h2⟩
  clear hJe hJxe
  show CallsIn Fence.wide m Tryz.prog 38 #[.func (.yield l) #[] #[], .pointer (some ⟨Bn, 0, none⟩), .pointer (some ⟨Bs, 0, none⟩)] W _
  have hbnW := (hW.cell (p := ⟨Bn, 0, none⟩) (xcell_lt hbn)).trans hbn
  have hs0W := (hW.cell (p := ⟨Bs, 0, none⟩) (xcell_lt hs0)).trans hs0
  have hs1W := (hW.cell (p := ⟨Bs, 1, none⟩) (xcell_lt hs1)).trans hs1
  have hw0W : Below w0.heap.size w0 W := hw0.trans (hW.mono hw0.size)
  have hxx : ¬ X W Bn := fun e => (hX.grow hm0 hW e).elim hbon (fun hge => by have h9 : Bn < w.heap.size := xcell_lt hbn; omega)
  rcases hok with ⟨q, hq, hin, hlp⟩ | ⟨q, g, t, ok⟩
  · refine moves1_link m l Bn Bs N w0.heap.size n p h q hq hin J Jx W hJ (fun pre x W1 hj hl => ?_) hm (netAt_of hn hw0W (hnc.below hW)) hbnW hs0W hs1W hlp h0
    refine (hY pre x W1 hj hl).mono ?_
    rintro e W2 (⟨h1, h2, h3⟩ | hx)
    · exact .inl ⟨h1, h2, h3.below⟩
    · exact .inr hx
  · exact moves1_inX m l Bn Bs N m0 X hX n p h q g t ok J Jx w0 W hJ hY hm cs hn (hnc.below hW) (fun e => (hX.grow hm0 hW e).elim hxn (fun hge => by have := hnc.1; omega)) hw0W (Nat.le_trans hm0 hW.size) (fun W' cs hb hk => hXin W' _ cs (hW.trans (hb.mono hW.size)) hW.size hk) hxx hbnW hs0W hs1W h0
end Go.Proofs.YtpknablklencdaaGreatDoor
