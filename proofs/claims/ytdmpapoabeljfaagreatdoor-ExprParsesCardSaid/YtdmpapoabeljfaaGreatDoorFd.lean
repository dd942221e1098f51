/-
  THE WALKS of the reference's reader's methods deep, put, pop, done (chapter 5).
-/
import Derived.Test.YtdmpapoabeljfaaGreatDoorFb
set_option linter.unusedVariables false
set_option linter.unusedSimpArgs false
set_option maxRecDepth 100000
set_option maxHeartbeats 4000000
namespace Go.Proofs.YtdmpapoabeljfaaGreatDoor
open Go.RowKit

theorem opn_form {w : World} {B : Nat} {v : Value} {st : List UInt8} (h : Opn w B v st) : ∃ A cap, v = .slice A st.length cap := by
  rcases h.2 with ⟨rfl, h0⟩ | ⟨g, cap, cur, rfl, _⟩
  · exact ⟨none, 0, by rw [h0]⟩
  · exact ⟨_, cap, rfl⟩
/-- How many signs are open, as memory says. -/
def openLen (w : World) (N : Nat) : Nat := match w.cell? ⟨N, 2, none⟩ with | some (.slice _ k _) => k | _ => 0
theorem openLen_eq {W0 w : World} {N n cap p m c : Nat} {A : Option Addr} {st : List UInt8} {ns : List Sp.Nd} (h : FSt W0 N A n cap p st ns m c w) : openLen w N = st.length := by
  obtain ⟨ov, tv, h1, h2, _⟩ := h
  obtain ⟨A', cap', rfl⟩ := opn_form h2
  unfold openLen
  rw [show w.cell? ⟨N, 2, none⟩ = some (.slice A' st.length cap') from h1.cell 2]

theorem wpList_nd {ops : Array Oper} {rest : List Oper} {o : Oper} {a : Act} {w : World} {Q : Exit → Act → World → Prop} (hgd : o.guard = none) (s x : Operand)
    (ho : o.op = .call { callee := .builtin .append, args := #[s, x], argTypes := #[25, 25] })
    (B : Nat) (v : Value) (ns : List Sp.Nd) (hs : a.eval s = v) (ht : Nds w B v ns) (ad : Addr) (c : Nat) (t : Sp.Nd) (hx : a.eval x = .slice (some ad) 1 c)
    (hnews : ∀ j u, (ndCell t)[j]? = some u → w.cell? (ad.add j) = some u) (hn : ns.length ≤ 1073741824) (hB : B ≤ w.heap.size) (H : Nat) (hH : w.heap.size = H)
    (h : ∀ g cap w', Nds w' B (.slice (some ⟨g, 0, none⟩) (ns.length + 1) cap) (ns ++ [t]) → w.grownBy w' v.ownBlock → (v.ownBlock = some g ∨ g = H) → g < w'.heap.size → wpList Tryz.prog ops Q rest (a.put o.dst (.slice (some ⟨g, 0, none⟩) (ns.length + 1) cap)) w') : wpList Tryz.prog ops Q (o :: rest) a w := by
  obtain ⟨i0, hi0, hz0, hz1, hz2⟩ := info_parts ninfo
  refine wpList_append_lies w hgd s x _ ho B 56 i0 _ 8 80 Tryz.underlying25 hi0 hz0 hz1 hz2 rfl (by omega) v ns.length (ndCells ns) hs ht ad 1 c (ndCell t) hx (by rfl) hnews (by simp [Value.oneCell', ndCell]) (by omega) (by unfold maxLen; omega) (by omega) hB H hH ?_
  intro g cap w' h1 h2 h3 h4
  refine h g cap w' ?_ h2 h3 h4
  unfold Nds
  rw [List.length_append, List.length_singleton, ndCells_append, ndCells_one]
  exact h1
theorem binfo5 : (Tryz.prog.info? 5).map (fun i => (i.zero, i.size, i.bytes)) = some (some (.int .u8 0), 1, 1) := by kernel_rfl
theorem wpList_op {ops : Array Oper} {rest : List Oper} {o : Oper} {a : Act} {w : World} {Q : Exit → Act → World → Prop} (hgd : o.guard = none) (s x : Operand)
    (ho : o.op = .call { callee := .builtin .append, args := #[s, x], argTypes := #[49, 49] })
    (B : Nat) (v : Value) (st : List UInt8) (hs : a.eval s = v) (ht : Opn w B v st) (ad : Addr) (c : Nat) (t : UInt8) (hx : a.eval x = .slice (some ad) 1 c)
    (hnews : w.cell? ad = some (.int .u8 t.toNat)) (had : ad.add 0 = ad) (hn : st.length ≤ 1073741824) (hB : B ≤ w.heap.size) (H : Nat) (hH : w.heap.size = H)
    (h : ∀ g cap w', Opn w' B (.slice (some ⟨g, 0, none⟩) (st.length + 1) cap) (t :: st) → w.grownBy w' v.ownBlock → (v.ownBlock = some g ∨ g = H) → g < w'.heap.size → wpList Tryz.prog ops Q rest (a.put o.dst (.slice (some ⟨g, 0, none⟩) (st.length + 1) cap)) w') : wpList Tryz.prog ops Q (o :: rest) a w := by
  obtain ⟨i0, hi0, hz0, hz1, hz2⟩ := info_parts binfo5
  refine wpList_append_lies w hgd s x _ ho B 5 i0 _ 1 1 Tryz.underlying49 hi0 hz0 hz1 hz2 rfl (by omega) v st.length (Lib.byteCells st.reverse) hs ht ad 1 c (Lib.byteCells [t]) hx (by rfl) ?_ (Lib.byteCells_one [t]) (by omega) (by unfold maxLen; omega) (by omega) hB H hH ?_
  · intro j u hj
    have hj0 : j = 0 := by
      have := (List.getElem?_eq_some_iff.1 hj).1
      rw [Lib.byteCells_length] at this
      simp at this
      exact this
    subst hj0
    rw [had, hnews]
    exact hj
  · intro g cap w' h1 h2 h3 h4
    refine h g cap w' ?_ h2 h3 h4
    unfold Opn
    rw [List.reverse_cons, Lib.byteCells_append, List.length_cons]
    exact h1

section
variable {W0 w w' : World} {N n cap p m c : Nat} {A : Option Addr} {st st' : List UInt8} {ns ns' : List Sp.Nd}
theorem FSt.putN {ov tv v' : Value} (h1 : FRdr w N A n cap p ov tv m c) (h2 : Opn w (N + 1) ov st) (h3 : Nds w (N + 1) tv ns) (h4 : Below N W0 w) (ht : Nds w' (N + 1) v' ns') (hg : w.grownBy w' tv.ownBlock) : FSt W0 N A n cap p st ns' m c (w'.setCell ⟨N, 3, none⟩ v') := by
  have hN := h1.lt
  refine ⟨ov, v', (h1.grown hg (Ne.symm (nds_ne h3))).set_ 3 _, ?_, ?_, ?_⟩
  · exact ownsRow_setCell_below (World.ownsRow.kept h2 hg (opn_ne h2 h3)) (a := ⟨N, 3, none⟩) (Nat.lt_succ_self N) _
  · exact ownsRow_setCell_below ht (a := ⟨N, 3, none⟩) (Nat.lt_succ_self N) _
  · exact (h4.grown hg (by omega) (fun g e => by have := (World.ownsRow.lt h3 g e).1; omega)).setCell (p := ⟨N, 3, none⟩) (Nat.le_refl _) _
theorem FSt.push {ov tv v' : Value} (h1 : FRdr w N A n cap p ov tv m c) (h2 : Opn w (N + 1) ov st) (h3 : Nds w (N + 1) tv ns) (h4 : Below N W0 w) (ht : Opn w' (N + 1) v' st') (hg : w.grownBy w' ov.ownBlock) : FSt W0 N A n cap p st' ns m c (w'.setCell ⟨N, 2, none⟩ v') := by
  have hN := h1.lt
  refine ⟨v', tv, (h1.grown hg (Ne.symm (opn_neN h2))).set_ 2 _, ?_, ?_, ?_⟩
  · exact ownsRow_setCell_below ht (a := ⟨N, 2, none⟩) (Nat.lt_succ_self N) _
  · exact ownsRow_setCell_below (World.ownsRow.kept h3 hg (nds_neo h2 h3)) (a := ⟨N, 2, none⟩) (Nat.lt_succ_self N) _
  · exact (h4.grown hg (by omega) (fun g e => by have := (World.ownsRow.lt h2 g e).1; omega)).setCell (p := ⟨N, 2, none⟩) (Nat.le_refl _) _

theorem f_put (h : FSt W0 N A n cap p st ns m c w) (hl : ns.length ≤ 1000000) (k : Int) :
    Calls Tryz.prog 55 #[.pointer (some ⟨N, 0, none⟩), .int .i64 k] w fun r w' => r = .returned (.tuple #[]) ∧ FSt W0 N A n cap p st (ns ++ [Sp.nd k]) m c w' := by
  obtain ⟨W1, hW1⟩ : ∃ W1, w.alloc (.cells #[.int .i64 k, .string ⟨#[]⟩, .int .i64 0, .int .i64 0, .int .i64 0, .int .i64 0, .int .i64 0, .string ⟨#[]⟩] 56) = W1 := ⟨_, rfl⟩
  have hN := h.own
  have h' := h.alloc (.cells #[.int .i64 k, .string ⟨#[]⟩, .int .i64 0, .int .i64 0, .int .i64 0, .int .i64 0, .int .i64 0, .string ⟨#[]⟩] 56)
  rw [hW1] at h'
  obtain ⟨ov, tv, r0, _, _, _⟩ := h
  have c3 : w.cell? ⟨N, 3, none⟩ = some tv := r0.cell 3
  obtain ⟨ov', tv', h1, h2, h3, h4⟩ := h'
  have hc : W1.cell? ⟨N, 3, none⟩ = some tv' := h1.cell 3
  have hcc : W1.cell? ⟨N, 3, none⟩ = some tv := by rw [← hW1]; exact (World.cell?_alloc_lt w _ ⟨N, 3, none⟩ hN).trans c3
  rw [hc] at hcc
  injection hcc with hcc
  subst hcc
  have hf := h1.frozen 3
  have hNW := h1.lt
  have hne := nds_ne h3
  have HNEW : Hid (∀ j u, (ndCell (Sp.nd k))[j]? = some u → W1.cell? ((⟨w.heap.size, 0, none⟩ : Addr).add j) = some u) := by
    rw [← hW1]
    exact World.news_of_block (cs := #[.int .i64 k, .string ⟨#[]⟩, .int .i64 0, .int .i64 0, .int .i64 0, .int .i64 0, .int .i64 0, .string ⟨#[]⟩]) (t := 56) (fr := (0, 0)) (heap_alloc_new w _)
  have H1 := Lib.hid h1
  have H2 := Lib.hid h2
  have H3 := Lib.hid h3
  have H4 := Lib.hid h4
  have HC := Lib.hid hc
  have HF := Lib.hid hf
  have HW := Lib.hid hW1
  have HNE := Lib.hid hne
  clear r0 h1 h2 h3 h4 hc hf hW1 hne
  go_enter Tryz.func55, Tryz.ntmps55
  go_wp2_with (at_builtin; rw [HW.out]; go_loud (refine wpList_nd rfl _ _ rfl (N + 1) tv' ns rfl H3.out ⟨w.heap.size, 0, none⟩ 1 (Sp.nd k) rfl HNEW.out (by omega) (by omega) _ rfl ?_; intro gg cap6 w6 hT6 hgrow hat hlt6; have c3' := (hgrow.cell_far ⟨N, 3, none⟩ (by omega) (Ne.symm HNE.out)).trans HC.out; have f3' := (hgrow.frozen_far ⟨N, 3, none⟩ (by omega) (Ne.symm HNE.out)).trans HF.out; have HT6 := Lib.hid hT6; have HGR := Lib.hid hgrow; clear hT6 hgrow hat hlt6))
  go_end0
  exact ⟨rfl, FSt.putN H1.out H2.out H3.out H4.out HT6.out HGR.out⟩
end
end Go.Proofs.YtdmpapoabeljfaaGreatDoor
