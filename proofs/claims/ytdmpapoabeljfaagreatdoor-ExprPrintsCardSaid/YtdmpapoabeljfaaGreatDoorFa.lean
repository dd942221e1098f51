/-
  The reference's reader of expressions in memory (chapter 5).
-/
import Derived.Test.YtdmpapoabeljfaaGreatDoorEi
set_option linter.unusedVariables false
set_option linter.unusedSimpArgs false
set_option maxRecDepth 100000
set_option maxHeartbeats 4000000
namespace Go.Proofs.YtdmpapoabeljfaaGreatDoor
open Go.RowKit

/-- The reader at block N. -/
def FRdr (w : World) (N : Nat) (A : Option Addr) (n cap : Nat) (p : Nat) (ov tv : Value) (m c : Nat) : Prop :=
  Blk w N 51 #[.slice A n cap, .int .i64 (p : Nat), ov, tv, .int .i64 (m : Nat), .int .i64 (c : Nat)]
/-- A row of signs of the call's own; the last opened stands first. -/
def Opn (w : World) (B : Nat) (v : Value) (st : List UInt8) : Prop := w.ownsRow B 5 1 v st.length (Lib.byteCells st.reverse)
/-- The reader with its signs and nodes; below N all is as it was. -/
def FSt (W0 : World) (N : Nat) (A : Option Addr) (n cap : Nat) (p : Nat) (st : List UInt8) (ns : List Sp.Nd) (m c : Nat) (w : World) : Prop :=
  ∃ ov tv, FRdr w N A n cap p ov tv m c ∧ Opn w (N + 1) ov st ∧ Nds w (N + 1) tv ns ∧ Below N W0 w

theorem opn_ne {w : World} {B B' : Nat} {ov tv : Value} {st : List UInt8} {ns : List Sp.Nd} (h : Opn w B ov st) (h2 : Nds w B' tv ns) : ov.ownBlock = none ∨ ov.ownBlock ≠ tv.ownBlock := by
  cases ho : ov.ownBlock with
  | none => exact Or.inl rfl
  | some g =>
    refine Or.inr (fun e => ?_)
    obtain ⟨c1, f1, e1⟩ := Lib.ownsRow_kind h g ho
    obtain ⟨c2, f2, e2⟩ := Lib.ownsRow_kind h2 g e.symm
    rw [e1] at e2
    injection e2 with e2
    injection e2 with _ e2 _
    exact absurd e2 (by decide)
theorem nds_neo {w : World} {B B' : Nat} {ov tv : Value} {st : List UInt8} {ns : List Sp.Nd} (h : Opn w B ov st) (h2 : Nds w B' tv ns) : tv.ownBlock = none ∨ tv.ownBlock ≠ ov.ownBlock := by
  cases ho : tv.ownBlock with
  | none => exact Or.inl rfl
  | some g =>
    rcases opn_ne h h2 with h3 | h3
    · rw [h3]; exact Or.inr (by simp)
    · rw [ho] at h3; exact Or.inr (Ne.symm h3)
theorem opn_neN {w : World} {N : Nat} {ov : Value} {st : List UInt8} (h : Opn w (N + 1) ov st) : ov.ownBlock ≠ some N := by
  intro e
  have := (World.ownsRow.lt h N e).1
  omega
theorem opn_grown {w w' : World} {N : Nat} {ov : Value} {st : List UInt8} (h : Opn w (N + 1) ov st) (hg : w.grownBy w' (some N)) : Opn w' (N + 1) ov st :=
  World.ownsRow.kept h hg (Or.inr (opn_neN h))
theorem opn_below {w w' : World} {B : Nat} {v : Value} {st : List UInt8} (h : Opn w B v st) (hb : Below w.heap.size w w') : Opn w' B v st := ownsRow_below h hb

section
variable {W0 w w' : World} {N n cap p m c : Nat} {A : Option Addr} {st : List UInt8} {ns : List Sp.Nd}
theorem FSt.own (h : FSt W0 N A n cap p st ns m c w) : N < w.heap.size := by
  obtain ⟨ov, tv, h1, _⟩ := h
  exact h1.lt
theorem FSt.bel (h : FSt W0 N A n cap p st ns m c w) : Below N W0 w := by
  obtain ⟨ov, tv, _, _, _, h1⟩ := h
  exact h1
theorem FSt.drewN (h : FSt W0 N A n cap p st ns m c w) (k : Nat) : FSt W0 N A n cap p st ns m c (w.drewN k) := by
  obtain ⟨ov, tv, h1, h2, h3, h4⟩ := h
  exact ⟨ov, tv, h1, h2, h3, below_drewN' h4 k⟩
theorem FSt.below (h : FSt W0 N A n cap p st ns m c w) (hb : Below w.heap.size w w') : FSt W0 N A n cap p st ns m c w' := by
  obtain ⟨ov, tv, h1, h2, h3, h4⟩ := h
  have hN := h1.lt
  exact ⟨ov, tv, h1.below hb hN, opn_below h2 hb, nds_below h3 hb, h4.trans (hb.mono (by omega))⟩
theorem FSt.alloc (h : FSt W0 N A n cap p st ns m c w) (o : Obj) : FSt W0 N A n cap p st ns m c (w.alloc o) := h.below ((Below.refl _ _).alloc (Nat.le_refl _) _)
theorem FSt.cells (h : FSt W0 N A n cap p st ns m c w) : w.cell? ⟨N, 0, none⟩ = some (.slice A n cap) ∧ w.cell? ⟨N, 1, none⟩ = some (.int .i64 (p : Nat)) ∧ w.frozen? ⟨N, 1, none⟩ = false ∧ w.cell? ⟨N, 4, none⟩ = some (.int .i64 (m : Nat)) ∧ w.frozen? ⟨N, 4, none⟩ = false ∧ w.cell? ⟨N, 5, none⟩ = some (.int .i64 (c : Nat)) ∧ w.frozen? ⟨N, 5, none⟩ = false := by
  obtain ⟨ov, tv, h1, _⟩ := h
  exact ⟨h1.cell 0, h1.cell 1, h1.frozen 1, h1.cell 4, h1.frozen 4, h1.cell 5, h1.frozen 5⟩
theorem FSt.turn {p' m' c' : Nat} {ov tv : Value} (hr : FRdr w' N A n cap p' ov tv m' c') (ho : Opn w (N + 1) ov st) (hn : Nds w (N + 1) tv ns) (hb : Below N W0 w) (hN : N < w.heap.size) (hg : w.grownBy w' (some N)) : FSt W0 N A n cap p' st ns m' c' w' :=
  ⟨ov, tv, hr, opn_grown ho hg, nds_grown hn hg, below_only hb (by omega) hg (fun g e => by injection e with e; omega)⟩
theorem only_N (w : World) (N j : Nat) (u : Value) : w.grownBy (w.setCell ⟨N, j, none⟩ u) (some N) := only_setCell (World.grownBy.refl w (some N)) (Or.inl rfl) _ (p := ⟨N, j, none⟩)
theorem FSt.setAt (h : FSt W0 N A n cap p st ns m c w) (q : Nat) (x : Int) (hx : x = q) : FSt W0 N A n cap q st ns m c (w.setCell ⟨N, 1, none⟩ (.int .i64 x)) := by
  subst hx
  obtain ⟨ov, tv, h1, h2, h3, h4⟩ := h
  exact FSt.turn (h1.set_ 1 _) h2 h3 h4 h1.lt (only_N w N 1 _)
theorem FSt.setM (h : FSt W0 N A n cap p st ns m c w) (q : Nat) (x : Int) (hx : x = q) : FSt W0 N A n cap p st ns q c (w.setCell ⟨N, 4, none⟩ (.int .i64 x)) := by
  subst hx
  obtain ⟨ov, tv, h1, h2, h3, h4⟩ := h
  exact FSt.turn (h1.set_ 4 _) h2 h3 h4 h1.lt (only_N w N 4 _)
theorem FSt.setC (h : FSt W0 N A n cap p st ns m c w) (q : Nat) (x : Int) (hx : x = q) : FSt W0 N A n cap p st ns m q (w.setCell ⟨N, 5, none⟩ (.int .i64 x)) := by
  subst hx
  obtain ⟨ov, tv, h1, h2, h3, h4⟩ := h
  exact FSt.turn (h1.set_ 5 _) h2 h3 h4 h1.lt (only_N w N 5 _)
end

def topB (st : List UInt8) : UInt8 := st.headD 0
theorem byteCells_get (l : List UInt8) (i : Nat) (b : UInt8) (h : l[i]? = some b) : (Lib.byteCells l)[i]? = some (.int .u8 b.toNat) := by
  unfold Lib.byteCells
  rw [List.getElem?_map, h]
  rfl
/-- Where an open sign stands. -/
theorem opn_at {w : World} {B : Nat} {v : Value} {st : List UInt8} (h : Opn w B v st) {i : Nat} {b : UInt8} (hi : st.reverse[i]? = some b) : ∃ g cap, v = .slice (some ⟨g, 0, none⟩) st.length cap ∧ w.cell? ⟨g, i, none⟩ = some (.int .u8 b.toNat) ∧ B ≤ g ∧ g < w.heap.size := by
  have hpos : 0 < st.length := by
    have := (List.getElem?_eq_some_iff.1 hi).1
    rw [List.length_reverse] at this
    omega
  obtain ⟨g, cap, rfl, h1, h2⟩ := World.ownsRow.form h hpos
  refine ⟨g, cap, rfl, ?_, h1, h2⟩
  have h3 := World.ownsRow.cellAt h i (by
    have := (List.getElem?_eq_some_iff.1 hi).1
    rw [List.length_reverse] at this
    omega)
  exact h3.trans (byteCells_get _ _ _ hi)
/-- The last sign is taken off. -/
theorem opn_pop {w : World} {B g cap : Nat} {x : UInt8} {st : List UInt8} (h : Opn w B (.slice (some ⟨g, 0, none⟩) (st.length + 1) cap) (x :: st)) : Opn w B (.slice (some ⟨g, 0, none⟩) st.length cap) st := by
  obtain ⟨h1, h2⟩ := h
  refine ⟨by rw [Lib.byteCells_length, List.length_reverse, Nat.mul_one], ?_⟩
  rcases h2 with ⟨h, _⟩ | ⟨g', cap', cur, hv, hg, hh, hle, hcm, hsz, htk⟩
  · cases h
  · injection hv with hv hv2 hv3
    injection hv with hv
    injection hv with hv
    subst hv hv3
    refine Or.inr ⟨g, cap, cur, rfl, hg, hh, by simp at hle; omega, hcm, hsz, ?_⟩
    rw [List.reverse_cons, Lib.byteCells_append] at htk
    have e : cur.toList.take st.length = (cur.toList.take ((x :: st).length * 1)).take st.length := by
      rw [List.take_take]
      congr 1
      rw [List.length_cons]
      omega
    rw [Nat.mul_one, e, htk, List.take_append_of_le_length (by rw [Lib.byteCells_length, List.length_reverse]; exact Nat.le_refl _), List.take_of_length_le (by rw [Lib.byteCells_length, List.length_reverse]; exact Nat.le_refl _)]
end Go.Proofs.YtdmpapoabeljfaaGreatDoor
