/-
  What a round of a loop over an iterator keeps, when the loop's body appends to a row of its own (chapter 10).
-/
import Derived.Test.YthjenkbgiomibaaGreatDoorMo
set_option linter.unusedVariables false
namespace Go.Proofs.YthjenkbgiomibaaGreatDoor
open Go.RowKit
/-- The block that the slice in box Bo points to. -/
def rowAt (W : World) (Bo : Nat) : Option Nat := match W.cell? ⟨Bo, 0, none⟩ with | some (.slice (some a) _ _) => some a.block | _ => none
/-- All is kept but the box Bo and the row that its slice points to. -/
structure SaveRow (n0 Bo : Nat) (A B : World) : Prop where
  below : Below n0 A B
  row : rowAt B Bo = rowAt A Bo ∨ ∀ r, rowAt B Bo = some r → A.heap.size ≤ r
  keep : ∀ b o, b ≠ Bo → A.heap[b]? = some o → o.isCells = true → rowAt A Bo ≠ some b → B.heap[b]? = some o
theorem heap_lt {A : World} {b : Nat} {o : Obj} (h : A.heap[b]? = some o) : b < A.heap.size := (Array.getElem?_eq_some_iff.1 h).1
theorem SaveRow.trans {n0 Bo : Nat} {A B C : World} (h : SaveRow n0 Bo A B) (k : SaveRow n0 Bo B C) : SaveRow n0 Bo A C := by
  refine ⟨h.below.trans k.below, ?_, ?_⟩
  · rcases k.row with e | f
    · rcases h.row with e' | f'
      · exact .inl (e.trans e')
      · exact .inr fun r hr => f' r (e ▸ hr)
    · exact .inr fun r hr => Nat.le_trans h.below.size (f r hr)
  · intro b o hb ho hc hr
    refine k.keep b o hb (h.keep b o hb ho hc hr) hc ?_
    rcases h.row with e | f
    · rwa [e]
    · intro hx
      have := f b hx
      have := heap_lt ho
      omega
theorem rowAt_same {A B : World} {Bo : Nat} (h : B.cell? ⟨Bo, 0, none⟩ = A.cell? ⟨Bo, 0, none⟩) : rowAt B Bo = rowAt A Bo := by
  unfold rowAt; rw [h]
theorem SaveRow.of_below {n0 Bo : Nat} {A B : World} (h : Below A.heap.size A B) (hn : n0 ≤ A.heap.size) (hb : Bo < A.heap.size) : SaveRow n0 Bo A B :=
  ⟨h.mono hn, .inl (rowAt_same (h.cell (p := ⟨Bo, 0, none⟩) hb)), fun b o _ ho _ _ => (h.block b (heap_lt ho)).trans ho⟩
theorem SaveRow.book {n0 Bo : Nat} {w : World} (hn : n0 ≤ w.heap.size) (hb : Bo < w.heap.size) (W : World) (l : Nat) (o o' : Obj) (hl : w.heap.size ≤ l) (h : W.heap[l]? = some o) (hc : o.isCells = false) (hw : o.isWalk = false) : SaveRow n0 Bo W (W.putObj l o') := by
  have hB := belowK_b hn W l o o' hl h hc hw
  have hB2 := belowK_b (n₀ := w.heap.size) (Nat.le_refl _) W l o o' hl h hc hw
  refine ⟨hB, .inl (rowAt_same (hB2.cell (p := ⟨Bo, 0, none⟩) hb)), fun b ob _ ho hob _ => ?_⟩
  have hne : b ≠ l := by rintro rfl; rw [h] at ho; cases ho; rw [hc] at hob; cases hob
  exact (World.putObj_heap_other hne).trans ho
theorem SaveRow.heap {n0 Bo : Nat} {A B : World} (h : SaveRow n0 Bo A B) {b : Nat} (hb : b ≠ Bo) (hr : rowAt A Bo ≠ some b) {o : Obj} (ho : A.heap[b]? = some o) (hc : o.isCells = true) : B.heap[b]? = A.heap[b]? := (h.keep b o hb ho hc hr).trans ho.symm
theorem cells_of_cell {A : World} {p : Addr} {v : Value} (h : A.cell? p = some v) : ∃ o, A.heap[p.block]? = some o ∧ o.isCells = true := by
  unfold World.cell? at h
  split at h
  all_goals first
    | (rename_i hx; exact ⟨_, hx, rfl⟩)
    | cases h
theorem SaveRow.cell {n0 Bo : Nat} {A B : World} (h : SaveRow n0 Bo A B) {p : Addr} {v : Value} (hb : p.block ≠ Bo) (hr : rowAt A Bo ≠ some p.block) (hv : A.cell? p = some v) : B.cell? p = some v := by
  obtain ⟨o, ho, hc⟩ := cells_of_cell hv
  have := h.heap hb hr ho hc
  rw [← hv]
  unfold World.cell?
  rw [this]
end Go.Proofs.YthjenkbgiomibaaGreatDoor
