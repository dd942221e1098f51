/-
  What an append to the reference's open signs stands on (chapter 5).
-/
import Derived.Test.YtdmpapoabeljfaaGreatDoorFd
set_option linter.unusedVariables false
set_option linter.unusedSimpArgs false
set_option maxRecDepth 100000
set_option maxHeartbeats 4000000
namespace Go.Proofs.YtdmpapoabeljfaaGreatDoor
open Go.RowKit

section
variable {W0 w w' : World} {N n cap p m c : Nat} {A : Option Addr} {st st' : List UInt8} {ns ns' : List Sp.Nd}
/-- What an append to the signs stands on. -/
theorem FSt.apd (h : FSt W0 N A n cap p st ns m c w) (bi : Int) : ∃ ov tv, FRdr (w.alloc (.cells #[.int .u8 bi] 5)) N A n cap p ov tv m c ∧ Opn (w.alloc (.cells #[.int .u8 bi] 5)) (N + 1) ov st ∧ Nds (w.alloc (.cells #[.int .u8 bi] 5)) (N + 1) tv ns ∧ Below N W0 (w.alloc (.cells #[.int .u8 bi] 5)) ∧
    w.cell? ⟨N, 2, none⟩ = some ov ∧ (w.alloc (.cells #[.int .u8 bi] 5)).cell? ⟨N, 2, none⟩ = some ov ∧ (w.alloc (.cells #[.int .u8 bi] 5)).frozen? ⟨N, 2, none⟩ = false ∧ (w.alloc (.cells #[.int .u8 bi] 5)).cell? ⟨w.heap.size, 0, none⟩ = some (.int .u8 bi) ∧ N < (w.alloc (.cells #[.int .u8 bi] 5)).heap.size ∧ ov.ownBlock ≠ some N := by
  obtain ⟨ov, tv, r1, r2, r3, r4⟩ := h
  have hN := r1.lt
  have r1' := r1.alloc (.cells #[.int .u8 bi] 5)
  exact ⟨ov, tv, r1', World.ownsRow.alloc r2 _, World.ownsRow.alloc r3 _, r4.alloc (by omega) _, r1.cell 2, r1'.cell 2, r1'.frozen 2, World.cell?_alloc_at _ _ _ _ rfl, r1'.lt, opn_neN r2⟩
end
end Go.Proofs.YtdmpapoabeljfaaGreatDoor
