/-
  Tokens in Go's memory, of whatever kind and place (chapter 3).
-/
import Derived.Test.YtgikgppblkpojaaDoorLa
import Derived.Test.YtgikgppblkpojaaDoorQz
set_option linter.unusedVariables false
set_option linter.unusedSimpArgs false
set_option maxRecDepth 100000
set_option maxHeartbeats 4000000
namespace Go.Proofs.YtgikgppblkpojaaDoor
open Go.RowKit

/-- A token in Go's memory, of whatever kind and place. -/
abbrev ZTok := Int × ByteArray × Int × Int
def zv (z : ZTok) : Value := .agg #[.int .i64 z.1, .string z.2.1, .int .i64 z.2.2.1, .int .i64 z.2.2.2]
def ptZ (z : ZTok) : Sp.Pt := (z.1, z.2.1.data.toList)
/-- A token's four cells. -/
def ZAt (w : World) (g x : Nat) (z : ZTok) : Prop :=
  w.cell? ⟨g, x, none⟩ = some (.int .i64 z.1) ∧ w.cell? ⟨g, x + 1, none⟩ = some (.string z.2.1) ∧ w.cell? ⟨g, x + 2, none⟩ = some (.int .i64 z.2.2.1) ∧ w.cell? ⟨g, x + 3, none⟩ = some (.int .i64 z.2.2.2)
theorem ZAt.below {w w' : World} {B g x : Nat} {z : ZTok} (h : ZAt w g x z) (hb : Below B w w') (hg : g < B) : ZAt w' g x z :=
  ⟨(hb.cell (p := ⟨g, x, none⟩) hg).trans h.1, (hb.cell (p := ⟨g, x + 1, none⟩) hg).trans h.2.1, (hb.cell (p := ⟨g, x + 2, none⟩) hg).trans h.2.2.1, (hb.cell (p := ⟨g, x + 3, none⟩) hg).trans h.2.2.2⟩
/-- A slice, wherever it lies, that reads as these tokens. -/
def ViewZ (w : World) (H : Nat) (A : Option Addr) (zs : List ZTok) : Prop :=
  ∀ i z, zs[i]? = some z → ∃ g o, A = some ⟨g, o, none⟩ ∧ g < H ∧ ZAt w g (o + i * 4) z
theorem ViewZ.below {w w' : World} {H B : Nat} {A : Option Addr} {zs : List ZTok} (h : ViewZ w H A zs) (hb : Below B w w') (hH : H ≤ B) : ViewZ w' H A zs := by
  intro i z hz
  obtain ⟨g, o, h1, h2, h3⟩ := h i z hz
  exact ⟨g, o, h1, h2, h3.below hb (by omega)⟩
theorem ViewZ.more {w : World} {H H' : Nat} {A : Option Addr} {zs : List ZTok} (h : ViewZ w H A zs) (hH : H ≤ H') : ViewZ w H' A zs := by
  intro i z hz
  obtain ⟨g, o, h1, h2, h3⟩ := h i z hz
  exact ⟨g, o, h1, by omega, h3⟩
/-- A token of Scan, so read. -/
def zOf (t : Sp.Tok) : ZTok := ((t.1 : Nat), ⟨t.2.1.toArray⟩, (t.2.2.1 : Nat), (t.2.2.2 : Nat))
theorem View.toZ {w : World} {H : Nat} {A : Option Addr} {ts : List Sp.Tok} (h : View w H A ts) : ViewZ w H A (ts.map zOf) := by
  intro i z hz
  rw [List.getElem?_map] at hz
  obtain ⟨t, ht, rfl⟩ := Option.map_eq_some_iff.1 hz
  obtain ⟨g, h1, h2, h3⟩ := h i t ht
  refine ⟨g, 0, h1, h2, ?_⟩
  unfold ZAt
  rw [Nat.zero_add]
  exact h3
theorem ptZ_zOf (t : Sp.Tok) : ptZ (zOf t) = Sp.ptOf t := rfl

def zCells (z : ZTok) : Array Value := #[.int .i64 z.1, .string z.2.1, .int .i64 z.2.2.1, .int .i64 z.2.2.2]
theorem blk_z {w : World} {g : Nat} {t : TypeId} {z : ZTok} (h : Blk w g t (zCells z)) : ZAt w g 0 z := ⟨h.cell 0, h.cell 1, h.cell 2, h.cell 3⟩
end Go.Proofs.YtgikgppblkpojaaDoor
