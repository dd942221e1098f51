/-
  A network in numbers as plain data; how its lists stand in memory (chapter 10).
-/
import Derived.Test.YtpknablklencdaaGreatDoorNs
import Derived.Lib.Hide
set_option linter.unusedVariables false
set_option linter.unusedSimpArgs false
set_option maxRecDepth 100000
set_option maxHeartbeats 4000000
namespace Go.Proofs.YtpknablklencdaaGreatDoor
open Go.RowKit

namespace Sp
structure Port where
  name : ByteArray
  box : Int
  inn : Bool
  dst : Int
structure Entry where
  name : ByteArray
  ins : List Int
  cubes : List ByteArray
  write : ByteArray
  outs : List Int
structure Guard where
  permit : Bool
  cubes : List ByteArray
structure Net where
  bits : Int
  ports : List Port
  tables : List (List Entry)
  guards : List (List Guard)
end Sp

theorem LView.more {α : Type} {k : Nat} {R : World → α → List Value → Prop} {w w' : World} {A : Option Addr} {al : List α} (h : LView k R w A al) (hb : Below w.heap.size w w') (hR : ∀ a cs, R w a cs → R w' a cs) : LView k R w' A al := by
  intro i a ha
  obtain ⟨g, o, cs, hA, hg, hk, hr, hc⟩ := h i a ha
  exact ⟨g, o, cs, hA, Nat.lt_of_lt_of_le hg hb.size, hk, hR a cs hr, fun f u hf => (hb.cell (p := ⟨g, o + i * k + f, none⟩) hg).trans (hc f u hf)⟩

def IntR (_ : World) (x : Int) (cs : List Value) : Prop := cs = [.int .i64 x]
def StrR (_ : World) (s : ByteArray) (cs : List Value) : Prop := cs = [.string s]
def PortR (_ : World) (p : Sp.Port) (cs : List Value) : Prop := cs = [.string p.name, .int .i64 p.box, .bool p.inn, .int .i64 p.dst]
/-- Numbers, texts, ports in memory. -/
def IV (w : World) (A : Option Addr) (l : List Int) : Prop := LView 1 IntR w A l
def SV (w : World) (A : Option Addr) (l : List ByteArray) : Prop := LView 1 StrR w A l
def PV (w : World) (A : Option Addr) (l : List Sp.Port) : Prop := LView 4 PortR w A l
theorem IV.more {w w' : World} {A : Option Addr} {l : List Int} (h : IV w A l) (hb : Below w.heap.size w w') : IV w' A l := LView.more h hb (fun _ _ h => h)
theorem SV.more {w w' : World} {A : Option Addr} {l : List ByteArray} (h : SV w A l) (hb : Below w.heap.size w w') : SV w' A l := LView.more h hb (fun _ _ h => h)
theorem PV.more {w w' : World} {A : Option Addr} {l : List Sp.Port} (h : PV w A l) (hb : Below w.heap.size w w') : PV w' A l := LView.more h hb (fun _ _ h => h)
def GuardR (w : World) (x : Sp.Guard) (cs : List Value) : Prop := ∃ A c, cs = [.bool x.permit, .slice A x.cubes.length c] ∧ SV w A x.cubes ∧ x.cubes.length ≤ c
def EntryR (w : World) (x : Sp.Entry) (cs : List Value) : Prop := ∃ A1 c1 A2 c2 A3 c3, cs = [.string x.name, .slice A1 x.ins.length c1, .slice A2 x.cubes.length c2, .string x.write, .slice A3 x.outs.length c3] ∧ IV w A1 x.ins ∧ SV w A2 x.cubes ∧ IV w A3 x.outs ∧ x.ins.length ≤ c1 ∧ x.cubes.length ≤ c2 ∧ x.outs.length ≤ c3
def GV (w : World) (A : Option Addr) (l : List Sp.Guard) : Prop := LView 2 GuardR w A l
def EV (w : World) (A : Option Addr) (l : List Sp.Entry) : Prop := LView 5 EntryR w A l
theorem GuardR.more {w w' : World} {x : Sp.Guard} {cs : List Value} (h : GuardR w x cs) (hb : Below w.heap.size w w') : GuardR w' x cs := by
  obtain ⟨A, c, h1, h2, h3⟩ := h
  exact ⟨A, c, h1, h2.more hb, h3⟩
theorem EntryR.more {w w' : World} {x : Sp.Entry} {cs : List Value} (h : EntryR w x cs) (hb : Below w.heap.size w w') : EntryR w' x cs := by
  obtain ⟨A1, c1, A2, c2, A3, c3, h1, h2, h3, h4, h5⟩ := h
  exact ⟨A1, c1, A2, c2, A3, c3, h1, h2.more hb, h3.more hb, h4.more hb, h5⟩
theorem GV.more {w w' : World} {A : Option Addr} {l : List Sp.Guard} (h : GV w A l) (hb : Below w.heap.size w w') : GV w' A l := LView.more h hb (fun _ _ h => h.more hb)
theorem EV.more {w w' : World} {A : Option Addr} {l : List Sp.Entry} (h : EV w A l) (hb : Below w.heap.size w w') : EV w' A l := LView.more h hb (fun _ _ h => h.more hb)
def GuardsR (w : World) (x : List Sp.Guard) (cs : List Value) : Prop := ∃ A c, cs = [.slice A x.length c] ∧ GV w A x ∧ x.length ≤ c
def TableR (w : World) (x : List Sp.Entry) (cs : List Value) : Prop := ∃ A c, cs = [.slice A x.length c] ∧ EV w A x ∧ x.length ≤ c
def GGV (w : World) (A : Option Addr) (l : List (List Sp.Guard)) : Prop := LView 1 GuardsR w A l
def TTV (w : World) (A : Option Addr) (l : List (List Sp.Entry)) : Prop := LView 1 TableR w A l
theorem GGV.more {w w' : World} {A : Option Addr} {l : List (List Sp.Guard)} (h : GGV w A l) (hb : Below w.heap.size w w') : GGV w' A l :=
  LView.more h hb (fun _ _ ⟨A, c, h1, h2, h3⟩ => ⟨A, c, h1, h2.more hb, h3⟩)
theorem TTV.more {w w' : World} {A : Option Addr} {l : List (List Sp.Entry)} (h : TTV w A l) (hb : Below w.heap.size w w') : TTV w' A l :=
  LView.more h hb (fun _ _ ⟨A, c, h1, h2, h3⟩ => ⟨A, c, h1, h2.more hb, h3⟩)
/-- A network's four cells. -/
def NetR (w : World) (n : Sp.Net) (cs : List Value) : Prop := ∃ A1 c1 A2 c2 A3 c3, cs = [.int .i64 n.bits, .slice A1 n.ports.length c1, .slice A2 n.tables.length c2, .slice A3 n.guards.length c3] ∧ PV w A1 n.ports ∧ TTV w A2 n.tables ∧ GGV w A3 n.guards ∧ n.ports.length ≤ c1 ∧ n.tables.length ≤ c2 ∧ n.guards.length ≤ c3
theorem NetR.more {w w' : World} {x : Sp.Net} {cs : List Value} (h : NetR w x cs) (hb : Below w.heap.size w w') : NetR w' x cs := by
  obtain ⟨A1, c1, A2, c2, A3, c3, h1, h2, h3, h4, h5⟩ := h
  exact ⟨A1, c1, A2, c2, A3, c3, h1, h2.more hb, h3.more hb, h4.more hb, h5⟩

/-- Where an element stands. -/
theorem IV.at {w : World} {A : Option Addr} {l : List Int} (h : IV w A l) {i : Nat} {x : Int} (hx : l[i]? = some x) : ∃ g o, A = some ⟨g, o, none⟩ ∧ g < w.heap.size ∧ w.cell? ⟨g, o + i, none⟩ = some (.int .i64 x) := by
  obtain ⟨g, o, cs, hA, hg, hk, rfl, hc⟩ := h i x hx
  have := hc 0 _ rfl
  rw [Nat.mul_one, Nat.add_zero] at this
  exact ⟨g, o, hA, hg, this⟩
theorem SV.at {w : World} {A : Option Addr} {l : List ByteArray} (h : SV w A l) {i : Nat} {x : ByteArray} (hx : l[i]? = some x) : ∃ g o, A = some ⟨g, o, none⟩ ∧ g < w.heap.size ∧ w.cell? ⟨g, o + i, none⟩ = some (.string x) := by
  obtain ⟨g, o, cs, hA, hg, hk, rfl, hc⟩ := h i x hx
  have := hc 0 _ rfl
  rw [Nat.mul_one, Nat.add_zero] at this
  exact ⟨g, o, hA, hg, this⟩
theorem PV.at {w : World} {A : Option Addr} {l : List Sp.Port} (h : PV w A l) {i : Nat} {x : Sp.Port} (hx : l[i]? = some x) : ∃ g o, A = some ⟨g, o, none⟩ ∧ g < w.heap.size ∧
    w.cell? ⟨g, o + i * 4, none⟩ = some (.string x.name) ∧ w.cell? ⟨g, o + i * 4 + 1, none⟩ = some (.int .i64 x.box) ∧ w.cell? ⟨g, o + i * 4 + 2, none⟩ = some (.bool x.inn) ∧ w.cell? ⟨g, o + i * 4 + 3, none⟩ = some (.int .i64 x.dst) := by
  obtain ⟨g, o, cs, hA, hg, hk, rfl, hc⟩ := h i x hx
  exact ⟨g, o, hA, hg, hc 0 _ rfl, hc 1 _ rfl, hc 2 _ rfl, hc 3 _ rfl⟩
theorem GV.at {w : World} {A : Option Addr} {l : List Sp.Guard} (h : GV w A l) {i : Nat} {x : Sp.Guard} (hx : l[i]? = some x) : ∃ g o A1 c1, A = some ⟨g, o, none⟩ ∧ g < w.heap.size ∧
    w.cell? ⟨g, o + i * 2, none⟩ = some (.bool x.permit) ∧ w.cell? ⟨g, o + i * 2 + 1, none⟩ = some (.slice A1 x.cubes.length c1) ∧ SV w A1 x.cubes ∧ x.cubes.length ≤ c1 := by
  obtain ⟨g, o, cs, hA, hg, hk, ⟨A1, c1, rfl, hs⟩, hc⟩ := h i x hx
  exact ⟨g, o, A1, c1, hA, hg, hc 0 _ rfl, hc 1 _ rfl, hs⟩
theorem EV.at {w : World} {A : Option Addr} {l : List Sp.Entry} (h : EV w A l) {i : Nat} {x : Sp.Entry} (hx : l[i]? = some x) : ∃ g o A1 c1 A2 c2 A3 c3, A = some ⟨g, o, none⟩ ∧ g < w.heap.size ∧
    w.cell? ⟨g, o + i * 5, none⟩ = some (.string x.name) ∧ w.cell? ⟨g, o + i * 5 + 1, none⟩ = some (.slice A1 x.ins.length c1) ∧ w.cell? ⟨g, o + i * 5 + 2, none⟩ = some (.slice A2 x.cubes.length c2) ∧ w.cell? ⟨g, o + i * 5 + 3, none⟩ = some (.string x.write) ∧ w.cell? ⟨g, o + i * 5 + 4, none⟩ = some (.slice A3 x.outs.length c3) ∧
    IV w A1 x.ins ∧ SV w A2 x.cubes ∧ IV w A3 x.outs ∧ x.ins.length ≤ c1 ∧ x.cubes.length ≤ c2 ∧ x.outs.length ≤ c3 := by
  obtain ⟨g, o, cs, hA, hg, hk, ⟨A1, c1, A2, c2, A3, c3, rfl, h1, h2, h3⟩, hc⟩ := h i x hx
  exact ⟨g, o, A1, c1, A2, c2, A3, c3, hA, hg, hc 0 _ rfl, hc 1 _ rfl, hc 2 _ rfl, hc 3 _ rfl, hc 4 _ rfl, h1, h2, h3⟩
theorem GGV.at {w : World} {A : Option Addr} {l : List (List Sp.Guard)} (h : GGV w A l) {i : Nat} {x : List Sp.Guard} (hx : l[i]? = some x) : ∃ g o A1 c1, A = some ⟨g, o, none⟩ ∧ g < w.heap.size ∧ w.cell? ⟨g, o + i, none⟩ = some (.slice A1 x.length c1) ∧ GV w A1 x ∧ x.length ≤ c1 := by
  obtain ⟨g, o, cs, hA, hg, hk, ⟨A1, c1, rfl, hs⟩, hc⟩ := h i x hx
  have := hc 0 _ rfl
  rw [Nat.mul_one, Nat.add_zero] at this
  exact ⟨g, o, A1, c1, hA, hg, this, hs⟩
theorem TTV.at {w : World} {A : Option Addr} {l : List (List Sp.Entry)} (h : TTV w A l) {i : Nat} {x : List Sp.Entry} (hx : l[i]? = some x) : ∃ g o A1 c1, A = some ⟨g, o, none⟩ ∧ g < w.heap.size ∧ w.cell? ⟨g, o + i, none⟩ = some (.slice A1 x.length c1) ∧ EV w A1 x ∧ x.length ≤ c1 := by
  obtain ⟨g, o, cs, hA, hg, hk, ⟨A1, c1, rfl, hs⟩, hc⟩ := h i x hx
  have := hc 0 _ rfl
  rw [Nat.mul_one, Nat.add_zero] at this
  exact ⟨g, o, A1, c1, hA, hg, this, hs⟩
end Go.Proofs.YtpknablklencdaaGreatDoor
