/-
  THE WALKS of reachlaw10's written, states (chapter 10).
-/
import Derived.Test.YtpknablklencdaaGreatDoorUa
import Derived.Test.YtpknablklencdaaGreatDoorMv
import Derived.Test.YtpknablklencdaaGreatDoorMe
set_option linter.unusedVariables false
set_option linter.unusedSimpArgs false
set_option maxRecDepth 100000
set_option maxHeartbeats 4000000
namespace Go.Proofs.YtpknablklencdaaGreatDoor
open Go.RowKit
def StateR (_ : World) (x : Int × ByteArray) (cs : List Value) : Prop := cs = stC x
def STV (w : World) (A : Option Addr) (l : List (Int × ByteArray)) : Prop := LView 2 StateR w A l
theorem STV.more {w w' : World} {A : Option Addr} {l : List (Int × ByteArray)} (h : STV w A l) (hb : Below w.heap.size w w') : STV w' A l := LView.more h hb (fun _ _ h => h)
theorem STV.at {w : World} {A : Option Addr} {l : List (Int × ByteArray)} (h : STV w A l) {i : Nat} {x : Int × ByteArray} (hx : l[i]? = some x) : ∃ g o, A = some ⟨g, o, none⟩ ∧ g < w.heap.size ∧ w.cell? ⟨g, o + i * 2, none⟩ = some (.int .i64 x.1) ∧ w.cell? ⟨g, o + i * 2 + 1, none⟩ = some (.string x.2) := by
  obtain ⟨g, o, cs, hA, hg, hk, rfl, hc⟩ := h i x hx
  exact ⟨g, o, hA, hg, hc 0 _ rfl, hc 1 _ rfl⟩
theorem stCells_get : ∀ (zs : List (Int × ByteArray)) (i : Nat) (z : Int × ByteArray) (f : Nat), zs[i]? = some z → f < 2 → (zs.flatMap stC)[i * 2 + f]? = (stC z)[f]?
  | [], i, d, f, h, _ => by simp at h
  | x :: r, 0, d, f, h, hf => by
    simp at h
    subst h
    rw [List.flatMap_cons, List.getElem?_append_left (show 0 * 2 + f < (stC x).length by show _ < 2; omega)]
    simp
  | x :: r, i + 1, d, f, h, hf => by
    have ih := stCells_get r i d f (by simpa using h) hf
    rw [List.flatMap_cons, List.getElem?_append_right (show (stC x).length ≤ (i + 1) * 2 + f by show 2 ≤ _; omega)]
    have : (i + 1) * 2 + f - (stC x).length = i * 2 + f := by show (i + 1) * 2 + f - 2 = _; omega
    rw [this]
    exact ih
theorem st_view {w : World} {B : Nat} {v : Value} {zs : List (Int × ByteArray)} (h : StR w B v zs) : ∃ A cap, v = .slice A zs.length cap ∧ STV w A zs := by
  rcases h.2 with ⟨rfl, hn⟩ | ⟨g, cap, cur, hv, hg, hh, hle, hcm, r⟩
  · refine ⟨none, 0, by rw [hn], ?_⟩
    intro i d hd
    have : zs = [] := List.length_eq_zero_iff.1 hn
    subst this
    simp at hd
  · refine ⟨some ⟨g, 0, none⟩, cap, hv, ?_⟩
    intro i z hz
    refine ⟨g, 0, stC z, rfl, (World.ownsRow.lt h g (by rw [hv]; rfl)).2, rfl, rfl, ?_⟩
    intro f u hu
    have hf : f < 2 := (List.getElem?_eq_some_iff.1 hu).1
    have hlt : i * 2 + f < zs.length * 2 := by
      have : i < zs.length := (List.getElem?_eq_some_iff.1 hz).1
      omega
    have h2 : w.ownsRow B 28 2 (.slice (some ⟨g, 0, none⟩) zs.length cap) zs.length (zs.flatMap stC) := by rw [← hv]; exact h
    rw [Nat.zero_add, h2.cellAt (i * 2 + f) hlt, stCells_get zs i z f hz hf, hu]
end Go.Proofs.YtpknablklencdaaGreatDoor
