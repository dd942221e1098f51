/-
  What the statements on tokens stand on: tokens read out of a slice (chapter 3).
-/
import Derived.Test.YtpknablklencdaaGreatDoorTe
set_option linter.unusedVariables false
set_option linter.unusedSimpArgs false
set_option maxRecDepth 100000
set_option maxHeartbeats 2000000
namespace Go.Proofs.YtpknablklencdaaGreatDoor
open Go.RowKit

/-- Element i of the tokens at block g. -/
def TokAt (w : World) (g i : Nat) (t : Sp.Tok) : Prop :=
  w.cell? ⟨g, i * 4, none⟩ = some (.int .i64 (t.1 : Nat)) ∧ w.cell? ⟨g, i * 4 + 1, none⟩ = some (.string ⟨t.2.1.toArray⟩) ∧ w.cell? ⟨g, i * 4 + 2, none⟩ = some (.int .i64 (t.2.2.1 : Nat)) ∧ w.cell? ⟨g, i * 4 + 3, none⟩ = some (.int .i64 (t.2.2.2 : Nat))
theorem TokAt.below {w w' : World} {B g i : Nat} {t : Sp.Tok} (h : TokAt w g i t) (hb : Below B w w') (hg : g < B) : TokAt w' g i t :=
  ⟨(hb.cell (p := ⟨g, i * 4, none⟩) hg).trans h.1, (hb.cell (p := ⟨g, i * 4 + 1, none⟩) hg).trans h.2.1, (hb.cell (p := ⟨g, i * 4 + 2, none⟩) hg).trans h.2.2.1, (hb.cell (p := ⟨g, i * 4 + 3, none⟩) hg).trans h.2.2.2⟩
/-- A slice at A that reads as these tokens, below block H. -/
def View (w : World) (H : Nat) (A : Option Addr) (ts : List Sp.Tok) : Prop :=
  ∀ i t, ts[i]? = some t → ∃ g, A = some ⟨g, 0, none⟩ ∧ g < H ∧ TokAt w g i t
theorem View.below {w w' : World} {H B : Nat} {A : Option Addr} {ts : List Sp.Tok} (h : View w H A ts) (hb : Below B w w') (hH : H ≤ B) : View w' H A ts := by
  intro i t ht
  obtain ⟨g, h1, h2, h3⟩ := h i t ht
  exact ⟨g, h1, h2, h3.below hb (by omega)⟩
theorem View.more {w : World} {H H' : Nat} {A : Option Addr} {ts : List Sp.Tok} (h : View w H A ts) (hH : H ≤ H') : View w H' A ts := by
  intro i t ht
  obtain ⟨g, h1, h2, h3⟩ := h i t ht
  exact ⟨g, h1, by omega, h3⟩

theorem tokCells_get : ∀ (ts : List Sp.Tok) (i : Nat) (t : Sp.Tok) (f : Nat), ts[i]? = some t → f < 4 → (tokCells ts)[i * 4 + f]? = (tokCell t)[f]?
  | [], i, t, f, h, _ => by simp at h
  | x :: r, 0, t, f, h, hf => by
    simp at h
    subst h
    unfold tokCells
    rw [List.flatMap_cons, List.getElem?_append_left (show 0 * 4 + f < (tokCell x).length by show _ < 4; omega)]
    simp
  | x :: r, i + 1, t, f, h, hf => by
    have ih := tokCells_get r i t f (by simpa using h) hf
    unfold tokCells at ih ⊢
    rw [List.flatMap_cons, List.getElem?_append_right (show (tokCell x).length ≤ (i + 1) * 4 + f by show 4 ≤ _; omega)]
    have : (i + 1) * 4 + f - (tokCell x).length = i * 4 + f := by show (i + 1) * 4 + f - 4 = _; omega
    rw [this]
    exact ih
theorem toks_view {w : World} {B : Nat} {v : Value} {ts : List Sp.Tok} (h : Toks w B v ts) : ∃ A cap, v = .slice A ts.length cap ∧ View w w.heap.size A ts := by
  rcases h.2 with ⟨rfl, hn⟩ | ⟨g, cap, cur, hv, hg, r⟩
  · refine ⟨none, 0, by rw [hn], ?_⟩
    intro i t ht
    have : ts = [] := List.length_eq_zero_iff.1 hn
    subst this
    simp at ht
  · refine ⟨some ⟨g, 0, none⟩, cap, hv, ?_⟩
    intro i t ht
    refine ⟨g, rfl, (h.lt g (by rw [hv]; rfl)).2, ?_⟩
    have key : ∀ f u, f < 4 → (tokCell t)[f]? = some u → w.cell? ⟨g, i * 4 + f, none⟩ = some u := by
      intro f u hf hu
      have hlt : i * 4 + f < ts.length * 4 := by
        have : i < ts.length := (List.getElem?_eq_some_iff.1 ht).1
        omega
      have h2 : w.ownsRow B 107 4 (.slice (some ⟨g, 0, none⟩) ts.length cap) ts.length (tokCells ts) := by rw [← hv]; exact h
      rw [h2.cellAt (i * 4 + f) hlt, tokCells_get ts i t f ht hf, hu]
    exact ⟨key 0 _ (by omega) rfl, key 1 _ (by omega) rfl, key 2 _ (by omega) rfl, key 3 _ (by omega) rfl⟩

/-- Scan, its tokens to be read. -/
def ScanSays (s : ByteArray) (ts : List Sp.Tok) (c n m : Int) : Prop :=
  ∀ W, Gs W → Calls Tryz.prog 50 #[.string s] W fun e w' => ∃ A cap, e = .returned (.tuple #[.slice A ts.length cap, .int .i64 c, .int .i64 n, .int .i64 m]) ∧ View w' w'.heap.size A ts ∧ Below W.heap.size W w'
theorem scan_says (s : ByteArray) (hs : s.size ≤ 9223372036854775807) {ts : List Sp.Tok} {c n m : Nat} (h : Sp.scanV s.data.toList = (ts, c, n, m)) : ScanSays s ts c n m := by
  intro W hG
  refine (scan_scan s W hG hs).mono ?_
  rintro e w' ⟨tv, rfl, ht, hb⟩
  rw [h] at ht ⊢
  obtain ⟨A, cap, rfl, hv⟩ := toks_view ht
  exact ⟨A, cap, rfl, hv, hb⟩
end Go.Proofs.YtpknablklencdaaGreatDoor
