/-
  The lists of the law ScanIsNew while they are written over, and while they grow (chapter 3).
-/
import Derived.Test.YtgikgppblkpojaaDoorIm
set_option linter.unusedVariables false
set_option linter.unusedSimpArgs false
set_option maxRecDepth 100000
set_option maxHeartbeats 4000000
namespace Go.Proofs.YtgikgppblkpojaaDoor
open Go.RowKit

/-- The lists hold T1, their copies hold T. -/
def P2 (T1 T : Nat → List ZTok) (L : List It) (l1 l2 : List Value) (n : Nat) : Prop :=
  L.length = 2 * n ∧ l1.length = n ∧ l2.length = n ∧ ∀ j, j < n → ∃ A c h, l1[j]? = some (.slice A (T1 j).length c) ∧ L[2 * j]? = some (.one (.slice A (T1 j).length c) (T1 j)) ∧ l2[j]? = some (.slice (some ⟨h, 0, none⟩) (T j).length (T j).length) ∧ L[2 * j + 1]? = some (.one (.slice (some ⟨h, 0, none⟩) (T j).length (T j).length) (T j))
theorem P2_of {T : Nat → List ZTok} {L : List It} {l1 l2 : List Value} {n : Nat} (h : P1 T L l1 l2 n) : P2 T T L l1 l2 n := h
def updT (T : Nat → List ZTok) (i : Nat) (zs : List ZTok) (j : Nat) : List ZTok := if j = i then zs else T j
theorem updT_self (T : Nat → List ZTok) (i : Nat) (zs : List ZTok) : updT T i zs i = zs := if_pos rfl
theorem updT_ne (T : Nat → List ZTok) {i j : Nat} (zs : List ZTok) (h : j ≠ i) : updT T i zs j = T j := if_neg h
theorem P2_set {T1 T : Nat → List ZTok} {L : List It} {l1 l2 : List Value} {n i : Nat} {v : Value} {zs : List ZTok} (h : P2 T1 T L l1 l2 n) (hi : i < n) (hl : zs.length = (T1 i).length) (hv : L[2 * i]? = some (.one v (T1 i))) :
    P2 (updT T1 i zs) T (L.set (2 * i) (.one v zs)) l1 l2 n := by
  obtain ⟨h1, h2, h3, h4⟩ := h
  refine ⟨by rw [List.length_set]; exact h1, h2, h3, fun j hj => ?_⟩
  obtain ⟨A, c, g, a1, a2, a3, a4⟩ := h4 j hj
  by_cases hji : j = i
  · subst hji
    rw [hv] at a2
    injection a2 with a2
    injection a2 with a2
    subst a2
    rw [updT_self, hl]
    exact ⟨A, c, g, a1, by rw [List.getElem?_set_self (by omega)], a3, by rw [List.getElem?_set_ne (by omega)]; exact a4⟩
  · rw [updT_ne _ _ hji]
    exact ⟨A, c, g, a1, by rw [List.getElem?_set_ne (by omega)]; exact a2, a3, by rw [List.getElem?_set_ne (by omega)]; exact a4⟩
/-- The marks of list j. -/
def mks (j m : Nat) : List ZTok := (List.range m).map fun (k : Nat) => markT (100000 * (j : Int) + (k : Int))
theorem mks_len (j m : Nat) : (mks j m).length = m := by simp [mks]
theorem mks_at {j m k : Nat} (h : k < m) : (mks j m)[k]? = some (markT (100000 * (j : Int) + (k : Int))) := by
  simp [mks, List.getElem?_range h]
/-- Behind i lists that are full of marks, and k marks of the next. -/
def P3 (T1 T : Nat → List ZTok) (i k : Nat) : Prop :=
  (∀ j, (T1 j).length = (T j).length) ∧ (∀ j, j < i → T1 j = mks j (T j).length) ∧ ∀ x, x < k → (T1 i)[x]? = some (markT (100000 * (i : Int) + (x : Int)))
theorem P3_nil (T : Nat → List ZTok) : P3 T T 0 0 := ⟨fun _ => rfl, fun j h => by omega, fun x h => by omega⟩
theorem P3_in {T1 T : Nat → List ZTok} {i k : Nat} (h : P3 T1 T i k) (hk : k < (T i).length) : P3 (updT T1 i ((T1 i).set k (markT (100000 * (i : Int) + (k : Int))))) T i (k + 1) := by
  obtain ⟨h1, h2, h3⟩ := h
  refine ⟨fun j => ?_, fun j hj => ?_, fun x hx => ?_⟩
  · by_cases hji : j = i
    · subst hji
      rw [updT_self, List.length_set]
      exact h1 j
    · rw [updT_ne _ _ hji]
      exact h1 j
  · rw [updT_ne _ _ (by omega)]
    exact h2 j hj
  · rw [updT_self]
    by_cases hxk : x = k
    · subst hxk
      exact List.getElem?_set_self (by rw [h1]; exact hk)
    · rw [List.getElem?_set_ne (Ne.symm hxk)]
      exact h3 x (by omega)
theorem P3_next {T1 T : Nat → List ZTok} {i : Nat} (h : P3 T1 T i (T i).length) : P3 T1 T (i + 1) 0 := by
  obtain ⟨h1, h2, h3⟩ := h
  refine ⟨h1, fun j hj => ?_, fun x hx => by omega⟩
  by_cases hji : j = i
  · subst hji
    exact full_eq (h1 j) (mks_len _ _) (fun x hx => by rw [h3 x hx, mks_at hx])
  · exact h2 j (by omega)
theorem law3_markA (n : Int) (w : World) (h1 : -1000000000 ≤ n) (h2 : n ≤ 1000000000) : Calls Tryd.prog 6 #[.int .i64 n] w fun e w' => e = .returned (.agg #[.int .i64 (100 + n), .string ⟨#[109, 97, 114, 107]⟩, .int .i64 n, .int .i64 (-n)]) ∧ Below w.heap.size w w' := law3_mark n w h1 h2
/-- A row where a token is read and written: its cells, and that they are not frozen. -/
theorem trow_cells {w : World} {B g n cap : Nat} {zs : List ZTok} (h : TRow w B (.slice (some ⟨g, 0, none⟩) n cap) zs) {k : Nat} {y : ZTok} (hy : zs[k]? = some y) :
    w.cell? ⟨g, k * 4, none⟩ = some (.int .i64 y.1) ∧ w.cell? ⟨g, k * 4 + 1, none⟩ = some (.string y.2.1) ∧ w.cell? ⟨g, k * 4 + 2, none⟩ = some (.int .i64 y.2.2.1) ∧ w.cell? ⟨g, k * 4 + 3, none⟩ = some (.int .i64 y.2.2.2) ∧
      w.frozen? ⟨g, k * 4, none⟩ = false ∧ w.frozen? ⟨g, k * 4 + 1, none⟩ = false ∧ w.frozen? ⟨g, k * 4 + 2, none⟩ = false ∧ w.frozen? ⟨g, k * 4 + 3, none⟩ = false := by
  obtain ⟨b0, b1, b2, b3⟩ := trow_tok h hy
  exact ⟨b0, b1, b2, b3, trow_fz h _, trow_fz h _, trow_fz h _, trow_fz h _⟩
theorem set3 (a b c y : It) (L : List It) (n : Nat) : (a :: b :: c :: L).set (n + 3) y = a :: b :: c :: L.set n y := rfl
end Go.Proofs.YtgikgppblkpojaaDoor
