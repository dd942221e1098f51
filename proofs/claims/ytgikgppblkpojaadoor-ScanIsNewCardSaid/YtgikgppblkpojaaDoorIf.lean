/-
  The lists of the law ScanIsNew while others are put behind them (chapter 3).
-/
import Derived.Test.YtgikgppblkpojaaDoorIe
set_option linter.unusedVariables false
set_option linter.unusedSimpArgs false
set_option maxRecDepth 100000
set_option maxHeartbeats 4000000
namespace Go.Proofs.YtgikgppblkpojaaDoor
open Go.RowKit

/-- An operation whose guard is not met is passed by. -/
theorem wpAnyK_pass {P : Program} {md : Region.Mode} {ops : Array Oper} {S : World → Prop} {L : Nat} {Q : Exit → Act → World → Prop} {i : Nat} {oi : Oper} {fuel : Nat} {listed : Array Bool} {a : Act} {w : World} (hc : ClosedL md ops listed) (hS : S w) (hi : ops[i]? = some oi)
    (hs : (Region.noSelect ops && Region.free md ops listed i && (Region.ready md ops listed).contains i && waitsB md ops i 40 L && (L != i)) = true)
    (hQ : ∀ c a w, Q (.panic c) (a.put oi.dst undef) w → Q (.panic c) a w) (hw : Region.wanted oi (yielded ops a.tmps) = false)
    (h : ClosedL md ops (listed.setIfInBounds i true) → wpAnyK P md ops Q S L fuel (listed.setIfInBounds i true) (a.put oi.dst undef) w) : wpAnyK P md ops Q S L (fuel + 1) listed a w := by
  simp only [Bool.and_eq_true] at hs
  obtain ⟨⟨⟨⟨h1, h2⟩, h3⟩, h4⟩, h5⟩ := hs
  have hr : i ∈ Region.ready md ops listed := by simpa using h3
  exact wpAnyK_first hi (Region.noSelect_spec h1) (by simpa using h5) h4 hQ fuel listed a w hc (Region.free_spec hi h2) hr (Or.inr ⟨hw, rfl⟩) hS (h (closedL_set hc hr))

/-- What is put behind list j. -/
def grw (j m : Nat) : List ZTok := (List.range m).map fun (k : Nat) => markT (-100000 * (j : Int) - (k : Int) - 1)
theorem grw_len (j m : Nat) : (grw j m).length = m := by simp [grw]
theorem grw_at {j m k : Nat} (h : k < m) : (grw j m)[k]? = some (markT (-100000 * (j : Int) - (k : Int) - 1)) := by
  simp [grw, List.getElem?_range h]
theorem grw_succ (j m : Nat) : grw j (m + 1) = grw j m ++ [markT (-100000 * (j : Int) - (m : Int) - 1)] := by
  simp [grw, List.range_succ]
theorem grw_zero (j : Nat) : grw j 0 = [] := rfl
theorem prefix_at {zs gs : List ZTok} (h : zs <+: gs) {i : Nat} {x : ZTok} (hx : zs[i]? = some x) (z : ZTok) : (gs ++ [z])[i]? = some x := by
  obtain ⟨r, rfl⟩ := h
  rw [List.append_assoc, List.getElem?_append_left (List.getElem?_eq_some_iff.1 hx).1]
  exact hx

/-- A list and what it grows to, one token more. -/
theorem two_append {w w' : World} {B : Nat} {A : Option Addr} {zs gs : List ZTok} {v : Value} (h : (It.two A zs v gs).ok w B) (hA : ∀ a, A = some a → ∃ g, a = ⟨g, 0, none⟩) (hp : zs <+: gs) {g n cap : Nat} {z : ZTok} {M : Nat} (hM : w.heap.size = M)
    (hz : TRow w' B (.slice (some ⟨g, 0, none⟩) n cap) (gs ++ [z])) (hg : (v.ownBlock = some g ∧ w.grownBy w' (some g)) ∨ (M ≤ g ∧ w.grownBy w' none)) : (It.two A zs (.slice (some ⟨g, 0, none⟩) n cap) (gs ++ [z])).ok w' B := by
  refine ⟨?_, hz⟩
  rcases hg with ⟨hv, hg⟩ | ⟨hgM, hg⟩
  · by_cases hAg : A = some ⟨g, 0, none⟩
    · subst hAg
      have hv2 := trow_view hz
      refine ⟨fun i x hx => ?_, fun a e => ?_⟩
      · exact hv2 i x (prefix_at hp hx z)
      · injection e with e
        subst e
        exact World.ownsRow.lt hz g rfl
    · refine tview_agree h.1 (fun a e => ?_) hg.size
      refine hg.block _ (h.1.2 a e).2 (fun e2 => ?_)
      obtain ⟨g', rfl⟩ := hA a e
      injection e2 with e2
      exact hAg (by rw [e, ← e2])
  · exact tview_agree h.1 (fun a e => hg.block _ (h.1.2 a e).2 (fun e2 => by cases e2)) hg.size
theorem fam_two {w w' : World} {B : Nat} {L : List It} {i : Nat} {A : Option Addr} {zs gs : List ZTok} {v : Value} (h : Fam w B L) (hi : L[i]? = some (.two A zs v gs)) (hA : ∀ a, A = some a → ∃ g, a = ⟨g, 0, none⟩) (hp : zs <+: gs) {g n cap : Nat} {z : ZTok} {M : Nat} (hM : w.heap.size = M)
    (hz : TRow w' B (.slice (some ⟨g, 0, none⟩) n cap) (gs ++ [z])) (hg : (v.ownBlock = some g ∧ w.grownBy w' (some g)) ∨ (M ≤ g ∧ w.grownBy w' none)) : Fam w' B (L.set i (.two A zs (.slice (some ⟨g, 0, none⟩) n cap) (gs ++ [z]))) := by
  have hx := h.1 i _ hi
  have hy := two_append hx hA hp hM hz hg
  have hs : w.heap.size ≤ w'.heap.size := by rcases hg with ⟨_, hg⟩ | ⟨_, hg⟩ <;> exact hg.size
  refine h.upd hi hs (fun b hb hxb => ?_) hy (fun b hb => ?_)
  · rcases hg with ⟨hv, hg⟩ | ⟨_, hg⟩
    · refine hg.block b hb (fun e => hxb (Or.inr ?_))
      rw [hv, e]
    · exact hg.block b hb (fun e => by cases e)
  · rcases hb with hb | hb
    · exact Or.inl (Or.inl hb)
    · have e2 : g = b := Option.some.inj (show some g = some b from hb)
      subst e2
      rcases hg with ⟨hv, _⟩ | ⟨hM2, _⟩
      · exact Or.inl (Or.inr hv)
      · exact Or.inr (by omega)
theorem below_two {w0 w w' : World} {B : Nat} {A : Option Addr} {zs gs : List ZTok} {v : Value} (hb : Below B w0 w) (hB : B ≤ w.heap.size) (h : (It.two A zs v gs).ok w B) {g M : Nat} (hg : (v.ownBlock = some g ∧ w.grownBy w' (some g)) ∨ (M ≤ g ∧ w.grownBy w' none)) : Below B w0 w' := by
  rcases hg with ⟨hv, hg⟩ | ⟨_, hg⟩
  · exact hb.grown hg hB (fun g' e => by injection e with e; rw [← e]; exact (World.ownsRow.lt h.2 g hv).1)
  · exact hb.grown hg hB (fun g' e => by cases e)
/-- A list is a list that has not grown yet. -/
theorem fam_open {w : World} {B : Nat} {L : List It} {i : Nat} {A : Option Addr} {n cap : Nat} {zs : List ZTok} (h : Fam w B L) (hi : L[i]? = some (.one (.slice A n cap) zs)) : Fam w B (L.set i (.two A zs (.slice A n cap) zs)) := by
  have hx : TRow w B (.slice A n cap) zs := h.1 i _ hi
  refine h.upd hi (Nat.le_refl _) (fun b hb hxb => rfl) ⟨tview_of hx, hx⟩ (fun b hb => Or.inl ?_)
  rcases hb with ⟨a, rfl, rfl⟩ | hb
  · obtain ⟨A', cap', hv, h1, _⟩ := trow_form hx
    injection hv with hA _ _
    subst hA
    obtain ⟨g, rfl⟩ := h1 a rfl
    rfl
  · exact hb
theorem one_off {w : World} {B : Nat} {L : List It} {i : Nat} {A : Option Addr} {n cap : Nat} {zs : List ZTok} (h : Fam w B L) (hi : L[i]? = some (.one (.slice A n cap) zs)) : ∀ a, A = some a → ∃ g, a = ⟨g, 0, none⟩ := by
  have hx : TRow w B (.slice A n cap) zs := h.1 i _ hi
  obtain ⟨A', cap', hv, h1, _⟩ := trow_form hx
  injection hv with hA _ _
  subst hA
  exact h1

/-- Four cells of a block of the call's own, written anew. -/
theorem box_set4 {w : World} {g : Nat} {a0 a1 a2 a3 : Value} (b0 b1 b2 b3 : Value) (c0 : w.cell? ⟨g, 0, none⟩ = some a0) (c1 : w.cell? ⟨g, 1, none⟩ = some a1) (c2 : w.cell? ⟨g, 2, none⟩ = some a2) (c3 : w.cell? ⟨g, 3, none⟩ = some a3) :
    ((((w.setCell ⟨g, 0, none⟩ b0).setCell ⟨g, 1, none⟩ b1).setCell ⟨g, 2, none⟩ b2).setCell ⟨g, 3, none⟩ b3).cell? ⟨g, 0, none⟩ = some b0 ∧
    ((((w.setCell ⟨g, 0, none⟩ b0).setCell ⟨g, 1, none⟩ b1).setCell ⟨g, 2, none⟩ b2).setCell ⟨g, 3, none⟩ b3).cell? ⟨g, 1, none⟩ = some b1 ∧
    ((((w.setCell ⟨g, 0, none⟩ b0).setCell ⟨g, 1, none⟩ b1).setCell ⟨g, 2, none⟩ b2).setCell ⟨g, 3, none⟩ b3).cell? ⟨g, 2, none⟩ = some b2 ∧
    ((((w.setCell ⟨g, 0, none⟩ b0).setCell ⟨g, 1, none⟩ b1).setCell ⟨g, 2, none⟩ b2).setCell ⟨g, 3, none⟩ b3).cell? ⟨g, 3, none⟩ = some b3 := by
  refine ⟨?_, ?_, ?_, ?_⟩ <;> go_simp
theorem grown_cell {w w' : World} {g b o : Nat} {v : Value} (h : w.grownBy w' (some g)) (hb : b < w.heap.size) (hne : b ≠ g) (hc : w.cell? ⟨b, o, none⟩ = some v) : w'.cell? ⟨b, o, none⟩ = some v :=
  (World.cell?_of_block (a := ⟨b, o, none⟩) (h.block b hb (fun e => hne (by injection e)))).trans hc
/-- Behind i lists that have grown. -/
def P4 (T1 T : Nat → List ZTok) (L : List It) (l1 l2 l3 : List Value) (n i : Nat) : Prop :=
  L.length = 2 * n ∧ l1.length = n ∧ l2.length = n ∧ l3.length = i ∧
  (∀ j, j < n → ∃ h, l2[j]? = some (.slice (some ⟨h, 0, none⟩) (T j).length (T j).length) ∧ L[2 * j + 1]? = some (.one (.slice (some ⟨h, 0, none⟩) (T j).length (T j).length) (T j))) ∧
  (∀ j, j < n → i ≤ j → ∃ A c, l1[j]? = some (.slice A (T1 j).length c) ∧ L[2 * j]? = some (.one (.slice A (T1 j).length c) (T1 j))) ∧
  (∀ j, j < i → ∃ A c g c', l1[j]? = some (.slice A (T1 j).length c) ∧ l3[j]? = some (.slice (some ⟨g, 0, none⟩) ((T1 j).length + 96) c') ∧ L[2 * j]? = some (.two A (T1 j) (.slice (some ⟨g, 0, none⟩) ((T1 j).length + 96) c') (T1 j ++ grw j 96)))
theorem P4_of {T1 T : Nat → List ZTok} {L : List It} {l1 l2 : List Value} {n : Nat} (h : P2 T1 T L l1 l2 n) : P4 T1 T L l1 l2 [] n 0 := by
  obtain ⟨h1, h2, h3, h4⟩ := h
  refine ⟨h1, h2, h3, rfl, fun j hj => ?_, fun j hj _ => ?_, fun j hj => by omega⟩
  · obtain ⟨A, c, h, a1, a2, a3, a4⟩ := h4 j hj
    exact ⟨h, a3, a4⟩
  · obtain ⟨A, c, h, a1, a2, a3, a4⟩ := h4 j hj
    exact ⟨A, c, a1, a2⟩
theorem P4_step {T1 T : Nat → List ZTok} {L : List It} {l1 l2 l3 : List Value} {n i : Nat} (h : P4 T1 T L l1 l2 l3 n i) (hi : i < n) {A : Option Addr} {c m : Nat} (hm : (T1 i).length = m) (ha : l1[i]? = some (.slice A m c)) (g c' : Nat) :
    P4 T1 T (L.set (2 * i) (.two A (T1 i) (.slice (some ⟨g, 0, none⟩) (m + 96) c') (T1 i ++ grw i 96))) l1 l2 (l3 ++ [.slice (some ⟨g, 0, none⟩) (m + 96) c']) n (i + 1) := by
  obtain ⟨h1, h2, h3, h4, h5, h6, h7⟩ := h
  refine ⟨by rw [List.length_set]; exact h1, h2, h3, by simp [h4], fun j hj => ?_, fun j hj hij => ?_, fun j hj => ?_⟩
  · obtain ⟨h, a3, a4⟩ := h5 j hj
    exact ⟨h, a3, by rw [List.getElem?_set_ne (by omega)]; exact a4⟩
  · obtain ⟨A, c, a1, a2⟩ := h6 j hj (by omega)
    exact ⟨A, c, a1, by rw [List.getElem?_set_ne (by omega)]; exact a2⟩
  · by_cases hji : j = i
    · subst hji
      refine ⟨A, c, g, c', ?_, ?_, ?_⟩
      · rw [hm]; exact ha
      · rw [List.getElem?_append_right (by omega), h4, Nat.sub_self, hm]; rfl
      · rw [List.getElem?_set_self (by omega), hm]
    · obtain ⟨A, c, g, c', a1, a2, a3⟩ := h7 j (by omega)
      refine ⟨A, c, g, c', a1, ?_, ?_⟩
      · rw [List.getElem?_append_left (by omega)]; exact a2
      · rw [List.getElem?_set_ne (by omega)]; exact a3
/-- The marks of a list that has grown. -/
theorem grown_at {T1 T : Nat → List ZTok} {n j m : Nat} (h : ∀ j, j < n → T1 j = mks j (T j).length) (hj : j < n) (hm : (T j).length = m) {k : Nat} (hk : k < m + 96) :
    (T1 j ++ grw j 96)[k]? = some (if k < m then markT (100000 * (j : Int) + (k : Int)) else markT (-100000 * (j : Int) - ((k : Int) - (m : Int)) - 1)) := by
  have hl : (T1 j).length = m := by rw [h j hj, mks_len, hm]
  by_cases hkm : k < m
  · rw [if_pos hkm, List.getElem?_append_left (by omega), h j hj, mks_at (by omega)]
  · rw [if_neg hkm, List.getElem?_append_right (by omega), grw_at (by omega), hl]
    rw [show ((k - m : Nat) : Int) = (k : Int) - (m : Int) by omega]
end Go.Proofs.YtgikgppblkpojaaDoor
