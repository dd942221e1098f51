/-
  A slice of nodes in memory; a pile of trees of the call's own (chapter 5).
-/
import Derived.Test.YtdmpapoabeljfaaGreatDoorKb
set_option linter.unusedVariables false
set_option linter.unusedSimpArgs false
set_option maxRecDepth 100000
set_option maxHeartbeats 4000000
namespace Go.Proofs.YtdmpapoabeljfaaGreatDoor
open Go.RowKit

/-- A node's eight cells at a place. -/
def NAt (w : World) (g x : Nat) (d : Sp.Nd) : Prop :=
  w.cell? ⟨g, x, none⟩ = some (.int .i64 d.kind) ∧ w.cell? ⟨g, x + 1, none⟩ = some (.string ⟨d.field.toArray⟩) ∧ w.cell? ⟨g, x + 2, none⟩ = some (.int .i64 d.op) ∧ w.cell? ⟨g, x + 3, none⟩ = some (.int .i64 d.form) ∧ w.cell? ⟨g, x + 4, none⟩ = some (.int .i64 d.lo) ∧ w.cell? ⟨g, x + 5, none⟩ = some (.int .i64 d.hi) ∧ w.cell? ⟨g, x + 6, none⟩ = some (.int .i64 d.len) ∧ w.cell? ⟨g, x + 7, none⟩ = some (.string ⟨d.pat.toArray⟩)
theorem NAt.below {w w' : World} {B g x : Nat} {d : Sp.Nd} (h : NAt w g x d) (hb : Below B w w') (hg : g < B) : NAt w' g x d := by
  obtain ⟨h0, h1, h2, h3, h4, h5, h6, h7⟩ := h
  exact ⟨(hb.cell (p := ⟨g, x, none⟩) hg).trans h0, (hb.cell (p := ⟨g, x + 1, none⟩) hg).trans h1, (hb.cell (p := ⟨g, x + 2, none⟩) hg).trans h2, (hb.cell (p := ⟨g, x + 3, none⟩) hg).trans h3, (hb.cell (p := ⟨g, x + 4, none⟩) hg).trans h4, (hb.cell (p := ⟨g, x + 5, none⟩) hg).trans h5, (hb.cell (p := ⟨g, x + 6, none⟩) hg).trans h6, (hb.cell (p := ⟨g, x + 7, none⟩) hg).trans h7⟩
/-- A slice, wherever it lies, that reads as these nodes. -/
def NView (w : World) (H : Nat) (A : Option Addr) (ns : List Sp.Nd) : Prop :=
  ∀ i d, ns[i]? = some d → ∃ g o, A = some ⟨g, o, none⟩ ∧ g < H ∧ NAt w g (o + i * 8) d
theorem NView.below {w w' : World} {H B : Nat} {A : Option Addr} {ns : List Sp.Nd} (h : NView w H A ns) (hb : Below B w w') (hH : H ≤ B) : NView w' H A ns := by
  intro i d hd
  obtain ⟨g, o, h1, h2, h3⟩ := h i d hd
  exact ⟨g, o, h1, h2, h3.below hb (by omega)⟩
theorem NView.more {w : World} {H H' : Nat} {A : Option Addr} {ns : List Sp.Nd} (h : NView w H A ns) (hH : H ≤ H') : NView w H' A ns := by
  intro i d hd
  obtain ⟨g, o, h1, h2, h3⟩ := h i d hd
  exact ⟨g, o, h1, by omega, h3⟩
theorem ndCells_len : ∀ ns : List Sp.Nd, (ndCells ns).length = ns.length * 8
  | [] => rfl
  | t :: r => by
    unfold ndCells
    rw [List.flatMap_cons, List.length_append, List.length_cons]
    have := ndCells_len r
    unfold ndCells at this
    rw [this]
    show 8 + _ = _
    omega
theorem ndCells_get : ∀ (ns : List Sp.Nd) (i : Nat) (t : Sp.Nd) (f : Nat), ns[i]? = some t → f < 8 → (ndCells ns)[i * 8 + f]? = (ndCell t)[f]?
  | [], i, t, f, h, _ => by simp at h
  | x :: r, 0, t, f, h, hf => by
    simp at h
    subst h
    unfold ndCells
    rw [List.flatMap_cons, List.getElem?_append_left (show 0 * 8 + f < (ndCell x).length by show _ < 8; omega)]
    simp
  | x :: r, i + 1, t, f, h, hf => by
    have ih := ndCells_get r i t f (by simpa using h) hf
    unfold ndCells at ih ⊢
    rw [List.flatMap_cons, List.getElem?_append_right (show (ndCell x).length ≤ (i + 1) * 8 + f by show 8 ≤ _; omega)]
    have : (i + 1) * 8 + f - (ndCell x).length = i * 8 + f := by show (i + 1) * 8 + f - 8 = _; omega
    rw [this]
    exact ih
/-- Nodes of the call's own, to be read. -/
theorem nds_view {w : World} {B : Nat} {v : Value} {ns : List Sp.Nd} (h : Nds w B v ns) : ∃ A cap, v = .slice A ns.length cap ∧ NView w w.heap.size A ns := by
  rcases h.2 with ⟨rfl, hn⟩ | ⟨g, cap, cur, hv, hg, r⟩
  · refine ⟨none, 0, by rw [hn], ?_⟩
    intro i t ht
    have : ns = [] := List.length_eq_zero_iff.1 hn
    subst this
    simp at ht
  · refine ⟨some ⟨g, 0, none⟩, cap, hv, ?_⟩
    intro i t ht
    refine ⟨g, 0, rfl, (World.ownsRow.lt h g (by rw [hv]; rfl)).2, ?_⟩
    have key : ∀ f u, f < 8 → (ndCell t)[f]? = some u → w.cell? ⟨g, i * 8 + f, none⟩ = some u := by
      intro f u hf hu
      have hlt : i * 8 + f < ns.length * 8 := by
        have : i < ns.length := (List.getElem?_eq_some_iff.1 ht).1
        omega
      have h2 : w.ownsRow B 56 8 (.slice (some ⟨g, 0, none⟩) ns.length cap) ns.length (ndCells ns) := by rw [← hv]; exact h
      rw [h2.cellAt (i * 8 + f) hlt, ndCells_get ns i t f ht hf, hu]
    unfold NAt
    rw [Nat.zero_add]
    exact ⟨key 0 _ (by omega) rfl, key 1 _ (by omega) rfl, key 2 _ (by omega) rfl, key 3 _ (by omega) rfl, key 4 _ (by omega) rfl, key 5 _ (by omega) rfl, key 6 _ (by omega) rfl, key 7 _ (by omega) rfl⟩

/-- A pile of trees of the call's own; its top is the list's head. -/
def Pile (w : World) (B : Nat) (v : Value) (p : List Sp.Tr) : Prop := w.ownsRow B 63 1 v p.length (p.reverse.map tv)
theorem pile_nil (w : World) (B : Nat) : Pile w B (.slice none 0 0) [] := World.ownsRow_nil _ _ _ _
theorem pile_form {w : World} {B : Nat} {v : Value} {p : List Sp.Tr} (h : Pile w B v p) : ∃ A cap, v = .slice A p.length cap := by
  rcases h.2 with ⟨rfl, h0⟩ | ⟨g, cap, cur, rfl, _⟩
  · exact ⟨none, 0, by rw [h0]⟩
  · exact ⟨_, cap, rfl⟩
theorem pile_at {w : World} {B g n cap : Nat} {p : List Sp.Tr} (h : Pile w B (.slice (some ⟨g, 0, none⟩) n cap) p) (hn : p.length = n) (i : Nat) (t : Sp.Tr) (hi : p.reverse[i]? = some t) : w.cell? ⟨g, i, none⟩ = some (tv t) := by
  subst hn
  have hlt : i < p.length := by
    have := (List.getElem?_eq_some_iff.1 hi).1
    rwa [List.length_reverse] at this
  have h2 := World.ownsRow.cellAt h i (by omega)
  rw [h2, List.getElem?_map, hi]
  rfl
theorem pile_top {w : World} {B : Nat} {v : Value} {t : Sp.Tr} {r : List Sp.Tr} (h : Pile w B v (t :: r)) :
    ∃ g cap, v = .slice (some ⟨g, 0, none⟩) (r.length + 1) cap ∧ w.cell? ⟨g, r.length, none⟩ = some (tv t) ∧ (∀ j, w.frozen? ⟨g, j, none⟩ = false) ∧ r.length + 1 ≤ cap ∧ cap ≤ maxLen ∧ B ≤ g ∧ g < w.heap.size := by
  have h0 := h
  rcases h.2 with ⟨_, h0⟩ | ⟨g, cap, cur, rfl, hg, hh, hle, hcm, hsz, htk⟩
  · simp at h0
  · refine ⟨g, cap, rfl, pile_at h0 rfl _ t (by simp), fun j => World.ownsRow.frozenAt h0 j, by simpa using hle, hcm, hg, (World.ownsRow.lt h0 g rfl).2⟩
theorem pile_under {w : World} {B g n cap : Nat} {a b : Sp.Tr} {r : List Sp.Tr} (h : Pile w B (.slice (some ⟨g, 0, none⟩) n cap) (b :: a :: r)) (hn : r.length + 2 = n) : w.cell? ⟨g, r.length, none⟩ = some (tv a) :=
  pile_at h hn _ a (by simp)
/-- The top is another tree. -/
theorem pile_set {w : World} {B g cap : Nat} {t : Sp.Tr} {r : List Sp.Tr} (h : Pile w B (.slice (some ⟨g, 0, none⟩) (r.length + 1) cap) (t :: r)) (t' : Sp.Tr) :
    Pile (w.setCell ⟨g, r.length, none⟩ (tv t')) B (.slice (some ⟨g, 0, none⟩) (r.length + 1) cap) (t' :: r) := by
  have h2 := (World.ownsRow.stored h r.length (tv t')).1
  have e : ((t :: r).reverse.map tv).set r.length (tv t') = (t' :: r).reverse.map tv := by
    simp [List.set_append]
  rw [e] at h2
  exact h2
/-- The top is taken off. -/
theorem pile_pop {w : World} {B g cap : Nat} {t : Sp.Tr} {r : List Sp.Tr} (h : Pile w B (.slice (some ⟨g, 0, none⟩) (r.length + 1) cap) (t :: r)) : Pile w B (.slice (some ⟨g, 0, none⟩) r.length cap) r := by
  have h2 : w.ownsRow B 63 1 (.slice (some ⟨g, 0, none⟩) (r.length + 1) cap) (r.length + 1) (r.reverse.map tv ++ [tv t]) := by
    have : (t :: r).reverse.map tv = r.reverse.map tv ++ [tv t] := by simp
    rw [← this]
    exact h
  exact ownsRow_pop (by simp) h2
theorem pile_below {w w' : World} {B : Nat} {v : Value} {p : List Sp.Tr} (h : Pile w B v p) (hb : Below w.heap.size w w') : Pile w' B v p := ownsRow_below h hb
theorem trinfo : (Tryz.prog.info? 63).map (fun i => (i.zero, i.size, i.bytes)) = some (some .nilIface, 1, 16) := by kernel_rfl
theorem tv_one (t : Sp.Tr) : Value.oneCell' (tv t) = true := by cases t <;> rfl
/-- A tree more, from a block that was just laid. -/
theorem wpList_tree {ops : Array Oper} {rest : List Oper} {o : Oper} {a : Act} {Q : Exit → Act → World → Prop} (hgd : o.guard = none) (s x : Operand)
    (ho : o.op = .call { callee := .builtin .append, args := #[s, x], argTypes := #[85, 85] })
    (B : Nat) (w0 w1 : World) (ty : TypeId) (v : Value) (c : Nat) (t : Sp.Tr) (u : Value) (hu : u = tv t) (p : List Sp.Tr) (hs : a.eval s = v) (hz : Pile w1 B v p)
    (M : Nat) (hM : w1.heap.size = M) (hx : a.eval x = .slice (some ⟨M, 0, none⟩) 1 c) (k : Nat) (hk : p.length = k) (hn : k ≤ 1000000) (hB0 : B ≤ w0.heap.size) (hB : Below B w0 w1)
    (h : ∀ g cap w', Pile w' B (.slice (some ⟨g, 0, none⟩) (k + 1) cap) (t :: p) → Below B w0 w' → wpList Tryz.prog ops Q rest (a.put o.dst (.slice (some ⟨g, 0, none⟩) (k + 1) cap)) w') :
    wpList Tryz.prog ops Q (o :: rest) a (w1.alloc (.cells #[u] ty)) := by
  subst hu hk hM
  obtain ⟨i0, hi0, hz0, hz1, hz2⟩ := info_parts trinfo
  have hsz := hB.size
  have hgr : w1.heap.size ≤ (w1.alloc (.cells #[tv t] ty)).heap.size := by
    have := Below.size ((Below.refl w1.heap.size w1).alloc (Nat.le_refl _) (.cells #[tv t] ty))
    exact this
  have hz2' : Pile (w1.alloc (.cells #[tv t] ty)) B v p := World.ownsRow.alloc hz _
  refine wpList_append_lies (w1.alloc (.cells #[tv t] ty)) hgd s x _ ho B 63 i0 _ 1 16 Tryz.underlying85 hi0 hz0 hz1 hz2 rfl (by omega) v p.length (p.reverse.map tv) hs hz2' ⟨w1.heap.size, 0, none⟩ 1 c [tv t] hx (by rfl)
    (World.news_of_block (cs := #[tv t]) (t := ty) (fr := (0, 0)) (heap_alloc_new w1 _)) (by simp [tv_one]) (by omega) (by unfold maxLen; omega) (by omega) (by omega) _ rfl ?_
  intro g cap w' h1 h2 h3 h4
  refine h g cap w' ?_ ((hB.alloc (by omega) (.cells #[tv t] ty)).grown h2 (by omega) (fun g e => (World.ownsRow.lt hz2' g e).1))
  unfold Pile
  rw [List.reverse_cons, List.map_append, List.length_cons]
  exact h1
end Go.Proofs.YtdmpapoabeljfaaGreatDoor
