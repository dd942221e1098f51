/-
  A pile of pieces of the call's own (chapter 5's reference).
-/
import Derived.Test.YtdmpapoabeljfaaGreatDoorKs
import Derived.Test.YtdmpapoabeljfaaGreatDoorKh
set_option linter.unusedVariables false
set_option linter.unusedSimpArgs false
set_option maxRecDepth 100000
set_option maxHeartbeats 4000000
namespace Go.Proofs.YtdmpapoabeljfaaGreatDoor
open Go.RowKit

/-- A tree's piece: its text, how it is joined, its nesting. -/
def pcOf (t : Sp.Tr) : List Value := pcCell t.text t.by_ t.nest
def PRow (w : World) (B : Nat) (v : Value) (p : List Sp.Tr) : Prop := w.ownsRow B 71 3 v p.length (p.reverse.flatMap pcOf)
theorem prow_nil (w : World) (B : Nat) : PRow w B (.slice none 0 0) [] := World.ownsRow_nil _ _ _ _
theorem prow_form2 {w : World} {B : Nat} {v : Value} {p : List Sp.Tr} (h : PRow w B v p) : ∃ A k cap, p.length = k ∧ v = .slice A k cap := by
  rcases h.2 with ⟨rfl, h0⟩ | ⟨g, cap, cur, rfl, _⟩
  · exact ⟨none, 0, 0, h0, rfl⟩
  · exact ⟨_, _, cap, rfl, rfl⟩
theorem prow_below {w w' : World} {B : Nat} {v : Value} {p : List Sp.Tr} (h : PRow w B v p) (hb : Below w.heap.size w w') : PRow w' B v p := ownsRow_below h hb
theorem pcs_len (p : List Sp.Tr) : (p.flatMap pcOf).length = p.length * 3 := by
  induction p with
  | nil => rfl
  | cons t r ih => rw [List.flatMap_cons, List.length_append, ih, List.length_cons]; show 3 + _ = _; omega
theorem prow_cell {w : World} {B g n cap : Nat} {p : List Sp.Tr} (h : PRow w B (.slice (some ⟨g, 0, none⟩) n cap) p) (hn : p.length = n) {pre post : List Sp.Tr} {t : Sp.Tr} (hp : p.reverse = pre ++ t :: post) {f K : Nat} (hf : f < 3) (hK : pre.length = K) {u : Value} (hu : (pcOf t)[f]? = some u) :
    w.cell? ⟨g, K * 3 + f, none⟩ = some u := by
  subst hn hK
  have hl : p.length = pre.length + 1 + post.length := by rw [← List.length_reverse, hp]; simp; omega
  have h2 := World.ownsRow.cellAt h (pre.length * 3 + f) (by omega)
  rw [h2, hp, List.flatMap_append, List.flatMap_cons, List.getElem?_append_right (by rw [pcs_len]; omega), pcs_len, show pre.length * 3 + f - pre.length * 3 = f by omega, List.getElem?_append_left (show f < (pcOf t).length from hf)]
  exact hu
theorem prow_top {w : World} {B K cap : Nat} {A : Option Addr} {t : Sp.Tr} {r : List Sp.Tr} (h : PRow w B (.slice A (K + 1) cap) (t :: r)) (hr : r.length = K) :
    ∃ g, A = some ⟨g, 0, none⟩ ∧ w.cell? ⟨g, K * 3, none⟩ = some (.string (bs t.text)) ∧ w.cell? ⟨g, K * 3 + 1, none⟩ = some (.int .i64 (t.by_ : Nat)) ∧ w.cell? ⟨g, K * 3 + 2, none⟩ = some (.int .i64 (t.nest : Nat)) ∧ (∀ j, w.frozen? ⟨g, j, none⟩ = false) ∧ K + 1 ≤ cap ∧ cap ≤ maxLen ∧ B ≤ g ∧ g < w.heap.size := by
  have h0 := h
  rcases h.2 with ⟨hv, _⟩ | ⟨g, cap', cur, hv, hg, hh, hle, hcm, hsz, htk⟩
  · injection hv with _ hv
    omega
  · injection hv with h1 h2 h3
    subst h1 h3
    subst hr
    have hx : (t :: r).length = r.length + 1 := rfl
    rw [hx] at h2
    have e : (t :: r).reverse = r.reverse ++ t :: [] := by simp
    have hl : r.reverse.length = r.length := List.length_reverse
    exact ⟨g, rfl, prow_cell h0 rfl e (f := 0) (by omega) hl rfl, prow_cell h0 rfl e (f := 1) (by omega) hl rfl, prow_cell h0 rfl e (f := 2) (by omega) hl rfl, fun j => World.ownsRow.frozenAt h0 j, by simpa using hle, hcm, hg, (World.ownsRow.lt h0 g rfl).2⟩
theorem prow_under {w : World} {B g K cap : Nat} {a b : Sp.Tr} {r : List Sp.Tr} (h : PRow w B (.slice (some ⟨g, 0, none⟩) (K + 1 + 1) cap) (b :: a :: r)) (hr : r.length = K) :
    w.cell? ⟨g, K * 3, none⟩ = some (.string (bs a.text)) ∧ w.cell? ⟨g, K * 3 + 1, none⟩ = some (.int .i64 (a.by_ : Nat)) ∧ w.cell? ⟨g, K * 3 + 2, none⟩ = some (.int .i64 (a.nest : Nat)) := by
  subst hr
  have e : (b :: a :: r).reverse = r.reverse ++ a :: [b] := by simp
  have hl : r.reverse.length = r.length := List.length_reverse
  exact ⟨prow_cell h rfl e (f := 0) (by omega) hl rfl, prow_cell h rfl e (f := 1) (by omega) hl rfl, prow_cell h rfl e (f := 2) (by omega) hl rfl⟩
theorem set3 {pre post : List Value} {x0 x1 x2 c0 c1 c2 : Value} {n : Nat} (h : pre.length = n) : (((pre ++ x0 :: x1 :: x2 :: post).set n c0).set (n + 1) c1).set (n + 2) c2 = pre ++ c0 :: c1 :: c2 :: post := by
  subst h
  simp [List.set_append]
/-- A piece in the pile is another one. -/
theorem prow_set {w : World} {B g n cap : Nat} {p p' : List Sp.Tr} (h : PRow w B (.slice (some ⟨g, 0, none⟩) n cap) p) (hn : p.length = n) {pre post : List Sp.Tr} {t t' : Sp.Tr} (hp : p.reverse = pre ++ t :: post) (hp' : p'.reverse = pre ++ t' :: post) {K : Nat} (hK : pre.length = K) {c0 c1 c2 : Value} (hc : pcOf t' = [c0, c1, c2]) :
    PRow (((w.setCell ⟨g, K * 3, none⟩ c0).setCell ⟨g, K * 3 + 1, none⟩ c1).setCell ⟨g, K * 3 + 2, none⟩ c2) B (.slice (some ⟨g, 0, none⟩) n cap) p' := by
  subst hn hK
  have h1 := (World.ownsRow.stored h (pre.length * 3) c0).1
  have h2 := (World.ownsRow.stored h1 (pre.length * 3 + 1) c1).1
  have h3 := (World.ownsRow.stored h2 (pre.length * 3 + 2) c2).1
  have el : p'.length = p.length := by
    have e1 := congrArg List.length hp
    have e2 := congrArg List.length hp'
    simp at e1 e2
    omega
  rw [hp, List.flatMap_append, List.flatMap_cons, show pcOf t ++ post.flatMap pcOf = (.string (bs t.text)) :: (.int .i64 (t.by_ : Nat)) :: (.int .i64 (t.nest : Nat)) :: post.flatMap pcOf from rfl, set3 (pcs_len pre)] at h3
  unfold PRow
  rw [el, hp', List.flatMap_append, List.flatMap_cons, hc]
  exact h3
theorem prow_pop {w : World} {B g K cap : Nat} {t : Sp.Tr} {r : List Sp.Tr} (h : PRow w B (.slice (some ⟨g, 0, none⟩) (K + 1) cap) (t :: r)) (hr : r.length = K) : PRow w B (.slice (some ⟨g, 0, none⟩) K cap) r := by
  subst hr
  have h2 : w.ownsRow B 71 3 (.slice (some ⟨g, 0, none⟩) (r.length + 1) cap) (r.length + 1) (r.reverse.flatMap pcOf ++ pcOf t) := by
    have : (t :: r).reverse.flatMap pcOf = r.reverse.flatMap pcOf ++ pcOf t := by simp
    rw [← this]
    exact h
  exact ownsRow_pop (by rw [pcs_len, List.length_reverse]) h2
theorem pcinfo : (Tryz.prog.info? 71).map (fun i => (i.zero, i.size, i.bytes)) = some (some (.agg #[.string ⟨#[]⟩, .int .i64 0, .int .i64 0]), 3, 32) := by kernel_rfl
/-- A piece more, from a block that was just laid. -/
theorem wpList_piece {ops : Array Oper} {rest : List Oper} {o : Oper} {a : Act} {Q : Exit → Act → World → Prop} (hgd : o.guard = none) (s x : Operand)
    (ho : o.op = .call { callee := .builtin .append, args := #[s, x], argTypes := #[98, 98] })
    (B : Nat) (w1 : World) (ty : TypeId) (v : Value) (c : Nat) (t : Sp.Tr) (c0 c1 c2 : Value) (hu : pcOf t = [c0, c1, c2]) (p : List Sp.Tr) (hs : a.eval s = v) (hz : PRow w1 B v p)
    (M : Nat) (hM : w1.heap.size = M) (hx : a.eval x = .slice (some ⟨M, 0, none⟩) 1 c) (k : Nat) (hk : p.length = k) (hn : k ≤ 1000000) (B0 : Nat) (w0 : World) (hB0 : B0 ≤ B) (hBM : B ≤ M) (hB : Below B0 w0 w1)
    (h : ∀ g cap w', PRow w' B (.slice (some ⟨g, 0, none⟩) (k + 1) cap) (t :: p) → Below B0 w0 w' → (∀ N, N < B → w'.heap[N]? = w1.heap[N]?) → wpList Tryz.prog ops Q rest (a.put o.dst (.slice (some ⟨g, 0, none⟩) (k + 1) cap)) w') :
    wpList Tryz.prog ops Q (o :: rest) a (w1.alloc (.cells #[c0, c1, c2] ty)) := by
  subst hk hM
  obtain ⟨i0, hi0, hz0, hz1, hz2⟩ := info_parts pcinfo
  have hgr : w1.heap.size ≤ (w1.alloc (.cells #[c0, c1, c2] ty)).heap.size := by
    have := Below.size ((Below.refl w1.heap.size w1).alloc (Nat.le_refl _) (.cells #[c0, c1, c2] ty))
    exact this
  have hz2' : PRow (w1.alloc (.cells #[c0, c1, c2] ty)) B v p := World.ownsRow.alloc hz _
  refine wpList_append_lies (w1.alloc (.cells #[c0, c1, c2] ty)) hgd s x _ ho B 71 i0 _ 3 32 Tryz.underlying98 hi0 hz0 hz1 hz2 rfl (by omega) v p.length (p.reverse.flatMap pcOf) hs hz2' ⟨w1.heap.size, 0, none⟩ 1 c [c0, c1, c2] hx (by rfl)
    (World.news_of_block (cs := #[c0, c1, c2]) (t := ty) (fr := (0, 0)) (heap_alloc_new w1 _)) (by rw [← hu]; simp [pcOf, pcCell, Value.oneCell']) (by omega) (by unfold maxLen; omega) (by omega) (by omega) _ rfl ?_
  intro g cap w' h1 h2 h3 h4
  have hlt := fun g e => (World.ownsRow.lt hz2' g e).1
  refine h g cap w' ?_ ((hB.alloc (by omega) (.cells #[c0, c1, c2] ty)).grown h2 (by omega) (fun g e => Nat.le_trans hB0 (hlt g e))) ?_
  · unfold PRow
    rw [List.reverse_cons, List.flatMap_append, List.length_cons, List.flatMap_singleton, hu]
    exact h1
  · intro N hN
    have e1 := h2.block N (by omega) (fun e => by have := hlt N e.symm; omega)
    exact e1.trans (Below.heap_alloc w1 _ N (by omega))
end Go.Proofs.YtdmpapoabeljfaaGreatDoor
