/-
  WALKS of the small functions of the law ExprPrints: nodes, alike, untouched, num (chapter 5).
-/
import Derived.Test.YtdmpapoabeljfaaGreatDoorKg
import Derived.Test.YtdmpapoabeljfaaGreatDoorKf
set_option linter.unusedVariables false
set_option linter.unusedSimpArgs false
set_option maxRecDepth 100000
set_option maxHeartbeats 4000000
namespace Go.Proofs.YtdmpapoabeljfaaGreatDoor
open Go.RowKit

theorem addr_flat (g o n : Nat) : (⟨g, o, none⟩ : Addr).add n = ⟨g, o + n, none⟩ := by
  unfold Addr.add
  split
  · rename_i h
    rw [h, Nat.add_zero]
  · rfl
/-- Each cell of a slice of nodes. -/
theorem nview_cells {w : World} {H : Nat} {ad : Addr} {ns : List Sp.Nd} (hv : NView w H (some ad) ns) : ∀ j u, (ndCells ns)[j]? = some u → w.cell? (ad.add j) = some u := by
  intro j u hj
  have hjl := (List.getElem?_eq_some_iff.1 hj).1
  rw [ndCells_len] at hjl
  obtain ⟨z, hz⟩ : ∃ z, ns[j / 8]? = some z := ⟨_, List.getElem?_eq_getElem (by omega)⟩
  obtain ⟨g, o', hA, _, c0, c1, c2, c3, c4, c5, c6, c7⟩ := hv _ z hz
  injection hA with hA
  subst hA
  rw [addr_flat]
  have hj8 : j = j / 8 * 8 + j % 8 := by omega
  have hg := ndCells_get ns (j / 8) z (j % 8) hz (by omega)
  rw [← hj8, hj] at hg
  rcases (show j % 8 = 0 ∨ j % 8 = 1 ∨ j % 8 = 2 ∨ j % 8 = 3 ∨ j % 8 = 4 ∨ j % 8 = 5 ∨ j % 8 = 6 ∨ j % 8 = 7 by omega) with h | h | h | h | h | h | h | h <;> rw [h] at hg
  · rw [show o' + j = o' + j / 8 * 8 by omega, c0]; exact hg.symm
  · rw [show o' + j = o' + j / 8 * 8 + 1 by omega, c1]; exact hg.symm
  · rw [show o' + j = o' + j / 8 * 8 + 2 by omega, c2]; exact hg.symm
  · rw [show o' + j = o' + j / 8 * 8 + 3 by omega, c3]; exact hg.symm
  · rw [show o' + j = o' + j / 8 * 8 + 4 by omega, c4]; exact hg.symm
  · rw [show o' + j = o' + j / 8 * 8 + 5 by omega, c5]; exact hg.symm
  · rw [show o' + j = o' + j / 8 * 8 + 6 by omega, c6]; exact hg.symm
  · rw [show o' + j = o' + j / 8 * 8 + 7 by omega, c7]; exact hg.symm
theorem ndCells_one8 (ns : List Sp.Nd) : ∀ u ∈ ndCells ns, u.oneCell' = true := by
  intro u hu
  obtain ⟨z, _, hz⟩ := List.mem_flatMap.1 hu
  simp only [ndCell, List.mem_cons, List.not_mem_nil, or_false] at hz
  rcases hz with rfl | rfl | rfl | rfl | rfl | rfl | rfl | rfl <;> rfl
/-- append(nil, nodes...). -/
theorem wpList_alln {ops : Array Oper} {rest : List Oper} {o : Oper} {a : Act} {w : World} {Q : Exit → Act → World → Prop} (hgd : o.guard = none) (s x : Operand)
    (ho : o.op = .call { callee := .builtin .append, args := #[s, x], argTypes := #[25, 25] })
    (hs : a.eval s = .slice none 0 0) (A : Option Addr) (n c : Nat) (ns : List Sp.Nd) (hx : a.eval x = .slice A n c) (hn : ns.length = n) (hv : NView w w.heap.size A ns) (hnb : n ≤ 1000000)
    (h : ∀ v' w', Nds w' w.heap.size v' ns → w.grownBy w' none → wpList Tryz.prog ops Q rest (a.put o.dst v') w') : wpList Tryz.prog ops Q (o :: rest) a w := by
  obtain ⟨i0, hi0, hz0, hz1, hz2⟩ := info_parts ninfo
  cases A with
  | some ad =>
    refine wpList_append_own w hgd s x _ ho w.heap.size 56 i0 _ 8 80 Tryz.underlying25 hi0 hz0 hz1 hz2 rfl (by omega) (.slice none 0 0) 0 [] hs (World.ownsRow_nil _ _ _ _) ad n c (ndCells ns) hx (by rw [ndCells_len, hn]) (nview_cells hv) (ndCells_one8 ns) (by unfold maxLen; omega) (by omega) (Nat.le_refl _) ?_
    intro v' w' h1 h2 _
    refine h v' w' ?_ h2
    unfold Nds
    rw [hn]
    simpa using h1
  | none =>
    have hz : ns = [] := by
      cases ns with
      | nil => rfl
      | cons z r =>
        obtain ⟨g, o', hA, _⟩ := hv 0 z rfl
        cases hA
    subst hz
    have hn0 : n = 0 := hn.symm
    subst hn0
    have hrun : (Builtin.append_ #[25, 25] o.type #[.slice none 0 0, .slice none 0 c]).run Tryz.prog w = .ok (.slice none 0 0) w := by
      have ht := Tryz.underlying25
      simp [Builtin.append_, run_underlying ht, sizeOf, typeInfo, hi0, Builtin.lenOf, Builtin.firstCells, loadCells, loadCellsFrom]
    refine wpList_plain hgd fun K hK => ?_
    unfold Oper.wp execOp
    simp only [ho, resolve, invoke, builtin, Sem.run_bind, Sem.run_pure, Result.andThen_ok, List.map_toArray, List.map_cons, List.map_nil, hs, hx, hrun]
    exact hK _ _ (h _ _ (World.ownsRow_nil _ _ _ _) ⟨rfl, rfl, rfl, Nat.le_refl _, fun _ _ _ => rfl⟩)

def n91 : Sp.Nd := { kind := 91 }
def n92 : Sp.Nd := { kind := 92 }
/-- Nodes more, from a block that was just laid. -/
theorem wpList_more {ops : Array Oper} {rest : List Oper} {o : Oper} {a : Act} {Q : Exit → Act → World → Prop} (hgd : o.guard = none) (s x : Operand)
    (ho : o.op = .call { callee := .builtin .append, args := #[s, x], argTypes := #[25, 25] })
    (B : Nat) (w0 w1 : World) (ty : TypeId) (v : Value) (c : Nat) (ns : List Sp.Nd) (n : Nat) (hn : ns.length = n) (ms : List Sp.Nd) (m : Nat) (hm : ms.length = m) (cs : Array Value) (hcs : cs = (ndCells ms).toArray) (hs : a.eval s = v) (hz : Nds w1 B v ns)
    (hx : a.eval x = .slice (some ⟨w1.heap.size, 0, none⟩) m c) (hnb : n + m ≤ 1000000) (hm0 : 0 < m) (hB0 : B ≤ w0.heap.size) (hB : Below B w0 w1)
    (h : ∀ g cap w', Nds w' B (.slice (some ⟨g, 0, none⟩) (n + m) cap) (ns ++ ms) → Below B w0 w' → wpList Tryz.prog ops Q rest (a.put o.dst (.slice (some ⟨g, 0, none⟩) (n + m) cap)) w') :
    wpList Tryz.prog ops Q (o :: rest) a (w1.alloc (.cells cs ty)) := by
  subst hcs hn hm
  obtain ⟨i0, hi0, hz0, hz1, hz2⟩ := info_parts ninfo
  have hsz := hB.size
  have hgr : w1.heap.size ≤ (w1.alloc (.cells (ndCells ms).toArray ty)).heap.size := by
    have := Below.size ((Below.refl w1.heap.size w1).alloc (Nat.le_refl _) (.cells (ndCells ms).toArray ty))
    exact this
  have hz2' : Nds (w1.alloc (.cells (ndCells ms).toArray ty)) B v ns := World.ownsRow.alloc hz _
  refine wpList_append_lies (w1.alloc (.cells (ndCells ms).toArray ty)) hgd s x _ ho B 56 i0 _ 8 80 Tryz.underlying25 hi0 hz0 hz1 hz2 rfl (by omega) v ns.length (ndCells ns) hs hz2' ⟨w1.heap.size, 0, none⟩ ms.length c (ndCells ms) hx (by rw [ndCells_len])
    (World.news_of_block (cs := (ndCells ms).toArray) (t := ty) (fr := (0, 0)) (heap_alloc_new w1 _)) (ndCells_one8 _) (by omega) (by unfold maxLen; omega) (by omega) (by omega) _ rfl ?_
  intro g cap w' h1 h2 h3 h4
  refine h g cap w' ?_ ((hB.alloc (by omega) (.cells (ndCells ms).toArray ty)).grown h2 (by omega) (fun g e => (World.ownsRow.lt hz2' g e).1))
  unfold Nds
  rw [List.length_append, ndCells_append]
  exact h1
theorem nds_cap {w : World} {B g k cap : Nat} {ns : List Sp.Nd} (h : Nds w B (.slice (some ⟨g, 0, none⟩) k cap) ns) (hz : ns.length = k) : k ≤ cap ∧ cap ≤ maxLen ∧ B ≤ g ∧ g < w.heap.size := by
  have hl := World.ownsRow.lt h g rfl
  rcases h.2 with ⟨h, _⟩ | ⟨g', cap', cur, hv, hg, hh, hle, hcm, _⟩
  · cases h
  · injection hv with _ _ h3
    subst h3
    omega
/-- A copy with two marks behind it. -/
def NodesEnd (w : World) (n : Nat) (ns : List Sp.Nd) (e : Ending) (w' : World) : Prop :=
  ∃ g c, e = .returned (.slice (some ⟨g, 0, none⟩) n c) ∧ n + 2 ≤ c ∧ c ≤ maxLen ∧ Nds w' w.heap.size (.slice (some ⟨g, 0, none⟩) (n + 2) c) (ns ++ [n91, n92]) ∧ Below w.heap.size w w'
theorem law5_nodes (A : Option Addr) (n cap : Nat) (ns : List Sp.Nd) (w : World) (hn : ns.length = n) (hl : n ≤ 1000) (hv : NView w w.heap.size A ns) :
    Calls Tryz.prog 12 #[.slice A n cap] w (NodesEnd w n ns) := by
  have HV := Lib.hid hv
  have HN := Lib.hid hn
  have n1 : (n : Int) ≤ 1000 := by omega
  have n0 : (0 : Int) ≤ (n : Int) := by omega
  have n4 : IntKind.i64.wrap (n : Int) = (n : Int) := by rw [IntKind.wrap_i64]; omega
  clear hv hn
  go_enter Tryz.func12, Tryz.ntmps12
  go_wp2_with (first
    | (at_builtin; (refine wpList_more rfl _ _ rfl w.heap.size w w1 _ v1 2 ns n HN.out [n91, n92] 2 rfl _ rfl rfl HZ1.out rfl (by omega) (by decide) (Nat.le_refl _) HB1.out ?_); (intro g c2 w2 hz2 hb2; have HZ2 := Lib.hid hz2; have HB2 := Lib.hid hb2; obtain ⟨hd1, hd2, hd3, hd4⟩ := nds_cap hz2 (by simp [HN.out]); have d1 : (n : Int) ≤ (c2 : Int) := (by omega); clear hz2 hb2))
    | (at_builtin; go_loud (refine wpList_alln rfl _ _ rfl rfl A n cap ns rfl HN.out HV.out (by omega) ?_; intro v1 w1 hz1 hg1; have HB1 := Lib.hid ((Below.refl w.heap.size w).grown hg1 (Nat.le_refl _) (fun g e => by cases e)); have HZ1 := Lib.hid hz1; clear hz1 hg1)))
  go_ret
  exact ⟨g, c2, rfl, hd1, hd2, HZ2.out, HB2.out⟩
end Go.Proofs.YtdmpapoabeljfaaGreatDoor
