/-
  THE WALKS of reachlaw5.alike, num; tokens that are put behind tokens (chapter 5).
-/
import Derived.Test.YtdmpapoabeljfaaGreatDoorEk
set_option linter.unusedVariables false
set_option linter.unusedSimpArgs false
set_option maxRecDepth 100000
set_option maxHeartbeats 4000000
namespace Go.Proofs.YtdmpapoabeljfaaGreatDoor
open Go.RowKit

/-- A node's cells from a place on. -/
def NdAt (w : World) (g x : Nat) (d : Sp.Nd) : Prop :=
  w.cell? ⟨g, x, none⟩ = some (.int .i64 d.kind) ∧ w.cell? ⟨g, x + 1, none⟩ = some (.string ⟨d.field.toArray⟩) ∧ w.cell? ⟨g, x + 2, none⟩ = some (.int .i64 d.op) ∧ w.cell? ⟨g, x + 3, none⟩ = some (.int .i64 d.form) ∧ w.cell? ⟨g, x + 4, none⟩ = some (.int .i64 d.lo) ∧ w.cell? ⟨g, x + 5, none⟩ = some (.int .i64 d.hi) ∧ w.cell? ⟨g, x + 6, none⟩ = some (.int .i64 d.len) ∧ w.cell? ⟨g, x + 7, none⟩ = some (.string ⟨d.pat.toArray⟩)
theorem ndCells_get : ∀ (ns : List Sp.Nd) (i : Nat) (d : Sp.Nd) (f : Nat), ns[i]? = some d → f < 8 → (ndCells ns)[i * 8 + f]? = (ndCell d)[f]?
  | [], i, d, f, h, _ => by simp at h
  | x :: r, 0, d, f, h, hf => by
    simp at h
    subst h
    unfold ndCells
    rw [List.flatMap_cons, List.getElem?_append_left (show 0 * 8 + f < (ndCell x).length by show _ < 8; omega)]
    simp
  | x :: r, i + 1, d, f, h, hf => by
    have ih := ndCells_get r i d f (by simpa using h) hf
    unfold ndCells at ih ⊢
    rw [List.flatMap_cons, List.getElem?_append_right (show (ndCell x).length ≤ (i + 1) * 8 + f by show 8 ≤ _; omega)]
    have : (i + 1) * 8 + f - (ndCell x).length = i * 8 + f := by show (i + 1) * 8 + f - 8 = _; omega
    rw [this]
    exact ih
theorem nds_form {w : World} {B : Nat} {v : Value} {ns : List Sp.Nd} (h : Nds w B v ns) : ∃ A cap, v = .slice A ns.length cap ∧ ∀ i d, ns[i]? = some d → ∃ g, A = some ⟨g, 0, none⟩ ∧ g < w.heap.size ∧ NdAt w g (i * 8) d := by
  rcases h.2 with ⟨rfl, hn⟩ | ⟨g, cap, cur, hv, hg, r⟩
  · refine ⟨none, 0, by rw [hn], ?_⟩
    intro i d hd
    have : ns = [] := List.length_eq_zero_iff.1 hn
    subst this
    simp at hd
  · refine ⟨some ⟨g, 0, none⟩, cap, hv, ?_⟩
    intro i d hd
    refine ⟨g, rfl, (World.ownsRow.lt h g (by rw [hv]; rfl)).2, ?_⟩
    have key : ∀ f u, f < 8 → (ndCell d)[f]? = some u → w.cell? ⟨g, i * 8 + f, none⟩ = some u := by
      intro f u hf hu
      have hlt : i * 8 + f < ns.length * 8 := by
        have : i < ns.length := (List.getElem?_eq_some_iff.1 hd).1
        omega
      have h2 : w.ownsRow B 56 8 (.slice (some ⟨g, 0, none⟩) ns.length cap) ns.length (ndCells ns) := by rw [← hv]; exact h
      rw [h2.cellAt (i * 8 + f) hlt, ndCells_get ns i d f hd hf, hu]
    exact ⟨key 0 _ (by omega) rfl, key 1 _ (by omega) rfl, key 2 _ (by omega) rfl, key 3 _ (by omega) rfl, key 4 _ (by omega) rfl, key 5 _ (by omega) rfl, key 6 _ (by omega) rfl, key 7 _ (by omega) rfl⟩

theorem law5_alike (v1 v2 : Value) (B1 B2 : Nat) (ns : List Sp.Nd) (w : World) (h1 : Nds w B1 v1 ns) (h2 : Nds w B2 v2 ns) (hl : ns.length ≤ 1073741824) :
    Calls Tryz.prog 9 #[v1, v2] w fun e w' => e = .returned (.bool true) ∧ Below w.heap.size w w' := by
  obtain ⟨A1, cap1, rfl, k1⟩ := nds_form h1
  obtain ⟨A2, cap2, rfl, k2⟩ := nds_form h2
  have K1 := Lib.hid k1
  have K2 := Lib.hid k2
  obtain ⟨n, hn⟩ : ∃ n, ns.length = n := ⟨_, rfl⟩
  rw [hn] at hl ⊢
  have HN := Lib.hid hn
  have q0 : ((n : Int) != (n : Int)) = false := by rw [bne_eq_false_iff_eq]
  have n1 : (n : Int) ≤ 1073741824 := by omega
  clear h1 h2 k1 k2 hn
  go_enter Tryz.func9, Tryz.ntmps9
  go_wp2_with fail
  go_loopw [5] (fun v5 wr => Below w.heap.size w wr ∧ ∃ i : Nat, v5 = .int .i64 (i : Int) ∧ i ≤ n) (fun v5 _ => n - (intOf v5).toNat)
  case atStart => exact ⟨Below.refl _ _, 0, rfl, by omega⟩
  case round =>
    obtain ⟨hb, i, rfl, hi⟩ := hrel
    have HB := Lib.hid hb
    by_cases hlt : i < n
    · have z1 : decide ((i : Int) < n) = true := decide_eq_true (by omega)
      have z1b : decide (i < n) = true := decide_eq_true hlt
      have z2 : (i : Int) < n := by omega
      have z3 : (0 : Int) ≤ (i : Int) := by omega
      obtain ⟨d, hd⟩ : ∃ d, ns[i]? = some d := ⟨_, List.getElem?_eq_getElem (by rw [HN.out]; exact hlt)⟩
      obtain ⟨g1, rfl, hg1, a0, a1, a2, a3, a4, a5, a6, a7⟩ := K1.out i d hd
      obtain ⟨g2, rfl, hg2, b0, b1, b2, b3, b4, b5, b6, b7⟩ := K2.out i d hd
      obtain ⟨k, f, o, fm, lo, hi', ln, pt⟩ := d
      simp only [] at a0 a1 a2 a3 a4 a5 a6 a7 b0 b1 b2 b3 b4 b5 b6 b7
      obtain ⟨F, hF⟩ : ∃ F : ByteArray, (⟨f.toArray⟩ : ByteArray) = F := ⟨_, rfl⟩
      obtain ⟨PT, hPT⟩ : ∃ F : ByteArray, (⟨pt.toArray⟩ : ByteArray) = F := ⟨_, rfl⟩
      rw [hF] at a1 b1
      rw [hPT] at a7 b7
      have x0 := (hb.cell (p := ⟨g1, i * 8, none⟩) hg1).trans a0
      have x1 := (hb.cell (p := ⟨g1, i * 8 + 1, none⟩) hg1).trans a1
      have x2 := (hb.cell (p := ⟨g1, i * 8 + 2, none⟩) hg1).trans a2
      have x3 := (hb.cell (p := ⟨g1, i * 8 + 3, none⟩) hg1).trans a3
      have x4 := (hb.cell (p := ⟨g1, i * 8 + 4, none⟩) hg1).trans a4
      have x5 := (hb.cell (p := ⟨g1, i * 8 + 5, none⟩) hg1).trans a5
      have x6 := (hb.cell (p := ⟨g1, i * 8 + 6, none⟩) hg1).trans a6
      have x7 := (hb.cell (p := ⟨g1, i * 8 + 7, none⟩) hg1).trans a7
      have y0 := (hb.cell (p := ⟨g2, i * 8, none⟩) hg2).trans b0
      have y1 := (hb.cell (p := ⟨g2, i * 8 + 1, none⟩) hg2).trans b1
      have y2 := (hb.cell (p := ⟨g2, i * 8 + 2, none⟩) hg2).trans b2
      have y3 := (hb.cell (p := ⟨g2, i * 8 + 3, none⟩) hg2).trans b3
      have y4 := (hb.cell (p := ⟨g2, i * 8 + 4, none⟩) hg2).trans b4
      have y5 := (hb.cell (p := ⟨g2, i * 8 + 5, none⟩) hg2).trans b5
      have y6 := (hb.cell (p := ⟨g2, i * 8 + 6, none⟩) hg2).trans b6
      have y7 := (hb.cell (p := ⟨g2, i * 8 + 7, none⟩) hg2).trans b7
      clear a0 a1 a2 a3 a4 a5 a6 a7 b0 b1 b2 b3 b4 b5 b6 b7 hb hd hF hPT hg1 hg2
      go_wp2_with fail
      go_quiet (fail)
      go_wp2_with fail
      go_roundw
      case rel => exact ⟨below_drewN' HB.out _, i + 1, by rfl, by omega⟩
      case measure => simp [intOf]; omega
    · have z1 : decide ((i : Int) < n) = false := decide_eq_false (by omega)
      have z1b : decide (i < n) = false := decide_eq_false hlt
      clear hb hlt hi
      go_wp2_with fail
      go_ret
      exact ⟨rfl, HB.out⟩
theorem law5_num (x : Int) (w : World) : Calls Tryz.prog 8 #[.int .i64 x] w fun e w' => e = .returned (.int .i64 x) ∧ w = w' := by
  go_enter Tryz.func8, Tryz.ntmps8
  go_wp2
  go_ret
  exact ⟨rfl, rfl⟩

/-- Tokens of the call's own. -/
def zCell (z : ZTok) : List Value := [.int .i64 z.1, .string z.2.1, .int .i64 z.2.2.1, .int .i64 z.2.2.2]
def ZRow (w : World) (B : Nat) (v : Value) (zs : List ZTok) : Prop := w.ownsRow B 24 4 v zs.length (zs.flatMap zCell)
theorem zCells_get : ∀ (zs : List ZTok) (i : Nat) (z : ZTok) (f : Nat), zs[i]? = some z → f < 4 → (zs.flatMap zCell)[i * 4 + f]? = (zCell z)[f]?
  | [], i, d, f, h, _ => by simp at h
  | x :: r, 0, d, f, h, hf => by
    simp at h
    subst h
    rw [List.flatMap_cons, List.getElem?_append_left (show 0 * 4 + f < (zCell x).length by show _ < 4; omega)]
    simp
  | x :: r, i + 1, d, f, h, hf => by
    have ih := zCells_get r i d f (by simpa using h) hf
    rw [List.flatMap_cons, List.getElem?_append_right (show (zCell x).length ≤ (i + 1) * 4 + f by show 4 ≤ _; omega)]
    have : (i + 1) * 4 + f - (zCell x).length = i * 4 + f := by show (i + 1) * 4 + f - 4 = _; omega
    rw [this]
    exact ih
theorem zCells_len : ∀ zs : List ZTok, (zs.flatMap zCell).length = zs.length * 4
  | [] => rfl
  | z :: r => by
    rw [List.flatMap_cons, List.length_append, List.length_cons, zCells_len r]
    show 4 + _ = _
    omega
theorem zrow_view {w : World} {B : Nat} {v : Value} {zs : List ZTok} (h : ZRow w B v zs) : ∃ A cap, v = .slice A zs.length cap ∧ ViewZ w w.heap.size A zs ∧ (0 < zs.length → zs.length ≤ cap ∧ cap ≤ maxLen ∧ ∃ g, A = some ⟨g, 0, none⟩) := by
  rcases h.2 with ⟨rfl, hn⟩ | ⟨g, cap, cur, hv, hg, hh, hle, hcm, r⟩
  · refine ⟨none, 0, by rw [hn], ?_, fun h0 => absurd h0 (by omega)⟩
    intro i d hd
    have : zs = [] := List.length_eq_zero_iff.1 hn
    subst this
    simp at hd
  · refine ⟨some ⟨g, 0, none⟩, cap, hv, ?_, fun _ => ⟨hle, hcm, g, rfl⟩⟩
    intro i z hz
    refine ⟨g, 0, rfl, (World.ownsRow.lt h g (by rw [hv]; rfl)).2, ?_⟩
    have key : ∀ f u, f < 4 → (zCell z)[f]? = some u → w.cell? ⟨g, 0 + i * 4 + f, none⟩ = some u := by
      intro f u hf hu
      have hlt : i * 4 + f < zs.length * 4 := by
        have : i < zs.length := (List.getElem?_eq_some_iff.1 hz).1
        omega
      have h2 : w.ownsRow B 24 4 (.slice (some ⟨g, 0, none⟩) zs.length cap) zs.length (zs.flatMap zCell) := by rw [← hv]; exact h
      rw [Nat.zero_add, h2.cellAt (i * 4 + f) hlt, zCells_get zs i z f hz hf, hu]
    exact ⟨key 0 _ (by omega) rfl, key 1 _ (by omega) rfl, key 2 _ (by omega) rfl, key 3 _ (by omega) rfl⟩
theorem add_flat (g o n : Nat) : (⟨g, o, none⟩ : Addr).add n = ⟨g, o + n, none⟩ := by
  unfold Addr.add
  split
  · rename_i h
    rw [h, Nat.add_zero]
  · rfl

/-- append(nil, tokens...). -/
theorem wpList_all {ops : Array Oper} {rest : List Oper} {o : Oper} {a : Act} {w : World} {Q : Exit → Act → World → Prop} (hgd : o.guard = none) (s x : Operand)
    (ho : o.op = .call { callee := .builtin .append, args := #[s, x], argTypes := #[22, 22] })
    (hs : a.eval s = .slice none 0 0) (A : Option Addr) (n c : Nat) (zs : List ZTok) (hx : a.eval x = .slice A n c) (hn : zs.length = n) (hv : ViewZ w w.heap.size A zs) (hnb : n ≤ 1000000)
    (h : ∀ v' w', ZRow w' w.heap.size v' zs → w.grownBy w' none → wpList Tryz.prog ops Q rest (a.put o.dst v') w') : wpList Tryz.prog ops Q (o :: rest) a w := by
  obtain ⟨i0, hi0, hz0, hz1, hz2⟩ := info_parts tinfo
  cases A with
  | some ad =>
    refine wpList_append_own w hgd s x _ ho w.heap.size 24 i0 _ 4 40 Tryz.underlying22 hi0 hz0 hz1 hz2 rfl (by omega) (.slice none 0 0) 0 [] hs (World.ownsRow_nil _ _ _ _) ad n c (zs.flatMap zCell) hx (by rw [zCells_len, hn]) ?_ ?_ (by unfold maxLen; omega) (by omega) (Nat.le_refl _) ?_
    · intro j u hj
      have hjl := (List.getElem?_eq_some_iff.1 hj).1
      rw [zCells_len] at hjl
      obtain ⟨z, hz⟩ : ∃ z, zs[j / 4]? = some z := ⟨_, List.getElem?_eq_getElem (by omega)⟩
      obtain ⟨g, o', hA, _, c0, c1, c2, c3⟩ := hv _ z hz
      injection hA with hA
      subst hA
      rw [add_flat]
      have hj4 : j = j / 4 * 4 + j % 4 := by omega
      have hg := zCells_get zs (j / 4) z (j % 4) hz (by omega)
      rw [← hj4, hj] at hg
      have h4 : j % 4 = 0 ∨ j % 4 = 1 ∨ j % 4 = 2 ∨ j % 4 = 3 := by omega
      rcases h4 with h4 | h4 | h4 | h4
      · rw [h4] at hg
        rw [show o' + j = o' + j / 4 * 4 by omega, c0]
        exact hg.symm
      · rw [h4] at hg
        rw [show o' + j = o' + j / 4 * 4 + 1 by omega, c1]
        exact hg.symm
      · rw [h4] at hg
        rw [show o' + j = o' + j / 4 * 4 + 2 by omega, c2]
        exact hg.symm
      · rw [h4] at hg
        rw [show o' + j = o' + j / 4 * 4 + 3 by omega, c3]
        exact hg.symm
    · intro u hu
      obtain ⟨z, _, hz⟩ := List.mem_flatMap.1 hu
      simp only [zCell, List.mem_cons, List.not_mem_nil, or_false] at hz
      rcases hz with rfl | rfl | rfl | rfl <;> rfl
    · intro v' w' h1 h2 _
      refine h v' w' ?_ h2
      unfold ZRow
      rw [hn]
      simpa using h1
  | none =>
    have hz : zs = [] := by
      cases zs with
      | nil => rfl
      | cons z r =>
        obtain ⟨g, o', hA, _⟩ := hv 0 z rfl
        cases hA
    subst hz
    have hn0 : n = 0 := hn.symm
    subst hn0
    have hrun : (Builtin.append_ #[22, 22] o.type #[.slice none 0 0, .slice none 0 c]).run Tryz.prog w = .ok (.slice none 0 0) w := by
      have ht := Tryz.underlying22
      simp [Builtin.append_, run_underlying ht, sizeOf, typeInfo, hi0, Builtin.lenOf, Builtin.firstCells, loadCells, loadCellsFrom]
    refine wpList_plain hgd fun K hK => ?_
    unfold Oper.wp execOp
    simp only [ho, resolve, invoke, builtin, Sem.run_bind, Sem.run_pure, Result.andThen_ok, List.map_toArray, List.map_cons, List.map_nil, hs, hx, hrun]
    exact hK _ _ (h _ _ (World.ownsRow_nil _ _ _ _) ⟨rfl, rfl, rfl, Nat.le_refl _, fun _ _ _ => rfl⟩)
end Go.Proofs.YtdmpapoabeljfaaGreatDoor
