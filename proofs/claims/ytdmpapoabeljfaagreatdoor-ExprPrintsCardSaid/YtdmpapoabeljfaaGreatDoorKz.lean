/-
  THE WALK of the law ExprPrints (chapter 5).
-/
import Derived.Test.YtdmpapoabeljfaaGreatDoorKy
import Derived.Test.YtdmpapoabeljfaaGreatDoorKv
set_option linter.unusedVariables false
set_option linter.unusedSimpArgs false
set_option maxRecDepth 100000
set_option maxHeartbeats 8000000
namespace Go.Proofs.YtdmpapoabeljfaaGreatDoor
open Go.RowKit

theorem grown_cell {w w' : World} {g : Nat} (h : w.grownBy w' (some g)) {q : Addr} (hq : q.block < w.heap.size) (hne : q.block ≠ g) : w'.cell? q = w.cell? q := World.cell?_of_block (h.block q.block hq (fun e => hne (by injection e)))
theorem NView.grown {w w' : World} {H g : Nat} {A : Option Addr} {ns : List Sp.Nd} (h : NView w H A ns) (hg : w.grownBy w' (some g)) (hH : H ≤ w.heap.size) (hne : ∀ g2 o, A = some ⟨g2, o, none⟩ → g2 ≠ g) : NView w' H A ns := by
  intro i d hd
  obtain ⟨g2, o, h1, h2, h3⟩ := h i d hd
  have hn := hne g2 o h1
  have hl : g2 < w.heap.size := by omega
  obtain ⟨c0, c1, c2, c3, c4, c5, c6, c7⟩ := h3
  exact ⟨g2, o, h1, h2, (grown_cell hg (q := ⟨g2, o + i * 8, none⟩) hl hn).trans c0, (grown_cell hg (q := ⟨g2, o + i * 8 + 1, none⟩) hl hn).trans c1, (grown_cell hg (q := ⟨g2, o + i * 8 + 2, none⟩) hl hn).trans c2, (grown_cell hg (q := ⟨g2, o + i * 8 + 3, none⟩) hl hn).trans c3, (grown_cell hg (q := ⟨g2, o + i * 8 + 4, none⟩) hl hn).trans c4, (grown_cell hg (q := ⟨g2, o + i * 8 + 5, none⟩) hl hn).trans c5, (grown_cell hg (q := ⟨g2, o + i * 8 + 6, none⟩) hl hn).trans c6, (grown_cell hg (q := ⟨g2, o + i * 8 + 7, none⟩) hl hn).trans c7⟩
theorem set8 {pre post : List Value} {x0 x1 x2 x3 x4 x5 x6 x7 c0 c1 c2 c3 c4 c5 c6 c7 : Value} {n : Nat} (h : pre.length = n) :
    ((((((((pre ++ x0 :: x1 :: x2 :: x3 :: x4 :: x5 :: x6 :: x7 :: post).set n c0).set (n + 1) c1).set (n + 2) c2).set (n + 3) c3).set (n + 4) c4).set (n + 5) c5).set (n + 6) c6).set (n + 7) c7 = pre ++ c0 :: c1 :: c2 :: c3 :: c4 :: c5 :: c6 :: c7 :: post := by
  subst h
  simp [List.set_append]
/-- A node of a row is another one. -/
theorem nds_set {w : World} {B g n cap : Nat} {pre post : List Sp.Nd} {x d : Sp.Nd} (h : Nds w B (.slice (some ⟨g, 0, none⟩) n cap) (pre ++ x :: post)) (hn : (pre ++ x :: post).length = n) {i : Nat} (hi : pre.length = i) :
    Nds ((((((((w.setCell ⟨g, i * 8, none⟩ (.int .i64 d.kind)).setCell ⟨g, i * 8 + 1, none⟩ (.string ⟨d.field.toArray⟩)).setCell ⟨g, i * 8 + 2, none⟩ (.int .i64 d.op)).setCell ⟨g, i * 8 + 3, none⟩ (.int .i64 d.form)).setCell ⟨g, i * 8 + 4, none⟩ (.int .i64 d.lo)).setCell ⟨g, i * 8 + 5, none⟩ (.int .i64 d.hi)).setCell ⟨g, i * 8 + 6, none⟩ (.int .i64 d.len)).setCell ⟨g, i * 8 + 7, none⟩ (.string ⟨d.pat.toArray⟩)) B (.slice (some ⟨g, 0, none⟩) n cap) (pre ++ d :: post) := by
  subst hn hi
  have h0 := (World.ownsRow.stored h (pre.length * 8) (.int .i64 d.kind)).1
  have h1 := (World.ownsRow.stored h0 (pre.length * 8 + 1) (.string ⟨d.field.toArray⟩)).1
  have h2 := (World.ownsRow.stored h1 (pre.length * 8 + 2) (.int .i64 d.op)).1
  have h3 := (World.ownsRow.stored h2 (pre.length * 8 + 3) (.int .i64 d.form)).1
  have h4 := (World.ownsRow.stored h3 (pre.length * 8 + 4) (.int .i64 d.lo)).1
  have h5 := (World.ownsRow.stored h4 (pre.length * 8 + 5) (.int .i64 d.hi)).1
  have h6 := (World.ownsRow.stored h5 (pre.length * 8 + 6) (.int .i64 d.len)).1
  have h7 := (World.ownsRow.stored h6 (pre.length * 8 + 7) (.string ⟨d.pat.toArray⟩)).1
  have e : ∀ y : Sp.Nd, ndCells (pre ++ y :: post) = ndCells pre ++ .int .i64 y.kind :: .string ⟨y.field.toArray⟩ :: .int .i64 y.op :: .int .i64 y.form :: .int .i64 y.lo :: .int .i64 y.hi :: .int .i64 y.len :: .string ⟨y.pat.toArray⟩ :: ndCells post := by
    intro y
    rw [ndCells_append]
    rfl
  rw [e x, set8 (ndCells_len pre), ← e d] at h7
  have el : (pre ++ d :: post).length = (pre ++ x :: post).length := by simp
  unfold Nds
  rw [el]
  exact h7
theorem law5_lay (A2 : Option Addr) (g n c c2 B : Nat) (xs ds : List Sp.Nd) (w : World) (hn : ds.length = n) (hx : xs.length = n + 2) (hl : n ≤ 1000) (hz : Nds w B (.slice (some ⟨g, 0, none⟩) (n + 2) c) xs) (hc : n + 2 ≤ c) (hv : NView w w.heap.size A2 ds) (hne : ∀ g2 o, A2 = some ⟨g2, o, none⟩ → g2 ≠ g) :
    Calls Tryz.prog 17 #[.slice (some ⟨g, 0, none⟩) n c, .slice A2 n c2] w fun e w' => e = .returned (.tuple #[]) ∧ Nds w' B (.slice (some ⟨g, 0, none⟩) (n + 2) c) (ds ++ xs.drop n) ∧ w.grownBy w' (some g) := by
  have HV := Lib.hid hv
  have HN := Lib.hid hn
  have HX := Lib.hid hx
  have HNE := Lib.hid hne
  have n1 : (n : Int) ≤ 1000 := by omega
  have n0 : (0 : Int) ≤ (n : Int) := by omega
  have HZ0 := Lib.hid hz
  clear hv hn hx hne hz
  go_enter Tryz.func17, Tryz.ntmps17
  go_wp2_with fail
  go_loopw [4] (fun v4 wr => ∃ i : Nat, v4 = .int .i64 (i : Int) ∧ i ≤ n ∧ w.grownBy wr (some g) ∧ Nds wr B (.slice (some ⟨g, 0, none⟩) (n + 2) c) (ds.take i ++ xs.drop i)) (fun v4 _ => n - (intOf v4).toNat)
  case atStart => exact ⟨0, rfl, Nat.zero_le _, World.grownBy.refl _ _, HZ0.out⟩
  case round =>
    obtain ⟨i, rfl, hi, hg, hz⟩ := hrel
    have HGR := Lib.hid hg
    have HZ := Lib.hid hz
    by_cases hlt : i < n
    · have z1 : decide ((i : Int) < n) = true := decide_eq_true (by omega)
      have z2 : decide (i < n) = true := decide_eq_true hlt
      have z3 : (i : Int) < n := by omega
      have z4 : (0 : Int) ≤ (i : Int) := by omega
      obtain ⟨d, hd⟩ : ∃ d, ds[i]? = some d := ⟨_, List.getElem?_eq_getElem (by rw [HN.out]; exact hlt)⟩
      obtain ⟨x, hx⟩ : ∃ x, xs[i]? = some x := ⟨_, List.getElem?_eq_getElem (by rw [HX.out]; omega)⟩
      have htl : (ds.take i).length = i := by rw [List.length_take, HN.out]; omega
      have hsp : ds.take i ++ xs.drop i = ds.take i ++ x :: xs.drop (i + 1) := by rw [Sp.drop_at hx]
      have hsl : (ds.take i ++ x :: xs.drop (i + 1)).length = n + 2 := by
        rw [List.length_append, htl, List.length_cons, List.length_drop, HX.out]
        omega
      have hnx : ds.take i ++ d :: xs.drop (i + 1) = ds.take (i + 1) ++ xs.drop (i + 1) := by
        rw [List.take_succ_eq_append_getElem (List.getElem?_eq_some_iff.1 hd).1, (List.getElem?_eq_some_iff.1 hd).2]
        simp
      have hz2 := hz
      rw [hsp] at hz2
      have hxa : (ds.take i ++ x :: xs.drop (i + 1))[i]? = some x := by rw [List.getElem?_append_right (by omega), htl]; simp
      obtain ⟨a0, a1, a2, a3, a4, a5, a6, a7⟩ := nds_node hz2 hxa
      have fz := nds_fz hz2 hsl
      have f0 := fz (i * 8)
      have f1 := fz (i * 8 + 1)
      have f2 := fz (i * 8 + 2)
      have f3 := fz (i * 8 + 3)
      have f4 := fz (i * 8 + 4)
      have f5 := fz (i * 8 + 5)
      have f6 := fz (i * 8 + 6)
      have f7 := fz (i * 8 + 7)
      have HZ9 := Lib.hid (nds_set (d := d) hz2 hsl htl)
      have HNX := Lib.hid hnx
      obtain ⟨G, O, hA2, hGl, c0, c1, c2', c3, c4, c5, c6, c7⟩ := (HV.out.grown hg (Nat.le_refl _) HNE.out) i d hd
      subst hA2
      obtain ⟨kk, f, o, fm, lo, hi', ln, pt⟩ := d
      simp only [] at c0 c1 c2' c3 c4 c5 c6 c7
      clear hd hx htl hsp hsl hnx hz2 hxa fz hg hz hi
      go_wp2_with fail
      go_roundw
      case rel =>
        refine ⟨i + 1, by go_num, by omega, ?_, by have := HZ9.out; rw [HNX.out] at this; exact this⟩
        exact only_setCell (only_setCell (only_setCell (only_setCell (only_setCell (only_setCell (only_setCell (only_setCell HGR.out (p := ⟨g, i * 8, none⟩) (Or.inl rfl) _) (p := ⟨g, i * 8 + 1, none⟩) (Or.inl rfl) _) (p := ⟨g, i * 8 + 2, none⟩) (Or.inl rfl) _) (p := ⟨g, i * 8 + 3, none⟩) (Or.inl rfl) _) (p := ⟨g, i * 8 + 4, none⟩) (Or.inl rfl) _) (p := ⟨g, i * 8 + 5, none⟩) (Or.inl rfl) _) (p := ⟨g, i * 8 + 6, none⟩) (Or.inl rfl) _) (p := ⟨g, i * 8 + 7, none⟩) (Or.inl rfl) _
      case measure => simp [intOf]; omega
    · have z1 : decide ((i : Int) < n) = false := decide_eq_false (by omega)
      have z2 : decide (i < n) = false := decide_eq_false hlt
      have HE := Lib.hid (show i = n by omega)
      clear hg hz hi hlt
      go_wp2_with fail
      go_end0
      refine ⟨rfl, ?_, HGR.out⟩
      have := HZ.out
      rw [HE.out, List.take_of_length_le (by rw [HN.out]; exact Nat.le_refl _)] at this
      exact this
end Go.Proofs.YtdmpapoabeljfaaGreatDoor
