/-
  THE WALKS of reachlaw5.alike, num; tokens that are put behind tokens (chapter 5).
-/
import Derived.Test.YtdmpapoabeljfaaGreatDoorEk
set_option linter.unusedVariables false
set_option linter.unusedSimpArgs false
set_option maxRecDepth 100000
set_option maxHeartbeats 4000000
namespace Go.Proofs.YtdmpapoabeljfaaGreatDoor
open Go.RowKit

/-- A node's cells from a place on. -/
def NdAt (w : World) (g x : Nat) (d : Sp.Nd) : Prop :=
  w.cell? ⟨g, x, none⟩ = some (.int .i64 d.kind) ∧ w.cell? ⟨g, x + 1, none⟩ = some (.string ⟨d.field.toArray⟩) ∧ w.cell? ⟨g, x + 2, none⟩ = some (.int .i64 d.op) ∧ w.cell? ⟨g, x + 3, none⟩ = some (.int .i64 d.form) ∧ w.cell? ⟨g, x + 4, none⟩ = some (.int .i64 d.lo) ∧ w.cell? ⟨g, x + 5, none⟩ = some (.int .i64 d.hi) ∧ w.cell? ⟨g, x + 6, none⟩ = some (.int .i64 d.len) ∧ w.cell? ⟨g, x + 7, none⟩ = some (.string ⟨d.pat.toArray⟩)
theorem ndCells_get : ∀ (ns : List Sp.Nd) (i : Nat) (d : Sp.Nd) (f : Nat), ns[i]? = some d → f < 8 → (ndCells ns)[i * 8 + f]? = (ndCell d)[f]?
  | [], i, d, f, h, _ => by simp at h
  | x :: r, 0, d, f, h, hf => by
    simp at h
    subst h
    unfold ndCells
    rw [List.flatMap_cons, List.getElem?_append_left (show 0 * 8 + f < (ndCell x).length by show _ < 8; omega)]
    simp
  | x :: r, i + 1, d, f, h, hf => by
    have ih := ndCells_get r i d f (by simpa using h) hf
    unfold ndCells at ih ⊢
    rw [List.flatMap_cons, List.getElem?_append_right (show (ndCell x).length ≤ (i + 1) * 8 + f by show 8 ≤ _; omega)]
    have : (i + 1) * 8 + f - (ndCell x).length = i * 8 + f := by show (i + 1) * 8 + f - 8 = _; omega
    rw [this]
    exact ih
theorem nds_form {w : World} {B : Nat} {v : Value} {ns : List Sp.Nd} (h : Nds w B v ns) : ∃ A cap, v = .slice A ns.length cap ∧ ∀ i d, ns[i]? = some d → ∃ g, A = some ⟨g, 0, none⟩ ∧ g < w.heap.size ∧ NdAt w g (i * 8) d := by
  rcases h.2 with ⟨rfl, hn⟩ | ⟨g, cap, cur, hv, hg, r⟩
  · refine ⟨none, 0, by rw [hn], ?_⟩
    intro i d hd
    have : ns = [] := List.length_eq_zero_iff.1 hn
    subst this
    simp at hd
  · refine ⟨some ⟨g, 0, none⟩, cap, hv, ?_⟩
    intro i d hd
    refine ⟨g, rfl, (World.ownsRow.lt h g (by rw [hv]; rfl)).2, ?_⟩
    have key : ∀ f u, f < 8 → (ndCell d)[f]? = some u → w.cell? ⟨g, i * 8 + f, none⟩ = some u := by
      intro f u hf hu
      have hlt : i * 8 + f < ns.length * 8 := by
        have : i < ns.length := (List.getElem?_eq_some_iff.1 hd).1
        omega
      have h2 : w.ownsRow B 56 8 (.slice (some ⟨g, 0, none⟩) ns.length cap) ns.length (ndCells ns) := by rw [← hv]; exact h
      rw [h2.cellAt (i * 8 + f) hlt, ndCells_get ns i d f hd hf, hu]
    exact ⟨key 0 _ (by omega) rfl, key 1 _ (by omega) rfl, key 2 _ (by omega) rfl, key 3 _ (by omega) rfl, key 4 _ (by omega) rfl, key 5 _ (by omega) rfl, key 6 _ (by omega) rfl, key 7 _ (by omega) rfl⟩

theorem law5_alike (v1 v2 : Value) (B1 B2 : Nat) (ns : List Sp.Nd) (w : World) (h1 : Nds w B1 v1 ns) (h2 : Nds w B2 v2 ns) (hl : ns.length ≤ 1073741824) :
    Calls Tryz.prog 9 #[v1, v2] w fun e w' => e = .returned (.bool true) ∧ Below w.heap.size w w' := by
  obtain ⟨A1, cap1, rfl, k1⟩ := nds_form h1
  obtain ⟨A2, cap2, rfl, k2⟩ := nds_form h2
  have K1 := Lib.hid k1
  have K2 := Lib.hid k2
  obtain ⟨n, hn⟩ : ∃ n, ns.length = n := ⟨_, rfl⟩
  rw [hn] at hl ⊢
  have HN := Lib.hid hn
  have q0 : ((n : Int) != (n : Int)) = false := by rw [bne_eq_false_iff_eq]
  have n1 : (n : Int) ≤ 1073741824 := by omega
  clear h1 h2 k1 k2 hn
  go_enter Tryz.func9, Tryz.ntmps9
  go_wp2_with fail
  go_loopw [5] (fun v5 wr => Below w.heap.size w wr ∧ ∃ i : Nat, v5 = .int .i64 (i : Int) ∧ i ≤ n) (fun v5 _ => n - (intOf v5).toNat)
  case atStart => exact ⟨Below.refl _ _, 0, rfl, by omega⟩
  case round =>
    obtain ⟨hb, i, rfl, hi⟩ := hrel
    have HB := Lib.hid hb
    by_cases hlt : i < n
    · have z1 : decide ((i : Int) < n) = true := decide_eq_true (by omega)
      have z1b : decide (i < n) = true := decide_eq_true hlt
      have z2 : (i : Int) < n := by omega
      have z3 : (0 : Int) ≤ (i : Int) := by omega
      obtain ⟨d, hd⟩ : ∃ d, ns[i]? = some d := ⟨_, List.getElem?_eq_getElem (by rw [HN.out]; exact hlt)⟩
      obtain ⟨g1, rfl, hg1, a0, a1, a2, a3, a4, a5, a6, a7⟩ := K1.out i d hd
      obtain ⟨g2, rfl, hg2, b0, b1, b2, b3, b4, b5, b6, b7⟩ := K2.out i d hd
      obtain ⟨k, f, o, fm, lo, hi', ln, pt⟩ := d
      simp only [] at a0 a1 a2 a3 a4 a5 a6 a7 b0 b1 b2 b3 b4 b5 b6 b7
      obtain ⟨F, hF⟩ : ∃ F : ByteArray, (⟨f.toArray⟩ : ByteArray) = F := ⟨_, rfl⟩
      obtain ⟨PT, hPT⟩ : ∃ F : ByteArray, (⟨pt.toArray⟩ : ByteArray) = F := ⟨_, rfl⟩
      rw [hF] at a1 b1
      rw [hPT] at a7 b7
      have x0 := (hb.cell (p := ⟨g1, i * 8, none⟩) hg1).trans a0
      have x1 := (hb.cell (p := ⟨g1, i * 8 + 1, none⟩) hg1).trans a1
      have x2 := (hb.cell (p := ⟨g1, i * 8 + 2, none⟩) hg1).trans a2
      have x3 := (hb.cell (p := ⟨g1, i * 8 + 3, none⟩) hg1).trans a3
      have x4 := (hb.cell (p := ⟨g1, i * 8 + 4, none⟩) hg1).trans a4
      have x5 := (hb.cell (p := ⟨g1, i * 8 + 5, none⟩) hg1).trans a5
      have x6 := (hb.cell (p := ⟨g1, i * 8 + 6, none⟩) hg1).trans a6
      have x7 := (hb.cell (p := ⟨g1, i * 8 + 7, none⟩) hg1).trans a7
      have y0 := (hb.cell (p := ⟨g2, i * 8, none⟩) hg2).trans b0
      have y1 := (hb.cell (p := ⟨g2, i * 8 + 1, none⟩) hg2).trans b1
      have y2 := (hb.cell (p := ⟨g2, i * 8 + 2, none⟩) hg2).trans b2
      have y3 := (hb.cell (p := ⟨g2, i * 8 + 3, none⟩) hg2).trans b3
      have y4 := (hb.cell (p := ⟨g2, i * 8 + 4, none⟩) hg2).trans b4
      have y5 := (hb.cell (p := ⟨g2, i * 8 + 5, none⟩) hg2).trans b5
      have y6 := (hb.cell (p := ⟨g2, i * 8 + 6, none⟩) hg2).trans b6
      have y7 := (hb.cell (p := ⟨g2, i * 8 + 7, none⟩) hg2).trans b7
      clear a0 a1 a2 a3 a4 a5 a6 a7 b0 b1 b2 b3 b4 b5 b6 b7 hb hd hF hPT hg1 hg2
      go_wp2_with fail
      go_quiet (fail)
      go_wp2_with fail
      go_roundw
      case rel => exact ⟨below_drewN' HB.out _, i + 1, by rfl, by omega⟩
      case measure => simp [intOf]; omega
    · have z1 : decide ((i : Int) < n) = false := decide_eq_false (by omega)
      have z1b : decide (i < n) = false := decide_eq_false hlt
      clear hb hlt hi
      go_wp2_with fail
      go_ret
      exact ⟨rfl, HB.out⟩
theorem law5_num (x : Int) (w : World) : Calls Tryz.prog 8 #[.int .i64 x] w fun e w' => e = .returned (.int .i64 x) ∧ w = w' := by
  go_enter Tryz.func8, Tryz.ntmps8
  go_wp2
  go_ret
  exact ⟨rfl, rfl⟩

end Go.Proofs.YtdmpapoabeljfaaGreatDoor
