/-
  THE WALKS of reachlaw3.mark, sameAll (any tokens): what the law ScanPrints stands on (chapter 3).
-/
import Derived.Test.YtjedoipbllcfdaaGreatDoorSd
set_option linter.unusedVariables false
set_option linter.unusedSimpArgs false
set_option maxRecDepth 100000
set_option maxHeartbeats 8000000
namespace Go.Proofs.YtjedoipbllcfdaaGreatDoor
open Go.RowKit

def markZ (n : Int) : ZTok := (100 + n, ⟨#[109, 97, 114, 107]⟩, n, -n)
theorem law3_mark1 (w : World) : Calls Tryz.prog 8 #[.int .i64 1] w fun e w' => e = .returned (zv (markZ 1)) ∧ Below w.heap.size w w' := by
  go_enter Tryz.func8, Tryz.ntmps8
  go_wp2
  refine bodyPost_ret (results_cell_row rfl _ _ w.heap.size 25 (zCells (markZ 1)) (0, 0) _ rfl (heap_alloc_new w _) Tryz.underlying25 rfl (by kernel_rfl)) rfl ?_
  exact ⟨rfl, (Below.refl _ _).alloc (Nat.le_refl _) _⟩
theorem law3_mark2 (w : World) : Calls Tryz.prog 8 #[.int .i64 2] w fun e w' => e = .returned (zv (markZ 2)) ∧ Below w.heap.size w w' := by
  go_enter Tryz.func8, Tryz.ntmps8
  go_wp2
  refine bodyPost_ret (results_cell_row rfl _ _ w.heap.size 25 (zCells (markZ 2)) (0, 0) _ rfl (heap_alloc_new w _) Tryz.underlying25 rfl (by kernel_rfl)) rfl ?_
  exact ⟨rfl, (Below.refl _ _).alloc (Nat.le_refl _) _⟩


/-- A block of N tokens of the call's own, the first of which are these. -/
def BlkZ (w : World) (g N : Nat) (zs : List ZTok) : Prop :=
  ∃ cs, Blk w g 25 cs ∧ cs.size = N * 4 ∧ zs.length ≤ N ∧ ∀ i z, zs[i]? = some z → cs[i * 4]? = some (.int .i64 z.1) ∧ cs[i * 4 + 1]? = some (.string z.2.1) ∧ cs[i * 4 + 2]? = some (.int .i64 z.2.2.1) ∧ cs[i * 4 + 3]? = some (.int .i64 z.2.2.2)
theorem BlkZ.lt {w : World} {g N : Nat} {zs : List ZTok} (h : BlkZ w g N zs) : g < w.heap.size := by
  obtain ⟨cs, h1, _⟩ := h
  exact h1.lt
theorem BlkZ.frozen {w : World} {g N : Nat} {zs : List ZTok} (h : BlkZ w g N zs) (i : Nat) : w.frozen? ⟨g, i, none⟩ = false := by
  obtain ⟨cs, h1, _⟩ := h
  exact h1.frozen i
theorem BlkZ.below {w w' : World} {B g N : Nat} {zs : List ZTok} (h : BlkZ w g N zs) (hb : Below B w w') (hg : g < B) : BlkZ w' g N zs := by
  obtain ⟨cs, h1, h2, h3, h4⟩ := h
  exact ⟨cs, h1.below hb hg, h2, h3, h4⟩
theorem BlkZ.view {w : World} {g N : Nat} {zs : List ZTok} (h : BlkZ w g N zs) : ViewZ w w.heap.size (some ⟨g, 0, none⟩) zs := by
  intro i z hz
  have hlt := h.lt
  obtain ⟨cs, h1, h2, h3, h4⟩ := h
  obtain ⟨c0, c1, c2, c3⟩ := h4 i z hz
  refine ⟨g, 0, rfl, hlt, ?_⟩
  unfold ZAt
  rw [Nat.zero_add]
  exact ⟨(h1.cell _).trans c0, (h1.cell _).trans c1, (h1.cell _).trans c2, (h1.cell _).trans c3⟩
theorem BlkZ.cells {w : World} {g N : Nat} {zs : List ZTok} (h : BlkZ w g N zs) (i : Nat) (hi : i < N) : ∀ j, j < 4 → ∃ v, w.cell? ⟨g, i * 4 + j, none⟩ = some v := by
  intro j hj
  obtain ⟨cs, h1, h2, _⟩ := h
  rw [h1.cell]
  exact ⟨_, Array.getElem?_eq_getElem (by omega)⟩
/-- One more is written. -/
theorem BlkZ.push {w : World} {g N k : Nat} {zs : List ZTok} (h : BlkZ w g N zs) (hk : zs.length = k) (hN : k < N) (z : ZTok) :
    BlkZ ((((w.setCell ⟨g, k * 4, none⟩ (.int .i64 z.1)).setCell ⟨g, k * 4 + 1, none⟩ (.string z.2.1)).setCell ⟨g, k * 4 + 2, none⟩ (.int .i64 z.2.2.1)).setCell ⟨g, k * 4 + 3, none⟩ (.int .i64 z.2.2.2)) g N (zs ++ [z]) := by
  obtain ⟨cs, h1, h2, h3, h4⟩ := h
  refine ⟨_, (((h1.set_ _ _).set_ _ _).set_ _ _).set_ _ _, by simp [h2], by rw [List.length_append, List.length_singleton]; omega, ?_⟩
  intro i x hx
  rcases Nat.lt_or_ge i k with hi | hi
  · rw [List.getElem?_append_left (by omega)] at hx
    obtain ⟨c0, c1, c2, c3⟩ := h4 i x hx
    refine ⟨?_, ?_, ?_, ?_⟩
    · rw [Array.getElem?_setIfInBounds_ne (by omega), Array.getElem?_setIfInBounds_ne (by omega), Array.getElem?_setIfInBounds_ne (by omega), Array.getElem?_setIfInBounds_ne (by omega)]; exact c0
    · rw [Array.getElem?_setIfInBounds_ne (by omega), Array.getElem?_setIfInBounds_ne (by omega), Array.getElem?_setIfInBounds_ne (by omega), Array.getElem?_setIfInBounds_ne (by omega)]; exact c1
    · rw [Array.getElem?_setIfInBounds_ne (by omega), Array.getElem?_setIfInBounds_ne (by omega), Array.getElem?_setIfInBounds_ne (by omega), Array.getElem?_setIfInBounds_ne (by omega)]; exact c2
    · rw [Array.getElem?_setIfInBounds_ne (by omega), Array.getElem?_setIfInBounds_ne (by omega), Array.getElem?_setIfInBounds_ne (by omega), Array.getElem?_setIfInBounds_ne (by omega)]; exact c3
  · rw [List.getElem?_append_right (by omega)] at hx
    have hik : i = k := by
      rcases Nat.eq_zero_or_pos (i - zs.length) with h0 | h0
      · omega
      · rw [List.getElem?_eq_none (by simp; omega)] at hx
        cases hx
    subst hik
    rw [show i - zs.length = 0 by omega] at hx
    injection hx with hx
    subst hx
    refine ⟨?_, ?_, ?_, ?_⟩
    · rw [Array.getElem?_setIfInBounds_ne (by omega), Array.getElem?_setIfInBounds_ne (by omega), Array.getElem?_setIfInBounds_ne (by omega), Array.getElem?_setIfInBounds_self_of_lt (by omega)]
    · rw [Array.getElem?_setIfInBounds_ne (by omega), Array.getElem?_setIfInBounds_ne (by omega), Array.getElem?_setIfInBounds_self_of_lt (by simp; omega)]
    · rw [Array.getElem?_setIfInBounds_ne (by omega), Array.getElem?_setIfInBounds_self_of_lt (by simp; omega)]
    · rw [Array.getElem?_setIfInBounds_self_of_lt (by simp; omega)]
/-- Four cells of another block. -/
theorem BlkZ.far {w : World} {g g' N : Nat} {zs : List ZTok} (h : BlkZ w g N zs) (hg : g ≠ g') (a b c d : Nat) (u1 u2 u3 u4 : Value) :
    BlkZ ((((w.setCell ⟨g', a, none⟩ u1).setCell ⟨g', b, none⟩ u2).setCell ⟨g', c, none⟩ u3).setCell ⟨g', d, none⟩ u4) g N zs := by
  obtain ⟨cs, h1, h2⟩ := h
  exact ⟨cs, (((h1.far hg _).far hg _).far hg _).far hg _, h2⟩
theorem below_four {W w : World} {B g : Nat} (h : Below B W w) (hg : B ≤ g) (a b c d : Nat) (u1 u2 u3 u4 : Value) :
    Below B W ((((w.setCell ⟨g, a, none⟩ u1).setCell ⟨g, b, none⟩ u2).setCell ⟨g, c, none⟩ u3).setCell ⟨g, d, none⟩ u4) :=
  (((h.setCell (p := ⟨g, a, none⟩) hg u1).setCell (p := ⟨g, b, none⟩) hg u2).setCell (p := ⟨g, c, none⟩) hg u3).setCell (p := ⟨g, d, none⟩) hg u4
theorem blkz_new (w : World) (N : Nat) (cs : Array Value) (hcs : cs.size = N * 4) : BlkZ (w.alloc (.cells cs 25)) w.heap.size N [] :=
  ⟨cs, Blk.new w _ _, hcs, by simp, fun i z hz => by simp at hz⟩

theorem law3_sameAllZ (A1 A2 : Option Addr) (cap1 cap2 n : Nat) (zs : List ZTok) (w : World) (hn : zs.length = n) (hnb : n ≤ 1073741824) (hv1 : ViewZ w w.heap.size A1 zs) (hv2 : ViewZ w w.heap.size A2 zs) :
    Calls Tryz.prog 11 #[.slice A1 n cap1, .slice A2 n cap2] w fun e w' => e = .returned (.bool true) ∧ Below w.heap.size w w' := by
  have HN := Lib.hid hn
  have HV1 := Lib.hid hv1
  have HV2 := Lib.hid hv2
  have q0 : ((n : Int) != (n : Int)) = false := by rw [bne_eq_false_iff_eq]
  clear hn hv1 hv2
  go_enter Tryz.func11, Tryz.ntmps11
  go_wp2
  go_loopw [5] (fun v5 wr => Below w.heap.size w wr ∧ ∃ i : Nat, v5 = .int .i64 (i : Int) ∧ i ≤ n) (fun v5 _ => n - (intOf v5).toNat)
  case atStart => exact ⟨Below.refl _ _, 0, rfl, by omega⟩
  case round =>
    obtain ⟨hbr, i, rfl, hi⟩ := hrel
    by_cases hlt : i < n
    · have p1 : decide ((i : Int) < n) = true := decide_eq_true (by omega)
      have p2 : (i : Int) < n := by omega
      have p5 : (0 : Int) ≤ (i : Int) := by omega
      obtain ⟨z, hz⟩ : ∃ z, zs[i]? = some z := ⟨_, List.getElem?_eq_getElem (by rw [HN.out]; exact hlt)⟩
      obtain ⟨g1, o1, rfl, hg1, x1⟩ := HV1.out i z hz
      obtain ⟨g2, o2, rfl, hg2, x2⟩ := HV2.out i z hz
      obtain ⟨a1, a2, a3, a4⟩ := x1.below hbr hg1
      obtain ⟨b1, b2, b3, b4⟩ := x2.below hbr hg2
      obtain ⟨k, T, ln, cl⟩ := z
      simp only [] at a1 a2 a3 a4 b1 b2 b3 b4
      have hl1 : g1 < wr.heap.size := by have := hbr.size; omega
      have hl2 : g2 < wr.heap.size := by have := hbr.size; omega
      have hS8 : wr.cell? ⟨g1, o1 + i * 4, none⟩ = some (.int .i64 k) ∧ wr.cell? ⟨g1, o1 + i * 4 + 1, none⟩ = some (.string T) ∧ wr.cell? ⟨g1, o1 + i * 4 + 2, none⟩ = some (.int .i64 ln) ∧ wr.cell? ⟨g1, o1 + i * 4 + 3, none⟩ = some (.int .i64 cl) ∧ wr.cell? ⟨g2, o2 + i * 4, none⟩ = some (.int .i64 k) ∧ wr.cell? ⟨g2, o2 + i * 4 + 1, none⟩ = some (.string T) ∧ wr.cell? ⟨g2, o2 + i * 4 + 2, none⟩ = some (.int .i64 ln) ∧ wr.cell? ⟨g2, o2 + i * 4 + 3, none⟩ = some (.int .i64 cl) := ⟨a1, a2, a3, a4, b1, b2, b3, b4⟩
      have hkeep : ∀ w5, Below wr.drew.heap.size wr.drew w5 → w5.cell? ⟨g1, o1 + i * 4, none⟩ = some (.int .i64 k) ∧ w5.cell? ⟨g1, o1 + i * 4 + 1, none⟩ = some (.string T) ∧ w5.cell? ⟨g1, o1 + i * 4 + 2, none⟩ = some (.int .i64 ln) ∧ w5.cell? ⟨g1, o1 + i * 4 + 3, none⟩ = some (.int .i64 cl) ∧ w5.cell? ⟨g2, o2 + i * 4, none⟩ = some (.int .i64 k) ∧ w5.cell? ⟨g2, o2 + i * 4 + 1, none⟩ = some (.string T) ∧ w5.cell? ⟨g2, o2 + i * 4 + 2, none⟩ = some (.int .i64 ln) ∧ w5.cell? ⟨g2, o2 + i * 4 + 3, none⟩ = some (.int .i64 cl) := fun w5 hb =>
        ⟨(hb.cell (p := ⟨g1, o1 + i * 4, none⟩) hl1).trans a1, (hb.cell (p := ⟨g1, o1 + i * 4 + 1, none⟩) hl1).trans a2, (hb.cell (p := ⟨g1, o1 + i * 4 + 2, none⟩) hl1).trans a3, (hb.cell (p := ⟨g1, o1 + i * 4 + 3, none⟩) hl1).trans a4,
          (hb.cell (p := ⟨g2, o2 + i * 4, none⟩) hl2).trans b1, (hb.cell (p := ⟨g2, o2 + i * 4 + 1, none⟩) hl2).trans b2, (hb.cell (p := ⟨g2, o2 + i * 4 + 2, none⟩) hl2).trans b3, (hb.cell (p := ⟨g2, o2 + i * 4 + 3, none⟩) hl2).trans b4⟩
      have HK := Lib.hid hkeep
      have hbr2 := hbr.drew
      clear x1 x2 hz a1 a2 a3 a4 b1 b2 b3 b4 hkeep
      go_wp2_with fail
      go_region_held3 (fun w' => w'.cell? ⟨g1, o1 + i * 4, none⟩ = some (.int .i64 k) ∧ w'.cell? ⟨g1, o1 + i * 4 + 1, none⟩ = some (.string T) ∧ w'.cell? ⟨g1, o1 + i * 4 + 2, none⟩ = some (.int .i64 ln) ∧ w'.cell? ⟨g1, o1 + i * 4 + 3, none⟩ = some (.int .i64 cl) ∧ w'.cell? ⟨g2, o2 + i * 4, none⟩ = some (.int .i64 k) ∧ w'.cell? ⟨g2, o2 + i * 4 + 1, none⟩ = some (.string T) ∧ w'.cell? ⟨g2, o2 + i * 4 + 2, none⟩ = some (.int .i64 ln) ∧ w'.cell? ⟨g2, o2 + i * 4 + 3, none⟩ = some (.int .i64 cl))
        (first | go_keep | exact hS8 | exact ks)
        ((go_at_call 12; refine (same_refl _ _ _ _ _).mono ?_; rintro e w5 ⟨rfl, hb5⟩; have ks := HK.out w5 hb5))
      go_wp2
      go_roundw
      case rel => exact ⟨hbr2.trans (hb5.mono hbr2.size), i + 1, by rfl, by omega⟩
      case measure => simp [intOf]; omega
    · have p1 : decide ((i : Int) < n) = false := decide_eq_false (by omega)
      go_wp2
      go_ret
      exact ⟨rfl, hbr⟩
end Go.Proofs.YtjedoipbllcfdaaGreatDoor
