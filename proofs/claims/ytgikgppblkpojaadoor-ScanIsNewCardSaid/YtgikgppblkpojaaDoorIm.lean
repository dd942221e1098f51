/-
  THE WALK of reachlaw3.sameAll at two views of one list (chapter 3's law ScanIsNew).
-/
import Derived.Test.YtgikgppblkpojaaDoorIc
import Derived.Deep.CutRange
import Derived.Deep.DeepCutAuto
set_option linter.unusedVariables false
set_option linter.unusedSimpArgs false
set_option maxRecDepth 100000
set_option maxHeartbeats 8000000
namespace Go.Proofs.YtgikgppblkpojaaDoor
open Go.RowKit

theorem law3_sameAllZ (A1 A2 : Option Addr) (cap1 cap2 n : Nat) (zs : List ZTok) (w : World) (hn : zs.length = n) (hnb : n ≤ 1073741824) (hv1 : ViewZ w w.heap.size A1 zs) (hv2 : ViewZ w w.heap.size A2 zs) :
    Calls Tryd.prog 5 #[.slice A1 n cap1, .slice A2 n cap2] w fun e w' => e = .returned (.bool true) ∧ Below w.heap.size w w' := by
  have HN := Lib.hid hn
  have HV1 := Lib.hid hv1
  have HV2 := Lib.hid hv2
  have q0 : ((n : Int) != (n : Int)) = false := by rw [bne_eq_false_iff_eq]
  clear hn hv1 hv2
  go_enter Tryd.func5, Tryd.ntmps5
  go_wp2
  go_loopw [5] (fun v5 wr => Below w.heap.size w wr ∧ ∃ i : Nat, v5 = .int .i64 (i : Int) ∧ i ≤ n) (fun v5 _ => n - (intOf v5).toNat)
  case atStart => exact ⟨Below.refl _ _, 0, rfl, by omega⟩
  case round =>
    obtain ⟨hbr, i, rfl, hi⟩ := hrel
    by_cases hlt : i < n
    · have p1 : decide ((i : Int) < n) = true := decide_eq_true (by omega)
      have p2 : (i : Int) < n := by omega
      have p5 : (0 : Int) ≤ (i : Int) := by omega
      obtain ⟨z, hz⟩ : ∃ z, zs[i]? = some z := ⟨_, List.getElem?_eq_getElem (by rw [HN.out]; exact hlt)⟩
      obtain ⟨g1, o1, rfl, hg1, x1⟩ := HV1.out i z hz
      obtain ⟨g2, o2, rfl, hg2, x2⟩ := HV2.out i z hz
      obtain ⟨a1, a2, a3, a4⟩ := x1.below hbr hg1
      obtain ⟨b1, b2, b3, b4⟩ := x2.below hbr hg2
      obtain ⟨k, T, ln, cl⟩ := z
      simp only [] at a1 a2 a3 a4 b1 b2 b3 b4
      have hl1 : g1 < wr.heap.size := by have := hbr.size; omega
      have hl2 : g2 < wr.heap.size := by have := hbr.size; omega
      have hS8 : wr.cell? ⟨g1, o1 + i * 4, none⟩ = some (.int .i64 k) ∧ wr.cell? ⟨g1, o1 + i * 4 + 1, none⟩ = some (.string T) ∧ wr.cell? ⟨g1, o1 + i * 4 + 2, none⟩ = some (.int .i64 ln) ∧ wr.cell? ⟨g1, o1 + i * 4 + 3, none⟩ = some (.int .i64 cl) ∧ wr.cell? ⟨g2, o2 + i * 4, none⟩ = some (.int .i64 k) ∧ wr.cell? ⟨g2, o2 + i * 4 + 1, none⟩ = some (.string T) ∧ wr.cell? ⟨g2, o2 + i * 4 + 2, none⟩ = some (.int .i64 ln) ∧ wr.cell? ⟨g2, o2 + i * 4 + 3, none⟩ = some (.int .i64 cl) := ⟨a1, a2, a3, a4, b1, b2, b3, b4⟩
      have hkeep : ∀ w5, Below wr.drew.heap.size wr.drew w5 → w5.cell? ⟨g1, o1 + i * 4, none⟩ = some (.int .i64 k) ∧ w5.cell? ⟨g1, o1 + i * 4 + 1, none⟩ = some (.string T) ∧ w5.cell? ⟨g1, o1 + i * 4 + 2, none⟩ = some (.int .i64 ln) ∧ w5.cell? ⟨g1, o1 + i * 4 + 3, none⟩ = some (.int .i64 cl) ∧ w5.cell? ⟨g2, o2 + i * 4, none⟩ = some (.int .i64 k) ∧ w5.cell? ⟨g2, o2 + i * 4 + 1, none⟩ = some (.string T) ∧ w5.cell? ⟨g2, o2 + i * 4 + 2, none⟩ = some (.int .i64 ln) ∧ w5.cell? ⟨g2, o2 + i * 4 + 3, none⟩ = some (.int .i64 cl) := fun w5 hb =>
        ⟨(hb.cell (p := ⟨g1, o1 + i * 4, none⟩) hl1).trans a1, (hb.cell (p := ⟨g1, o1 + i * 4 + 1, none⟩) hl1).trans a2, (hb.cell (p := ⟨g1, o1 + i * 4 + 2, none⟩) hl1).trans a3, (hb.cell (p := ⟨g1, o1 + i * 4 + 3, none⟩) hl1).trans a4,
          (hb.cell (p := ⟨g2, o2 + i * 4, none⟩) hl2).trans b1, (hb.cell (p := ⟨g2, o2 + i * 4 + 1, none⟩) hl2).trans b2, (hb.cell (p := ⟨g2, o2 + i * 4 + 2, none⟩) hl2).trans b3, (hb.cell (p := ⟨g2, o2 + i * 4 + 3, none⟩) hl2).trans b4⟩
      have HK := Lib.hid hkeep
      have hbr2 := hbr.drew
      clear x1 x2 hz a1 a2 a3 a4 b1 b2 b3 b4 hkeep
      go_wp2_with fail
      go_region_held3 (fun w' => w'.cell? ⟨g1, o1 + i * 4, none⟩ = some (.int .i64 k) ∧ w'.cell? ⟨g1, o1 + i * 4 + 1, none⟩ = some (.string T) ∧ w'.cell? ⟨g1, o1 + i * 4 + 2, none⟩ = some (.int .i64 ln) ∧ w'.cell? ⟨g1, o1 + i * 4 + 3, none⟩ = some (.int .i64 cl) ∧ w'.cell? ⟨g2, o2 + i * 4, none⟩ = some (.int .i64 k) ∧ w'.cell? ⟨g2, o2 + i * 4 + 1, none⟩ = some (.string T) ∧ w'.cell? ⟨g2, o2 + i * 4 + 2, none⟩ = some (.int .i64 ln) ∧ w'.cell? ⟨g2, o2 + i * 4 + 3, none⟩ = some (.int .i64 cl))
        (first | go_keep | exact hS8 | exact ks)
        ((go_at_call 7; refine (same_refl _ _ _ _ _).mono ?_; rintro e w5 ⟨rfl, hb5⟩; have ks := HK.out w5 hb5))
      go_wp2
      go_roundw
      case rel => exact ⟨hbr2.trans (hb5.mono hbr2.size), i + 1, by rfl, by omega⟩
      case measure => simp [intOf]; omega
    · have p1 : decide ((i : Int) < n) = false := decide_eq_false (by omega)
      go_wp2
      go_ret
      exact ⟨rfl, hbr⟩
end Go.Proofs.YtgikgppblkpojaaDoor
