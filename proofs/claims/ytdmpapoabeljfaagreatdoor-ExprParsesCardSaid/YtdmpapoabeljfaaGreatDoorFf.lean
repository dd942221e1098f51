/-
  THE WALK of the reference's reader's method value (chapter 5).
-/
import Derived.Test.YtdmpapoabeljfaaGreatDoorFd
set_option linter.unusedVariables false
set_option linter.unusedSimpArgs false
set_option maxRecDepth 100000
set_option maxHeartbeats 4000000
namespace Go.Proofs.YtdmpapoabeljfaaGreatDoor
open Go.RowKit

/-- What value comes to. -/
def FNum (w0 W0 : World) (N : Nat) (A : Option Addr) (n cap p : Nat) (st : List UInt8) (ns : List Sp.Nd) (m : Nat) (r : Option Nat) (e : Ending) (w' : World) : Prop :=
  match r with
  | some v => e = .returned (.int .i64 (v : Nat)) ∧ FSt W0 N A n cap (p + 1) st ns m 0 w' ∧ w0.grownBy w' (some N)
  | none => e = .returned (.int .i64 0) ∧ FSt W0 N A n cap p st ns m 50 w' ∧ w0.grownBy w' (some N)
section
variable {W0 w w' : World} {N n cap p m c : Nat} {A : Option Addr} {st st' : List UInt8} {ns ns' : List Sp.Nd}
theorem only_below_drew {w w5 : World} {a : Nat} (h : Below (w.drewN a).drew.heap.size (w.drewN a).drew w5) (N : Nat) : w.grownBy w5 (some N) := by
  have g := only_of_below h (some N)
  exact ⟨g.os, g.tape, g.output, g.size, g.block⟩
theorem f_value (h : FSt W0 N A n cap p st ns m 0 w) {zs : List ZTok} (hn : zs.length = n) (hnb : n ≤ 4611686018427387904) (hv : ViewZ W0 N A zs) (hts : ∀ z ∈ zs, z.2.1.size ≤ 9223372036854775807) {R : Option Nat} (hR : Sp.numAt (zs.map ptZ) p = R) :
    Calls Tryz.prog 57 #[.pointer (some ⟨N, 0, none⟩)] w (FNum w W0 N A n cap p st ns m R) := by
  have hTl : (zs.map ptZ).length = n := by rw [List.length_map]; exact hn
  obtain ⟨c0, c1, f1, c4, f4, c5, f5⟩ := h.cells
  have H := Lib.hid h
  have HFL := Lib.hid (fun k => f_fail (h.drewN k) 50 p)
  have hNlt := h.own
  have hb := h.bel
  clear h f1 c4 f4 f5
  by_cases hlt : p < n
  · have q1 : decide ((p : Int) ≥ n) = false := decide_eq_false (by omega)
    have q1b : decide (n ≤ p) = false := decide_eq_false (by omega)
    have p1 : (p : Int) < n := by omega
    have p2 : (0 : Int) ≤ (p : Int) := by omega
    obtain ⟨z, hz⟩ : ∃ z, zs[p]? = some z := ⟨_, List.getElem?_eq_getElem (by rw [hn]; exact hlt)⟩
    obtain ⟨hk1, hk2⟩ := kd_some hz
    have hzs := hts z (List.mem_of_getElem? hz)
    have hvw := hv.below hb (Nat.le_refl _)
    obtain ⟨g, o, rfl, hg, a0, a1, _, _⟩ := hvw p z hz
    obtain ⟨k, t, l, cc⟩ := z
    simp only [] at a0 a1 hk1 hk2 hzs
    by_cases hk : k = 4
    · have q2 : ((k : Int) != 4) = false := by rw [bne_eq_false_iff_eq]; exact hk
      have hval := fun W => ref3_value t W hzs
      unfold ValEnd at hval
      have hglt : g < w.heap.size := by omega
      have hS0 : w.cell? ⟨N, 0, none⟩ = some (.slice (some ⟨g, o, none⟩) n cap) ∧ w.cell? ⟨N, 1, none⟩ = some (.int .i64 p) ∧ w.cell? ⟨g, o + p * 4 + 1, none⟩ = some (.string t) := ⟨c0, c1, a1⟩
      have hkeep : ∀ a w5, Below (w.drewN a).drew.heap.size (w.drewN a).drew w5 → w5.cell? ⟨N, 0, none⟩ = some (.slice (some ⟨g, o, none⟩) n cap) ∧ w5.cell? ⟨N, 1, none⟩ = some (.int .i64 p) ∧ w5.cell? ⟨g, o + p * 4 + 1, none⟩ = some (.string t) := fun a w5 hb5 =>
        ⟨(hb5.cell (p := ⟨N, 0, none⟩) hNlt).trans c0, (hb5.cell (p := ⟨N, 1, none⟩) hNlt).trans c1, (hb5.cell (p := ⟨g, o + p * 4 + 1, none⟩) hglt).trans a1⟩
      have HK := Lib.hid hkeep
      have hafter : ∀ a w5, Below (w.drewN a).drew.heap.size (w.drewN a).drew w5 → FSt W0 N (some ⟨g, o, none⟩) n cap p st ns m 0 w5 := fun a w5 hb5 => ((H.out.drewN a).drewN 1).below hb5
      have HAF := Lib.hid hafter
      by_cases hv0 : (Sp.valueV t.data.toList).2 = 0
      · obtain ⟨v, hvv⟩ : ∃ v, (Sp.valueV t.data.toList).1 = v := ⟨_, rfl⟩
        have hr2 : R = some v := by
          rw [← hR]
          unfold Sp.numAt
          rw [hk1, hk2, if_pos ⟨hk, hv0⟩, hvv]
        rw [hvv, hv0] at hval
        obtain ⟨vi, hvi⟩ : ∃ vi : Int, (v : Int) = vi := ⟨_, rfl⟩
        have HVI := Lib.hid hvi
        have hval2 : ∀ W, Calls Tryz.prog 68 #[.string t] W fun e w' => e = .returned (.tuple #[.int .i64 vi, .int .i64 0]) ∧ Below W.heap.size W w' := by
          intro W
          have := hval W
          rw [hvi] at this
          exact this
        have HVAL := Lib.hid hval2
        have HR2 := Lib.hid hr2
        have hbn : (p : Int) ≤ 4611686018427387904 := by omega
        clear hval hval2 hvi hvv hv0 hr2 hR hk1 hk2 hk hzs hz hvw hv hts hn hTl hkeep hafter hb
        go_enter Tryz.func57, Tryz.ntmps57
        go_wp2_with fail
        go_quiet (fail)
        go_wp2_with fail
        go_region_held3 (fun w' => w'.cell? ⟨N, 0, none⟩ = some (.slice (some ⟨g, o, none⟩) n cap) ∧ w'.cell? ⟨N, 1, none⟩ = some (.int .i64 p) ∧ w'.cell? ⟨g, o + p * 4 + 1, none⟩ = some (.string t))
          (first | go_keep | exact hS0 | exact ks)
          ((go_at_call 68; refine (HVAL.out _).mono ?_; rintro e w5 ⟨rfl, hb5⟩; have ks := HK.out _ w5 hb5))
        have hT5 := HAF.out _ w5 hb5
        have HGW := Lib.hid (only_below_drew hb5 N)
        clear hS0 c0 c1 a0 a1 ks hb5 c5
        have HT5 := Lib.hid hT5
        obtain ⟨_, c1, f1, _⟩ := hT5.cells
        clear hT5
        go_wp2_with fail
        go_ret
        rw [HR2.out]
        exact ⟨by rw [HVI.out]; rfl, HT5.out.setAt (p + 1) _ (by omega), only_trans HGW.out (only_N _ N 1 _)⟩
      · have hr2 : R = none := by
          rw [← hR]
          unfold Sp.numAt
          rw [hk1, hk2, if_neg (fun h => hv0 h.2)]
        obtain ⟨x1, hx1⟩ : ∃ x1 : Int, ((Sp.valueV t.data.toList).1 : Int) = x1 := ⟨_, rfl⟩
        obtain ⟨x2, hx2⟩ : ∃ x2 : Int, ((Sp.valueV t.data.toList).2 : Int) = x2 := ⟨_, rfl⟩
        simp only [hx1, hx2] at hval
        have q3 : (x2 != 0) = true := by rw [bne_iff_ne]; omega
        have HVAL := Lib.hid hval
        have HR2 := Lib.hid hr2
        clear hval hx1 hx2 hv0 hr2 hR hk1 hk2 hk hzs hz hvw hv hts hn hTl hkeep hafter hb
        go_enter Tryz.func57, Tryz.ntmps57
        go_wp2_with fail
        go_quiet (fail)
        go_wp2_with fail
        go_region_held3 (fun w' => w'.cell? ⟨N, 0, none⟩ = some (.slice (some ⟨g, o, none⟩) n cap) ∧ w'.cell? ⟨N, 1, none⟩ = some (.int .i64 p) ∧ w'.cell? ⟨g, o + p * 4 + 1, none⟩ = some (.string t))
          (first | go_keep | exact hS0 | exact ks)
          ((go_at_call 68; refine (HVAL.out _).mono ?_; rintro e w5 ⟨rfl, hb5⟩; have ks := HK.out _ w5 hb5))
        have hT5 := HAF.out _ w5 hb5
        have HGW := Lib.hid (only_below_drew hb5 N)
        have HF5 := Lib.hid (f_fail hT5 50 p)
        clear hS0 c0 c1 a0 a1 ks hb5 c5
        obtain ⟨_, c1, _⟩ := hT5.cells
        clear hT5
        go_wp2_with (go_at_call 39; refine HF5.out.mono ?_; rintro e w6 ⟨rfl, h6, g6⟩)
        go_ret
        rw [HR2.out]
        exact ⟨rfl, h6, only_trans HGW.out g6⟩
    · have q2 : ((k : Int) != 4) = true := by rw [bne_iff_ne]; exact hk
      have hr2 : R = none := by
        rw [← hR]
        unfold Sp.numAt
        rw [hk1, if_neg (fun h => hk h.1)]
      have HR2 := Lib.hid hr2
      clear hr2 hR hk1 hk2 hk hzs hz hvw hv hts hn hTl hb
      go_enter Tryz.func57, Tryz.ntmps57
      go_wp2_with fail
      go_quiet (fail)
      go_wp2_with (go_at_call 39; refine (HFL.out _).mono ?_; rintro e w6 ⟨rfl, h6, g6⟩)
      go_ret
      rw [HR2.out]
      exact ⟨rfl, h6, ⟨g6.os, g6.tape, g6.output, g6.size, g6.block⟩⟩
  · have q1 : decide ((p : Int) ≥ n) = true := decide_eq_true (by omega)
    have q1b : decide (n ≤ p) = true := decide_eq_true (by omega)
    have hr2 : R = none := by
      rw [← hR]
      unfold Sp.numAt
      rw [kd_none hTl hlt, if_neg (fun h => absurd h.1 (by decide))]
    have HR2 := Lib.hid hr2
    clear hr2 hR hv hts hn hTl hb hlt
    go_enter Tryz.func57, Tryz.ntmps57
    go_wp2_with fail
    go_quiet (fail)
    go_wp2_with (go_at_call 39; refine (HFL.out _).mono ?_; rintro e w6 ⟨rfl, h6, g6⟩)
    go_ret
    rw [HR2.out]
    exact ⟨rfl, h6, ⟨g6.os, g6.tape, g6.output, g6.size, g6.block⟩⟩
end
end Go.Proofs.YtdmpapoabeljfaaGreatDoor
