/-
  THE WALKS of the reference's reader's methods sign, fail, make1, top, op, deep (chapter 5).
-/
import Derived.Test.YtdmpapoabeljfaaGreatDoorFa
import Derived.Test.YtdmpapoabeljfaaGreatDoorFp
set_option linter.unusedVariables false
set_option linter.unusedSimpArgs false
set_option maxRecDepth 100000
set_option maxHeartbeats 4000000
namespace Go.Proofs.YtdmpapoabeljfaaGreatDoor
open Go.RowKit

theorem ref5_sign (w : World) (N : Nat) (A : Option Addr) (n cap p q : Nat) (ov tv : Value) (m c : Nat) (zs : List ZTok) (X : ByteArray) (H : Nat) (hR : FRdr w N A n cap p ov tv m c) (hn : zs.length = n) (hv : ViewZ w H A zs) :
    Calls Tryz.prog 34 #[.pointer (some ⟨N, 0, none⟩), .int .i64 q, .string X] w fun e w' => e = .returned (.bool (Sp.sgAt (zs.map ptZ) q X.data.toList)) ∧ w = w' := by
  have c0 : w.cell? ⟨N, 0, none⟩ = some (.slice A n cap) := hR.cell 0
  have hTl : (zs.map ptZ).length = n := by rw [List.length_map]; exact hn
  obtain ⟨R, hRR⟩ : ∃ R, Sp.sgAt (zs.map ptZ) q X.data.toList = R := ⟨_, rfl⟩
  rw [hRR]
  by_cases hlt : q < n
  · have q1 : decide ((q : Int) < n) = true := decide_eq_true (by omega)
    have q1b : decide (q < n) = true := decide_eq_true hlt
    have p1 : (q : Int) < n := by omega
    have p2 : (0 : Int) ≤ (q : Int) := by omega
    obtain ⟨z, hz⟩ : ∃ z, zs[q]? = some z := ⟨_, List.getElem?_eq_getElem (by rw [hn]; exact hlt)⟩
    have hs := sg_some hz X.data.toList
    rw [hRR] at hs
    obtain ⟨g, o, rfl, hg, a0, a1, _, _⟩ := hv q z hz
    obtain ⟨k, t, l, cc⟩ := z
    simp only [] at a0 a1 hs
    by_cases hk : k = 7
    · have q2 : ((k : Int) == 7) = true := beq_iff_eq.2 hk
      have q3 : (t.toList == X.toList) = R := by rw [hs, Lib.toList_data, Lib.toList_data, q2]; rfl
      cases R with
      | true =>
        clear hz hs hRR hTl hk hn hv hR
        go_enter Tryz.func34, Tryz.ntmps34
        go_wp2_with fail
        go_ret
        exact ⟨rfl, rfl⟩
      | false =>
        clear hz hs hRR hTl hk hn hv hR
        go_enter Tryz.func34, Tryz.ntmps34
        go_wp2_with fail
        go_ret
        exact ⟨rfl, rfl⟩
    · have q2 : ((k : Int) == 7) = false := beq_eq_false_iff_ne.2 hk
      have hr : R = false := by rw [hs, q2]; rfl
      subst hr
      clear hz hs hRR hTl hk hn hv hR
      go_enter Tryz.func34, Tryz.ntmps34
      go_wp2_with fail
      go_ret
      exact ⟨rfl, rfl⟩
  · have q1 : decide ((q : Int) < n) = false := decide_eq_false (by omega)
    have q1b : decide (q < n) = false := decide_eq_false hlt
    have hr : R = false := by rw [← hRR]; exact sg_none hTl hlt _
    subst hr
    clear hRR hTl hlt hn hv hR
    go_enter Tryz.func34, Tryz.ntmps34
    go_wp2_with fail
    go_ret
    exact ⟨rfl, rfl⟩

section
variable {W0 w : World} {N n cap p m c : Nat} {A : Option Addr} {st : List UInt8} {ns : List Sp.Nd}
theorem FSt.sign (h : FSt W0 N A n cap p st ns m c w) {zs : List ZTok} (q : Nat) (X : ByteArray) (hn : zs.length = n) (hv : ViewZ W0 N A zs) {b : Bool} (hb : Sp.sgAt (zs.map ptZ) q X.data.toList = b) :
    Calls Tryz.prog 34 #[.pointer (some ⟨N, 0, none⟩), .int .i64 q, .string X] w fun e w' => e = .returned (.bool b) ∧ w = w' := by
  obtain ⟨ov, tv, h1, h2, h3, h4⟩ := h
  refine (ref5_sign w N A n cap p q ov tv m c zs X N h1 hn (hv.below h4 (Nat.le_refl _))).mono ?_
  rintro e w' ⟨rfl, rfl⟩
  exact ⟨by rw [hb], rfl⟩

theorem f_fail (h : FSt W0 N A n cap p st ns m 0 w) (e q : Nat) :
    Calls Tryz.prog 39 #[.pointer (some ⟨N, 0, none⟩), .int .i64 (e : Nat), .int .i64 (q : Nat)] w fun r w' => r = .returned (.tuple #[]) ∧ FSt W0 N A n cap q st ns m e w' ∧ w.grownBy w' (some N) := by
  obtain ⟨c0, c1, f1, c4, f4, c5, f5⟩ := h.cells
  have H := Lib.hid h
  clear h c0 c4 f4
  go_enter Tryz.func39, Tryz.ntmps39
  go_wp2_with fail
  go_end0
  exact ⟨rfl, (H.out.setC e _ rfl).setAt q _ rfl, only_trans (only_N w N 5 _) (only_N _ N 1 _)⟩
theorem f_fail_no (h : FSt W0 N A n cap p st ns m c w) (hc : c ≠ 0) (e q : Nat) :
    Calls Tryz.prog 39 #[.pointer (some ⟨N, 0, none⟩), .int .i64 (e : Nat), .int .i64 (q : Nat)] w fun r w' => r = .returned (.tuple #[]) ∧ FSt W0 N A n cap p st ns m c w' := by
  obtain ⟨c0, c1, f1, c4, f4, c5, f5⟩ := h.cells
  have q1 : ((c : Int) == 0) = false := beq_eq_false_iff_ne.2 (by omega)
  have H := Lib.hid h
  clear h c0 c4 f4
  go_enter Tryz.func39, Tryz.ntmps39
  go_wp2_with fail
  go_end0
  exact ⟨rfl, H.out⟩

theorem f_make (h : FSt W0 N A n cap p st ns m c w) (hm : m ≤ 4611686018427387904) {c' : Nat} (hc' : c' = if c = 0 ∧ 64 ≤ m then 51 else c) :
    Calls Tryz.prog 36 #[.pointer (some ⟨N, 0, none⟩)] w fun r w' => r = .returned (.tuple #[]) ∧ FSt W0 N A n cap p st ns (m + 1) c' w' := by
  obtain ⟨c0, c1, f1, c4, f4, c5, f5⟩ := h.cells
  have p1 : (m : Int) ≤ 4611686018427387904 := by omega
  have p2 : (0 : Int) ≤ (m : Int) := by omega
  have H := Lib.hid h
  clear h c0 f1
  by_cases hm : 64 ≤ m
  rotate_left
  · have q1 : decide ((m : Int) ≥ 64) = false := decide_eq_false (by omega)
    rw [if_neg (fun h => hm h.2)] at hc'
    subst hc'
    clear hm c1
    go_enter Tryz.func36, Tryz.ntmps36
    go_wp2_with fail
    go_end0
    exact ⟨rfl, H.out.setM (m + 1) _ (by omega)⟩
  have q1 : decide ((m : Int) ≥ 64) = true := decide_eq_true (by omega)
  by_cases hc : c = 0
  · rw [if_pos ⟨hc, hm⟩] at hc'
    subst hc hc'
    have HF := Lib.hid (f_fail H.out 51 p)
    clear hm c5 f5
    go_enter Tryz.func36, Tryz.ntmps36
    go_wp2_with fail
    refine HF.out.mono ?_
    rintro e w1 ⟨rfl, h1, _⟩
    clear c1 c4 f4
    obtain ⟨c0, c1, f1, c4, f4, c5, f5⟩ := h1.cells
    have H1 := Lib.hid h1
    clear h1 c0 c1 f1 c5 f5
    go_wp2_with fail
    go_end0
    exact ⟨rfl, H1.out.setM (m + 1) _ (by omega)⟩
  · rw [if_neg (fun h => hc h.1)] at hc'
    subst hc'
    have HF := Lib.hid (f_fail_no H.out hc 51 p)
    clear hm c5 f5 hc
    go_enter Tryz.func36, Tryz.ntmps36
    go_wp2_with fail
    refine HF.out.mono ?_
    rintro e w1 ⟨rfl, h1⟩
    clear c1 c4 f4
    obtain ⟨c0, c1, f1, c4, f4, c5, f5⟩ := h1.cells
    have H1 := Lib.hid h1
    clear h1 c0 c1 f1 c5 f5
    go_wp2_with fail
    go_end0
    exact ⟨rfl, H1.out.setM (m + 1) _ (by omega)⟩

theorem f_top (h : FSt W0 N A n cap p st ns m c w) (hl : st.length ≤ 1073741824) :
    Calls Tryz.prog 40 #[.pointer (some ⟨N, 0, none⟩)] w fun r w' => r = .returned (.int .u8 (topB st).toNat) ∧ FSt W0 N A n cap p st ns m c w' := by
  have H := Lib.hid h
  obtain ⟨ov, tv, h1, h2, h3, h4⟩ := h
  have c2 : w.cell? ⟨N, 2, none⟩ = some ov := h1.cell 2
  clear h1 h3 h4
  cases st with
  | nil =>
    rcases h2.2 with ⟨rfl, _⟩ | ⟨g, cap', cur, rfl, _⟩
    · clear h2
      go_enter Tryz.func40, Tryz.ntmps40
      go_wp2_with fail
      go_ret
      exact ⟨rfl, H.out⟩
    · clear h2
      go_enter Tryz.func40, Tryz.ntmps40
      go_wp2_with fail
      go_ret
      exact ⟨rfl, H.out⟩
  | cons x r =>
    obtain ⟨g, cap', rfl, a0, _, _⟩ := opn_at h2 (i := r.length) (b := x) (by simp)
    have hx : (x :: r).length = r.length + 1 := rfl
    rw [hx] at c2
    have q1 : (((r.length + 1 : Nat) : Int) == 0) = false := beq_eq_false_iff_ne.2 (by omega)
    obtain ⟨k, hk⟩ : ∃ k, r.length = k := ⟨_, rfl⟩
    rw [hk] at a0 c2 q1
    have k1 : ((k + 1 : Nat) : Int) - 1 = k := by omega
    have k2 : (k : Int) < ((k + 1 : Nat) : Int) := by omega
    have k3 : (0 : Int) ≤ (k : Int) := by omega
    have k4 : (k : Int) ≤ 1073741824 := by rw [hx] at hl; omega
    clear h2 hx hk hl
    go_enter Tryz.func40, Tryz.ntmps40
    go_wp2_with fail
    go_quiet (fail)
    go_wp2_with fail
    go_ret
    exact ⟨rfl, H.out.drewN _⟩
end
end Go.Proofs.YtdmpapoabeljfaaGreatDoor
