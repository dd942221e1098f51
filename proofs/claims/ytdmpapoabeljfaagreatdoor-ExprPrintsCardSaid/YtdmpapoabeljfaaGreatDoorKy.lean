/-
  WALKS of the small functions of the law ExprPrints: alike, untouched, turned, lay, num (chapter 5).
-/
import Derived.Test.YtdmpapoabeljfaaGreatDoorKx
set_option linter.unusedVariables false
set_option linter.unusedSimpArgs false
set_option maxRecDepth 100000
set_option maxHeartbeats 8000000
namespace Go.Proofs.YtdmpapoabeljfaaGreatDoor
open Go.RowKit

theorem prt_num (x : Int) (w : World) : Calls Tryz.prog 8 #[.int .i64 x] w fun e w' => e = .returned (.int .i64 x) ∧ w = w' := by
  go_enter Tryz.func8, Tryz.ntmps8
  go_wp2
  go_ret
  exact ⟨rfl, rfl⟩
theorem prt_alike (A1 A2 : Option Addr) (n c1 c2 : Nat) (ns : List Sp.Nd) (w : World) (hn : ns.length = n) (hl : n ≤ 1000) (h1 : NView w w.heap.size A1 ns) (h2 : NView w w.heap.size A2 ns) :
    Calls Tryz.prog 9 #[.slice A1 n c1, .slice A2 n c2] w (Gives (.bool true) w) := by
  have K1 := Lib.hid h1
  have K2 := Lib.hid h2
  have HN := Lib.hid hn
  have q0 : ((n : Int) != (n : Int)) = false := by rw [bne_eq_false_iff_eq]
  have n1 : (n : Int) ≤ 1000 := by omega
  clear h1 h2 hn
  go_enter Tryz.func9, Tryz.ntmps9
  go_wp2_with fail
  go_loopw [5] (fun v5 wr => Below w.heap.size w wr ∧ ∃ i : Nat, v5 = .int .i64 (i : Int) ∧ i ≤ n) (fun v5 _ => n - (intOf v5).toNat)
  case atStart => exact ⟨Below.refl _ _, 0, rfl, by omega⟩
  case round =>
    obtain ⟨hb, i, rfl, hi⟩ := hrel
    have HB := Lib.hid hb
    by_cases hlt : i < n
    · have z1 : decide ((i : Int) < n) = true := decide_eq_true (by omega)
      have z1b : decide (i < n) = true := decide_eq_true hlt
      have z2 : (i : Int) < n := by omega
      have z3 : (0 : Int) ≤ (i : Int) := by omega
      obtain ⟨d, hd⟩ : ∃ d, ns[i]? = some d := ⟨_, List.getElem?_eq_getElem (by rw [HN.out]; exact hlt)⟩
      obtain ⟨g1, o1, rfl, hg1, x0, x1, x2, x3, x4, x5, x6, x7⟩ := (K1.out.below hb (Nat.le_refl _)) i d hd
      obtain ⟨g2, o2, rfl, hg2, y0, y1, y2, y3, y4, y5, y6, y7⟩ := (K2.out.below hb (Nat.le_refl _)) i d hd
      obtain ⟨k, f, o, fm, lo, hi', ln, pt⟩ := d
      simp only [] at x0 x1 x2 x3 x4 x5 x6 x7 y0 y1 y2 y3 y4 y5 y6 y7
      obtain ⟨F, hF⟩ : ∃ F : ByteArray, (⟨f.toArray⟩ : ByteArray) = F := ⟨_, rfl⟩
      obtain ⟨PT, hPT⟩ : ∃ F : ByteArray, (⟨pt.toArray⟩ : ByteArray) = F := ⟨_, rfl⟩
      rw [hF] at x1 y1
      rw [hPT] at x7 y7
      clear hb hd hF hPT hg1 hg2
      go_wp2_with fail
      go_quiet (fail)
      go_wp2_with fail
      go_roundw
      case rel => exact ⟨below_drewN' HB.out _, i + 1, by rfl, by omega⟩
      case measure => simp [intOf]; omega
    · have z1 : decide ((i : Int) < n) = false := decide_eq_false (by omega)
      have z1b : decide (i < n) = false := decide_eq_false hlt
      clear hb hlt hi
      go_wp2_with fail
      go_ret
      exact ⟨rfl, HB.out⟩

theorem nview_pre {w : World} {H : Nat} {A : Option Addr} {ns r : List Sp.Nd} (h : NView w H A (ns ++ r)) : NView w H A ns := by
  intro i z hz
  refine h i z ?_
  rw [List.getElem?_append_left (List.getElem?_eq_some_iff.1 hz).1]
  exact hz
theorem nds_viewg {w : World} {B g n c : Nat} {ns : List Sp.Nd} (h : Nds w B (.slice (some ⟨g, 0, none⟩) n c) ns) : NView w w.heap.size (some ⟨g, 0, none⟩) ns := by
  obtain ⟨A, cap, hv, h2⟩ := nds_view h
  injection hv with hv _ _
  subst hv
  exact h2
/-- The node at place i, in the walk's spelling. -/
theorem nds_node {w : World} {B g n c : Nat} {ns : List Sp.Nd} (h : Nds w B (.slice (some ⟨g, 0, none⟩) n c) ns) {i : Nat} {d : Sp.Nd} (hd : ns[i]? = some d) :
    w.cell? ⟨g, i * 8, none⟩ = some (.int .i64 d.kind) ∧ w.cell? ⟨g, i * 8 + 1, none⟩ = some (.string ⟨d.field.toArray⟩) ∧ w.cell? ⟨g, i * 8 + 2, none⟩ = some (.int .i64 d.op) ∧ w.cell? ⟨g, i * 8 + 3, none⟩ = some (.int .i64 d.form) ∧ w.cell? ⟨g, i * 8 + 4, none⟩ = some (.int .i64 d.lo) ∧ w.cell? ⟨g, i * 8 + 5, none⟩ = some (.int .i64 d.hi) ∧ w.cell? ⟨g, i * 8 + 6, none⟩ = some (.int .i64 d.len) ∧ w.cell? ⟨g, i * 8 + 7, none⟩ = some (.string ⟨d.pat.toArray⟩) := by
  obtain ⟨g', o', hA, _, h0⟩ := nds_viewg h i d hd
  injection hA with hA
  injection hA with hA1 hA2 _
  subst hA1 hA2
  unfold NAt at h0
  rw [Nat.zero_add] at h0
  exact h0
theorem nds_fz {w : World} {B g n c : Nat} {ns : List Sp.Nd} (h : Nds w B (.slice (some ⟨g, 0, none⟩) n c) ns) (hn : ns.length = n) (j : Nat) : w.frozen? ⟨g, j, none⟩ = false := by
  subst hn
  exact World.ownsRow.frozenAt h j

theorem law5_untouched (A : Option Addr) (g n c cap B : Nat) (ns : List Sp.Nd) (w : World) (hn : ns.length = n) (hl : n ≤ 1000) (hz : Nds w B (.slice (some ⟨g, 0, none⟩) (n + 2) c) (ns ++ [n91, n92])) (hc : n + 2 ≤ c) (hv : NView w w.heap.size A ns) :
    Calls Tryz.prog 15 #[.slice (some ⟨g, 0, none⟩) n c, .slice A n cap] w (Gives (.bool true) w) := by
  have HA := Lib.hid (prt_alike (some ⟨g, 0, none⟩) A n c cap ns w hn hl (nview_pre (nds_viewg hz)) hv)
  have h91 : (ns ++ [n91, n92])[n]? = some n91 := by rw [List.getElem?_append_right (by omega), hn]; simp
  have h92 : (ns ++ [n91, n92])[n + 1]? = some n92 := by rw [List.getElem?_append_right (by omega), hn]; simp
  have HM := Lib.hid (fun (w' : World) (hb : Below w.heap.size w w') => And.intro (nds_node (nds_below hz hb) h91) (nds_node (nds_below hz hb) h92))
  have n1 : (n : Int) ≤ 1000 := by omega
  have n0 : (0 : Int) ≤ (n : Int) := by omega
  have n2 : (n : Int) + 2 ≤ (c : Int) := by omega
  have n3 : IntKind.i64.wrap ((n : Int) + 2) = (n : Int) + 2 := by rw [IntKind.wrap_i64]; omega
  have n4 : ((n : Int) + 1).toNat = n + 1 := by omega
  have n5 : (n : Int) < (n : Int) + 2 := by omega
  have n6 : (n : Int) + 1 < (n : Int) + 2 := by omega
  clear hz hv hn hc h91 h92
  go_enter Tryz.func15, Tryz.ntmps15
  go_wp2_with fail
  refine HA.out.mono ?_
  rintro e w1 ⟨rfl, h1⟩
  obtain ⟨⟨a0, a1, a2, a3, a4, a5, a6, a7⟩, b0, b1, b2, b3, b4, b5, b6, b7⟩ := HM.out w1 h1
  have HB := Lib.hid h1
  simp only [n91, n92] at a0 a1 a2 a3 a4 a5 a6 a7 b0 b1 b2 b3 b4 b5 b6 b7
  clear h1
  go_wp2_with fail
  go_ret
  exact ⟨rfl, HB.out⟩

theorem take_rev {ns : List Sp.Nd} {n m : Nat} {d : Sp.Nd} (hn : ns.length = n) (hm : m + 1 ≤ n) (hd : ns[m]? = some d) : ns.reverse.take (n - (m + 1)) ++ [d] = ns.reverse.take (n - m) := by
  have h1 : ns.reverse[n - (m + 1)]? = some d := by
    rw [List.getElem?_reverse (by omega), hn, show n - 1 - (n - (m + 1)) = m by omega]
    exact hd
  have h2 := (List.getElem?_eq_some_iff.1 h1).1
  have h3 := (List.getElem?_eq_some_iff.1 h1).2
  rw [show n - m = n - (m + 1) + 1 by omega, List.take_succ_eq_append_getElem h2, h3]
theorem law5_turned (A : Option Addr) (n cap : Nat) (ns : List Sp.Nd) (w : World) (hn : ns.length = n) (hl : n ≤ 1000) (hv : NView w w.heap.size A ns) :
    Calls Tryz.prog 16 #[.slice A n cap] w fun e w' => ∃ v, e = .returned v ∧ Nds w' w.heap.size v ns.reverse ∧ Below w.heap.size w w' := by
  have HV := Lib.hid hv
  have HN := Lib.hid hn
  have n1 : (n : Int) ≤ 1000 := by omega
  have n0 : (0 : Int) ≤ (n : Int) := by omega
  clear hv hn
  go_enter Tryz.func16, Tryz.ntmps16
  go_wp2_with fail
  go_loopw [3, 4] (fun v3 v4 wr => ∃ k : Nat, v4 = .int .i64 ((k : Int) - 1) ∧ k ≤ n ∧ Below w.heap.size w wr ∧ Nds wr w.heap.size v3 (ns.reverse.take (n - k))) (fun _ v4 _ => (intOf v4 + 1).toNat)
  case atStart => exact ⟨n, rfl, Nat.le_refl _, Below.refl _ _, by rw [Nat.sub_self]; exact World.ownsRow_nil _ _ _ _⟩
  case round =>
    obtain ⟨k, hv4, hk, hb, hz⟩ := hrel
    have HB := Lib.hid hb
    have HZ := Lib.hid hz
    cases k with
    | zero =>
      rw [show ((0 : Nat) : Int) - 1 = -1 by omega] at hv4
      subst hv4
      have HZ2 := Lib.hid (show Nds wr w.heap.size u3 ns.reverse by
        have := HZ.out
        rwa [Nat.sub_zero, List.take_of_length_le (by rw [List.length_reverse, HN.out]; exact Nat.le_refl _)] at this)
      clear hb hz hk
      go_wp2_with fail
      go_ret
      exact ⟨_, rfl, HZ2.out, HB.out⟩
    | succ m =>
      rw [show ((m + 1 : Nat) : Int) - 1 = (m : Int) by omega] at hv4
      subst hv4
      have z1 : decide ((m : Int) ≥ 0) = true := decide_eq_true (by omega)
      have z2 : decide ((0 : Int) ≤ (m : Int)) = true := decide_eq_true (by omega)
      have z3 : (m : Int) < n := by omega
      have z4 : (0 : Int) ≤ (m : Int) := by omega
      obtain ⟨d, hd⟩ : ∃ d, ns[m]? = some d := ⟨_, List.getElem?_eq_getElem (by rw [HN.out]; omega)⟩
      have HTK := Lib.hid (take_rev HN.out hk hd)
      obtain ⟨G, O, rfl, hG, c0, c1, c2, c3, c4, c5, c6, c7⟩ := (HV.out.below hb (Nat.le_refl _)) m d hd
      have HL := Lib.hid (show (ns.reverse.take (n - (m + 1))).length = n - (m + 1) by rw [List.length_take, List.length_reverse, HN.out]; omega)
      obtain ⟨kk, f, o, fm, lo, hi', ln, pt⟩ := d
      simp only [] at c0 c1 c2 c3 c4 c5 c6 c7
      clear hb hz hd
      go_wp2_with (at_builtin; go_loud (refine wpList_more rfl _ _ rfl w.heap.size w wr _ u3 1 (ns.reverse.take (n - (m + 1))) (n - (m + 1)) HL.out [⟨kk, f, o, fm, lo, hi', ln, pt⟩] 1 rfl _ rfl rfl HZ.out rfl (by omega) (by decide) (Nat.le_refl _) HB.out ?_); intro g2 c2' w2 hz2 hb2; have HZ2 := Lib.hid hz2; have HB2 := Lib.hid hb2; clear hz2 hb2)
      go_roundw
      case rel => exact ⟨m, rfl, by omega, HB2.out, by have := HZ2.out; rw [HTK.out] at this; exact this⟩
      case measure => simp [intOf]
end Go.Proofs.YtdmpapoabeljfaaGreatDoor
