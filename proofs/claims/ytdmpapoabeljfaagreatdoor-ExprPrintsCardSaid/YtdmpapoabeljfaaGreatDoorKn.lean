/-
  THE WALK of the law ExprPrints (chapter 5).
-/
import Derived.Test.YtdmpapoabeljfaaGreatDoorKz
import Derived.Test.YtdmpapoabeljfaaGreatDoorKw
set_option linter.unusedVariables false
set_option linter.unusedSimpArgs false
set_option maxRecDepth 100000
set_option maxHeartbeats 8000000
namespace Go.Proofs.YtdmpapoabeljfaaGreatDoor
open Go.RowKit

theorem law_prints (A : Option Addr) (cap : Nat) (ns : List Sp.Nd) (w : World) (hG : Gs w) (hT : Pow w) (hnb : ns.length ≤ 4611686018427387904) (hv : NView w w.heap.size A ns) (hs : ∀ d ∈ ns, d.field.length ≤ 4611686018427387904 ∧ d.pat.length ≤ 4611686018427387904) :
    Calls Tryz.prog 5 #[.slice A ns.length cap] w fun e w' => e = .returned (.bool true) ∧ Below w.heap.size w w' := by
  by_cases hbig : 1000 < ns.length
  · have q1 : decide ((ns.length : Int) > 1000) = true := decide_eq_true (by omega)
    have q2 : decide (1000 < ns.length) = true := decide_eq_true hbig
    clear hv hs hG hT hbig hnb
    go_enter Tryz.func5, Tryz.ntmps5
    go_wp2_with fail
    go_ret
    exact ⟨rfl, Below.refl _ _⟩
  obtain ⟨n, hn⟩ : ∃ n, ns.length = n := ⟨_, rfl⟩
  rw [hn] at hbig ⊢
  have q1 : decide ((n : Int) > 1000) = false := decide_eq_false (by omega)
  have q2 : decide (1000 < n) = false := decide_eq_false hbig
  have n1 : (n : Int) ≤ 1000 := by omega
  have n0 : (0 : Int) ≤ (n : Int) := by omega
  have hl : n ≤ 1000 := by omega
  have HN := Lib.hid hn
  have HV := Lib.hid hv
  have HG := Lib.hid hG
  have HT := Lib.hid hT
  have HND := Lib.hid (law5_nodes A n cap ns w hn hl hv)
  have hrn : ns.reverse.length = n := by rw [List.length_reverse]; exact hn
  have HRN := Lib.hid hrn
  have hsr : ∀ d ∈ ns.reverse, d.field.length ≤ 4611686018427387904 ∧ d.pat.length ≤ 4611686018427387904 := fun d hd => hs d (List.mem_reverse.1 hd)
  obtain ⟨X, k, hX⟩ : ∃ X k, Sp.printE ns = (X, k) := ⟨_, _, rfl⟩
  obtain ⟨Y, m, hY⟩ : ∃ Y m, Sp.printE ns.reverse = (Y, m) := ⟨_, _, rfl⟩
  have HP1 := Lib.hid (fun (A' : Option Addr) (c' : Nat) (W : World) (g1 : Gs W) (g2 : Pow W) (v : NView W W.heap.size A' ns) => hX ▸ expr_Print A' n c' ns W g1 g2 hn (by omega) v hs)
  have HR1 := Lib.hid (fun (A' : Option Addr) (c' : Nat) (W : World) (v : NView W W.heap.size A' ns) => hX ▸ ref5_Print A' n c' ns W hn (by omega) v hs)
  have HP2 := Lib.hid (fun (A' : Option Addr) (c' : Nat) (W : World) (g1 : Gs W) (g2 : Pow W) (v : NView W W.heap.size A' ns.reverse) => hY ▸ expr_Print A' n c' ns.reverse W g1 g2 hrn (by omega) v hsr)
  have HR2 := Lib.hid (fun (A' : Option Addr) (c' : Nat) (W : World) (v : NView W W.heap.size A' ns.reverse) => hY ▸ ref5_Print A' n c' ns.reverse W hrn (by omega) v hsr)
  have z1 : (bs X).toList = X := bs_list X
  have z2 : (bs Y).toList = Y := bs_list Y
  have x1 : (X != X) = false := by simp
  have x2 : (Y == Y) = true := by simp
  have x3 : ((k : Int) != (k : Int)) = false := by rw [bne_eq_false_iff_eq]
  have x4 : ((m : Int) == (m : Int)) = true := by simp
  clear hv hs hG hT hbig hnb hn hrn hsr hX hY
  go_enter Tryz.func5, Tryz.ntmps5
  go_wp2_with fail
  refine HND.out.mono ?_
  rintro e w1 ⟨g, c, rfl, hc1, hc2, hz1, hb1⟩
  obtain ⟨_, _, hg1, hg2⟩ := nds_cap hz1 (by simp [HN.out])
  have HZ1 := Lib.hid hz1
  have HB1 := Lib.hid hb1
  have HC := Lib.hid (And.intro hc1 (And.intro hg1 hg2))
  clear hz1 hb1 hc1 hc2 hg1 hg2
  go_wp2_with fail
  refine (HP1.out (some ⟨g, 0, none⟩) c w1 (HG.out.below HB1.out) (HT.out.below HB1.out) (nview_pre (nds_viewg HZ1.out))).mono ?_
  rintro e w2 ⟨rfl, h2⟩
  have HB2 := Lib.hid (HB1.out.trans (h2.mono HB1.out.size))
  have HZ2 := Lib.hid (nds_below HZ1.out h2)
  clear h2
  go_wp2_with fail
  refine (HR1.out A cap w2 ((HV.out.below HB2.out (Nat.le_refl _)).more HB2.out.size)).mono ?_
  rintro e w3 ⟨rfl, h3⟩
  have HB3 := Lib.hid (HB2.out.trans (h3.mono HB2.out.size))
  have HZ3 := Lib.hid (nds_below HZ2.out h3)
  clear h3
  go_wp2_with fail
  refine (prt_num _ _).mono ?_
  rintro e w4 ⟨rfl, rfl⟩
  go_wp2_with fail
  refine (law5_untouched A g n c cap w.heap.size ns w3 HN.out hl HZ3.out HC.out.1 ((HV.out.below HB3.out (Nat.le_refl _)).more HB3.out.size)).mono ?_
  rintro e w4 ⟨rfl, h4⟩
  have HB4 := Lib.hid (HB3.out.trans (h4.mono HB3.out.size))
  have HZ4 := Lib.hid (nds_below HZ3.out h4)
  clear h4
  go_wp2_with fail
  refine (law5_turned A n cap ns w4 HN.out hl ((HV.out.below HB4.out (Nat.le_refl _)).more HB4.out.size)).mono ?_
  rintro e w5 ⟨v, he, hz5, hb5⟩
  obtain ⟨A2, c2, hv2, hw2⟩ := nds_view hz5
  rw [HRN.out] at hv2
  subst hv2
  subst he
  have hne : ∀ g2 o, A2 = some ⟨g2, o, none⟩ → g2 ≠ g := by
    intro g2 o e
    subst e
    have h1 := (World.ownsRow.lt hz5 g2 rfl).1
    have h2 := (World.ownsRow.lt HZ4.out g rfl).2
    omega
  have HB5 := Lib.hid (HB4.out.trans (hb5.mono HB4.out.size))
  have HZ5 := Lib.hid (nds_below HZ4.out hb5)
  have HW2 := Lib.hid hw2
  have HNE := Lib.hid hne
  clear hz5 hb5 hw2 hne
  go_wp2_with fail
  refine (law5_lay A2 g n c c2 w.heap.size (ns ++ [n91, n92]) ns.reverse w5 HRN.out (by simp [HN.out]) hl HZ5.out HC.out.1 HW2.out HNE.out).mono ?_
  rintro e w6 ⟨rfl, hz6, hg6⟩
  have hdr : (ns ++ [n91, n92]).drop n = [n91, n92] := by rw [← HN.out]; simp
  rw [hdr] at hz6
  have HZ6 := Lib.hid hz6
  have HB6 := Lib.hid (HB5.out.grown hg6 HB5.out.size (fun g2 e => by injection e with e; rw [← e]; exact HC.out.2.1))
  have HW6 := Lib.hid ((HW2.out.grown hg6 (Nat.le_refl _) HNE.out).more hg6.size)
  clear hz6 hg6 hdr
  go_wp2_with fail
  refine (HP2.out (some ⟨g, 0, none⟩) c w6 (HG.out.below HB6.out) (HT.out.below HB6.out) (nview_pre (nds_viewg HZ6.out))).mono ?_
  rintro e w7 ⟨rfl, h7⟩
  have HB7 := Lib.hid (HB6.out.trans (h7.mono HB6.out.size))
  have HZ7 := Lib.hid (nds_below HZ6.out h7)
  have HW7 := Lib.hid ((HW6.out.below h7 (Nat.le_refl _)).more h7.size)
  clear h7
  go_wp2_with fail
  refine (HR2.out A2 c2 w7 HW7.out).mono ?_
  rintro e w8 ⟨rfl, h8⟩
  have HB8 := Lib.hid (HB7.out.trans (h8.mono HB7.out.size))
  have HZ8 := Lib.hid (nds_below HZ7.out h8)
  have HW8 := Lib.hid ((HW7.out.below h8 (Nat.le_refl _)).more h8.size)
  clear h8
  go_wp2_with fail
  refine (prt_num _ _).mono ?_
  rintro e w9 ⟨rfl, rfl⟩
  go_wp2_with fail
  refine (law5_untouched A2 g n c c2 w.heap.size ns.reverse w8 HRN.out hl HZ8.out HC.out.1 HW8.out).mono ?_
  rintro e w9 ⟨rfl, h9⟩
  have HB9 := Lib.hid (HB8.out.trans (h9.mono HB8.out.size))
  clear h9
  go_wp2_with fail
  go_ret
  exact ⟨rfl, HB9.out⟩
end Go.Proofs.YtdmpapoabeljfaaGreatDoor
