/-
 THE WALK of reachref9's Equal (chapter 9) on two networks of the same data.
-/
import Derived.Test.YthnamoedpnknmaaGreatDoorBz
import Derived.Test.YthnamoedpnknmaaGreatDoorGu
set_option linter.unusedVariables false
set_option linter.unusedSimpArgs false
set_option maxRecDepth 100000
set_option maxHeartbeats 8000000
namespace Go.Proofs.YthnamoedpnknmaaGreatDoor
open Go.RowKit
theorem ref9_Equal (n : Sp.Net) (A1 A2 A3 B1 B2 B3 : Option Addr) (c1 c2 c3 d1 d2 d3 : Nat) (w : World) (hsz : Sp.SzdT n) (hpa : PV w A1 n.ports) (hta : TTV w A2 n.tables) (hga : GGV w A3 n.guards) (hpb : PV w B1 n.ports) (htb : TTV w B2 n.tables) (hgb : GGV w B3 n.guards) :
  Calls Tryz.prog 42 #[.agg #[.int .i64 n.bits, .slice A1 n.ports.length c1, .slice A2 n.tables.length c2, .slice A3 n.guards.length c3], .agg #[.int .i64 n.bits, .slice B1 n.ports.length d1, .slice B2 n.tables.length d2, .slice B3 n.guards.length d3]] w fun r w' => r = .returned (.bool true) ∧ Below w.heap.size w w' := by
 obtain ⟨np, hnp⟩ : ∃ np, n.ports.length = np := ⟨_, rfl⟩
 obtain ⟨nt, hnt⟩ : ∃ nt, n.tables.length = nt := ⟨_, rfl⟩
 obtain ⟨ng, hng⟩ : ∃ ng, n.guards.length = ng := ⟨_, rfl⟩
 obtain ⟨bt, hbt⟩ : ∃ bt, n.bits = bt := ⟨_, rfl⟩
 obtain ⟨N, hN⟩ : ∃ N, w.heap.size = N := ⟨_, rfl⟩
 obtain ⟨W2, hW2⟩ : ∃ W2, (w.alloc (.cells #[.int .i64 bt, .slice A1 np c1, .slice A2 nt c2, .slice A3 ng c3] 26)).alloc (.cells #[.int .i64 bt, .slice B1 np d1, .slice B2 nt d2, .slice B3 ng d3] 26) = W2 := ⟨_, rfl⟩
 have hb2 : Below N w W2 := by rw [← hW2, ← hN]; exact ((Below.refl _ _).alloc (Nat.le_refl _) _).alloc (by simp) _
 have hk0 : Blk W2 N 26 #[.int .i64 bt, .slice A1 np c1, .slice A2 nt c2, .slice A3 ng c3] := by rw [← hW2, ← hN]; exact (Blk.new _ _ _).alloc _
 have hk1 : Blk W2 (N + 1) 26 #[.int .i64 bt, .slice B1 np d1, .slice B2 nt d2, .slice B3 ng d3] := by rw [← hW2, ← hN]; exact blk_at9 (by simp)
 have m0 : W2.cell? ⟨N, 0, none⟩ = some (.int .i64 bt) := hk0.cell 0
 have m1 : W2.cell? ⟨N, 1, none⟩ = some (.slice A1 np c1) := hk0.cell 1
 have m2 : W2.cell? ⟨N, 2, none⟩ = some (.slice A2 nt c2) := hk0.cell 2
 have m3 : W2.cell? ⟨N, 3, none⟩ = some (.slice A3 ng c3) := hk0.cell 3
 have x0 : W2.cell? ⟨N + 1, 0, none⟩ = some (.int .i64 bt) := hk1.cell 0
 have x1 : W2.cell? ⟨N + 1, 1, none⟩ = some (.slice B1 np d1) := hk1.cell 1
 have x2 : W2.cell? ⟨N + 1, 2, none⟩ = some (.slice B2 nt d2) := hk1.cell 2
 have x3 : W2.cell? ⟨N + 1, 3, none⟩ = some (.slice B3 ng d3) := hk1.cell 3
 have e0 : (bt != bt) = false := by rw [bne_eq_false_iff_eq]
 have e1 : ((np : Int) != (np : Int)) = false := by rw [bne_eq_false_iff_eq]
 have e2 : ((nt : Int) != (nt : Int)) = false := by rw [bne_eq_false_iff_eq]
 have e3 : ((ng : Int) != (ng : Int)) = false := by rw [bne_eq_false_iff_eq]
 have HN := Lib.hid hN
 have HNP := Lib.hid hnp
 have HNT := Lib.hid hnt
 have HNG := Lib.hid hng
 have HPA := Lib.hid hpa
 have HTA := Lib.hid hta
 have HGA := Lib.hid hga
 have HPB := Lib.hid hpb
 have HTB := Lib.hid htb
 have HGB := Lib.hid hgb
 have HSZ := Lib.hid hsz
 have HB := Lib.hid hb2
 have HK0 := Lib.hid hk0
 have HK1 := Lib.hid hk1
 rw [hnp, hnt, hng, hbt]
 clear hnp hnt hng hbt hpa hta hga hpb htb hgb hsz hb2 hk0 hk1
 go_enter Tryz.func42, Tryz.ntmps42
 go_wp2_with fail
 clear m0 m1 m2 m3 x0 x1 x2 x3 e0 e1 e2 e3 hW2
 go_loopw [5] (fun v5 wr => Below N w wr ∧ Blk wr N 26 #[.int .i64 bt, .slice A1 np c1, .slice A2 nt c2, .slice A3 ng c3] ∧ Blk wr (N + 1) 26 #[.int .i64 bt, .slice B1 np d1, .slice B2 nt d2, .slice B3 ng d3] ∧ ∃ i : Nat, v5 = .int .i64 (i : Int) ∧ i ≤ np) (fun v5 _ => np - (intOf v5).toNat)
 case atStart => exact ⟨HB.out, HK0.out, HK1.out, 0, rfl, Nat.zero_le _⟩
 case round =>
  clear HB HK0 HK1
  obtain ⟨hb, hk0, hk1, i, rfl, hi⟩ := hrel
  obtain ⟨wa, hwa⟩ : ∃ wa, wa = wr := ⟨_, rfl⟩
  subst hwa
  have HB := Lib.hid hb
  have HK0 := Lib.hid hk0
  have HK1 := Lib.hid hk1
  have i0 : (0 : Int) ≤ (i : Int) := by omega
  have n1 : wa.cell? ⟨N, 1, none⟩ = some (.slice A1 np c1) := hk0.cell 1
  have n2 : wa.cell? ⟨N + 1, 1, none⟩ = some (.slice B1 np d1) := hk1.cell 1
  by_cases hlt : i < np
  ·have p1 : decide ((i : Int) < (np : Int)) = true := decide_eq_true (by omega)
   have p2 : decide (i < np) = true := decide_eq_true hlt
   have p3 : (i : Int) < (np : Int) := by omega
   have z1 : IntKind.i64.wrap ((i : Int) + 1) = (i : Int) + 1 := by have := HSZ.out.np; have := HNP.out; rw [IntKind.wrap_i64]; omega
   obtain ⟨x, hx⟩ : ∃ x, n.ports[i]? = some x := ⟨_, List.getElem?_eq_getElem (by rw [HNP.out]; exact hlt)⟩
   obtain ⟨g, o, rfl, hg, a0, a1, a2, a3⟩ := (HPA.out.more (by rw [HN.out]; exact hb)).at hx
   obtain ⟨g', o', rfl, hg', b0, b1, b2, b3⟩ := (HPB.out.more (by rw [HN.out]; exact hb)).at hx
   obtain ⟨xn, hxn⟩ : ∃ y, x.name = y := ⟨_, rfl⟩
   obtain ⟨xb, hxb⟩ : ∃ y, x.box = y := ⟨_, rfl⟩
   obtain ⟨xi, hxi⟩ : ∃ y, x.inn = y := ⟨_, rfl⟩
   obtain ⟨xd, hxd⟩ : ∃ y, x.dst = y := ⟨_, rfl⟩
   rw [hxn] at a0 b0
   rw [hxb] at a1 b1
   rw [hxi] at a2 b2
   rw [hxd] at a3 b3
   have HI := Lib.hid (show i + 1 ≤ np by omega)
   clear hb hk0 hk1 hi hlt hx hg hg' hxn hxb hxi hxd
   go_wp2_with fail
   go_quiet (fail)
   go_wp2_with fail
   go_roundw
   case rel => exact ⟨below_drewN HB.out _, HK0.out, HK1.out, i + 1, by rfl, HI.out⟩
   case measure => have := HI.out; simp [intOf]; omega
  ·have p1 : decide ((i : Int) < (np : Int)) = false := decide_eq_false (by omega)
   have p2 : decide (i < np) = false := decide_eq_false hlt
   obtain rfl : np = i := by omega
   clear hb hk0 hk1 hi hlt
   go_wp2_with fail
   clear p1 p2 n1 n2 i0
   go_loopw [6] (fun v6 wr => Below N w wr ∧ Blk wr N 26 #[.int .i64 bt, .slice A1 np c1, .slice A2 nt c2, .slice A3 ng c3] ∧ Blk wr (N + 1) 26 #[.int .i64 bt, .slice B1 np d1, .slice B2 nt d2, .slice B3 ng d3] ∧ ∃ b : Nat, v6 = .int .i64 (b : Int) ∧ b ≤ nt) (fun v6 _ => nt - (intOf v6).toNat)
   case atStart => exact ⟨HB.out, HK0.out, HK1.out, 0, rfl, Nat.zero_le _⟩
   case round =>
    clear HB HK0 HK1
    obtain ⟨hb, hk0, hk1, b, rfl, hi⟩ := hrel
    obtain ⟨wb, hwb⟩ : ∃ wb, wb = wr := ⟨_, rfl⟩
    subst hwb
    have HB := Lib.hid hb
    have HK0 := Lib.hid hk0
    have HK1 := Lib.hid hk1
    have i0 : (0 : Int) ≤ (b : Int) := by omega
    have n1 : wb.cell? ⟨N, 2, none⟩ = some (.slice A2 nt c2) := hk0.cell 2
    have n2 : wb.cell? ⟨N + 1, 2, none⟩ = some (.slice B2 nt d2) := hk1.cell 2
    by_cases hlt : b < nt
    ·have p1 : decide ((b : Int) < (nt : Int)) = true := decide_eq_true (by omega)
     have p2 : decide (b < nt) = true := decide_eq_true hlt
     have p3 : (b : Int) < (nt : Int) := by omega
     have z1 : IntKind.i64.wrap ((b : Int) + 1) = (b : Int) + 1 := by have := HSZ.out.nt; have := HNT.out; rw [IntKind.wrap_i64]; omega
     obtain ⟨x, hx⟩ : ∃ x, n.tables[b]? = some x := ⟨_, List.getElem?_eq_getElem (by rw [HNT.out]; exact hlt)⟩
     obtain ⟨g, o, Ax, cx, rfl, hg, a0, hev, _⟩ := HTA.out.at hx
     obtain ⟨g', o', Bx, dx, rfl, hg', b0, hev', _⟩ := HTB.out.at hx
     have hxs := HSZ.out.tables x (List.mem_of_getElem? hx)
     obtain ⟨lx, hlx⟩ : ∃ lx, x.length = lx := ⟨_, rfl⟩
     rw [hlx] at a0 b0 hxs
     rw [HN.out] at hg hg'
     have e1 : ((lx : Int) != (lx : Int)) = false := by rw [bne_eq_false_iff_eq]
     have k0 : wb.cell? ⟨g, o + b, none⟩ = some (.slice Ax lx cx) := (hb.cell (p := ⟨g, o + b, none⟩) hg).trans a0
     have k1 : wb.cell? ⟨g', o' + b, none⟩ = some (.slice Bx lx dx) := (hb.cell (p := ⟨g', o' + b, none⟩) hg').trans b0
     have HLX := Lib.hid hlx
     have HEV := Lib.hid hev
     have HEV' := Lib.hid hev'
     have HXS := Lib.hid hxs
     have HG := Lib.hid hg
     have HG' := Lib.hid hg'
     have HA0 := Lib.hid a0
     have HB0 := Lib.hid b0
     have HI := Lib.hid (show b + 1 ≤ nt by omega)
     clear hb hk0 hk1 hi hlt hx hg hg' a0 b0 hev hev' hxs hlx
     go_wp2_with fail
     go_quiet (fail)
     go_wp2_with fail
     clear k0 k1 n1 n2 e1
     go_loopw [7] (fun v7 wr => Below N w wr ∧ Blk wr N 26 #[.int .i64 bt, .slice A1 np c1, .slice (some ⟨g, o, none⟩) nt c2, .slice A3 ng c3] ∧ Blk wr (N + 1) 26 #[.int .i64 bt, .slice B1 np d1, .slice (some ⟨g', o', none⟩) nt d2, .slice B3 ng d3] ∧ ∃ i : Nat, v7 = .int .i64 (i : Int) ∧ i ≤ lx) (fun v7 _ => lx - (intOf v7).toNat)
     case atStart => exact ⟨below_drewN HB.out _, HK0.out, HK1.out, 0, rfl, Nat.zero_le _⟩
     case round =>
      clear HB HK0 HK1
      obtain ⟨hb, hk0, hk1, i, rfl, hi⟩ := hrel
      have HB := Lib.hid hb
      have HK0 := Lib.hid hk0
      have HK1 := Lib.hid hk1
      have j0 : (0 : Int) ≤ (i : Int) := by omega
      have n1 : wr.cell? ⟨N, 2, none⟩ = some (.slice (some ⟨g, o, none⟩) nt c2) := hk0.cell 2
      have k0 : wr.cell? ⟨g, o + b, none⟩ = some (.slice Ax lx cx) := (hb.cell (p := ⟨g, o + b, none⟩) HG.out).trans HA0.out
      by_cases hli : i < lx
      ·have s1 : decide ((i : Int) < (lx : Int)) = true := decide_eq_true (by omega)
       have s2 : decide (i < lx) = true := decide_eq_true hli
       have s3 : (i : Int) < (lx : Int) := by omega
       have z3 : IntKind.i64.wrap ((i : Int) + 1) = (i : Int) + 1 := by have := HXS.out.1; rw [IntKind.wrap_i64]; omega
       obtain ⟨y, hy⟩ : ∃ y, x[i]? = some y := ⟨_, List.getElem?_eq_getElem (by rw [HLX.out]; exact hli)⟩
       obtain ⟨gx, ox, P1, p1, P2, p2, P3, p3, rfl, hgx, a0, a1, a2, a3, a4, i1, i2, i3, _⟩ := (HEV.out.more (by rw [HN.out]; exact hb)).at hy
       obtain ⟨gy, oy, Q1, q1, Q2, q2, Q3, q3, rfl, hgy, b0, b1, b2, b3, b4, j1, j2, j3, _⟩ := (HEV'.out.more (by rw [HN.out]; exact hb)).at hy
       have hys := HXS.out.2 y (List.mem_of_getElem? hy)
       obtain ⟨xn, hxn⟩ : ∃ z, y.name = z := ⟨_, rfl⟩
       obtain ⟨xw, hxw⟩ : ∃ z, y.write = z := ⟨_, rfl⟩
       have hc1 := fun W (hW : Below wr.heap.size wr W) => ref9_sameInts P1 Q1 p1 q1 y.ins W (i1.more hW) (j1.more hW) (by omega)
       have hc2 := fun W (hW : Below wr.heap.size wr W) => ref9_sameTexts P2 Q2 p2 q2 y.cubes W (i2.more hW) (j2.more hW) (by omega)
       have hc3 := fun W (hW : Below wr.heap.size wr W) => ref9_sameInts P3 Q3 p3 q3 y.outs W (i3.more hW) (j3.more hW) (by omega)
       obtain ⟨l1, hl1⟩ : ∃ z, y.ins.length = z := ⟨_, rfl⟩
       obtain ⟨l2, hl2⟩ : ∃ z, y.cubes.length = z := ⟨_, rfl⟩
       obtain ⟨l3, hl3⟩ : ∃ z, y.outs.length = z := ⟨_, rfl⟩
       rw [hxn] at a0 b0
       rw [hl1] at a1 b1 hc1
       rw [hl2] at a2 b2 hc2
       rw [hxw] at a3 b3
       rw [hl3] at a4 b4 hc3
       obtain ⟨M, hM⟩ : ∃ M, wr.heap.size = M := ⟨_, rfl⟩
       obtain ⟨WX, hWX⟩ : ∃ WX, wr.alloc (.cells #[.string xn, .slice P1 l1 p1, .slice P2 l2 p2, .string xw, .slice P3 l3 p3] 78) = WX := ⟨_, rfl⟩
       obtain ⟨WY, hWY⟩ : ∃ WY, WX.alloc (.cells #[.string xn, .slice Q1 l1 q1, .slice Q2 l2 q2, .string xw, .slice Q3 l3 q3] 78) = WY := ⟨_, rfl⟩
       have hbX : Below M wr WX := by rw [← hWX, ← hM]; exact (Below.refl _ _).alloc (Nat.le_refl _) _
       have hsX : WX.heap.size = M + 1 := by rw [← hWX, World.size_alloc, hM]
       have hbY : Below M wr WY := by rw [← hWY]; exact hbX.alloc (by omega) _
       have hkX : Blk WY M 78 #[.string xn, .slice P1 l1 p1, .slice P2 l2 p2, .string xw, .slice P3 l3 p3] := by rw [← hWY, ← hWX, ← hM]; exact (Blk.new _ _ _).alloc _
       have hkY : Blk WY (M + 1) 78 #[.string xn, .slice Q1 l1 q1, .slice Q2 l2 q2, .string xw, .slice Q3 l3 q3] := by rw [← hWY]; exact blk_at9 hsX
       rw [hM] at hgx hgy
       have hlN := hk1.lt
       rw [hM] at hlN
       have n2 : WX.cell? ⟨N + 1, 2, none⟩ = some (.slice (some ⟨g', o', none⟩) nt d2) := (hk1.below hbX hlN).cell 2
       have k1 : WX.cell? ⟨g', o' + b, none⟩ = some (.slice (some ⟨gy, oy, none⟩) lx dx) := ((hb.trans (hbX.mono (by omega))).cell (p := ⟨g', o' + b, none⟩) HG'.out).trans HB0.out
       have b0 : WX.cell? ⟨gy, oy + i * 5, none⟩ = some (.string xn) := (hbX.cell (p := ⟨gy, oy + i * 5, none⟩) hgy).trans b0
       have b1 : WX.cell? ⟨gy, oy + i * 5 + 1, none⟩ = some (.slice Q1 l1 q1) := (hbX.cell (p := ⟨gy, oy + i * 5 + 1, none⟩) hgy).trans b1
       have b2 : WX.cell? ⟨gy, oy + i * 5 + 2, none⟩ = some (.slice Q2 l2 q2) := (hbX.cell (p := ⟨gy, oy + i * 5 + 2, none⟩) hgy).trans b2
       have b3 : WX.cell? ⟨gy, oy + i * 5 + 3, none⟩ = some (.string xw) := (hbX.cell (p := ⟨gy, oy + i * 5 + 3, none⟩) hgy).trans b3
       have b4 : WX.cell? ⟨gy, oy + i * 5 + 4, none⟩ = some (.slice Q3 l3 q3) := (hbX.cell (p := ⟨gy, oy + i * 5 + 4, none⟩) hgy).trans b4
       have x0 : WY.cell? ⟨M, 0, none⟩ = some (.string xn) := hkX.cell 0
       have x1 : WY.cell? ⟨M, 1, none⟩ = some (.slice P1 l1 p1) := hkX.cell 1
       have x3 : WY.cell? ⟨M, 3, none⟩ = some (.string xw) := hkX.cell 3
       have y0 : WY.cell? ⟨M + 1, 0, none⟩ = some (.string xn) := hkY.cell 0
       have y1 : WY.cell? ⟨M + 1, 1, none⟩ = some (.slice Q1 l1 q1) := hkY.cell 1
       have y3 : WY.cell? ⟨M + 1, 3, none⟩ = some (.string xw) := hkY.cell 3
       have t0 : (xn.toList != xn.toList) = false := by rw [bne_eq_false_iff_eq]
       have t1 : (xw.toList != xw.toList) = false := by rw [bne_eq_false_iff_eq]
       have t2 : (!(decide (xn = xn))) = false := by simp
       have t3 : (!(decide (xw = xw))) = false := by simp
       rw [hM] at hc1 hc2 hc3
       have HC1 := Lib.hid hc1
       have HC2 := Lib.hid hc2
       have HC3 := Lib.hid hc3
       have HBY := Lib.hid hbY
       have HKX := Lib.hid hkX
       have HKY := Lib.hid hkY
       have HLN := Lib.hid hlN
       have HMW := Lib.hid hM
       have HJ := Lib.hid (show i + 1 ≤ lx by omega)
       clear hb hk0 hk1 hi hli hy hgx hgy i1 i2 i3 j1 j2 j3 hys hxn hxw hl1 hl2 hl3 hc1 hc2 hc3 hbX hbY hkX hkY hlN
       go_wp2_with fail
       refine (HC1.out WY HBY.out).mono ?_
       rintro r w5 ⟨rfl, hb5⟩
       have HB5 := Lib.hid (show Below M wr w5 from HBY.out.trans (hb5.mono (by have := HBY.out.size; rw [HMW.out] at this; exact this)))
       have hkX5 := HKX.out.below hb5 HKX.out.lt
       have hkY5 := HKY.out.below hb5 HKY.out.lt
       have X2 : w5.cell? ⟨M, 2, none⟩ = some (.slice P2 l2 p2) := hkX5.cell 2
       have Y2 : w5.cell? ⟨M + 1, 2, none⟩ = some (.slice Q2 l2 q2) := hkY5.cell 2
       have HKX5 := Lib.hid hkX5
       have HKY5 := Lib.hid hkY5
       clear hb5 hkX5 hkY5 x0 x1 x3 y0 y1 y3 b0 b1 b2 b3 b4 a0 a1 a2 a3 a4 n1 n2 k0 k1
       go_wp2_with fail
       refine (HC2.out w5 HB5.out).mono ?_
       rintro r w6 ⟨rfl, hb6⟩
       have HB6 := Lib.hid (show Below M wr w6 from HB5.out.trans (hb6.mono (by have := HB5.out.size; rw [HMW.out] at this; exact this)))
       have X4 : w6.cell? ⟨M, 4, none⟩ = some (.slice P3 l3 p3) := (HKX5.out.below hb6 HKX5.out.lt).cell 4
       have Y4 : w6.cell? ⟨M + 1, 4, none⟩ = some (.slice Q3 l3 q3) := (HKY5.out.below hb6 HKY5.out.lt).cell 4
       clear hb6 X2 Y2
       go_wp2_with fail
       refine (HC3.out w6 HB6.out).mono ?_
       rintro r w7 ⟨rfl, hb7⟩
       have HB7 := Lib.hid (show Below M wr w7 from HB6.out.trans (hb7.mono (by have := HB6.out.size; rw [HMW.out] at this; exact this)))
       clear hb7 X4 Y4
       go_wp2_with fail
       go_roundw
       case rel => exact ⟨HB.out.trans (HB7.out.mono (by have := HLN.out; omega)), HK0.out.below HB7.out (by have := HLN.out; omega), HK1.out.below HB7.out HLN.out, i + 1, by rfl, HJ.out⟩
       case measure => have := HJ.out; simp [intOf]; omega
      ·have s1 : decide ((i : Int) < (lx : Int)) = false := decide_eq_false (by omega)
       have s2 : decide (i < lx) = false := decide_eq_false hli
       clear hb hk0 hk1 hi hli
       go_wp2_with fail
       go_roundw
       case rel => exact ⟨HB.out, HK0.out, HK1.out, b + 1, by rfl, HI.out⟩
       case measure => have := HI.out; simp [intOf]; omega
    ·have p1 : decide ((b : Int) < (nt : Int)) = false := decide_eq_false (by omega)
     have p2 : decide (b < nt) = false := decide_eq_false hlt
     obtain rfl : nt = b := by omega
     clear hb hk0 hk1 hi hlt
     go_wp2_with fail
     clear p1 p2 n1 n2 i0
     go_loopw [10] (fun v10 wr => Below N w wr ∧ Blk wr N 26 #[.int .i64 bt, .slice A1 np c1, .slice A2 nt c2, .slice A3 ng c3] ∧ Blk wr (N + 1) 26 #[.int .i64 bt, .slice B1 np d1, .slice B2 nt d2, .slice B3 ng d3] ∧ ∃ b : Nat, v10 = .int .i64 (b : Int) ∧ b ≤ ng) (fun v10 _ => ng - (intOf v10).toNat)
     case atStart => exact ⟨HB.out, HK0.out, HK1.out, 0, rfl, Nat.zero_le _⟩
     case round =>
      clear HB HK0 HK1
      obtain ⟨hb, hk0, hk1, b, rfl, hi⟩ := hrel
      obtain ⟨wc, hwc⟩ : ∃ wc, wc = wr := ⟨_, rfl⟩
      subst hwc
      have HB := Lib.hid hb
      have HK0 := Lib.hid hk0
      have HK1 := Lib.hid hk1
      have i0 : (0 : Int) ≤ (b : Int) := by omega
      have n1 : wc.cell? ⟨N, 3, none⟩ = some (.slice A3 ng c3) := hk0.cell 3
      have n2 : wc.cell? ⟨N + 1, 3, none⟩ = some (.slice B3 ng d3) := hk1.cell 3
      by_cases hlt : b < ng
      ·have p1 : decide ((b : Int) < (ng : Int)) = true := decide_eq_true (by omega)
       have p2 : decide (b < ng) = true := decide_eq_true hlt
       have p3 : (b : Int) < (ng : Int) := by omega
       have z1 : IntKind.i64.wrap ((b : Int) + 1) = (b : Int) + 1 := by have := HSZ.out.ng; have := HNG.out; rw [IntKind.wrap_i64]; omega
       obtain ⟨x, hx⟩ : ∃ x, n.guards[b]? = some x := ⟨_, List.getElem?_eq_getElem (by rw [HNG.out]; exact hlt)⟩
       obtain ⟨g, o, Ax, cx, rfl, hg, a0, hev, _⟩ := HGA.out.at hx
       obtain ⟨g', o', Bx, dx, rfl, hg', b0, hev', _⟩ := HGB.out.at hx
       have hxs := HSZ.out.guards x (List.mem_of_getElem? hx)
       obtain ⟨lx, hlx⟩ : ∃ lx, x.length = lx := ⟨_, rfl⟩
       rw [hlx] at a0 b0 hxs
       rw [HN.out] at hg hg'
       have e1 : ((lx : Int) != (lx : Int)) = false := by rw [bne_eq_false_iff_eq]
       have k0 : wc.cell? ⟨g, o + b, none⟩ = some (.slice Ax lx cx) := (hb.cell (p := ⟨g, o + b, none⟩) hg).trans a0
       have k1 : wc.cell? ⟨g', o' + b, none⟩ = some (.slice Bx lx dx) := (hb.cell (p := ⟨g', o' + b, none⟩) hg').trans b0
       have HLX := Lib.hid hlx
       have HEV := Lib.hid hev
       have HEV' := Lib.hid hev'
       have HXS := Lib.hid hxs
       have HG := Lib.hid hg
       have HG' := Lib.hid hg'
       have HA0 := Lib.hid a0
       have HB0 := Lib.hid b0
       have HI := Lib.hid (show b + 1 ≤ ng by omega)
       clear hb hk0 hk1 hi hlt hx hg hg' a0 b0 hev hev' hxs hlx
       go_wp2_with fail
       go_quiet (fail)
       go_wp2_with fail
       clear k0 k1 n1 n2 e1
       go_loopw [11] (fun v11 wr => Below N w wr ∧ Blk wr N 26 #[.int .i64 bt, .slice A1 np c1, .slice A2 nt c2, .slice (some ⟨g, o, none⟩) ng c3] ∧ Blk wr (N + 1) 26 #[.int .i64 bt, .slice B1 np d1, .slice B2 nt d2, .slice (some ⟨g', o', none⟩) ng d3] ∧ ∃ i : Nat, v11 = .int .i64 (i : Int) ∧ i ≤ lx) (fun v11 _ => lx - (intOf v11).toNat)
       case atStart => exact ⟨below_drewN HB.out _, HK0.out, HK1.out, 0, rfl, Nat.zero_le _⟩
       case round =>
        clear HB HK0 HK1
        obtain ⟨hb, hk0, hk1, i, rfl, hi⟩ := hrel
        have HB := Lib.hid hb
        have HK0 := Lib.hid hk0
        have HK1 := Lib.hid hk1
        have j0 : (0 : Int) ≤ (i : Int) := by omega
        have n1 : wr.cell? ⟨N, 3, none⟩ = some (.slice (some ⟨g, o, none⟩) ng c3) := hk0.cell 3
        have k0 : wr.cell? ⟨g, o + b, none⟩ = some (.slice Ax lx cx) := (hb.cell (p := ⟨g, o + b, none⟩) HG.out).trans HA0.out
        by_cases hli : i < lx
        ·have s1 : decide ((i : Int) < (lx : Int)) = true := decide_eq_true (by omega)
         have s2 : decide (i < lx) = true := decide_eq_true hli
         have s3 : (i : Int) < (lx : Int) := by omega
         have z3 : IntKind.i64.wrap ((i : Int) + 1) = (i : Int) + 1 := by have := HXS.out.1; rw [IntKind.wrap_i64]; omega
         obtain ⟨y, hy⟩ : ∃ y, x[i]? = some y := ⟨_, List.getElem?_eq_getElem (by rw [HLX.out]; exact hli)⟩
         obtain ⟨gx, ox, P1, p1, rfl, hgx, a0, a1, i1, _⟩ := (HEV.out.more (by rw [HN.out]; exact hb)).at hy
         obtain ⟨gy, oy, Q1, q1, rfl, hgy, b0, b1, j1, _⟩ := (HEV'.out.more (by rw [HN.out]; exact hb)).at hy
         have hys := HXS.out.2 y (List.mem_of_getElem? hy)
         obtain ⟨xp, hxp⟩ : ∃ z, y.permit = z := ⟨_, rfl⟩
         have hc1 := fun W (hW : Below wr.heap.size wr W) => ref9_sameTexts P1 Q1 p1 q1 y.cubes W (i1.more hW) (j1.more hW) (by omega)
         obtain ⟨l1, hl1⟩ : ∃ z, y.cubes.length = z := ⟨_, rfl⟩
         rw [hxp] at a0 b0
         rw [hl1] at a1 b1 hc1
         have n2 : wr.cell? ⟨N + 1, 3, none⟩ = some (.slice (some ⟨g', o', none⟩) ng d3) := hk1.cell 3
         have k1 : wr.cell? ⟨g', o' + b, none⟩ = some (.slice (some ⟨gy, oy, none⟩) lx dx) := (hb.cell (p := ⟨g', o' + b, none⟩) HG'.out).trans HB0.out
         have t0 : (xp != xp) = false := by rw [bne_eq_false_iff_eq]
         have hsw : ∀ W, Below wr.heap.size wr W → (fun w' : World => w'.cell? ⟨N, 3, none⟩ = some (.slice (some ⟨g, o, none⟩) ng c3) ∧ w'.cell? ⟨N + 1, 3, none⟩ = some (.slice (some ⟨g', o', none⟩) ng d3) ∧ w'.cell? ⟨g, o + b, none⟩ = some (.slice (some ⟨gx, ox, none⟩) lx cx) ∧ w'.cell? ⟨g', o' + b, none⟩ = some (.slice (some ⟨gy, oy, none⟩) lx dx) ∧ w'.cell? ⟨gx, ox + i * 2, none⟩ = some (.bool xp) ∧ w'.cell? ⟨gx, ox + i * 2 + 1, none⟩ = some (.slice P1 l1 p1) ∧ w'.cell? ⟨gy, oy + i * 2, none⟩ = some (.bool xp) ∧ w'.cell? ⟨gy, oy + i * 2 + 1, none⟩ = some (.slice Q1 l1 q1)) W := fun W hW => ⟨(hW.cell (p := ⟨N, 3, none⟩) hk0.lt).trans n1, (hW.cell (p := ⟨N + 1, 3, none⟩) hk1.lt).trans n2, (hW.cell (p := ⟨g, o + b, none⟩) (Nat.lt_trans HG.out hk0.lt)).trans k0, (hW.cell (p := ⟨g', o' + b, none⟩) (Nat.lt_trans HG'.out hk0.lt)).trans k1, (hW.cell (p := ⟨gx, ox + i * 2, none⟩) hgx).trans a0, (hW.cell (p := ⟨gx, ox + i * 2 + 1, none⟩) hgx).trans a1, (hW.cell (p := ⟨gy, oy + i * 2, none⟩) hgy).trans b0, (hW.cell (p := ⟨gy, oy + i * 2 + 1, none⟩) hgy).trans b1⟩
         have HC1 := Lib.hid hc1
         have HLN := Lib.hid hk1.lt
         have HJ := Lib.hid (show i + 1 ≤ lx by omega)
         have HSW := Lib.hid hsw
         clear hb hk0 hk1 hi hli hy hgx hgy i1 j1 hys hxp hl1 hc1 hsw a0 a1 b0 b1 n2 k1
         go_wp2_with fail
         clear n1 k0
         refine wp_region_K 40 (fun w' : World => w'.cell? ⟨N, 3, none⟩ = some (.slice (some ⟨g, o, none⟩) ng c3) ∧ w'.cell? ⟨N + 1, 3, none⟩ = some (.slice (some ⟨g', o', none⟩) ng d3) ∧ w'.cell? ⟨g, o + b, none⟩ = some (.slice (some ⟨gx, ox, none⟩) lx cx) ∧ w'.cell? ⟨g', o' + b, none⟩ = some (.slice (some ⟨gy, oy, none⟩) lx dx) ∧ w'.cell? ⟨gx, ox + i * 2, none⟩ = some (.bool xp) ∧ w'.cell? ⟨gx, ox + i * 2 + 1, none⟩ = some (.slice P1 l1 p1) ∧ w'.cell? ⟨gy, oy + i * 2, none⟩ = some (.bool xp) ∧ w'.cell? ⟨gy, oy + i * 2 + 1, none⟩ = some (.slice Q1 l1 q1)) (by kernel_rfl) (fun hcl => ?_)
         have hS := HSW.out wr.drew ((Below.refl _ _).drew)
         refine tk 0 _ hcl hS (fun hcl2 => ?_)
         (try simp only [ly]); (try simp only [Act.put, pu]); clear hcl; have hcl := hcl2; clear hcl2
         refine tk 1 _ hcl hS (fun hcl2 => ?_)
         (try simp only [ly]); (try simp only [Act.put, pu]); clear hcl; have hcl := hcl2; clear hcl2
         refine tk 2 _ hcl hS (fun hcl2 => ?_)
         (try simp only [ly]); (try simp only [Act.put, pu]); clear hcl; have hcl := hcl2; clear hcl2
         refine tk 3 _ hcl hS (fun hcl2 => ?_)
         (try simp only [ly]); (try simp only [Act.put, pu]); clear hcl; have hcl := hcl2; clear hcl2
         refine tk 4 _ hcl hS (fun hcl2 => ?_)
         (try simp only [ly]); (try simp only [Act.put, pu]); clear hcl; have hcl := hcl2; clear hcl2
         refine tk 5 _ hcl hS (fun hcl2 => ?_)
         (try simp only [ly]); (try simp only [Act.put, pu]); clear hcl; have hcl := hcl2; clear hcl2
         refine tk 6 _ hcl hS (fun hcl2 => ?_)
         (try simp only [ly]); (try simp only [Act.put, pu]); clear hcl; have hcl := hcl2; clear hcl2
         refine tk 7 _ hcl hS (fun hcl2 => ?_)
         (try simp only [ly]); (try simp only [Act.put, pu]); clear hcl; have hcl := hcl2; clear hcl2
         refine tk 8 _ hcl hS (fun hcl2 => ?_)
         (try simp only [ly]); (try simp only [Act.put, pu]); clear hcl; have hcl := hcl2; clear hcl2
         refine tk 9 _ hcl hS (fun hcl2 => ?_)
         (try simp only [ly]); (try simp only [Act.put, pu]); clear hcl; have hcl := hcl2; clear hcl2
         refine tk 10 _ hcl hS (fun hcl2 => ?_)
         (try simp only [ly]); (try simp only [Act.put, pu]); clear hcl; have hcl := hcl2; clear hcl2
         refine tk 11 _ hcl hS (fun hcl2 => ?_)
         (try simp only [ly]); (try simp only [Act.put, pu]); clear hcl; have hcl := hcl2; clear hcl2
         refine tk 12 _ hcl hS (fun hcl2 => ?_)
         (try simp only [ly]); (try simp only [Act.put, pu]); clear hcl; have hcl := hcl2; clear hcl2
         refine tk 13 _ hcl hS (fun hcl2 => ?_)
         (try simp only [ly]); (try simp only [Act.put, pu]); clear hcl; have hcl := hcl2; clear hcl2
         refine tk 14 _ hcl hS (fun hcl2 => ?_)
         (try simp only [ly]); (try simp only [Act.put, pu]); clear hcl; have hcl := hcl2; clear hcl2
         refine tk 15 _ hcl hS (fun hcl2 => ?_)
         (try simp only [ly]); (try simp only [Act.put, pu]); clear hcl; have hcl := hcl2; clear hcl2
         refine tk 16 _ hcl hS (fun hcl2 => ?_)
         (try simp only [ly]); (try simp only [Act.put, pu]); clear hcl; have hcl := hcl2; clear hcl2
         refine tk 17 _ hcl hS (fun hcl2 => ?_)
         (try simp only [ly]); (try simp only [Act.put, pu]); clear hcl; have hcl := hcl2; clear hcl2
         refine tk 18 _ hcl hS (fun hcl2 => ?_)
         (try simp only [ly]); (try simp only [Act.put, pu]); clear hcl; have hcl := hcl2; clear hcl2
         refine tk 19 _ hcl hS (fun hcl2 => ?_)
         (try simp only [ly]); (try simp only [Act.put, pu]); clear hcl; have hcl := hcl2; clear hcl2
         refine tkM 10 20 _ hcl hS (fun hcl2 => ?_)
         (try simp only [ly]); (try simp only [Act.put, pu]); clear hcl; have hcl := hcl2; clear hcl2
         refine tkM 10 21 _ hcl hS (fun hcl2 => ?_)
         (try simp only [ly]); (try simp only [Act.put, pu]); clear hcl; have hcl := hcl2; clear hcl2
         refine tkM 10 22 _ hcl hS (fun hcl2 => ?_)
         (try simp only [ly]); (try simp only [Act.put, pu]); clear hcl; have hcl := hcl2; clear hcl2
         refine tkM 10 23 _ hcl hS (fun hcl2 => ?_)
         (try simp only [ly]); (try simp only [Act.put, pu]); clear hcl; have hcl := hcl2; clear hcl2
         refine tkM 10 24 _ hcl hS (fun hcl2 => ?_)
         (try simp only [ly]); (try simp only [Act.put, pu]); clear hcl; have hcl := hcl2; clear hcl2
         refine tkM 10 25 _ hcl hS (fun hcl2 => ?_)
         (try simp only [ly]); (try simp only [Act.put, pu]); clear hcl; have hcl := hcl2; clear hcl2
         refine tkM 10 26 _ hcl hS (fun hcl2 => ?_)
         (try simp only [ly]); (try simp only [Act.put, pu]); clear hcl; have hcl := hcl2; clear hcl2
         refine tkM 10 27 _ hcl hS (fun hcl2 => ?_)
         (try simp only [ly]); (try simp only [Act.put, pu]); clear hcl; have hcl := hcl2; clear hcl2
         refine tkM 10 28 _ hcl hS (fun hcl2 => ?_)
         (try simp only [ly]); (try simp only [Act.put, pu]); clear hcl; have hcl := hcl2; clear hcl2
         refine tkM 10 29 _ hcl hS (fun hcl2 => ?_)
         (try simp only [ly]); (try simp only [Act.put, pu]); clear hcl; have hcl := hcl2; clear hcl2
         refine tkM 10 30 _ hcl hS (fun hcl2 => ?_)
         (try simp only [ly]); (try simp only [Act.put, pu]); clear hcl; have hcl := hcl2; clear hcl2
         refine tkM 10 31 _ hcl hS (fun hcl2 => ?_)
         (try simp only [ly]); (try simp only [Act.put, pu]); clear hcl; have hcl := hcl2; clear hcl2
         refine tkM 10 32 _ hcl hS (fun hcl2 => ?_)
         (try simp only [ly]); (try simp only [Act.put, pu]); clear hcl; have hcl := hcl2; clear hcl2
         refine tkM 10 33 _ hcl hS (fun hcl2 => ?_)
         (try simp only [ly]); (try simp only [Act.put, pu]); clear hcl; have hcl := hcl2; clear hcl2
         refine tkM 10 34 _ hcl hS (fun hcl2 => ?_)
         (try simp only [ly]); (try simp only [Act.put, pu]); clear hcl; have hcl := hcl2; clear hcl2
         refine tkM 10 35 _ hcl hS (fun hcl2 => ?_)
         (try simp only [ly]); (try simp only [Act.put, pu]); clear hcl; have hcl := hcl2; clear hcl2
         refine tkM 10 36 _ hcl hS (fun hcl2 => ?_)
         (try simp only [ly]); (try simp only [Act.put, pu]); clear hcl; have hcl := hcl2; clear hcl2
         refine tkM 10 37 _ hcl hS (fun hcl2 => ?_)
         (try simp only [ly]); (try simp only [Act.put, pu]); clear hcl; have hcl := hcl2; clear hcl2
         refine wpAnyK_one (i := 38) hcl (by kernel_rfl) rfl (by rfl) (fun K hK => ?_)
         go_simp
         refine (HC1.out wr.drew ((Below.refl _ _).drew)).mono ?_
         rintro r w5 ⟨rfl, hb5⟩
         have Hw5 := Lib.hid (show Below wr.heap.size wr w5 from (Below.refl wr.heap.size wr).drew.trans hb5)
         clear hS hb5
         have hS := HSW.out _ Hw5.out
         refine hK.out _ _ (Or.inr hS) (fun hcl2 => ?_)
         clear hK K hcl
         have hcl := hcl2
         clear hcl2
         refine tkM 10 39 _ hcl hS (fun hcl2 => ?_)
         (try simp only [ly]); (try simp only [Act.put, pu]); clear hcl; have hcl := hcl2; clear hcl2
         clear hS
         refine wpAnyK_one (i := 40) hcl (by kernel_rfl) rfl (by rfl) (fun K hK => ?_)
         go_simp
         refine hK.out _ _ (Or.inl (by kernel_rfl)) (fun hcl2 => ?_)
         clear hK K hcl hcl2
         refine wpAnyK_done (by kernel_rfl) ?_ _
         (try simp only [Act.put, pu])
         go_wp2_with fail
         go_roundw
         case rel => exact ⟨HB.out.trans (Hw5.out.mono (Nat.le_of_lt HK0.out.lt)), HK0.out.below Hw5.out HK0.out.lt, HK1.out.below Hw5.out HK1.out.lt, i + 1, by rfl, HJ.out⟩
         case measure => have := HJ.out; simp [intOf]; omega
        ·have s1 : decide ((i : Int) < (lx : Int)) = false := decide_eq_false (by omega)
         have s2 : decide (i < lx) = false := decide_eq_false hli
         clear hb hk0 hk1 hi hli
         go_wp2_with fail
         go_roundw
         case rel => exact ⟨HB.out, HK0.out, HK1.out, b + 1, by rfl, HI.out⟩
         case measure => have := HI.out; simp [intOf]; omega
      ·have p1 : decide ((b : Int) < (ng : Int)) = false := decide_eq_false (by omega)
       have p2 : decide (b < ng) = false := decide_eq_false hlt
       clear hb hk0 hk1 hi hlt
       go_wp2_with fail
       go_ret
       exact ⟨rfl, by rw [HN.out]; exact HB.out⟩
end Go.Proofs.YthnamoedpnknmaaGreatDoor
