/-
  THE LAW StepFits (chapter 10): what step.Next tells is what the network's own numbers say.
-/
import Derived.Test.YthjenkbgiomibaaGreatDoorUj
import Derived.Test.YthjenkbgiomibaaGreatDoorUk
import Derived.Test.YthjenkbgiomibaaGreatDoorUl
import Derived.Deep.QuietTactic
import Derived.BigQuiet
set_option linter.unusedVariables false
set_option linter.unusedSimpArgs false
set_option maxRecDepth 100000
set_option maxHeartbeats 40000000
namespace Go.Proofs.YthjenkbgiomibaaGreatDoor
open Go.RowKit
theorem law_fits_in (n : Sp.Net) (A1 A2 A3 : Option Addr) (c1 c2 c3 : Nat) (p : Int) (h : ByteArray) (w : World) (hG : Gn w)
    (hnr : NetR w n [.int .i64 n.bits, .slice A1 n.ports.length c1, .slice A2 n.tables.length c2, .slice A3 n.guards.length c3]) (hsz : Sp.Szd n) (hh : h.size ≤ 9223372036854775807) (hE0 : Sp.checkE n p h = 0) (q : Sp.Port) (hq : n.ports[p.toNat]? = some q) (hcase : q.inn = true) :
    Calls Tryz.prog 4 #[.agg #[.int .i64 n.bits, .slice A1 n.ports.length c1, .slice A2 n.tables.length c2, .slice A3 n.guards.length c3], .agg #[.int .i64 p, .string h]] w fun e w' => e = .returned (.bool true) ∧ Below w.heap.size w w' := by
  obtain ⟨N, hN⟩ : ∃ N, w.heap.size = N := ⟨_, rfl⟩
  obtain ⟨W2, hW2⟩ : ∃ W2, (w.alloc (.cells #[.int .i64 n.bits, .slice A1 n.ports.length c1, .slice A2 n.tables.length c2, .slice A3 n.guards.length c3] 26)).alloc (.cells #[.int .i64 p, .string h] 28) = W2 := ⟨_, rfl⟩
  have hb2w : Below w.heap.size w W2 := by rw [← hW2]; exact ((Below.refl _ _).alloc (Nat.le_refl _) _).alloc (by simp) _
  have hs2 : W2.heap.size = N + 2 := by rw [← hW2, ← hN]; simp
  have hkN : Blk W2 N 26 #[.int .i64 n.bits, .slice A1 n.ports.length c1, .slice A2 n.tables.length c2, .slice A3 n.guards.length c3] := by rw [← hW2, ← hN]; exact (Blk.new _ _ _).alloc _
  have hkS : Blk W2 (N + 1) 28 #[.int .i64 p, .string h] := by rw [← hW2, ← hN]; exact blk_new_at (by simp)
  have hC := step_Next n A1 A2 A3 c1 c2 c3 p h W2 (hG.below hb2w) (hnr.more hb2w) hsz hh
  have hKNOWN := fun (W : World) (hb : Below w.heap.size w W) => law10_known W (hG.below hb)
  obtain ⟨hp1, ht1, hg1⟩ : PV w A1 n.ports ∧ TTV w A2 n.tables ∧ GGV w A3 n.guards := by
    obtain ⟨B1, d1, B2, d2, B3, d3, hx, hv1, hv2, hv3, _⟩ := hnr
    injection hx with _ hx
    injection hx with e1 hx
    injection hx with e2 hx
    injection hx with e3 hx
    injection e1 with e1 _ _
    injection e2 with e2 _ _
    injection e3 with e3 _ _
    subst e1 e2 e3
    exact ⟨hv1, hv2, hv3⟩
  have hPV := hp1.more hb2w
  have hTV := ht1.more hb2w
  have hGV := hg1.more hb2w
  obtain ⟨bt, hbt⟩ : ∃ b, n.bits = b := ⟨_, rfl⟩
  obtain ⟨np, hnp⟩ : ∃ np, n.ports.length = np := ⟨_, rfl⟩
  obtain ⟨nt, hnt⟩ : ∃ nt, n.tables.length = nt := ⟨_, rfl⟩
  obtain ⟨ng, hng⟩ : ∃ ng, n.guards.length = ng := ⟨_, rfl⟩
  rw [hbt, hnp, hnt, hng] at hW2 hkN hC ⊢
  obtain ⟨E, hE⟩ : ∃ E, Sp.checkE n p h = E := ⟨_, rfl⟩
  have x0 : W2.cell? ⟨N, 0, none⟩ = some (.int .i64 bt) := hkN.cell 0
  have x1 : W2.cell? ⟨N, 1, none⟩ = some (.slice A1 np c1) := hkN.cell 1
  have x2 : W2.cell? ⟨N, 2, none⟩ = some (.slice A2 nt c2) := hkN.cell 2
  have x3 : W2.cell? ⟨N, 3, none⟩ = some (.slice A3 ng c3) := hkN.cell 3
  have x4 : W2.cell? ⟨N + 1, 0, none⟩ = some (.int .i64 p) := hkS.cell 0
  have x5 : W2.cell? ⟨N + 1, 1, none⟩ = some (.string h) := hkS.cell 1
  have HN := Lib.hid hN
  have HB2 : Hid (Below N w W2) := Lib.hid (by rw [← hN]; exact hb2w)
  have HS2 := Lib.hid hs2
  have HKN := Lib.hid hkN
  have HKS := Lib.hid hkS
  have HC := Lib.hid hC
  have HKNOWN : Hid (∀ W, Below N w W → Calls Tryz.prog 12 #[] W fun e w' => e = .returned (.bool true) ∧ Below W.heap.size W w') := Lib.hid (by rw [← hN]; exact hKNOWN)
  have HPV := Lib.hid hPV
  have HTV := Lib.hid hTV
  have HGV := Lib.hid hGV
  have HNP := Lib.hid hnp
  have HNT := Lib.hid hnt
  have HNG := Lib.hid hng
  have HE := Lib.hid hE
  clear hb2w hs2 hkN hkS hC hKNOWN hp1 ht1 hg1 hPV hTV hGV hbt hnp hnt hng hE hG hnr hsz
  have hz : E = 0 := by rw [← HE.out]; exact hE0
  have HCASE := Lib.hid hcase
  clear hcase hE0
  subst hz
  have te : ((0 : Int) != 0) = false := rfl
  obtain ⟨HOK, HSK⟩ : Hid (Sp.NetOk n) ∧ Hid (Sp.StateOk n p h) := ⟨Lib.hid (Sp.checkE_zero HE.out).1, Lib.hid (Sp.checkE_zero HE.out).2⟩
  obtain ⟨pn, rfl⟩ : ∃ k : Nat, p = k := ⟨p.toNat, by have := HSK.out.port; omega⟩
  have hngp : np = ng := by rw [← HNG.out, ← HNP.out]; exact HOK.out.nguards.symm
  subst hngp
  rw [Int.toNat_natCast] at hq
  have hpl : pn < np := by have := (List.getElem?_eq_some_iff.1 hq).1; have := HNP.out; omega
  have h48 : np ≤ 48 := by have := HOK.out.nports; have := HNP.out; omega
  have h16 : nt ≤ 16 := by have := HOK.out.ntables; have := HNT.out; omega
  have hhs : h.size ≤ 1000000 := by have := HSK.out.bits; have := HOK.out.bits; omega
  have p0 : (0 : Int) ≤ (pn : Int) := by omega
  have p1 : (pn : Int) < (np : Int) := by omega
  have p2 : decide ((pn : Int) < 0) = false := decide_eq_false (by omega)
  have p3 : decide ((pn : Int) ≥ (np : Int)) = false := decide_eq_false (by omega)
  have p4 : decide (np ≤ pn) = false := decide_eq_false (by omega)
  have p5 : ((np : Int) != (np : Int)) = false := by simp
  have hbx : q.box.toNat < nt := by have := (HOK.out.ports pn q hq).box; have := HNT.out; omega
  have HBX := Lib.hid hbx
  obtain ⟨gq, oq, rfl, hgq, k0, k1, k2, k3⟩ := HPV.out.at hq
  have HQ := Lib.hid hq
  have HHS := Lib.hid hhs
  have HGQ := Lib.hid hgq
  have HK4 := Lib.hid (show W2.cell? ⟨gq, oq + pn * 4, none⟩ = some (.string q.name) ∧ W2.cell? ⟨gq, oq + pn * 4 + 1, none⟩ = some (.int .i64 q.box) ∧ W2.cell? ⟨gq, oq + pn * 4 + 2, none⟩ = some (.bool q.inn) ∧ W2.cell? ⟨gq, oq + pn * 4 + 3, none⟩ = some (.int .i64 q.dst) from ⟨k0, k1, k2, k3⟩)
  clear hq hhs hbx hgq k0 k1 k2 k3
  go_enter Tryz.func4, Tryz.ntmps4
  go_wp2_with fail
  refine HC.out.mono ?_
  rintro e W3 ⟨vn, rfl, hst, hb3⟩
  have hne : Sp.nextE n pn h = Sp.entryV n pn h := by unfold Sp.nextE; rw [HE.out, if_pos rfl, Int.toNat_natCast]
  have hns : Sp.nextS n pn h = Sp.stV (Sp.movesV n pn h) := by unfold Sp.nextS; rw [HE.out, if_pos rfl, Int.toNat_natCast]
  rw [hns] at hst
  obtain ⟨ev, hev⟩ : ∃ ev, Sp.entryV n pn h = ev := ⟨_, rfl⟩
  rw [hne, hev, HE.out]
  have HEV := Lib.hid hev
  have HSN := Lib.hid hst
  have HB3 := Lib.hid (HB2.out.trans (hb3.mono (by have := HS2.out; omega)))
  have hkN3 := HKN.out.below hb3 HKN.out.lt
  have hkS3 := HKS.out.below hb3 HKS.out.lt
  have y1 : W3.cell? ⟨N, 1, none⟩ = some (.slice (some ⟨gq, oq, none⟩) np c1) := hkN3.cell 1
  have y2 : W3.cell? ⟨N, 2, none⟩ = some (.slice A2 nt c2) := hkN3.cell 2
  have y3 : W3.cell? ⟨N, 3, none⟩ = some (.slice A3 np c3) := hkN3.cell 3
  have y4 : W3.cell? ⟨N + 1, 0, none⟩ = some (.int .i64 (pn : Int)) := hkS3.cell 0
  have y5 : W3.cell? ⟨N + 1, 1, none⟩ = some (.string h) := hkS3.cell 1
  obtain ⟨qn, qb, qi, qd⟩ := q
  have k0 : W3.cell? ⟨gq, oq + pn * 4, none⟩ = some (.string qn) := (hb3.cell (p := ⟨gq, oq + pn * 4, none⟩) HGQ.out).trans HK4.out.1
  have k1 : W3.cell? ⟨gq, oq + pn * 4 + 1, none⟩ = some (.int .i64 qb) := (hb3.cell (p := ⟨gq, oq + pn * 4 + 1, none⟩) HGQ.out).trans HK4.out.2.1
  have k2 : W3.cell? ⟨gq, oq + pn * 4 + 2, none⟩ = some (.bool qi) := (hb3.cell (p := ⟨gq, oq + pn * 4 + 2, none⟩) HGQ.out).trans HK4.out.2.2.1
  have k3 : W3.cell? ⟨gq, oq + pn * 4 + 3, none⟩ = some (.int .i64 qd) := (hb3.cell (p := ⟨gq, oq + pn * 4 + 3, none⟩) HGQ.out).trans HK4.out.2.2.2
  obtain ⟨W4, hW4⟩ : ∃ W4, W3.alloc (.cells #[.string qn, .int .i64 qb, .bool qi, .int .i64 qd] 43) = W4 := ⟨_, rfl⟩
  obtain ⟨Bp, hBp⟩ : ∃ Bp, W3.heap.size = Bp := ⟨_, rfl⟩
  have hb34 : Below W3.heap.size W3 W4 := by rw [← hW4]; exact (Below.refl _ _).alloc (Nat.le_refl _) _
  have hkP : Blk W4 Bp 43 #[.string qn, .int .i64 qb, .bool qi, .int .i64 qd] := by rw [← hW4, ← hBp]; exact Blk.new _ _ _
  have hkN4 := hkN3.below hb34 hkN3.lt
  have hkS4 := hkS3.below hb34 hkS3.lt
  have z1 : W4.cell? ⟨Bp, 2, none⟩ = some (.bool qi) := hkP.cell 2
  have z2 : W4.cell? ⟨Bp, 3, none⟩ = some (.int .i64 qd) := hkP.cell 3
  have z3 : W4.cell? ⟨N + 1, 1, none⟩ = some (.string h) := hkS4.cell 1
  have HB4 := Lib.hid (HB3.out.trans (hb34.mono (by have := HB3.out.size; omega)))
  have HP4 := Lib.hid (HPV.out.more (hb3.trans (hb34.mono hb3.size)))
  have HT4 := Lib.hid (HTV.out.more (hb3.trans (hb34.mono hb3.size)))
  have HG4 := Lib.hid (HGV.out.more (hb3.trans (hb34.mono hb3.size)))
  have HSN4 := Lib.hid (show StR W4 W2.heap.size vn (Sp.stV (Sp.movesV n pn h)) from ownsRow_below hst hb34)
  have HKP := Lib.hid hkP
  have HKN4 := Lib.hid hkN4
  have HKS4 := Lib.hid hkS4
  have HLEN := Lib.hid (Sp.movesV_len HOK.out HSK.out)
  obtain ⟨M4, hM4⟩ : ∃ M4, W4.heap.size = M4 := ⟨_, rfl⟩
  have HM4 := Lib.hid hM4
  have HLT := Lib.hid (show N + 1 < M4 ∧ Bp < M4 by have := hkP.lt; have := hkS4.lt; omega)
  have hwl := Sp.wl_start (h := h) HQ.out
  clear hst hb3 hb34 hkN3 hkS3 hkN4 hkS4 hkP hM4 hev hne hns HC HPV HTV HGV HKN HKS HK4 HSN x0 x1 x2 x3 x4 x5
  obtain rfl : qi = true := HCASE.out
  obtain ⟨g, tq, hok⟩ := Sp.inOk_of HOK.out HSK.out HQ.out rfl
  obtain ⟨qk, rfl⟩ : ∃ k : Nat, qb = k := ⟨qb.toNat, by have := hok.hb; simp only [] at this; omega⟩
  have HIN := Lib.hid hok
  rw [if_neg (fun hx => by cases hx.1)] at hwl
  have HWL := Lib.hid hwl
  obtain ⟨gg, og, Ag, cg, rfl, hgg, hg6, hgv6, _⟩ := HG4.out.at HIN.out.hg
  obtain ⟨gl, hgl⟩ : ∃ x, g.length = x := ⟨_, rfl⟩
  rw [hgl] at hg6
  have HGL := Lib.hid hgl
  have HGGL := Lib.hid hgg
  have HG6 := Lib.hid hg6
  have HGV6 := Lib.hid hgv6
  clear hwl hok HCASE hgl hgg hg6 hgv6
  go_wp2_with (go_at_call 9; refine (law10_num _ _).mono ?_; rintro e _ ⟨rfl, rfl⟩)
  clear z1 z2 z3 k0 k1 k2 k3 y1 y2 y3 y4 y5
  go_loopw [9, 10, 11, 12, 13, 14, 15, 16, 17] (fun v9 v10 v11 v12 _ _ _ _ _ wr => ∃ (v : Value) (b num : Nat) (fd : Int), v = v9 ∧ v10 = .int .i64 (num : Int) ∧ v11 = .int .i64 fd ∧ v12 = .int .i64 (b : Int) ∧ b ≤ nt ∧ Below M4 W4 wr ∧ StR wr M4 v (Sp.wlV n pn h ⟨qn, qk, true, qd⟩ b 0) ∧ Hid (num = Sp.numB n b 0 ∧ fd = Sp.fdV n pn h ⟨qn, qk, true, qd⟩ b 0)) (fun _ _ _ v12 _ _ _ _ _ _ => nt - (intOf v12).toNat)
  case atStart => exact ⟨_, 0, 0, -1, rfl, rfl, rfl, rfl, Nat.zero_le _, Below.refl _ _, (by rw [HWL.out]; exact World.ownsRow_nil _ _ _ _), Lib.hid ⟨by unfold Sp.numB; simp, by rw [Sp.fd_not Sp.done_start]⟩⟩
  case round =>
    obtain ⟨v, b, num, fd, rfl, rfl, rfl, rfl, hb, hbw, hst, hx⟩ := hrel
    obtain ⟨Wo, hWo⟩ : ∃ Wo, Wo = wr := ⟨_, rfl⟩
    subst hWo
    have HBW := Lib.hid hbw
    have HSW := Lib.hid hst
    have HXW := hx
    have b0 : (0 : Int) ≤ (b : Int) := by omega
    have n2 : Wo.cell? ⟨N, 2, none⟩ = some (.slice A2 nt c2) := (HKN4.out.below hbw (by have := HLT.out; omega)).cell 2
    by_cases hbn : b < nt
    case neg =>
      have t1 : decide ((b : Int) < (nt : Int)) = false := decide_eq_false (by omega)
      have t1' : decide (b < nt) = false := decide_eq_false hbn
      have hbn2 : nt = b := by omega
      subst hbn2
      have hend := Sp.done_end (h := h) HQ.out (b := nt) HBX.out
      rw [hend.2] at hst
      have hfd : fd = ev := by rw [hx.out.2, hend.1, HEV.out]
      subst hfd
      have t2 : (fd == fd) = true := beq_self_eq_true _
      have HR1 : Hid (StR Wo W2.heap.size vn (Sp.stV (Sp.movesV n pn h))) := Lib.hid (ownsRow_below HSN4.out (by rw [HM4.out]; exact hbw))
      have HR2 := Lib.hid hst
      have HL := Lib.hid (show (Sp.stV (Sp.movesV n pn h)).length ≤ 1000000 by have := Sp.stV_len (Sp.movesV n pn h); have := HLEN.out; omega)
      clear hbw hst hx hb hbn hend
      go_wp2_with (first
        | (go_at_call 10; refine (law10_states _ _ _ _ _ Wo HR1.out HR2.out HL.out).mono ?_; rintro e W7 ⟨rfl, hb7⟩; have HB7 := Lib.hid ((HB4.out.trans (HBW.out.mono (by have := HLT.out; omega))).trans (hb7.mono (by have := HBW.out.size; have := HLT.out; have := HM4.out; omega))); clear hb7)
        | (go_at_call 12; refine (HKNOWN.out _ HB7.out).mono ?_; rintro e W8 ⟨rfl, hb8⟩; have HB8 := Lib.hid (below_bt HN.out HB7.out hb8); clear hb8))
      go_ret
      exact ⟨rfl, by rw [HN.out]; exact HB8.out⟩
    have t1 : decide ((b : Int) < (nt : Int)) = true := decide_eq_true (by omega)
    have t1' : decide (b < nt) = true := decide_eq_true hbn
    have b1 : (b : Int) < (nt : Int) := by omega
    have zb : IntKind.i64.wrap ((b : Int) + 1) = (b : Int) + 1 := by rw [IntKind.wrap_i64]; omega
    obtain ⟨t, ht⟩ : ∃ t, n.tables[b]? = some t := ⟨_, List.getElem?_eq_getElem (by have := HNT.out; omega)⟩
    obtain ⟨gt, ot, At, ct, rfl, hgt, m0, hev, _⟩ := HT4.out.at ht
    obtain ⟨tl, htl⟩ : ∃ tl, t.length = tl := ⟨_, rfl⟩
    rw [htl] at m0
    have h256 : tl ≤ 256 := by have := Sp.len_le_sum (List.mem_of_getElem? ht); have := HOK.out.tables.1; omega
    have HEVW := Lib.hid hev
    have HT := Lib.hid ht
    have HTL := Lib.hid htl
    have HGT := Lib.hid hgt
    have HM0 := Lib.hid m0
    have HBN := Lib.hid (show b + 1 ≤ nt by omega)
    have m1 : Wo.cell? ⟨gt, ot + b, none⟩ = some (.slice At tl ct) := (hbw.cell (p := ⟨gt, ot + b, none⟩) (by rw [← HM4.out]; exact hgt)).trans m0
    clear hbw hst hx hb hbn ht htl hgt hev m0
    go_wp2_with fail
    clear n2 m1
    go_loopw [9, 10, 11, 13, 14, 15, 16, 17] (fun v9 v10 v11 v13 _ _ _ _ wr => ∃ (v : Value) (i num : Nat) (fd : Int), v = v9 ∧ v10 = .int .i64 (num : Int) ∧ v11 = .int .i64 fd ∧ v13 = .int .i64 (i : Int) ∧ i ≤ tl ∧ Below M4 W4 wr ∧ StR wr M4 v (Sp.wlV n pn h ⟨qn, qk, true, qd⟩ b i) ∧ Hid (num = Sp.numB n b i ∧ fd = Sp.fdV n pn h ⟨qn, qk, true, qd⟩ b i)) (fun _ _ _ v13 _ _ _ _ _ => tl - (intOf v13).toNat)
    case atStart => exact ⟨_, 0, num, fd, rfl, rfl, rfl, rfl, Nat.zero_le _, HBW.out, HSW.out, HXW⟩
    case round =>
      clear HBW HSW HXW
      obtain ⟨v, i, num, fd, rfl, rfl, rfl, rfl, hi, hbw, hst, hx⟩ := hrel
      obtain ⟨Wa, hWa⟩ : ∃ Wa, Wa = wr := ⟨_, rfl⟩
      subst hWa
      have HBA := Lib.hid hbw
      have HST := Lib.hid hst
      have HX := hx
      have i0 : (0 : Int) ≤ (i : Int) := by omega
      have n2 : Wa.cell? ⟨N, 2, none⟩ = some (.slice (some ⟨gt, ot, none⟩) nt c2) := (HKN4.out.below hbw (by have := HLT.out; omega)).cell 2
      have m1 : Wa.cell? ⟨gt, ot + b, none⟩ = some (.slice At tl ct) := (hbw.cell (p := ⟨gt, ot + b, none⟩) (by rw [← HM4.out]; exact HGT.out)).trans HM0.out
      by_cases hil : i < tl
      case neg =>
        have s1 : decide ((i : Int) < (tl : Int)) = false := decide_eq_false (by omega)
        have s1' : decide (i < tl) = false := decide_eq_false hil
        have hi2 : tl = i := by omega
        subst hi2
        have hdt : Sp.doneB n pn h ⟨qn, qk, true, qd⟩ b tl = Sp.doneB n pn h ⟨qn, qk, true, qd⟩ (b + 1) 0 := Sp.done_table (fun _ hf hb => by have := Sp.fitN_lt HIN.out.hg HQ.out HIN.out.ht hf; have e1 : n.tables[b]? = some t := HT.out; rw [← hb, HIN.out.ht] at e1; injection e1 with e1; rw [← HTL.out, ← e1]; exact this)
        have HDT := Lib.hid hdt
        clear hbw hst hx hi hil hdt
        go_wp2_with fail
        go_roundw
        case rel => exact ⟨v, b + 1, num, fd, rfl, rfl, rfl, by rfl, HBN.out, HBA.out, (by rw [← Sp.wl_congr HDT.out]; exact HST.out), Lib.hid ⟨by rw [HX.out.1, ← HTL.out, Sp.numB_table HT.out], by rw [← Sp.fd_congr HDT.out]; exact HX.out.2⟩⟩
        case measure => have := HBN.out; simp [intOf]; omega
      have s1 : decide ((i : Int) < (tl : Int)) = true := decide_eq_true (by omega)
      have s1' : decide (i < tl) = true := decide_eq_true hil
      have s2 : (i : Int) < (tl : Int) := by omega
      have zi : IntKind.i64.wrap ((i : Int) + 1) = (i : Int) + 1 := by rw [IntKind.wrap_i64]; omega
      have zn : IntKind.i64.wrap ((num : Int) + 1) = (num : Int) + 1 := by
        have := Sp.numB_le HOK.out (b := b) (i := i) (by omega)
        have := hx.out.1
        rw [IntKind.wrap_i64]
        omega
      obtain ⟨e, he⟩ : ∃ e, t[i]? = some e := ⟨_, List.getElem?_eq_getElem (by have := HTL.out; omega)⟩
      obtain ⟨ge, oe, Ai, ci, Ac, cc, Ao, co, rfl, hge, r0, r1, r2, r3, r4, vi, vc, vo, _⟩ := HEVW.out.at he
      obtain ⟨li, hli⟩ : ∃ li, e.ins.length = li := ⟨_, rfl⟩
      obtain ⟨lc, hlc⟩ : ∃ lc, e.cubes.length = lc := ⟨_, rfl⟩
      obtain ⟨lo, hlo⟩ : ∃ lo, e.outs.length = lo := ⟨_, rfl⟩
      rw [hli] at r1
      rw [hlc] at r2
      rw [hlo] at r4
      have hge' : ge < M4 := by rw [← HM4.out]; exact hge
      replace r0 := (hbw.cell (p := ⟨ge, oe + i * 5, none⟩) hge').trans r0
      replace r1 := (hbw.cell (p := ⟨ge, oe + i * 5 + 1, none⟩) hge').trans r1
      replace r2 := (hbw.cell (p := ⟨ge, oe + i * 5 + 2, none⟩) hge').trans r2
      replace r3 := (hbw.cell (p := ⟨ge, oe + i * 5 + 3, none⟩) hge').trans r3
      replace r4 := (hbw.cell (p := ⟨ge, oe + i * 5 + 4, none⟩) hge').trans r4
      obtain ⟨V, hV⟩ : ∃ V, Wa.alloc (.cells #[.string e.name, .slice Ai li ci, .slice Ac lc cc, .string e.write, .slice Ao lo co] 48) = V := ⟨_, rfl⟩
      obtain ⟨Bx, hBx⟩ : ∃ Bx, Wa.heap.size = Bx := ⟨_, rfl⟩
      have hv0 : Below Wa.heap.size Wa V := by rw [← hV]; exact (Below.refl _ _).alloc (Nat.le_refl _) _
      have hkx : Blk V Bx 48 #[.string e.name, .slice Ai li ci, .slice Ac lc cc, .string e.write, .slice Ao lo co] := by rw [← hV, ← hBx]; exact Blk.new _ _ _
      have h4v : Below M4 W4 V := hbw.trans (hv0.mono (by have := hbw.size; have := HM4.out; omega))
      have HV0 := Lib.hid hv0
      have HKX := Lib.hid hkx
      have H4V := Lib.hid h4v
      have HEE := Lib.hid he
      have HI := Lib.hid (show i + 1 ≤ tl by omega)
      have HVI := Lib.hid vi
      have HVC := Lib.hid vc
      have HVO := Lib.hid vo
      have HLI := Lib.hid hli
      have HLC := Lib.hid hlc
      have HLO := Lib.hid hlo
      have hkP := HKP.out.below h4v HLT.out.2
      have q2 : V.cell? ⟨Bp, 2, none⟩ = some (.bool true) := hkP.cell 2
      have y2c : V.cell? ⟨Bp, 1, none⟩ = some (.int .i64 (qk : Int)) := hkP.cell 1
      have hkN4 := HKN4.out.below h4v (by have := HLT.out; omega)
      have hkS4 := HKS4.out.below h4v (by have := HLT.out; omega)
      have y3c : V.cell? ⟨N, 3, none⟩ = some (.slice (some ⟨gg, og, none⟩) np c3) := hkN4.cell 3
      have y4c : V.cell? ⟨N + 1, 0, none⟩ = some (.int .i64 (pn : Int)) := hkS4.cell 0
      have y5c : V.cell? ⟨N + 1, 1, none⟩ = some (.string h) := hkS4.cell 1
      have y6c : V.cell? ⟨gg, og + pn, none⟩ = some (.slice Ag gl cg) := (h4v.cell (p := ⟨gg, og + pn, none⟩) (by rw [← HM4.out]; exact HGGL.out)).trans HG6.out
      have y7c : V.cell? ⟨Bx, 1, none⟩ = some (.slice Ai li ci) := hkx.cell 1
      have y8c : V.cell? ⟨Bx, 2, none⟩ = some (.slice Ac lc cc) := hkx.cell 2
      have hkr : ∀ w', Below V.heap.size V w' → w'.cell? ⟨Bp, 2, none⟩ = some (.bool true) ∧ w'.cell? ⟨Bp, 1, none⟩ = some (.int .i64 (qk : Int)) ∧ w'.cell? ⟨N, 3, none⟩ = some (.slice (some ⟨gg, og, none⟩) np c3) ∧ w'.cell? ⟨N + 1, 0, none⟩ = some (.int .i64 (pn : Int)) ∧ w'.cell? ⟨N + 1, 1, none⟩ = some (.string h) ∧ w'.cell? ⟨gg, og + pn, none⟩ = some (.slice Ag gl cg) ∧ w'.cell? ⟨Bx, 1, none⟩ = some (.slice Ai li ci) ∧ w'.cell? ⟨Bx, 2, none⟩ = some (.slice Ac lc cc) := fun w' hb => ⟨(hb.cell (p := ⟨Bp, 2, none⟩) (xcell_lt q2)).trans q2, (hb.cell (p := ⟨Bp, 1, none⟩) (xcell_lt y2c)).trans y2c, (hb.cell (p := ⟨N, 3, none⟩) (xcell_lt y3c)).trans y3c, (hb.cell (p := ⟨N + 1, 0, none⟩) (xcell_lt y4c)).trans y4c, (hb.cell (p := ⟨N + 1, 1, none⟩) (xcell_lt y5c)).trans y5c, (hb.cell (p := ⟨gg, og + pn, none⟩) (xcell_lt y6c)).trans y6c, (hb.cell (p := ⟨Bx, 1, none⟩) (xcell_lt y7c)).trans y7c, (hb.cell (p := ⟨Bx, 2, none⟩) (xcell_lt y8c)).trans y8c⟩
      have HKR := Lib.hid hkr
      have h4W : ∀ W, Below V.heap.size V W → Below W4.heap.size W4 W := fun W hW => by rw [HM4.out]; exact H4V.out.trans (hW.mono (by have := H4V.out.size; have := HM4.out; omega))
      have H4W := Lib.hid h4W
      clear hkr h4W hbw hst hi hil hv0 hkx h4v hge hge' hkP q2 y2c y3c y4c y5c y6c y7c y8c hkN4 hkS4
      by_cases hbq : b = qk
      case neg =>
        have tb : ((b : Int) == (qk : Int)) = false := beq_eq_false_iff_ne.2 (by omega)
        have tb' : (b == qk) = false := beq_eq_false_iff_ne.2 hbq
        have HBQ := Lib.hid hbq
        clear hbq hx he vi vc vo hli hlc hlo
        go_wp2_with fail
        clear r0 r1 r2 r3 r4 n2 m1
        refine r19_case1 N Bp Bx b fd qk np c3 pn gg og gl cg li ci lc cc h Ag Ai Ac _ _ _ _ _ _ _ _ _ _ _ _ _ _ _ _ _ _ _ _ _ _ _ _ _ _ _ _ _ _ _ _ _ _ _ _ _ _ _ _ _ _ _ _ _ _ _ _ _ _ _ _ _ _ _ _ _ _ _ _ _ _ _ _ _ _ _ _ _ _ _ _ _ _ _ _ _ _ _ _ _ _ _ _ _ _ _ _ _ _ _ _ _ _ _ _ _ _ _ _ _ _ _ _ _ _ _ _ _ _ _ _ _ _ _ _ _ _ _ _ _ _ _ _ _ _ _ _ _ _ _ _ _ _ _ _ _ _ _ _ _ _ _ _ _ _ _ _ _ _ _ _ _ _ _ _ _ _ _ _ _ _ _ _ _ _ _ _ _ _ _ _ _ _ _ _ _ _ _ _ _ _ _ _ _ _ _ _ _ _ _ _ _ _ _ _ _ _ _ _ _ _ _ _ _ _ _ _ _ _ _ _ _ V p0 p1 tb tb' HKR.out _ (fun _ _ _ _ _ h => h) ?_
        intro _ Vy hbz
        have HBZ := Lib.hid hbz
        clear hbz
        have hno : Sp.doneB n pn h ⟨qn, qk, true, qd⟩ b (i + 1) = Sp.doneB n pn h ⟨qn, qk, true, qd⟩ b i := Sp.done_no (fun hh => HBQ.out (by have := hh.2.1; simp only [Int.toNat_natCast] at this; exact this.symm))
        have HNO := Lib.hid hno
        clear hno
        go_wp2_with fail
        go_roundw
        case rel => exact ⟨v, i + 1, num + 1, fd, rfl, by rfl, rfl, by rfl, HI.out, HBA.out.trans ((HV0.out.trans (HBZ.out.mono HV0.out.size)).mono (by have := HBA.out.size; have := HM4.out; omega)), (by rw [Sp.wl_congr HNO.out]; exact ownsRow_below HST.out (HV0.out.trans (HBZ.out.mono HV0.out.size))), Lib.hid ⟨by rw [HX.out.1, Sp.numB_succ], by rw [Sp.fd_congr HNO.out]; exact HX.out.2⟩⟩
        case measure => have := HI.out; simp [intOf]; omega
      obtain rfl : qk = b := hbq.symm
      have tb : ((qk : Int) == (qk : Int)) = true := by simp
      have tb' : (qk == qk) = true := by simp
      obtain rfl : tq = t := by have e1 := HIN.out.ht; have e2 : n.tables[qk]? = some t := HT.out; simp only [Int.toNat_natCast] at e1; rw [e2] at e1; injection e1 with e1; exact e1.symm
      clear hbq
      by_cases hd : Sp.doneB n pn h ⟨qn, qk, true, qd⟩ qk i = true
      case pos =>
        have tf : decide (fd < 0) = false := decide_eq_false (by have := Sp.fd_found HQ.out hd; rw [← hx.out.2] at this; omega)
        have HD := Lib.hid hd
        clear hd hx he vi vc vo hli hlc hlo
        go_wp2_with fail
        clear r0 r1 r2 r3 r4 n2 m1
        refine r19_case2 N Bp Bx qk fd qk np c3 pn gg og gl cg li ci lc cc h Ag Ai Ac _ _ _ _ _ _ _ _ _ _ _ _ _ _ _ _ _ _ _ _ _ _ _ _ _ _ _ _ _ _ _ _ _ _ _ _ _ _ _ _ _ _ _ _ _ _ _ _ _ _ _ _ _ _ _ _ _ _ _ _ _ _ _ _ _ _ _ _ _ _ _ _ _ _ _ _ _ _ _ _ _ _ _ _ _ _ _ _ _ _ _ _ _ _ _ _ _ _ _ _ _ _ _ _ _ _ _ _ _ _ _ _ _ _ _ _ _ _ _ _ _ _ _ _ _ _ _ _ _ _ _ _ _ _ _ _ _ _ _ _ _ _ _ _ _ _ _ _ _ _ _ _ _ _ _ _ _ _ _ _ _ _ _ _ _ _ _ _ _ _ _ _ _ _ _ _ _ _ _ _ _ _ _ _ _ _ _ _ _ _ _ _ _ _ _ _ _ _ _ _ _ _ _ _ _ _ _ _ _ _ _ _ _ V p0 p1 (by simp) (by simp) tf HKR.out _ (fun _ _ _ _ _ h => h) ?_
        intro _ Vy hbz
        have HBZ := Lib.hid hbz
        clear hbz
        have hno : Sp.doneB n pn h ⟨qn, qk, true, qd⟩ qk (i + 1) = Sp.doneB n pn h ⟨qn, qk, true, qd⟩ qk i := Sp.done_no (fun hh => by have := (Sp.done_yes hh.1 hh.2.1 hh.2.2).1; rw [HD.out] at this; cases this)
        have HNO := Lib.hid hno
        clear hno
        go_wp2_with fail
        go_roundw
        case rel => exact ⟨v, i + 1, num + 1, fd, rfl, by rfl, rfl, by rfl, HI.out, HBA.out.trans ((HV0.out.trans (HBZ.out.mono HV0.out.size)).mono (by have := HBA.out.size; have := HM4.out; omega)), (by rw [Sp.wl_congr HNO.out]; exact ownsRow_below HST.out (HV0.out.trans (HBZ.out.mono HV0.out.size))), Lib.hid ⟨by rw [HX.out.1, Sp.numB_succ], by rw [Sp.fd_congr HNO.out]; exact HX.out.2⟩⟩
        case measure => have := HI.out; simp [intOf]; omega
      have hd' : Sp.doneB n pn h ⟨qn, qk, true, qd⟩ qk i = false := Bool.eq_false_iff.2 hd
      have tf : decide (fd < 0) = true := decide_eq_true (by rw [hx.out.2, Sp.fd_not hd']; decide)
      have HD := Lib.hid hd'
      have HFIT := Lib.hid (fun (hl : Sp.letsB g h = true) => Sp.fits_here (h := h) HIN.out.hg HQ.out HIN.out.ht he hl rfl hd')
      have hmem : e ∈ tq := List.mem_of_getElem? he
      have HMEM := Lib.hid hmem
      have hok2 := Sp.table_at HOK.out HT.out hmem
      have hlets : ∀ W, Below V.heap.size V W → Calls Tryz.prog 13 #[.slice Ag gl cg, .string h] W fun e w' => e = .returned (.bool (Sp.letsB g h)) ∧ Below W.heap.size W w' := fun W hW => by rw [← HGL.out]; exact law10_lets Ag cg g h W (HGV6.out.more (H4W.out W hW)) (Sp.fitsE2_ok HOK.out HSK.out (List.mem_of_getElem? HIN.out.hg) h rfl) HHS.out
      have hinn : ∀ W, Below V.heap.size V W → Calls Tryz.prog 14 #[.slice Ai li ci, .int .i64 (pn : Int)] W fun e' w' => e' = .returned (.bool (Sp.memB e.ins pn)) ∧ w' = W := fun W hW => by rw [← HLI.out]; exact law10_in Ai ci e.ins pn W (HVI.out.more (H4W.out W hW)) (by have := Sp.ins_len HOK.out hok2; omega)
      have hhas : ∀ W, Below V.heap.size V W → Calls Tryz.prog 15 #[.slice Ac lc cc, .string h] W fun e' w' => e' = .returned (.bool (Sp.hasB e.cubes h)) ∧ Below W.heap.size W w' := fun W hW => by rw [← HLC.out]; exact law10_has Ac cc e.cubes h W (HVC.out.more (H4W.out W hW)) (fun c hc => Sp.cubeOk_size HSK.out (hok2.cubes.2 c hc)) HHS.out (by have := hok2.cubes.1; omega)
      have HOK2 := Lib.hid hok2
      clear hd hd' hmem hok2 hx he vi vc vo hli hlc hlo
      by_cases hl : Sp.letsB g h = true
      case neg =>
        rw [Bool.eq_false_iff.2 hl] at hlets
        have HLETS := Lib.hid hlets
        have HL := Lib.hid hl
        clear hlets hinn hhas hl
        go_wp2_with fail
        clear r0 r1 r2 r3 r4 n2 m1
        refine r19_case3 N Bp Bx qk fd qk np c3 pn gg og gl cg li ci lc cc h Ag Ai Ac _ _ _ _ _ _ _ _ _ _ _ _ _ _ _ _ _ _ _ _ _ _ _ _ _ _ _ _ _ _ _ _ _ _ _ _ _ _ _ _ _ _ _ _ _ _ _ _ _ _ _ _ _ _ _ _ _ _ _ _ _ _ _ _ _ _ _ _ _ _ _ _ _ _ _ _ _ _ _ _ _ _ _ _ _ _ _ _ _ _ _ _ _ _ _ _ _ _ _ _ _ _ _ _ _ _ _ _ _ _ _ _ _ _ _ _ _ _ _ _ _ _ _ _ _ _ _ _ _ _ _ _ _ _ _ _ _ _ _ _ _ _ _ _ _ _ _ _ _ _ _ _ _ _ _ _ _ _ _ _ _ _ _ _ _ _ _ _ _ _ _ _ _ _ _ _ _ _ _ _ _ _ _ _ _ _ _ _ _ _ _ _ _ _ _ _ _ _ _ _ _ _ _ _ _ _ _ _ _ _ _ _ _ V p0 p1 (by simp) (by simp) tf HKR.out HLETS.out _ (fun _ _ _ _ _ h => h) ?_
        intro _ Vy hbz
        have HBZ := Lib.hid hbz
        clear hbz
        have hno : Sp.doneB n pn h ⟨qn, qk, true, qd⟩ qk (i + 1) = Sp.doneB n pn h ⟨qn, qk, true, qd⟩ qk i := Sp.done_no (fun hh => by have h1 := Sp.fitN_eq (h := h) HIN.out.hg HQ.out HIN.out.ht; rw [if_neg HL.out] at h1; have h2 := hh.2.2; omega)
        have HNO := Lib.hid hno
        clear hno
        go_wp2_with fail
        go_roundw
        case rel => exact ⟨v, i + 1, num + 1, fd, rfl, by rfl, rfl, by rfl, HI.out, HBA.out.trans ((HV0.out.trans (HBZ.out.mono HV0.out.size)).mono (by have := HBA.out.size; have := HM4.out; omega)), (by rw [Sp.wl_congr HNO.out]; exact ownsRow_below HST.out (HV0.out.trans (HBZ.out.mono HV0.out.size))), Lib.hid ⟨by rw [HX.out.1, Sp.numB_succ], by rw [Sp.fd_congr HNO.out]; exact HX.out.2⟩⟩
        case measure => have := HI.out; simp [intOf]; omega
      rw [hl] at hlets
      have HLETS := Lib.hid hlets
      have HFIT2 := Lib.hid (HFIT.out hl)
      clear hlets hl HFIT
      by_cases hm : Sp.memB e.ins pn = true
      case neg =>
        rw [Bool.eq_false_iff.2 hm] at hinn
        have HINN := Lib.hid hinn
        have HMB := Lib.hid hm
        clear hinn hhas hm
        go_wp2_with fail
        clear r0 r1 r2 r3 r4 n2 m1
        refine r19_case4 N Bp Bx qk fd qk np c3 pn gg og gl cg li ci lc cc h Ag Ai Ac _ _ _ _ _ _ _ _ _ _ _ _ _ _ _ _ _ _ _ _ _ _ _ _ _ _ _ _ _ _ _ _ _ _ _ _ _ _ _ _ _ _ _ _ _ _ _ _ _ _ _ _ _ _ _ _ _ _ _ _ _ _ _ _ _ _ _ _ _ _ _ _ _ _ _ _ _ _ _ _ _ _ _ _ _ _ _ _ _ _ _ _ _ _ _ _ _ _ _ _ _ _ _ _ _ _ _ _ _ _ _ _ _ _ _ _ _ _ _ _ _ _ _ _ _ _ _ _ _ _ _ _ _ _ _ _ _ _ _ _ _ _ _ _ _ _ _ _ _ _ _ _ _ _ _ _ _ _ _ _ _ _ _ _ _ _ _ _ _ _ _ _ _ _ _ _ _ _ _ _ _ _ _ _ _ _ _ _ _ _ _ _ _ _ _ _ _ _ _ _ _ _ _ _ _ _ _ _ _ _ _ _ _ V p0 p1 (by simp) (by simp) tf HKR.out HLETS.out HINN.out _ (fun _ _ _ _ _ h => h) ?_
        intro _ Vy hbz
        have HBZ := Lib.hid hbz
        clear hbz
        have hno : Sp.doneB n pn h ⟨qn, qk, true, qd⟩ qk (i + 1) = Sp.doneB n pn h ⟨qn, qk, true, qd⟩ qk i := Sp.done_no (fun hh => by have h1 := HFIT2.out.2 hh.2.2; unfold Sp.fitsE at h1; rw [Bool.and_eq_true] at h1; exact HMB.out h1.1)
        have HNO := Lib.hid hno
        clear hno
        go_wp2_with fail
        go_roundw
        case rel => exact ⟨v, i + 1, num + 1, fd, rfl, by rfl, rfl, by rfl, HI.out, HBA.out.trans ((HV0.out.trans (HBZ.out.mono HV0.out.size)).mono (by have := HBA.out.size; have := HM4.out; omega)), (by rw [Sp.wl_congr HNO.out]; exact ownsRow_below HST.out (HV0.out.trans (HBZ.out.mono HV0.out.size))), Lib.hid ⟨by rw [HX.out.1, Sp.numB_succ], by rw [Sp.fd_congr HNO.out]; exact HX.out.2⟩⟩
        case measure => have := HI.out; simp [intOf]; omega
      rw [hm] at hinn
      have HINN := Lib.hid hinn
      have HMB := Lib.hid hm
      obtain ⟨hbv, hhb⟩ : ∃ x, Sp.hasB e.cubes h = x := ⟨_, rfl⟩
      rw [hhb] at hhas
      have HHAS := Lib.hid hhas
      have HHB := Lib.hid hhb
      clear hinn hhas hm hhb
      go_wp2_with fail
      clear r0 r1 r2 r3 r4 n2 m1
      refine r19_case5 N Bp Bx qk fd qk np c3 pn gg og gl cg li ci lc cc h Ag Ai Ac _ _ _ _ _ _ _ _ _ _ _ _ _ _ _ _ _ _ _ _ _ _ _ _ _ _ _ _ _ _ _ _ _ _ _ _ _ _ _ _ _ _ _ _ _ _ _ _ _ _ _ _ _ _ _ _ _ _ _ _ _ _ _ _ _ _ _ _ _ _ _ _ _ _ _ _ _ _ _ _ _ _ _ _ _ _ _ _ _ _ _ _ _ _ _ _ _ _ _ _ _ _ _ _ _ _ _ _ _ _ _ _ _ _ _ _ _ _ _ _ _ _ _ _ _ _ _ _ _ _ _ _ _ _ _ _ _ _ _ _ _ _ _ _ _ _ _ _ _ _ _ _ _ _ _ _ _ _ _ _ _ _ _ _ _ _ _ _ _ _ _ _ _ _ _ _ _ _ _ _ _ _ _ _ _ _ _ _ _ _ _ _ _ _ _ _ _ _ _ _ _ _ _ _ _ _ _ _ _ _ _ _ _ V p0 p1 (by simp) (by simp) tf HKR.out HLETS.out HINN.out hbv HHAS.out _ (fun _ _ _ _ _ h => h) ?_
      intro _ Vy hbz
      have HBZ := Lib.hid hbz
      clear hbz
      cases hbv with
      | false =>
        have hno : Sp.doneB n pn h ⟨qn, qk, true, qd⟩ qk (i + 1) = Sp.doneB n pn h ⟨qn, qk, true, qd⟩ qk i := Sp.done_no (fun hh => by have h1 := HFIT2.out.2 hh.2.2; unfold Sp.fitsE at h1; rw [Bool.and_eq_true, HHB.out] at h1; cases h1.2)
        have HNO := Lib.hid hno
        clear hno
        go_wp2_with fail
        go_roundw
        case rel => exact ⟨v, i + 1, num + 1, fd, rfl, by rfl, rfl, by rfl, HI.out, HBA.out.trans ((HV0.out.trans (HBZ.out.mono HV0.out.size)).mono (by have := HBA.out.size; have := HM4.out; omega)), (by rw [Sp.wl_congr HNO.out]; exact ownsRow_below HST.out (HV0.out.trans (HBZ.out.mono HV0.out.size))), Lib.hid ⟨by rw [HX.out.1, Sp.numB_succ], by rw [Sp.fd_congr HNO.out]; exact HX.out.2⟩⟩
        case measure => have := HI.out; simp [intOf]; omega
      | true =>
        have hfit : Sp.fitN n pn h = (i : Int) := HFIT2.out.1 (by unfold Sp.fitsE; rw [HMB.out, HHB.out]; rfl)
        have hdy := Sp.done_yes (q := ⟨qn, qk, true, qd⟩) (b := qk) rfl rfl hfit
        have hmv := Sp.movesV_entry HQ.out rfl HT.out HEE.out hfit
        have hen := Sp.entryV_at HQ.out rfl hfit
        simp only [Int.toNat_natCast] at hdy hmv hen
        rw [← HX.out.1] at hmv hen
        obtain ⟨wd, hwd⟩ : ∃ wd, Sp.wordV e.write h = wd := ⟨_, rfl⟩
        have hws : wd.size = h.size := by rw [← hwd]; exact Sp.wordV_size _ _
        rw [hwd] at hmv
        have hcw : Calls Tryz.prog 16 #[.string h, .string e.write] Vy fun e' w' => e' = .returned (.string wd) ∧ Below Vy.heap.size Vy w' := by rw [← hwd]; exact law10_written e.write h Vy (Sp.cubeOk_size HSK.out HOK2.out.word) HHS.out
        have s1 : Vy.cell? ⟨N + 1, 1, none⟩ = some (.string h) := (HKR.out Vy HBZ.out).2.2.2.2.1
        have hkxy := HKX.out.below HBZ.out HKX.out.lt
        have s2 : Vy.cell? ⟨Bx, 3, none⟩ = some (.string e.write) := hkxy.cell 3
        have HKXY := Lib.hid hkxy
        have HCW := Lib.hid hcw
        have HDY := Lib.hid hdy
        have HMV := Lib.hid hmv
        have HEN := Lib.hid hen
        have HWS := Lib.hid hws
        clear hfit hdy hmv hen hwd hws hcw hkxy HHB HMB HFIT2 HLETS HINN HHAS
        go_wp2_with (go_at_call 16; refine HCW.out.mono ?_; rintro e' Vw ⟨rfl, hbw⟩; have hkw := HKXY.out.below hbw HKXY.out.lt; have s4 : Vw.cell? ⟨Bx, 4, none⟩ = some (.slice Ao lo co) := hkw.cell 4; have HBVW := Lib.hid hbw; have HKW := Lib.hid hkw; clear hbw hkw)
        have hwl0 : StR Vw M4 v [] := by
          have h1 := ownsRow_below HST.out (HV0.out.trans ((HBZ.out.mono HV0.out.size).trans (HBVW.out.mono (by have := HBZ.out.size; have := HV0.out.size; omega))))
          have h2 := Sp.wl_no (n := n) (p := pn) (h := h) (q := ⟨qn, qk, true, qd⟩) HD.out rfl
          rw [h2] at h1
          exact h1
        have hbw0 : Below M4 W4 Vw := by
          have := H4W.out Vw (HBZ.out.trans (HBVW.out.mono HBZ.out.size))
          rw [HM4.out] at this
          exact this
        have HWL0 := Lib.hid hwl0
        have HBW0 := Lib.hid hbw0
        clear hwl0 hbw0 s1 s2 s4
        go_loopw [9, 16, 17] (fun v9 v16 _ wr => ∃ (v : Value) (k : Nat), v = v9 ∧ v16 = .int .i64 (k : Int) ∧ k ≤ lo ∧ Below M4 W4 wr ∧ Blk wr Bx 48 #[.string e.name, .slice Ai li ci, .slice Ac lc cc, .string e.write, .slice Ao lo co] ∧ StR wr M4 v (Sp.stV ((e.outs.take k).filterMap (Sp.outMv n num wd)))) (fun _ v16 _ _ => lo - (intOf v16).toNat)
        case atStart => exact ⟨v, 0, rfl, rfl, Nat.zero_le _, HBW0.out, HKW.out, HWL0.out⟩
        case round =>
          clear HWL0 HBW0 HKW HBVW HCW HKXY
          obtain ⟨v, k, rfl, rfl, hk, hbw, hkx, hst⟩ := hrel
          have HB3L := Lib.hid hbw
          have HKX3 := Lib.hid hkx
          have HS3L := Lib.hid hst
          have k0 : (0 : Int) ≤ (k : Int) := by omega
          have w4 : wr.cell? ⟨Bx, 4, none⟩ = some (.slice Ao lo co) := hkx.cell 4
          by_cases hkl : k < lo
          case neg =>
            have u1 : decide ((k : Int) < (lo : Int)) = false := decide_eq_false (by omega)
            have u1' : decide (k < lo) = false := decide_eq_false hkl
            have hfin : StR wr M4 v (Sp.wlV n pn h ⟨qn, qk, true, qd⟩ qk (i + 1)) := by
              rw [Sp.wl_yes HDY.out.2, HMV.out]
              rw [List.take_of_length_le (by have := HLO.out; omega)] at hst
              exact hst
            have HFIN := Lib.hid hfin
            clear hk hbw hkx hst hkl hfin
            go_wp2_with fail
            go_roundw
            case rel => exact ⟨v, i + 1, num + 1, num, rfl, by rfl, rfl, by rfl, HI.out, HB3L.out, HFIN.out, Lib.hid ⟨by rw [HX.out.1, Sp.numB_succ], by rw [Sp.fd_yes HDY.out.2, HEN.out]⟩⟩
            case measure => have := HI.out; simp [intOf]; omega
          have u1 : decide ((k : Int) < (lo : Int)) = true := decide_eq_true (by omega)
          have u1' : decide (k < lo) = true := decide_eq_true hkl
          have u2 : (k : Int) < (lo : Int) := by omega
          have h4 : lo ≤ 4 := by have := HOK2.out.nouts; have := HLO.out; omega
          have zk : IntKind.i64.wrap ((k : Int) + 1) = (k : Int) + 1 := by rw [IntKind.wrap_i64]; omega
          obtain ⟨o, ho⟩ : ∃ o, e.outs[k]? = some o := ⟨_, List.getElem?_eq_getElem (by have := HLO.out; omega)⟩
          obtain ⟨ho0, g', q', hg', hq', _⟩ := (HIN.out.ho e HMEM.out).2 o (List.mem_of_getElem? ho)
          obtain ⟨on, rfl⟩ : ∃ x : Nat, o = x := ⟨o.toNat, by omega⟩
          simp only [Int.toNat_natCast] at hg' hq'
          obtain ⟨go, oo, rfl, hgo, w5⟩ := (HVO.out.more (by rw [HM4.out]; exact hbw)).at ho
          obtain ⟨gp, op, hgpo, hgp, _, _, _, w6⟩ := (HP4.out.more (by rw [HM4.out]; exact hbw)).at hq'
          obtain ⟨rfl, rfl⟩ : gq = gp ∧ oq = op := by injection hgpo with hx; injection hx with h1 h2; exact ⟨h1, h2⟩
          obtain ⟨gr, og2, Ag2, cg2, hgro, hgr, w7, gv2, _⟩ := (HG4.out.more (by rw [HM4.out]; exact hbw)).at hg'
          obtain ⟨rfl, rfl⟩ : gg = gr ∧ og = og2 := by injection hgro with hx; injection hx with h1 h2; exact ⟨h1, h2⟩
          obtain ⟨gl2, hgl2⟩ : ∃ x, g'.length = x := ⟨_, rfl⟩
          rw [hgl2] at w7
          have hon : on < np := by have := (List.getElem?_eq_some_iff.1 hq').1; have := HNP.out; omega
          have u3 : decide ((on : Int) < 0) = false := decide_eq_false (by omega)
          have u4 : decide ((on : Int) ≥ (np : Int)) = false := decide_eq_false (by omega)
          have u4' : decide (np ≤ on) = false := decide_eq_false (by omega)
          have u5 : (0 : Int) ≤ (on : Int) := by omega
          have u6 : (on : Int) < (np : Int) := by omega
          have hkN := HKN4.out.below hbw (by have := HLT.out; omega)
          have w8 : wr.cell? ⟨N, 1, none⟩ = some (.slice (some ⟨gq, oq, none⟩) np c1) := hkN.cell 1
          have w9 : wr.cell? ⟨N, 3, none⟩ = some (.slice (some ⟨gg, og, none⟩) np c3) := hkN.cell 3
          have hstep := Sp.outs_step (num := (num : Int)) (wd := wd) ho hg' hq'
          have hle : (Sp.stV ((e.outs.take k).filterMap (Sp.outMv n num wd))).length ≤ 100 := by
            have h1 := Sp.stV_len ((e.outs.take k).filterMap (Sp.outMv n num wd))
            have h2 := Sp.filterMap_len (Sp.outMv n num wd) (e.outs.take k)
            rw [List.length_take] at h2
            omega
          have hcl : Calls Tryz.prog 13 #[.slice Ag2 gl2 cg2, .string wd] wr fun e' w' => e' = .returned (.bool (Sp.letsB g' wd)) ∧ Below wr.heap.size wr w' := by rw [← hgl2]; exact law10_lets Ag2 cg2 g' wd wr gv2 (Sp.fitsE2_ok HOK.out HSK.out (List.mem_of_getElem? hg') wd HWS.out) (by have := HWS.out; have := HHS.out; omega)
          have HSTEP := Lib.hid hstep
          have HLE := Lib.hid hle
          have HKL := Lib.hid (show k + 1 ≤ lo by omega)
          have HKN5 := Lib.hid hkN
          have HM45 := Lib.hid (show M4 ≤ wr.heap.size by have := hbw.size; have := HM4.out; omega)
          have HW6 := Lib.hid w6
          have hgqm : gq < M4 := by have e1 := HP4.out.at hq'; obtain ⟨a1, a2, e2, e3, _⟩ := e1; injection e2 with e2; injection e2 with e4 _; rw [e4, ← HM4.out]; exact e3
          have HGQM := Lib.hid hgqm
          clear hk hbw hkx hst hkl ho hgo hgp hgpo hgr hgro gv2 hgl2 hg' hq' hkN hstep hle ho0 hon h4 hgqm
          obtain ⟨lv, hlv⟩ : ∃ x, Sp.letsB g' wd = x := ⟨_, rfl⟩
          rw [hlv] at hcl HSTEP
          have HCL := Lib.hid hcl
          clear hcl hlv
          cases lv with
          | false =>
            have hst2 := HSTEP.out
            rw [if_neg (by decide), List.append_nil] at hst2
            have HST2 := Lib.hid hst2
            clear hst2
            go_wp2_with (go_at_call 13; refine HCL.out.mono ?_; rintro e' Wl ⟨rfl, hbl⟩; have HBL := Lib.hid hbl; clear hbl)
            go_roundw
            case rel => exact ⟨v, k + 1, rfl, by rfl, HKL.out, HB3L.out.trans (HBL.out.mono HM45.out), HKX3.out.below HBL.out HKX3.out.lt, by rw [HST2.out]; exact ownsRow_below HS3L.out HBL.out⟩
            case measure => have := HKL.out; simp [intOf]; omega
          | true =>
            have hst2 := HSTEP.out
            rw [if_pos rfl] at hst2
            by_cases hqd2 : 0 ≤ q'.dst
            case neg =>
              rw [if_neg hqd2] at hst2
              have HST2 := Lib.hid hst2
              have t7 : decide (q'.dst ≥ 0) = false := decide_eq_false hqd2
              clear hst2 hqd2
              go_wp2_with (first
                | (go_at_call 13; refine HCL.out.mono ?_; rintro e' Wl ⟨rfl, hbl⟩; have HBL := Lib.hid hbl; have HRL := Lib.hid (show StR Wl M4 v _ from ownsRow_below HS3L.out hbl); have HKXL := Lib.hid (HKX3.out.below hbl HKX3.out.lt); clear hbl)
                | (at_builtin; refine wpList_st rfl _ _ rfl M4 v _ rfl Wl ((on : Int), wd) rfl HRL.out (Nat.le_trans HM45.out HBL.out.size) (by have := HLE.out; omega) ?_; intro v5 W5 hr5 hb5 hk5; have HR5 := Lib.hid hr5; have HB5 := Lib.hid (HBL.out.mono HM45.out |>.trans hb5); have HK5 := Lib.hid (hk5 _ _ _ (by decide) HKXL.out); have hkn5 := (HKN5.out.below (HBL.out.mono HM45.out |>.trans hb5) (by have := HLT.out; omega)); have f1 : W5.cell? ⟨N, 1, none⟩ = some (.slice (some ⟨gq, oq, none⟩) np c1) := hkn5.cell 1; have f2 : W5.cell? ⟨gq, oq + on * 4 + 3, none⟩ = some (.int .i64 q'.dst) := (HB5.out.cell (p := ⟨gq, oq + on * 4 + 3, none⟩) HGQM.out).trans HW6.out; clear hr5 hb5 hk5 hkn5))
              go_roundw
              case rel => exact ⟨v5, k + 1, rfl, by rfl, HKL.out, HB3L.out.trans HB5.out, HK5.out, by rw [HST2.out]; exact HR5.out⟩
              case measure => have := HKL.out; simp [intOf]; omega
            case pos =>
              rw [if_pos hqd2] at hst2
              have HST2 := Lib.hid hst2
              have t7 : decide (q'.dst ≥ 0) = true := decide_eq_true hqd2
              clear hst2 hqd2
              go_wp2_with (first
                | (at_builtin; have _t := HR5; refine wpList_st rfl _ _ rfl M4 v5 _ rfl W5 (q'.dst, wd) rfl HR5.out (Nat.le_trans HM45.out HB5.out.size) (by rw [List.length_append]; have := HLE.out; simp; omega) ?_; intro v6 W6 hr6 hb6 hk6; have HR6 := Lib.hid hr6; have HB6 := Lib.hid (HB5.out.trans hb6); have HK6 := Lib.hid (hk6 _ _ _ (by decide) HK5.out); clear hr6 hb6 hk6)
                | (go_at_call 13; refine HCL.out.mono ?_; rintro e' Wl ⟨rfl, hbl⟩; have HBL := Lib.hid hbl; have HRL := Lib.hid (show StR Wl M4 v _ from ownsRow_below HS3L.out hbl); have HKXL := Lib.hid (HKX3.out.below hbl HKX3.out.lt); clear hbl)
                | (at_builtin; refine wpList_st rfl _ _ rfl M4 v _ rfl Wl ((on : Int), wd) rfl HRL.out (Nat.le_trans HM45.out HBL.out.size) (by have := HLE.out; omega) ?_; intro v5 W5 hr5 hb5 hk5; have HR5 := Lib.hid hr5; have HB5 := Lib.hid (HBL.out.mono HM45.out |>.trans hb5); have HK5 := Lib.hid (hk5 _ _ _ (by decide) HKXL.out); have hkn5 := (HKN5.out.below (HBL.out.mono HM45.out |>.trans hb5) (by have := HLT.out; omega)); have f1 : W5.cell? ⟨N, 1, none⟩ = some (.slice (some ⟨gq, oq, none⟩) np c1) := hkn5.cell 1; have f2 : W5.cell? ⟨gq, oq + on * 4 + 3, none⟩ = some (.int .i64 q'.dst) := (HB5.out.cell (p := ⟨gq, oq + on * 4 + 3, none⟩) HGQM.out).trans HW6.out; clear hr5 hb5 hk5 hkn5))
              go_roundw
              case rel => exact ⟨v6, k + 1, rfl, by rfl, HKL.out, HB3L.out.trans HB6.out, HK6.out, by rw [HST2.out]; have := HR6.out; rwa [List.append_assoc] at this⟩
              case measure => have := HKL.out; simp [intOf]; omega
end Go.Proofs.YthjenkbgiomibaaGreatDoor
