/-
  THE LAW StepFits (chapter 10): what step.Next tells is what the network's own numbers say.
-/
import Derived.Test.YthjenkbgiomibaaGreatDoorUi
import Derived.Deep.QuietTactic
import Derived.BigQuiet
set_option linter.unusedVariables false
set_option linter.unusedSimpArgs false
set_option maxRecDepth 100000
set_option maxHeartbeats 40000000
namespace Go.Proofs.YthjenkbgiomibaaGreatDoor
open Go.RowKit
theorem law_fits_out1 (n : Sp.Net) (A1 A2 A3 : Option Addr) (c1 c2 c3 : Nat) (p : Int) (h : ByteArray) (w : World) (hG : Gn w)
    (hnr : NetR w n [.int .i64 n.bits, .slice A1 n.ports.length c1, .slice A2 n.tables.length c2, .slice A3 n.guards.length c3]) (hsz : Sp.Szd n) (hh : h.size ≤ 9223372036854775807) (hE0 : Sp.checkE n p h = 0) (q : Sp.Port) (hq : n.ports[p.toNat]? = some q) (hcase : q.inn = false ∧ 0 ≤ q.dst) :
    Calls Tryz.prog 4 #[.agg #[.int .i64 n.bits, .slice A1 n.ports.length c1, .slice A2 n.tables.length c2, .slice A3 n.guards.length c3], .agg #[.int .i64 p, .string h]] w fun e w' => e = .returned (.bool true) ∧ Below w.heap.size w w' := by
  obtain ⟨N, hN⟩ : ∃ N, w.heap.size = N := ⟨_, rfl⟩
  obtain ⟨W2, hW2⟩ : ∃ W2, (w.alloc (.cells #[.int .i64 n.bits, .slice A1 n.ports.length c1, .slice A2 n.tables.length c2, .slice A3 n.guards.length c3] 26)).alloc (.cells #[.int .i64 p, .string h] 28) = W2 := ⟨_, rfl⟩
  have hb2w : Below w.heap.size w W2 := by rw [← hW2]; exact ((Below.refl _ _).alloc (Nat.le_refl _) _).alloc (by simp) _
  have hs2 : W2.heap.size = N + 2 := by rw [← hW2, ← hN]; simp
  have hkN : Blk W2 N 26 #[.int .i64 n.bits, .slice A1 n.ports.length c1, .slice A2 n.tables.length c2, .slice A3 n.guards.length c3] := by rw [← hW2, ← hN]; exact (Blk.new _ _ _).alloc _
  have hkS : Blk W2 (N + 1) 28 #[.int .i64 p, .string h] := by rw [← hW2, ← hN]; exact blk_new_at (by simp)
  have hC := step_Next n A1 A2 A3 c1 c2 c3 p h W2 (hG.below hb2w) (hnr.more hb2w) hsz hh
  have hKNOWN := fun (W : World) (hb : Below w.heap.size w W) => law10_known W (hG.below hb)
  obtain ⟨hp1, ht1, hg1⟩ : PV w A1 n.ports ∧ TTV w A2 n.tables ∧ GGV w A3 n.guards := by
    obtain ⟨B1, d1, B2, d2, B3, d3, hx, hv1, hv2, hv3, _⟩ := hnr
    injection hx with _ hx
    injection hx with e1 hx
    injection hx with e2 hx
    injection hx with e3 hx
    injection e1 with e1 _ _
    injection e2 with e2 _ _
    injection e3 with e3 _ _
    subst e1 e2 e3
    exact ⟨hv1, hv2, hv3⟩
  have hPV := hp1.more hb2w
  have hTV := ht1.more hb2w
  have hGV := hg1.more hb2w
  obtain ⟨bt, hbt⟩ : ∃ b, n.bits = b := ⟨_, rfl⟩
  obtain ⟨np, hnp⟩ : ∃ np, n.ports.length = np := ⟨_, rfl⟩
  obtain ⟨nt, hnt⟩ : ∃ nt, n.tables.length = nt := ⟨_, rfl⟩
  obtain ⟨ng, hng⟩ : ∃ ng, n.guards.length = ng := ⟨_, rfl⟩
  rw [hbt, hnp, hnt, hng] at hW2 hkN hC ⊢
  obtain ⟨E, hE⟩ : ∃ E, Sp.checkE n p h = E := ⟨_, rfl⟩
  have x0 : W2.cell? ⟨N, 0, none⟩ = some (.int .i64 bt) := hkN.cell 0
  have x1 : W2.cell? ⟨N, 1, none⟩ = some (.slice A1 np c1) := hkN.cell 1
  have x2 : W2.cell? ⟨N, 2, none⟩ = some (.slice A2 nt c2) := hkN.cell 2
  have x3 : W2.cell? ⟨N, 3, none⟩ = some (.slice A3 ng c3) := hkN.cell 3
  have x4 : W2.cell? ⟨N + 1, 0, none⟩ = some (.int .i64 p) := hkS.cell 0
  have x5 : W2.cell? ⟨N + 1, 1, none⟩ = some (.string h) := hkS.cell 1
  have HN := Lib.hid hN
  have HB2 : Hid (Below N w W2) := Lib.hid (by rw [← hN]; exact hb2w)
  have HS2 := Lib.hid hs2
  have HKN := Lib.hid hkN
  have HKS := Lib.hid hkS
  have HC := Lib.hid hC
  have HKNOWN : Hid (∀ W, Below N w W → Calls Tryz.prog 12 #[] W fun e w' => e = .returned (.bool true) ∧ Below W.heap.size W w') := Lib.hid (by rw [← hN]; exact hKNOWN)
  have HPV := Lib.hid hPV
  have HTV := Lib.hid hTV
  have HGV := Lib.hid hGV
  have HNP := Lib.hid hnp
  have HNT := Lib.hid hnt
  have HNG := Lib.hid hng
  have HE := Lib.hid hE
  clear hb2w hs2 hkN hkS hC hKNOWN hp1 ht1 hg1 hPV hTV hGV hbt hnp hnt hng hE hG hnr hsz
  have hz : E = 0 := by rw [← HE.out]; exact hE0
  have HCASE := Lib.hid hcase
  clear hcase hE0
  subst hz
  have te : ((0 : Int) != 0) = false := rfl
  obtain ⟨HOK, HSK⟩ : Hid (Sp.NetOk n) ∧ Hid (Sp.StateOk n p h) := ⟨Lib.hid (Sp.checkE_zero HE.out).1, Lib.hid (Sp.checkE_zero HE.out).2⟩
  obtain ⟨pn, rfl⟩ : ∃ k : Nat, p = k := ⟨p.toNat, by have := HSK.out.port; omega⟩
  have hngp : np = ng := by rw [← HNG.out, ← HNP.out]; exact HOK.out.nguards.symm
  subst hngp
  rw [Int.toNat_natCast] at hq
  have hpl : pn < np := by have := (List.getElem?_eq_some_iff.1 hq).1; have := HNP.out; omega
  have h48 : np ≤ 48 := by have := HOK.out.nports; have := HNP.out; omega
  have h16 : nt ≤ 16 := by have := HOK.out.ntables; have := HNT.out; omega
  have hhs : h.size ≤ 1000000 := by have := HSK.out.bits; have := HOK.out.bits; omega
  have p0 : (0 : Int) ≤ (pn : Int) := by omega
  have p1 : (pn : Int) < (np : Int) := by omega
  have p2 : decide ((pn : Int) < 0) = false := decide_eq_false (by omega)
  have p3 : decide ((pn : Int) ≥ (np : Int)) = false := decide_eq_false (by omega)
  have p4 : decide (np ≤ pn) = false := decide_eq_false (by omega)
  have p5 : ((np : Int) != (np : Int)) = false := by simp
  have hbx : q.box.toNat < nt := by have := (HOK.out.ports pn q hq).box; have := HNT.out; omega
  have HBX := Lib.hid hbx
  obtain ⟨gq, oq, rfl, hgq, k0, k1, k2, k3⟩ := HPV.out.at hq
  have HQ := Lib.hid hq
  have HHS := Lib.hid hhs
  have HGQ := Lib.hid hgq
  have HK4 := Lib.hid (show W2.cell? ⟨gq, oq + pn * 4, none⟩ = some (.string q.name) ∧ W2.cell? ⟨gq, oq + pn * 4 + 1, none⟩ = some (.int .i64 q.box) ∧ W2.cell? ⟨gq, oq + pn * 4 + 2, none⟩ = some (.bool q.inn) ∧ W2.cell? ⟨gq, oq + pn * 4 + 3, none⟩ = some (.int .i64 q.dst) from ⟨k0, k1, k2, k3⟩)
  clear hq hhs hbx hgq k0 k1 k2 k3
  go_enter Tryz.func4, Tryz.ntmps4
  go_wp2_with fail
  refine HC.out.mono ?_
  rintro e W3 ⟨vn, rfl, hst, hb3⟩
  have hne : Sp.nextE n pn h = Sp.entryV n pn h := by unfold Sp.nextE; rw [HE.out, if_pos rfl, Int.toNat_natCast]
  have hns : Sp.nextS n pn h = Sp.stV (Sp.movesV n pn h) := by unfold Sp.nextS; rw [HE.out, if_pos rfl, Int.toNat_natCast]
  rw [hns] at hst
  obtain ⟨ev, hev⟩ : ∃ ev, Sp.entryV n pn h = ev := ⟨_, rfl⟩
  rw [hne, hev, HE.out]
  have HEV := Lib.hid hev
  have HSN := Lib.hid hst
  have HB3 := Lib.hid (HB2.out.trans (hb3.mono (by have := HS2.out; omega)))
  have hkN3 := HKN.out.below hb3 HKN.out.lt
  have hkS3 := HKS.out.below hb3 HKS.out.lt
  have y1 : W3.cell? ⟨N, 1, none⟩ = some (.slice (some ⟨gq, oq, none⟩) np c1) := hkN3.cell 1
  have y2 : W3.cell? ⟨N, 2, none⟩ = some (.slice A2 nt c2) := hkN3.cell 2
  have y3 : W3.cell? ⟨N, 3, none⟩ = some (.slice A3 np c3) := hkN3.cell 3
  have y4 : W3.cell? ⟨N + 1, 0, none⟩ = some (.int .i64 (pn : Int)) := hkS3.cell 0
  have y5 : W3.cell? ⟨N + 1, 1, none⟩ = some (.string h) := hkS3.cell 1
  obtain ⟨qn, qb, qi, qd⟩ := q
  have k0 : W3.cell? ⟨gq, oq + pn * 4, none⟩ = some (.string qn) := (hb3.cell (p := ⟨gq, oq + pn * 4, none⟩) HGQ.out).trans HK4.out.1
  have k1 : W3.cell? ⟨gq, oq + pn * 4 + 1, none⟩ = some (.int .i64 qb) := (hb3.cell (p := ⟨gq, oq + pn * 4 + 1, none⟩) HGQ.out).trans HK4.out.2.1
  have k2 : W3.cell? ⟨gq, oq + pn * 4 + 2, none⟩ = some (.bool qi) := (hb3.cell (p := ⟨gq, oq + pn * 4 + 2, none⟩) HGQ.out).trans HK4.out.2.2.1
  have k3 : W3.cell? ⟨gq, oq + pn * 4 + 3, none⟩ = some (.int .i64 qd) := (hb3.cell (p := ⟨gq, oq + pn * 4 + 3, none⟩) HGQ.out).trans HK4.out.2.2.2
  obtain ⟨W4, hW4⟩ : ∃ W4, W3.alloc (.cells #[.string qn, .int .i64 qb, .bool qi, .int .i64 qd] 43) = W4 := ⟨_, rfl⟩
  obtain ⟨Bp, hBp⟩ : ∃ Bp, W3.heap.size = Bp := ⟨_, rfl⟩
  have hb34 : Below W3.heap.size W3 W4 := by rw [← hW4]; exact (Below.refl _ _).alloc (Nat.le_refl _) _
  have hkP : Blk W4 Bp 43 #[.string qn, .int .i64 qb, .bool qi, .int .i64 qd] := by rw [← hW4, ← hBp]; exact Blk.new _ _ _
  have hkN4 := hkN3.below hb34 hkN3.lt
  have hkS4 := hkS3.below hb34 hkS3.lt
  have z1 : W4.cell? ⟨Bp, 2, none⟩ = some (.bool qi) := hkP.cell 2
  have z2 : W4.cell? ⟨Bp, 3, none⟩ = some (.int .i64 qd) := hkP.cell 3
  have z3 : W4.cell? ⟨N + 1, 1, none⟩ = some (.string h) := hkS4.cell 1
  have HB4 := Lib.hid (HB3.out.trans (hb34.mono (by have := HB3.out.size; omega)))
  have HP4 := Lib.hid (HPV.out.more (hb3.trans (hb34.mono hb3.size)))
  have HT4 := Lib.hid (HTV.out.more (hb3.trans (hb34.mono hb3.size)))
  have HG4 := Lib.hid (HGV.out.more (hb3.trans (hb34.mono hb3.size)))
  have HSN4 := Lib.hid (show StR W4 W2.heap.size vn (Sp.stV (Sp.movesV n pn h)) from ownsRow_below hst hb34)
  have HKP := Lib.hid hkP
  have HKN4 := Lib.hid hkN4
  have HKS4 := Lib.hid hkS4
  have HLEN := Lib.hid (Sp.movesV_len HOK.out HSK.out)
  obtain ⟨M4, hM4⟩ : ∃ M4, W4.heap.size = M4 := ⟨_, rfl⟩
  have HM4 := Lib.hid hM4
  have HLT := Lib.hid (show N + 1 < M4 ∧ Bp < M4 by have := hkP.lt; have := hkS4.lt; omega)
  have hwl := Sp.wl_start (h := h) HQ.out
  clear hst hb3 hb34 hkN3 hkS3 hkN4 hkS4 hkP hM4 hev hne hns HC HPV HTV HGV HKN HKS HK4 HSN x0 x1 x2 x3 x4 x5
  obtain rfl : qi = false := HCASE.out.1
  have t5 : decide (qd ≥ 0) = true := decide_eq_true HCASE.out.2
  rw [if_pos HCASE.out] at hwl
  have HWL := Lib.hid hwl
  clear hwl HCASE
  go_wp2_with (first
    | (go_at_call 9; refine (law10_num _ _).mono ?_; rintro e _ ⟨rfl, rfl⟩)
    | (at_builtin; refine wpList_st rfl _ _ rfl M4 (.slice none 0 0) [] rfl W4 (qd, h) rfl (World.ownsRow_nil _ _ _ _) (by rw [HM4.out]; exact Nat.le_refl _) (by simp) ?_; intro v5 W5 hr5 hb5 _; have HR5 := Lib.hid hr5; have HB5 := Lib.hid hb5; clear hr5 hb5))
  clear z1 z2 z3 k0 k1 k2 k3 y1 y2 y3 y4 y5
  go_loopw [9, 10, 11, 12, 13, 14, 15, 16, 17] (fun v9 v10 v11 v12 _ _ _ _ _ wr => ∃ (v : Value) (b num : Nat) (fd : Int), v = v9 ∧ v10 = .int .i64 (num : Int) ∧ v11 = .int .i64 fd ∧ v12 = .int .i64 (b : Int) ∧ b ≤ nt ∧ Below M4 W4 wr ∧ StR wr M4 v (Sp.wlV n pn h ⟨qn, qb, false, qd⟩ b 0) ∧ Hid (num = Sp.numB n b 0 ∧ fd = Sp.fdV n pn h ⟨qn, qb, false, qd⟩ b 0)) (fun _ _ _ v12 _ _ _ _ _ _ => nt - (intOf v12).toNat)
  case atStart => exact ⟨_, 0, 0, -1, rfl, rfl, rfl, rfl, Nat.zero_le _, HB5.out, (by rw [HWL.out]; exact HR5.out), Lib.hid ⟨by unfold Sp.numB; simp, by rw [Sp.fd_not Sp.done_start]⟩⟩
  case round =>
    obtain ⟨v, b, num, fd, rfl, rfl, rfl, rfl, hb, hbw, hst, hx⟩ := hrel
    obtain ⟨Wo, hWo⟩ : ∃ Wo, Wo = wr := ⟨_, rfl⟩
    subst hWo
    have HBW := Lib.hid hbw
    have HSW := Lib.hid hst
    have HXW := hx
    have b0 : (0 : Int) ≤ (b : Int) := by omega
    have n2 : Wo.cell? ⟨N, 2, none⟩ = some (.slice A2 nt c2) := (HKN4.out.below hbw (by have := HLT.out; omega)).cell 2
    by_cases hbn : b < nt
    case neg =>
      have t1 : decide ((b : Int) < (nt : Int)) = false := decide_eq_false (by omega)
      have t1' : decide (b < nt) = false := decide_eq_false hbn
      have hbn2 : nt = b := by omega
      subst hbn2
      have hend := Sp.done_end (h := h) HQ.out (b := nt) HBX.out
      rw [hend.2] at hst
      have hfd : fd = ev := by rw [hx.out.2, hend.1, HEV.out]
      subst hfd
      have t2 : (fd == fd) = true := beq_self_eq_true _
      have HR1 : Hid (StR Wo W2.heap.size vn (Sp.stV (Sp.movesV n pn h))) := Lib.hid (ownsRow_below HSN4.out (by rw [HM4.out]; exact hbw))
      have HR2 := Lib.hid hst
      have HL := Lib.hid (show (Sp.stV (Sp.movesV n pn h)).length ≤ 1000000 by have := Sp.stV_len (Sp.movesV n pn h); have := HLEN.out; omega)
      clear hbw hst hx hb hbn hend
      go_wp2_with (first
        | (go_at_call 10; refine (law10_states _ _ _ _ _ Wo HR1.out HR2.out HL.out).mono ?_; rintro e W7 ⟨rfl, hb7⟩; have HB7 := Lib.hid ((HB4.out.trans (HBW.out.mono (by have := HLT.out; omega))).trans (hb7.mono (by have := HBW.out.size; have := HLT.out; have := HM4.out; omega))); clear hb7)
        | (go_at_call 12; refine (HKNOWN.out _ HB7.out).mono ?_; rintro e W8 ⟨rfl, hb8⟩; have HB8 := Lib.hid (below_bt HN.out HB7.out hb8); clear hb8))
      go_ret
      exact ⟨rfl, by rw [HN.out]; exact HB8.out⟩
    have t1 : decide ((b : Int) < (nt : Int)) = true := decide_eq_true (by omega)
    have t1' : decide (b < nt) = true := decide_eq_true hbn
    have b1 : (b : Int) < (nt : Int) := by omega
    have zb : IntKind.i64.wrap ((b : Int) + 1) = (b : Int) + 1 := by rw [IntKind.wrap_i64]; omega
    obtain ⟨t, ht⟩ : ∃ t, n.tables[b]? = some t := ⟨_, List.getElem?_eq_getElem (by have := HNT.out; omega)⟩
    obtain ⟨gt, ot, At, ct, rfl, hgt, m0, hev, _⟩ := HT4.out.at ht
    obtain ⟨tl, htl⟩ : ∃ tl, t.length = tl := ⟨_, rfl⟩
    rw [htl] at m0
    have h256 : tl ≤ 256 := by have := Sp.len_le_sum (List.mem_of_getElem? ht); have := HOK.out.tables.1; omega
    have HEVW := Lib.hid hev
    have HT := Lib.hid ht
    have HTL := Lib.hid htl
    have HGT := Lib.hid hgt
    have HM0 := Lib.hid m0
    have HBN := Lib.hid (show b + 1 ≤ nt by omega)
    have m1 : Wo.cell? ⟨gt, ot + b, none⟩ = some (.slice At tl ct) := (hbw.cell (p := ⟨gt, ot + b, none⟩) (by rw [← HM4.out]; exact hgt)).trans m0
    clear hbw hst hx hb hbn ht htl hgt hev m0
    go_wp2_with fail
    clear n2 m1
    go_loopw [9, 10, 11, 13, 14, 15, 16, 17] (fun v9 v10 v11 v13 _ _ _ _ wr => ∃ (v : Value) (i num : Nat) (fd : Int), v = v9 ∧ v10 = .int .i64 (num : Int) ∧ v11 = .int .i64 fd ∧ v13 = .int .i64 (i : Int) ∧ i ≤ tl ∧ Below M4 W4 wr ∧ StR wr M4 v (Sp.wlV n pn h ⟨qn, qb, false, qd⟩ b i) ∧ Hid (num = Sp.numB n b i ∧ fd = Sp.fdV n pn h ⟨qn, qb, false, qd⟩ b i)) (fun _ _ _ v13 _ _ _ _ _ => tl - (intOf v13).toNat)
    case atStart => exact ⟨_, 0, num, fd, rfl, rfl, rfl, rfl, Nat.zero_le _, HBW.out, HSW.out, HXW⟩
    case round =>
      clear HBW HSW HXW
      obtain ⟨v, i, num, fd, rfl, rfl, rfl, rfl, hi, hbw, hst, hx⟩ := hrel
      obtain ⟨Wa, hWa⟩ : ∃ Wa, Wa = wr := ⟨_, rfl⟩
      subst hWa
      have HBA := Lib.hid hbw
      have HST := Lib.hid hst
      have HX := hx
      have i0 : (0 : Int) ≤ (i : Int) := by omega
      have n2 : Wa.cell? ⟨N, 2, none⟩ = some (.slice (some ⟨gt, ot, none⟩) nt c2) := (HKN4.out.below hbw (by have := HLT.out; omega)).cell 2
      have m1 : Wa.cell? ⟨gt, ot + b, none⟩ = some (.slice At tl ct) := (hbw.cell (p := ⟨gt, ot + b, none⟩) (by rw [← HM4.out]; exact HGT.out)).trans HM0.out
      by_cases hil : i < tl
      case neg =>
        have s1 : decide ((i : Int) < (tl : Int)) = false := decide_eq_false (by omega)
        have s1' : decide (i < tl) = false := decide_eq_false hil
        have hi2 : tl = i := by omega
        subst hi2
        have hdt : Sp.doneB n pn h ⟨qn, qb, false, qd⟩ b tl = Sp.doneB n pn h ⟨qn, qb, false, qd⟩ (b + 1) 0 := Sp.done_table (fun hh => by cases hh)
        have HDT := Lib.hid hdt
        clear hbw hst hx hi hil hdt
        go_wp2_with fail
        go_roundw
        case rel => exact ⟨v, b + 1, num, fd, rfl, rfl, rfl, by rfl, HBN.out, HBA.out, (by rw [← Sp.wl_congr HDT.out]; exact HST.out), Lib.hid ⟨by rw [HX.out.1, ← HTL.out, Sp.numB_table HT.out], by rw [← Sp.fd_congr HDT.out]; exact HX.out.2⟩⟩
        case measure => have := HBN.out; simp [intOf]; omega
      have s1 : decide ((i : Int) < (tl : Int)) = true := decide_eq_true (by omega)
      have s1' : decide (i < tl) = true := decide_eq_true hil
      have s2 : (i : Int) < (tl : Int) := by omega
      have zi : IntKind.i64.wrap ((i : Int) + 1) = (i : Int) + 1 := by rw [IntKind.wrap_i64]; omega
      have zn : IntKind.i64.wrap ((num : Int) + 1) = (num : Int) + 1 := by
        have := Sp.numB_le HOK.out (b := b) (i := i) (by omega)
        have := hx.out.1
        rw [IntKind.wrap_i64]
        omega
      obtain ⟨e, he⟩ : ∃ e, t[i]? = some e := ⟨_, List.getElem?_eq_getElem (by have := HTL.out; omega)⟩
      obtain ⟨ge, oe, Ai, ci, Ac, cc, Ao, co, rfl, hge, r0, r1, r2, r3, r4, vi, vc, vo, _⟩ := HEVW.out.at he
      obtain ⟨li, hli⟩ : ∃ li, e.ins.length = li := ⟨_, rfl⟩
      obtain ⟨lc, hlc⟩ : ∃ lc, e.cubes.length = lc := ⟨_, rfl⟩
      obtain ⟨lo, hlo⟩ : ∃ lo, e.outs.length = lo := ⟨_, rfl⟩
      rw [hli] at r1
      rw [hlc] at r2
      rw [hlo] at r4
      have hge' : ge < M4 := by rw [← HM4.out]; exact hge
      replace r0 := (hbw.cell (p := ⟨ge, oe + i * 5, none⟩) hge').trans r0
      replace r1 := (hbw.cell (p := ⟨ge, oe + i * 5 + 1, none⟩) hge').trans r1
      replace r2 := (hbw.cell (p := ⟨ge, oe + i * 5 + 2, none⟩) hge').trans r2
      replace r3 := (hbw.cell (p := ⟨ge, oe + i * 5 + 3, none⟩) hge').trans r3
      replace r4 := (hbw.cell (p := ⟨ge, oe + i * 5 + 4, none⟩) hge').trans r4
      obtain ⟨V, hV⟩ : ∃ V, Wa.alloc (.cells #[.string e.name, .slice Ai li ci, .slice Ac lc cc, .string e.write, .slice Ao lo co] 48) = V := ⟨_, rfl⟩
      obtain ⟨Bx, hBx⟩ : ∃ Bx, Wa.heap.size = Bx := ⟨_, rfl⟩
      have hv0 : Below Wa.heap.size Wa V := by rw [← hV]; exact (Below.refl _ _).alloc (Nat.le_refl _) _
      have hkx : Blk V Bx 48 #[.string e.name, .slice Ai li ci, .slice Ac lc cc, .string e.write, .slice Ao lo co] := by rw [← hV, ← hBx]; exact Blk.new _ _ _
      have h4v : Below M4 W4 V := hbw.trans (hv0.mono (by have := hbw.size; have := HM4.out; omega))
      have HV0 := Lib.hid hv0
      have HKX := Lib.hid hkx
      have H4V := Lib.hid h4v
      have HEE := Lib.hid he
      have HI := Lib.hid (show i + 1 ≤ tl by omega)
      have HVI := Lib.hid vi
      have HVC := Lib.hid vc
      have HVO := Lib.hid vo
      have HLI := Lib.hid hli
      have HLC := Lib.hid hlc
      have HLO := Lib.hid hlo
      have hkP := HKP.out.below h4v HLT.out.2
      have q2 : V.cell? ⟨Bp, 2, none⟩ = some (.bool false) := hkP.cell 2
      have hkr : ∀ w', Below V.heap.size V w' → w'.cell? ⟨Bp, 2, none⟩ = some (.bool false) := fun w' hb => (hb.cell (p := ⟨Bp, 2, none⟩) (xcell_lt q2)).trans q2
      have HKR := Lib.hid hkr
      clear hkr hbw hst hx hi hil hv0 hkx h4v he hge hge' vi vc vo hli hlc hlo hkP
      go_wp2_with fail
      clear r0 r1 r2 r3 r4 n2 m1
      refine r19_case0 N Bp Bx b fd _ _ _ _ _ _ _ _ _ _ _ _ _ _ _ _ _ _ _ _ _ _ _ _ _ _ _ _ _ _ _ _ _ _ _ _ _ _ _ _ _ _ _ _ _ _ _ _ _ _ _ _ _ _ _ _ _ _ _ _ _ _ _ _ _ _ _ _ _ _ _ _ _ _ _ _ _ _ _ _ _ _ _ _ _ _ _ _ _ _ _ _ _ _ _ _ _ _ _ _ _ _ _ _ _ _ _ _ _ _ _ _ _ _ _ _ _ _ _ _ _ _ _ _ _ _ _ _ _ _ _ _ _ _ _ _ _ _ _ _ _ _ _ _ _ _ _ _ _ _ _ _ _ _ _ _ _ _ _ _ _ _ _ _ _ _ _ _ _ _ _ _ _ _ _ _ _ _ _ _ _ _ _ _ _ _ _ _ _ _ _ _ _ _ _ _ _ _ _ _ _ _ _ _ _ _ _ _ _ _ _ _ _ V HKR.out _ (fun _ _ _ _ _ h => h) ?_
      intro _ Vy hbz
      have HBZ := Lib.hid hbz
      clear hbz
      have hno : Sp.doneB n pn h ⟨qn, qb, false, qd⟩ b (i + 1) = Sp.doneB n pn h ⟨qn, qb, false, qd⟩ b i := Sp.done_no (fun hh => by cases hh.1)
      have HNO := Lib.hid hno
      clear hno
      go_wp2_with fail
      go_roundw
      case rel => exact ⟨v, i + 1, num + 1, fd, rfl, by rfl, rfl, by rfl, HI.out, HBA.out.trans ((HV0.out.trans (HBZ.out.mono HV0.out.size)).mono (by have := HBA.out.size; have := HM4.out; omega)), (by rw [Sp.wl_congr HNO.out]; exact ownsRow_below HST.out (HV0.out.trans (HBZ.out.mono HV0.out.size))), Lib.hid ⟨by rw [HX.out.1, Sp.numB_succ], by rw [Sp.fd_congr HNO.out]; exact HX.out.2⟩⟩
      case measure => have := HI.out; simp [intOf]; omega
theorem law_fits_out2 (n : Sp.Net) (A1 A2 A3 : Option Addr) (c1 c2 c3 : Nat) (p : Int) (h : ByteArray) (w : World) (hG : Gn w)
    (hnr : NetR w n [.int .i64 n.bits, .slice A1 n.ports.length c1, .slice A2 n.tables.length c2, .slice A3 n.guards.length c3]) (hsz : Sp.Szd n) (hh : h.size ≤ 9223372036854775807) (hE0 : Sp.checkE n p h = 0) (q : Sp.Port) (hq : n.ports[p.toNat]? = some q) (hcase : q.inn = false ∧ q.dst < 0) :
    Calls Tryz.prog 4 #[.agg #[.int .i64 n.bits, .slice A1 n.ports.length c1, .slice A2 n.tables.length c2, .slice A3 n.guards.length c3], .agg #[.int .i64 p, .string h]] w fun e w' => e = .returned (.bool true) ∧ Below w.heap.size w w' := by
  obtain ⟨N, hN⟩ : ∃ N, w.heap.size = N := ⟨_, rfl⟩
  obtain ⟨W2, hW2⟩ : ∃ W2, (w.alloc (.cells #[.int .i64 n.bits, .slice A1 n.ports.length c1, .slice A2 n.tables.length c2, .slice A3 n.guards.length c3] 26)).alloc (.cells #[.int .i64 p, .string h] 28) = W2 := ⟨_, rfl⟩
  have hb2w : Below w.heap.size w W2 := by rw [← hW2]; exact ((Below.refl _ _).alloc (Nat.le_refl _) _).alloc (by simp) _
  have hs2 : W2.heap.size = N + 2 := by rw [← hW2, ← hN]; simp
  have hkN : Blk W2 N 26 #[.int .i64 n.bits, .slice A1 n.ports.length c1, .slice A2 n.tables.length c2, .slice A3 n.guards.length c3] := by rw [← hW2, ← hN]; exact (Blk.new _ _ _).alloc _
  have hkS : Blk W2 (N + 1) 28 #[.int .i64 p, .string h] := by rw [← hW2, ← hN]; exact blk_new_at (by simp)
  have hC := step_Next n A1 A2 A3 c1 c2 c3 p h W2 (hG.below hb2w) (hnr.more hb2w) hsz hh
  have hKNOWN := fun (W : World) (hb : Below w.heap.size w W) => law10_known W (hG.below hb)
  obtain ⟨hp1, ht1, hg1⟩ : PV w A1 n.ports ∧ TTV w A2 n.tables ∧ GGV w A3 n.guards := by
    obtain ⟨B1, d1, B2, d2, B3, d3, hx, hv1, hv2, hv3, _⟩ := hnr
    injection hx with _ hx
    injection hx with e1 hx
    injection hx with e2 hx
    injection hx with e3 hx
    injection e1 with e1 _ _
    injection e2 with e2 _ _
    injection e3 with e3 _ _
    subst e1 e2 e3
    exact ⟨hv1, hv2, hv3⟩
  have hPV := hp1.more hb2w
  have hTV := ht1.more hb2w
  have hGV := hg1.more hb2w
  obtain ⟨bt, hbt⟩ : ∃ b, n.bits = b := ⟨_, rfl⟩
  obtain ⟨np, hnp⟩ : ∃ np, n.ports.length = np := ⟨_, rfl⟩
  obtain ⟨nt, hnt⟩ : ∃ nt, n.tables.length = nt := ⟨_, rfl⟩
  obtain ⟨ng, hng⟩ : ∃ ng, n.guards.length = ng := ⟨_, rfl⟩
  rw [hbt, hnp, hnt, hng] at hW2 hkN hC ⊢
  obtain ⟨E, hE⟩ : ∃ E, Sp.checkE n p h = E := ⟨_, rfl⟩
  have x0 : W2.cell? ⟨N, 0, none⟩ = some (.int .i64 bt) := hkN.cell 0
  have x1 : W2.cell? ⟨N, 1, none⟩ = some (.slice A1 np c1) := hkN.cell 1
  have x2 : W2.cell? ⟨N, 2, none⟩ = some (.slice A2 nt c2) := hkN.cell 2
  have x3 : W2.cell? ⟨N, 3, none⟩ = some (.slice A3 ng c3) := hkN.cell 3
  have x4 : W2.cell? ⟨N + 1, 0, none⟩ = some (.int .i64 p) := hkS.cell 0
  have x5 : W2.cell? ⟨N + 1, 1, none⟩ = some (.string h) := hkS.cell 1
  have HN := Lib.hid hN
  have HB2 : Hid (Below N w W2) := Lib.hid (by rw [← hN]; exact hb2w)
  have HS2 := Lib.hid hs2
  have HKN := Lib.hid hkN
  have HKS := Lib.hid hkS
  have HC := Lib.hid hC
  have HKNOWN : Hid (∀ W, Below N w W → Calls Tryz.prog 12 #[] W fun e w' => e = .returned (.bool true) ∧ Below W.heap.size W w') := Lib.hid (by rw [← hN]; exact hKNOWN)
  have HPV := Lib.hid hPV
  have HTV := Lib.hid hTV
  have HGV := Lib.hid hGV
  have HNP := Lib.hid hnp
  have HNT := Lib.hid hnt
  have HNG := Lib.hid hng
  have HE := Lib.hid hE
  clear hb2w hs2 hkN hkS hC hKNOWN hp1 ht1 hg1 hPV hTV hGV hbt hnp hnt hng hE hG hnr hsz
  have hz : E = 0 := by rw [← HE.out]; exact hE0
  have HCASE := Lib.hid hcase
  clear hcase hE0
  subst hz
  have te : ((0 : Int) != 0) = false := rfl
  obtain ⟨HOK, HSK⟩ : Hid (Sp.NetOk n) ∧ Hid (Sp.StateOk n p h) := ⟨Lib.hid (Sp.checkE_zero HE.out).1, Lib.hid (Sp.checkE_zero HE.out).2⟩
  obtain ⟨pn, rfl⟩ : ∃ k : Nat, p = k := ⟨p.toNat, by have := HSK.out.port; omega⟩
  have hngp : np = ng := by rw [← HNG.out, ← HNP.out]; exact HOK.out.nguards.symm
  subst hngp
  rw [Int.toNat_natCast] at hq
  have hpl : pn < np := by have := (List.getElem?_eq_some_iff.1 hq).1; have := HNP.out; omega
  have h48 : np ≤ 48 := by have := HOK.out.nports; have := HNP.out; omega
  have h16 : nt ≤ 16 := by have := HOK.out.ntables; have := HNT.out; omega
  have hhs : h.size ≤ 1000000 := by have := HSK.out.bits; have := HOK.out.bits; omega
  have p0 : (0 : Int) ≤ (pn : Int) := by omega
  have p1 : (pn : Int) < (np : Int) := by omega
  have p2 : decide ((pn : Int) < 0) = false := decide_eq_false (by omega)
  have p3 : decide ((pn : Int) ≥ (np : Int)) = false := decide_eq_false (by omega)
  have p4 : decide (np ≤ pn) = false := decide_eq_false (by omega)
  have p5 : ((np : Int) != (np : Int)) = false := by simp
  have hbx : q.box.toNat < nt := by have := (HOK.out.ports pn q hq).box; have := HNT.out; omega
  have HBX := Lib.hid hbx
  obtain ⟨gq, oq, rfl, hgq, k0, k1, k2, k3⟩ := HPV.out.at hq
  have HQ := Lib.hid hq
  have HHS := Lib.hid hhs
  have HGQ := Lib.hid hgq
  have HK4 := Lib.hid (show W2.cell? ⟨gq, oq + pn * 4, none⟩ = some (.string q.name) ∧ W2.cell? ⟨gq, oq + pn * 4 + 1, none⟩ = some (.int .i64 q.box) ∧ W2.cell? ⟨gq, oq + pn * 4 + 2, none⟩ = some (.bool q.inn) ∧ W2.cell? ⟨gq, oq + pn * 4 + 3, none⟩ = some (.int .i64 q.dst) from ⟨k0, k1, k2, k3⟩)
  clear hq hhs hbx hgq k0 k1 k2 k3
  go_enter Tryz.func4, Tryz.ntmps4
  go_wp2_with fail
  refine HC.out.mono ?_
  rintro e W3 ⟨vn, rfl, hst, hb3⟩
  have hne : Sp.nextE n pn h = Sp.entryV n pn h := by unfold Sp.nextE; rw [HE.out, if_pos rfl, Int.toNat_natCast]
  have hns : Sp.nextS n pn h = Sp.stV (Sp.movesV n pn h) := by unfold Sp.nextS; rw [HE.out, if_pos rfl, Int.toNat_natCast]
  rw [hns] at hst
  obtain ⟨ev, hev⟩ : ∃ ev, Sp.entryV n pn h = ev := ⟨_, rfl⟩
  rw [hne, hev, HE.out]
  have HEV := Lib.hid hev
  have HSN := Lib.hid hst
  have HB3 := Lib.hid (HB2.out.trans (hb3.mono (by have := HS2.out; omega)))
  have hkN3 := HKN.out.below hb3 HKN.out.lt
  have hkS3 := HKS.out.below hb3 HKS.out.lt
  have y1 : W3.cell? ⟨N, 1, none⟩ = some (.slice (some ⟨gq, oq, none⟩) np c1) := hkN3.cell 1
  have y2 : W3.cell? ⟨N, 2, none⟩ = some (.slice A2 nt c2) := hkN3.cell 2
  have y3 : W3.cell? ⟨N, 3, none⟩ = some (.slice A3 np c3) := hkN3.cell 3
  have y4 : W3.cell? ⟨N + 1, 0, none⟩ = some (.int .i64 (pn : Int)) := hkS3.cell 0
  have y5 : W3.cell? ⟨N + 1, 1, none⟩ = some (.string h) := hkS3.cell 1
  obtain ⟨qn, qb, qi, qd⟩ := q
  have k0 : W3.cell? ⟨gq, oq + pn * 4, none⟩ = some (.string qn) := (hb3.cell (p := ⟨gq, oq + pn * 4, none⟩) HGQ.out).trans HK4.out.1
  have k1 : W3.cell? ⟨gq, oq + pn * 4 + 1, none⟩ = some (.int .i64 qb) := (hb3.cell (p := ⟨gq, oq + pn * 4 + 1, none⟩) HGQ.out).trans HK4.out.2.1
  have k2 : W3.cell? ⟨gq, oq + pn * 4 + 2, none⟩ = some (.bool qi) := (hb3.cell (p := ⟨gq, oq + pn * 4 + 2, none⟩) HGQ.out).trans HK4.out.2.2.1
  have k3 : W3.cell? ⟨gq, oq + pn * 4 + 3, none⟩ = some (.int .i64 qd) := (hb3.cell (p := ⟨gq, oq + pn * 4 + 3, none⟩) HGQ.out).trans HK4.out.2.2.2
  obtain ⟨W4, hW4⟩ : ∃ W4, W3.alloc (.cells #[.string qn, .int .i64 qb, .bool qi, .int .i64 qd] 43) = W4 := ⟨_, rfl⟩
  obtain ⟨Bp, hBp⟩ : ∃ Bp, W3.heap.size = Bp := ⟨_, rfl⟩
  have hb34 : Below W3.heap.size W3 W4 := by rw [← hW4]; exact (Below.refl _ _).alloc (Nat.le_refl _) _
  have hkP : Blk W4 Bp 43 #[.string qn, .int .i64 qb, .bool qi, .int .i64 qd] := by rw [← hW4, ← hBp]; exact Blk.new _ _ _
  have hkN4 := hkN3.below hb34 hkN3.lt
  have hkS4 := hkS3.below hb34 hkS3.lt
  have z1 : W4.cell? ⟨Bp, 2, none⟩ = some (.bool qi) := hkP.cell 2
  have z2 : W4.cell? ⟨Bp, 3, none⟩ = some (.int .i64 qd) := hkP.cell 3
  have z3 : W4.cell? ⟨N + 1, 1, none⟩ = some (.string h) := hkS4.cell 1
  have HB4 := Lib.hid (HB3.out.trans (hb34.mono (by have := HB3.out.size; omega)))
  have HP4 := Lib.hid (HPV.out.more (hb3.trans (hb34.mono hb3.size)))
  have HT4 := Lib.hid (HTV.out.more (hb3.trans (hb34.mono hb3.size)))
  have HG4 := Lib.hid (HGV.out.more (hb3.trans (hb34.mono hb3.size)))
  have HSN4 := Lib.hid (show StR W4 W2.heap.size vn (Sp.stV (Sp.movesV n pn h)) from ownsRow_below hst hb34)
  have HKP := Lib.hid hkP
  have HKN4 := Lib.hid hkN4
  have HKS4 := Lib.hid hkS4
  have HLEN := Lib.hid (Sp.movesV_len HOK.out HSK.out)
  obtain ⟨M4, hM4⟩ : ∃ M4, W4.heap.size = M4 := ⟨_, rfl⟩
  have HM4 := Lib.hid hM4
  have HLT := Lib.hid (show N + 1 < M4 ∧ Bp < M4 by have := hkP.lt; have := hkS4.lt; omega)
  have hwl := Sp.wl_start (h := h) HQ.out
  clear hst hb3 hb34 hkN3 hkS3 hkN4 hkS4 hkP hM4 hev hne hns HC HPV HTV HGV HKN HKS HK4 HSN x0 x1 x2 x3 x4 x5
  obtain rfl : qi = false := HCASE.out.1
  have hqd : qd < 0 := HCASE.out.2
  have t5 : decide (qd ≥ 0) = false := decide_eq_false (by omega)
  rw [if_neg (fun hx => by have : 0 ≤ qd := hx.2; omega)] at hwl
  clear hqd
  have HWL := Lib.hid hwl
  clear hwl HCASE
  go_wp2_with (go_at_call 9; refine (law10_num _ _).mono ?_; rintro e _ ⟨rfl, rfl⟩)
  clear z1 z2 z3 k0 k1 k2 k3 y1 y2 y3 y4 y5
  go_loopw [9, 10, 11, 12, 13, 14, 15, 16, 17] (fun v9 v10 v11 v12 _ _ _ _ _ wr => ∃ (v : Value) (b num : Nat) (fd : Int), v = v9 ∧ v10 = .int .i64 (num : Int) ∧ v11 = .int .i64 fd ∧ v12 = .int .i64 (b : Int) ∧ b ≤ nt ∧ Below M4 W4 wr ∧ StR wr M4 v (Sp.wlV n pn h ⟨qn, qb, false, qd⟩ b 0) ∧ Hid (num = Sp.numB n b 0 ∧ fd = Sp.fdV n pn h ⟨qn, qb, false, qd⟩ b 0)) (fun _ _ _ v12 _ _ _ _ _ _ => nt - (intOf v12).toNat)
  case atStart => exact ⟨_, 0, 0, -1, rfl, rfl, rfl, rfl, Nat.zero_le _, Below.refl _ _, (by rw [HWL.out]; exact World.ownsRow_nil _ _ _ _), Lib.hid ⟨by unfold Sp.numB; simp, by rw [Sp.fd_not Sp.done_start]⟩⟩
  case round =>
    obtain ⟨v, b, num, fd, rfl, rfl, rfl, rfl, hb, hbw, hst, hx⟩ := hrel
    obtain ⟨Wo, hWo⟩ : ∃ Wo, Wo = wr := ⟨_, rfl⟩
    subst hWo
    have HBW := Lib.hid hbw
    have HSW := Lib.hid hst
    have HXW := hx
    have b0 : (0 : Int) ≤ (b : Int) := by omega
    have n2 : Wo.cell? ⟨N, 2, none⟩ = some (.slice A2 nt c2) := (HKN4.out.below hbw (by have := HLT.out; omega)).cell 2
    by_cases hbn : b < nt
    case neg =>
      have t1 : decide ((b : Int) < (nt : Int)) = false := decide_eq_false (by omega)
      have t1' : decide (b < nt) = false := decide_eq_false hbn
      have hbn2 : nt = b := by omega
      subst hbn2
      have hend := Sp.done_end (h := h) HQ.out (b := nt) HBX.out
      rw [hend.2] at hst
      have hfd : fd = ev := by rw [hx.out.2, hend.1, HEV.out]
      subst hfd
      have t2 : (fd == fd) = true := beq_self_eq_true _
      have HR1 : Hid (StR Wo W2.heap.size vn (Sp.stV (Sp.movesV n pn h))) := Lib.hid (ownsRow_below HSN4.out (by rw [HM4.out]; exact hbw))
      have HR2 := Lib.hid hst
      have HL := Lib.hid (show (Sp.stV (Sp.movesV n pn h)).length ≤ 1000000 by have := Sp.stV_len (Sp.movesV n pn h); have := HLEN.out; omega)
      clear hbw hst hx hb hbn hend
      go_wp2_with (first
        | (go_at_call 10; refine (law10_states _ _ _ _ _ Wo HR1.out HR2.out HL.out).mono ?_; rintro e W7 ⟨rfl, hb7⟩; have HB7 := Lib.hid ((HB4.out.trans (HBW.out.mono (by have := HLT.out; omega))).trans (hb7.mono (by have := HBW.out.size; have := HLT.out; have := HM4.out; omega))); clear hb7)
        | (go_at_call 12; refine (HKNOWN.out _ HB7.out).mono ?_; rintro e W8 ⟨rfl, hb8⟩; have HB8 := Lib.hid (below_bt HN.out HB7.out hb8); clear hb8))
      go_ret
      exact ⟨rfl, by rw [HN.out]; exact HB8.out⟩
    have t1 : decide ((b : Int) < (nt : Int)) = true := decide_eq_true (by omega)
    have t1' : decide (b < nt) = true := decide_eq_true hbn
    have b1 : (b : Int) < (nt : Int) := by omega
    have zb : IntKind.i64.wrap ((b : Int) + 1) = (b : Int) + 1 := by rw [IntKind.wrap_i64]; omega
    obtain ⟨t, ht⟩ : ∃ t, n.tables[b]? = some t := ⟨_, List.getElem?_eq_getElem (by have := HNT.out; omega)⟩
    obtain ⟨gt, ot, At, ct, rfl, hgt, m0, hev, _⟩ := HT4.out.at ht
    obtain ⟨tl, htl⟩ : ∃ tl, t.length = tl := ⟨_, rfl⟩
    rw [htl] at m0
    have h256 : tl ≤ 256 := by have := Sp.len_le_sum (List.mem_of_getElem? ht); have := HOK.out.tables.1; omega
    have HEVW := Lib.hid hev
    have HT := Lib.hid ht
    have HTL := Lib.hid htl
    have HGT := Lib.hid hgt
    have HM0 := Lib.hid m0
    have HBN := Lib.hid (show b + 1 ≤ nt by omega)
    have m1 : Wo.cell? ⟨gt, ot + b, none⟩ = some (.slice At tl ct) := (hbw.cell (p := ⟨gt, ot + b, none⟩) (by rw [← HM4.out]; exact hgt)).trans m0
    clear hbw hst hx hb hbn ht htl hgt hev m0
    go_wp2_with fail
    clear n2 m1
    go_loopw [9, 10, 11, 13, 14, 15, 16, 17] (fun v9 v10 v11 v13 _ _ _ _ wr => ∃ (v : Value) (i num : Nat) (fd : Int), v = v9 ∧ v10 = .int .i64 (num : Int) ∧ v11 = .int .i64 fd ∧ v13 = .int .i64 (i : Int) ∧ i ≤ tl ∧ Below M4 W4 wr ∧ StR wr M4 v (Sp.wlV n pn h ⟨qn, qb, false, qd⟩ b i) ∧ Hid (num = Sp.numB n b i ∧ fd = Sp.fdV n pn h ⟨qn, qb, false, qd⟩ b i)) (fun _ _ _ v13 _ _ _ _ _ => tl - (intOf v13).toNat)
    case atStart => exact ⟨_, 0, num, fd, rfl, rfl, rfl, rfl, Nat.zero_le _, HBW.out, HSW.out, HXW⟩
    case round =>
      clear HBW HSW HXW
      obtain ⟨v, i, num, fd, rfl, rfl, rfl, rfl, hi, hbw, hst, hx⟩ := hrel
      obtain ⟨Wa, hWa⟩ : ∃ Wa, Wa = wr := ⟨_, rfl⟩
      subst hWa
      have HBA := Lib.hid hbw
      have HST := Lib.hid hst
      have HX := hx
      have i0 : (0 : Int) ≤ (i : Int) := by omega
      have n2 : Wa.cell? ⟨N, 2, none⟩ = some (.slice (some ⟨gt, ot, none⟩) nt c2) := (HKN4.out.below hbw (by have := HLT.out; omega)).cell 2
      have m1 : Wa.cell? ⟨gt, ot + b, none⟩ = some (.slice At tl ct) := (hbw.cell (p := ⟨gt, ot + b, none⟩) (by rw [← HM4.out]; exact HGT.out)).trans HM0.out
      by_cases hil : i < tl
      case neg =>
        have s1 : decide ((i : Int) < (tl : Int)) = false := decide_eq_false (by omega)
        have s1' : decide (i < tl) = false := decide_eq_false hil
        have hi2 : tl = i := by omega
        subst hi2
        have hdt : Sp.doneB n pn h ⟨qn, qb, false, qd⟩ b tl = Sp.doneB n pn h ⟨qn, qb, false, qd⟩ (b + 1) 0 := Sp.done_table (fun hh => by cases hh)
        have HDT := Lib.hid hdt
        clear hbw hst hx hi hil hdt
        go_wp2_with fail
        go_roundw
        case rel => exact ⟨v, b + 1, num, fd, rfl, rfl, rfl, by rfl, HBN.out, HBA.out, (by rw [← Sp.wl_congr HDT.out]; exact HST.out), Lib.hid ⟨by rw [HX.out.1, ← HTL.out, Sp.numB_table HT.out], by rw [← Sp.fd_congr HDT.out]; exact HX.out.2⟩⟩
        case measure => have := HBN.out; simp [intOf]; omega
      have s1 : decide ((i : Int) < (tl : Int)) = true := decide_eq_true (by omega)
      have s1' : decide (i < tl) = true := decide_eq_true hil
      have s2 : (i : Int) < (tl : Int) := by omega
      have zi : IntKind.i64.wrap ((i : Int) + 1) = (i : Int) + 1 := by rw [IntKind.wrap_i64]; omega
      have zn : IntKind.i64.wrap ((num : Int) + 1) = (num : Int) + 1 := by
        have := Sp.numB_le HOK.out (b := b) (i := i) (by omega)
        have := hx.out.1
        rw [IntKind.wrap_i64]
        omega
      obtain ⟨e, he⟩ : ∃ e, t[i]? = some e := ⟨_, List.getElem?_eq_getElem (by have := HTL.out; omega)⟩
      obtain ⟨ge, oe, Ai, ci, Ac, cc, Ao, co, rfl, hge, r0, r1, r2, r3, r4, vi, vc, vo, _⟩ := HEVW.out.at he
      obtain ⟨li, hli⟩ : ∃ li, e.ins.length = li := ⟨_, rfl⟩
      obtain ⟨lc, hlc⟩ : ∃ lc, e.cubes.length = lc := ⟨_, rfl⟩
      obtain ⟨lo, hlo⟩ : ∃ lo, e.outs.length = lo := ⟨_, rfl⟩
      rw [hli] at r1
      rw [hlc] at r2
      rw [hlo] at r4
      have hge' : ge < M4 := by rw [← HM4.out]; exact hge
      replace r0 := (hbw.cell (p := ⟨ge, oe + i * 5, none⟩) hge').trans r0
      replace r1 := (hbw.cell (p := ⟨ge, oe + i * 5 + 1, none⟩) hge').trans r1
      replace r2 := (hbw.cell (p := ⟨ge, oe + i * 5 + 2, none⟩) hge').trans r2
      replace r3 := (hbw.cell (p := ⟨ge, oe + i * 5 + 3, none⟩) hge').trans r3
      replace r4 := (hbw.cell (p := ⟨ge, oe + i * 5 + 4, none⟩) hge').trans r4
      obtain ⟨V, hV⟩ : ∃ V, Wa.alloc (.cells #[.string e.name, .slice Ai li ci, .slice Ac lc cc, .string e.write, .slice Ao lo co] 48) = V := ⟨_, rfl⟩
      obtain ⟨Bx, hBx⟩ : ∃ Bx, Wa.heap.size = Bx := ⟨_, rfl⟩
      have hv0 : Below Wa.heap.size Wa V := by rw [← hV]; exact (Below.refl _ _).alloc (Nat.le_refl _) _
      have hkx : Blk V Bx 48 #[.string e.name, .slice Ai li ci, .slice Ac lc cc, .string e.write, .slice Ao lo co] := by rw [← hV, ← hBx]; exact Blk.new _ _ _
      have h4v : Below M4 W4 V := hbw.trans (hv0.mono (by have := hbw.size; have := HM4.out; omega))
      have HV0 := Lib.hid hv0
      have HKX := Lib.hid hkx
      have H4V := Lib.hid h4v
      have HEE := Lib.hid he
      have HI := Lib.hid (show i + 1 ≤ tl by omega)
      have HVI := Lib.hid vi
      have HVC := Lib.hid vc
      have HVO := Lib.hid vo
      have HLI := Lib.hid hli
      have HLC := Lib.hid hlc
      have HLO := Lib.hid hlo
      have hkP := HKP.out.below h4v HLT.out.2
      have q2 : V.cell? ⟨Bp, 2, none⟩ = some (.bool false) := hkP.cell 2
      have hkr : ∀ w', Below V.heap.size V w' → w'.cell? ⟨Bp, 2, none⟩ = some (.bool false) := fun w' hb => (hb.cell (p := ⟨Bp, 2, none⟩) (xcell_lt q2)).trans q2
      have HKR := Lib.hid hkr
      clear hkr hbw hst hx hi hil hv0 hkx h4v he hge hge' vi vc vo hli hlc hlo hkP
      go_wp2_with fail
      clear r0 r1 r2 r3 r4 n2 m1
      refine r19_case0 N Bp Bx b fd _ _ _ _ _ _ _ _ _ _ _ _ _ _ _ _ _ _ _ _ _ _ _ _ _ _ _ _ _ _ _ _ _ _ _ _ _ _ _ _ _ _ _ _ _ _ _ _ _ _ _ _ _ _ _ _ _ _ _ _ _ _ _ _ _ _ _ _ _ _ _ _ _ _ _ _ _ _ _ _ _ _ _ _ _ _ _ _ _ _ _ _ _ _ _ _ _ _ _ _ _ _ _ _ _ _ _ _ _ _ _ _ _ _ _ _ _ _ _ _ _ _ _ _ _ _ _ _ _ _ _ _ _ _ _ _ _ _ _ _ _ _ _ _ _ _ _ _ _ _ _ _ _ _ _ _ _ _ _ _ _ _ _ _ _ _ _ _ _ _ _ _ _ _ _ _ _ _ _ _ _ _ _ _ _ _ _ _ _ _ _ _ _ _ _ _ _ _ _ _ _ _ _ _ _ _ _ _ _ _ _ _ _ V HKR.out _ (fun _ _ _ _ _ h => h) ?_
      intro _ Vy hbz
      have HBZ := Lib.hid hbz
      clear hbz
      have hno : Sp.doneB n pn h ⟨qn, qb, false, qd⟩ b (i + 1) = Sp.doneB n pn h ⟨qn, qb, false, qd⟩ b i := Sp.done_no (fun hh => by cases hh.1)
      have HNO := Lib.hid hno
      clear hno
      go_wp2_with fail
      go_roundw
      case rel => exact ⟨v, i + 1, num + 1, fd, rfl, by rfl, rfl, by rfl, HI.out, HBA.out.trans ((HV0.out.trans (HBZ.out.mono HV0.out.size)).mono (by have := HBA.out.size; have := HM4.out; omega)), (by rw [Sp.wl_congr HNO.out]; exact ownsRow_below HST.out (HV0.out.trans (HBZ.out.mono HV0.out.size))), Lib.hid ⟨by rw [HX.out.1, Sp.numB_succ], by rw [Sp.fd_congr HNO.out]; exact HX.out.2⟩⟩
      case measure => have := HI.out; simp [intOf]; omega
end Go.Proofs.YthjenkbgiomibaaGreatDoor
