/-
  THE WALKS of the reader's method factor and of expr.Read (chapter 5).
-/
import Derived.Test.YtdmpapoabeljfaaGreatDoorEj
set_option linter.unusedVariables false
set_option linter.unusedSimpArgs false
set_option maxRecDepth 100000
set_option maxHeartbeats 8000000
namespace Go.Proofs.YtdmpapoabeljfaaGreatDoor
open Go.RowKit

theorem fac_leaf (W0 : World) (N : Nat) (A : Option Addr) (n cap p m op : Nat) (ns : List Sp.Nd) (zs : List ZTok) (w : World) (hst : RSt W0 N A n cap p m op ns w) (hG : ∀ w, Below N W0 w → Gs w) (hn : zs.length = n) (hnb : n ≤ 4611686018427387904) (hv : ViewZ W0 N A zs) (hts : ∀ z ∈ zs, z.2.1.size ≤ 9223372036854775807) (hp : p ≤ n) (hm : m ≤ 64) (hns : ns.length ≤ m) (h33 : Sp.sgAt (zs.map ptZ) p [33] = false) (h40 : Sp.sgAt (zs.map ptZ) p [40] = false) :
    Calls Tryz.prog 53 #[.pointer (some ⟨N, 0, none⟩)] w (REnd W0 N A n cap op (Sp.leafV (zs.map ptZ) p ns m)) := by
  have hTl : (zs.map ptZ).length = n := by rw [List.length_map]; exact hn
  obtain ⟨R, hR⟩ : ∃ R, Sp.leafV (zs.map ptZ) p ns m = R := ⟨_, rfl⟩
  rw [hR]
  have hns2 : ns.length ≤ 100000 := by omega
  have HC1 := Lib.hid (st_sign hst ⟨#[33]⟩ hn hv h33)
  have HC2 := Lib.hid (fun W (h : RSt W0 N A n cap p m op ns W) => st_sign h ⟨#[40]⟩ hn hv h40)
  have HR := Lib.hid hR
  have HV := Lib.hid hv
  have HN := Lib.hid hn
  have HG := Lib.hid hG
  have HTS := Lib.hid hts
  have HTL := Lib.hid hTl
  clear hR hv hn hG hts hTl h33 h40 hst
  go_enter Tryz.func53, Tryz.ntmps53
  go_wp2_with fail
  refine HC1.out.mono ?_
  rintro e w1 ⟨rfl, hs1⟩
  go_wp2_with fail
  refine (HC2.out _ hs1).mono ?_
  rintro e w2 ⟨rfl, hs2⟩
  clear hs1
  have HS2 := Lib.hid hs2
  obtain ⟨tv, r2, n2, b2⟩ := hs2
  have c0 : w2.cell? ⟨N, 0, none⟩ = some (.slice A n cap) := r2.cell 0
  have c1 : w2.cell? ⟨N, 1, none⟩ = some (.int .i64 p) := r2.cell 1
  have hNlt := r2.lt
  have hvw := HV.out.below b2 (Nat.le_refl _)
  have HB2 := Lib.hid b2
  have HFL := Lib.hid (fun k => st_fail (HS2.out.drewN k) 50)
  clear r2 n2 b2
  by_cases hlt : p < n
  rotate_left
  · have q1 : decide ((p : Int) ≥ n) = true := decide_eq_true (by omega)
    have q1b : decide (n ≤ p) = true := decide_eq_true (by omega)
    have hr : R = .bad 50 p := by
      rw [← HR.out]
      unfold Sp.leafV
      rw [kd_none HTL.out hlt, if_neg (fun h => absurd h.1 (by decide))]
    have HRR := Lib.hid hr
    clear hr hlt hvw
    go_wp2_with fail
    go_quiet (fail)
    go_wp2_with (go_at_call 54; refine (HFL.out _).mono ?_; rintro e w3 ⟨rfl, h3⟩)
    go_ret
    exact REnd_bad HRR.out rfl h3
  have q1 : decide ((p : Int) ≥ n) = false := decide_eq_false (by omega)
  have q1b : decide (n ≤ p) = false := decide_eq_false (by omega)
  have p1 : (p : Int) < n := by omega
  have p2 : (0 : Int) ≤ (p : Int) := by omega
  have p3 : (p : Int) ≤ 4611686018427387904 := by omega
  obtain ⟨z, hz⟩ : ∃ z, zs[p]? = some z := ⟨_, List.getElem?_eq_getElem (by rw [HN.out]; exact hlt)⟩
  obtain ⟨hk1, hk2⟩ := kd_some hz
  have hzs := HTS.out z (List.mem_of_getElem? hz)
  obtain ⟨g, o, rfl, hg, a0, a1, _, _⟩ := hvw p z hz
  obtain ⟨k, t, l, cc⟩ := z
  simp only [] at a0 a1 hk1 hk2 hzs
  by_cases hk : k = 2
  rotate_left
  · have q2 : ((k : Int) != 2) = true := by rw [bne_iff_ne]; exact hk
    have hr : R = .bad 50 p := by
      rw [← HR.out]
      unfold Sp.leafV
      rw [hk1, if_neg (fun h => hk h.1)]
    have HRR := Lib.hid hr
    clear hr hlt hvw hk1 hk2 hk hzs hz
    go_wp2_with fail
    go_quiet (fail)
    go_wp2_with (go_at_call 54; refine (HFL.out _).mono ?_; rintro e w3 ⟨rfl, h3⟩)
    go_ret
    exact REnd_bad HRR.out rfl h3
  have q2 : ((k : Int) != 2) = false := by rw [bne_eq_false_iff_eq]; exact hk
  have hglt : g < w2.heap.size := by omega
  have hS0 : w2.cell? ⟨N, 0, none⟩ = some (.slice (some ⟨g, o, none⟩) n cap) ∧ w2.cell? ⟨N, 1, none⟩ = some (.int .i64 p) ∧ w2.cell? ⟨g, o + p * 4, none⟩ = some (.int .i64 k) ∧ w2.cell? ⟨g, o + p * 4 + 1, none⟩ = some (.string t) := ⟨c0, c1, a0, a1⟩
  have hkeep : ∀ w5, Below w2.drew.heap.size w2.drew w5 → w5.cell? ⟨N, 0, none⟩ = some (.slice (some ⟨g, o, none⟩) n cap) ∧ w5.cell? ⟨N, 1, none⟩ = some (.int .i64 p) ∧ w5.cell? ⟨g, o + p * 4, none⟩ = some (.int .i64 k) ∧ w5.cell? ⟨g, o + p * 4 + 1, none⟩ = some (.string t) := fun w5 hb5 =>
    ⟨(hb5.cell (p := ⟨N, 0, none⟩) hNlt).trans c0, (hb5.cell (p := ⟨N, 1, none⟩) hNlt).trans c1, (hb5.cell (p := ⟨g, o + p * 4, none⟩) hglt).trans a0, (hb5.cell (p := ⟨g, o + p * 4 + 1, none⟩) hglt).trans a1⟩
  have HK := Lib.hid hkeep
  have hin := expr_isName t w2.drew (HG.out _ HB2.out.drew) hzs
  obtain ⟨nb, hnbv⟩ : ∃ nb, Sp.nameB t.data.toList = nb := ⟨_, rfl⟩
  rw [hnbv] at hin
  have HIN := Lib.hid hin
  have HAF := Lib.hid (fun w5 (hb5 : Below w2.drew.heap.size w2.drew w5) => (HS2.out.drewN 1).below hb5)
  have hleaf : R = if nb = true then (if 64 ≤ m then .bad 51 p
      else if t.data.toList = Sp.anyW then .ok (p + 1) (ns ++ [Sp.nd 1]) (m + 1)
      else if t.data.toList = Sp.noneW then .ok (p + 1) (ns ++ [Sp.nd 2]) (m + 1)
      else match Sp.testV (zs.map ptZ) t.data.toList (p + 1) with
        | .bad q => .bad 50 q
        | .ok q n => .ok q (ns ++ [n]) (m + 1)) else .bad 50 p := by
    rw [← HR.out]
    unfold Sp.leafV
    rw [hk1, hk2, hnbv]
    cases nb with
    | true => rw [if_pos ⟨hk, rfl⟩, if_pos rfl]; rfl
    | false => rw [if_neg (fun h => absurd h.2 (by decide)), if_neg (by decide)]
  have HLF := Lib.hid hleaf
  have HZ := Lib.hid hz
  clear hkeep hin hvw hk1 hk2 hk hz hnbv hleaf hlt
  cases nb with
  | false =>
    go_wp2_with fail
    go_region_held3 (fun w' => w'.cell? ⟨N, 0, none⟩ = some (.slice (some ⟨g, o, none⟩) n cap) ∧ w'.cell? ⟨N, 1, none⟩ = some (.int .i64 p) ∧ w'.cell? ⟨g, o + p * 4, none⟩ = some (.int .i64 k) ∧ w'.cell? ⟨g, o + p * 4 + 1, none⟩ = some (.string t))
      (first | go_keep | exact hS0 | exact ks)
      ((go_at_call 46; refine HIN.out.mono ?_; rintro e w4 ⟨rfl, hb4⟩; have ks := HK.out w4 hb4))
    have HF4 := Lib.hid (st_fail (HAF.out w4 hb4) 50)
    have HRR : Hid (R = .bad 50 p) := by show _ = _; rw [HLF.out, if_neg (by decide)]
    clear hS0 c0 c1 a0 a1 ks hb4
    go_wp2_with (go_at_call 54; refine HF4.out.mono ?_; rintro e w6 ⟨rfl, h6⟩)
    go_ret
    exact REnd_bad HRR.out rfl h6
  | true =>
    have hl0 := HLF.out
    rw [if_pos rfl] at hl0
    have HL0 := Lib.hid hl0
    clear hl0
    go_wp2_with fail
    go_region_held3 (fun w' => w'.cell? ⟨N, 0, none⟩ = some (.slice (some ⟨g, o, none⟩) n cap) ∧ w'.cell? ⟨N, 1, none⟩ = some (.int .i64 p) ∧ w'.cell? ⟨g, o + p * 4, none⟩ = some (.int .i64 k) ∧ w'.cell? ⟨g, o + p * 4 + 1, none⟩ = some (.string t))
      (first | go_keep | exact hS0 | exact ks)
      ((go_at_call 46; refine HIN.out.mono ?_; rintro e w4 ⟨rfl, hb4⟩; have ks := HK.out w4 hb4))
    have hT4 := HAF.out w4 hb4
    have HT4 := Lib.hid hT4
    clear hS0 c0 c1 a0 a1 ks hb4 hT4
    by_cases h64 : 64 ≤ m
    · have HRR : Hid (R = .bad 51 p) := by show _ = _; rw [HL0.out, if_pos h64]
      have HM := Lib.hid (st_makes_no HT4.out h64)
      clear h64
      go_wp2_with (go_at_call 31; refine HM.out.mono ?_; rintro e w6 ⟨rfl, h6⟩)
      go_ret
      exact REnd_bad HRR.out rfl h6
    have hm65 : m + 1 ≤ 64 := by omega
    have HM := Lib.hid (st_makes HT4.out h64)
    have hl2 := HL0.out
    rw [if_neg h64] at hl2
    have HL2 := Lib.hid hl2
    clear hl2 h64
    go_wp2_with fail
    refine HM.out.mono ?_
    rintro e w5 ⟨rfl, h5⟩
    have H5 := Lib.hid h5
    obtain ⟨tv, r5, n5, b5⟩ := h5
    have c0 : w5.cell? ⟨N, 0, none⟩ = some (.slice (some ⟨g, o, none⟩) n cap) := r5.cell 0
    have c1 : w5.cell? ⟨N, 1, none⟩ = some (.int .i64 p) := r5.cell 1
    have f1 := r5.frozen 1
    clear r5 n5
    obtain ⟨g', o', hA', hg', _, a1, _, _⟩ := HV.out.below b5 (Nat.le_refl _) p _ HZ.out
    injection hA' with hA'
    injection hA' with e1 e2 _
    subst e1 e2
    simp only [] at a1
    clear b5 hg'
    have HTC := Lib.hid (fun W (h : RSt W0 N (some ⟨g, o, none⟩) n cap (p + 1) (m + 1) op ns W) => expr_test W0 N _ n cap (p + 1) (m + 1) op ns zs W t h HG.out HN.out hnb HV.out HTS.out (by omega) hns2)
    by_cases hany : t.data.toList = Sp.anyW
    · have s1 : (t.toList == [97, 110, 121]) = true := by rw [Lib.toList_data, hany]; rfl
      have HRR : Hid (R = .ok (p + 1) (ns ++ [Sp.nd 1]) (m + 1)) := by show _ = _; rw [HL2.out, if_pos hany]
      clear hany
      go_wp2_with fail
      go_quiet (fail)
      go_wp2_with (go_at_call 32; refine (st_put0 ((H5.out.drewN _).at_) hns2 1).mono ?_; rintro e w6 ⟨rfl, h6⟩)
      go_ret
      exact REnd_ok HRR.out rfl h6
    have s1 : (t.toList == [97, 110, 121]) = false := by rw [Lib.toList_data]; exact beq_eq_false_iff_ne.2 hany
    by_cases hnone : t.data.toList = Sp.noneW
    · have s2 : (t.toList == [110, 111, 110, 101]) = true := by rw [Lib.toList_data, hnone]; rfl
      have HRR : Hid (R = .ok (p + 1) (ns ++ [Sp.nd 2]) (m + 1)) := by show _ = _; rw [HL2.out, if_neg hany, if_pos hnone]
      clear hany hnone
      go_wp2_with fail
      go_quiet (fail)
      go_wp2_with (go_at_call 32; refine (st_put0 ((H5.out.drewN _).at_) hns2 2).mono ?_; rintro e w6 ⟨rfl, h6⟩)
      go_ret
      exact REnd_ok HRR.out rfl h6
    have s2 : (t.toList == [110, 111, 110, 101]) = false := by rw [Lib.toList_data]; exact beq_eq_false_iff_ne.2 hnone
    have hl3 := HL2.out
    rw [if_neg hany, if_neg hnone] at hl3
    clear hany hnone
    cases ht : Sp.testV (zs.map ptZ) t.data.toList (p + 1) with
    | bad q =>
      rw [ht] at hl3
      have HRR := Lib.hid hl3
      have HTT : Hid (∀ W, RSt W0 N (some ⟨g, o, none⟩) n cap (p + 1) (m + 1) op ns W → Calls Tryz.prog 67 #[.pointer (some ⟨N, 0, none⟩), .string t] W fun e w' => e = .returned (.bool false) ∧ RBad W0 N (some ⟨g, o, none⟩) n cap q 50 w') := by
        intro W h
        have := HTC.out W h
        rw [ht] at this
        exact this
      clear ht hl3
      go_wp2_with fail
      go_quiet (fail)
      go_wp2_with (go_at_call 67; refine (HTT.out _ ((H5.out.drewN _).at_)).mono ?_; rintro e w6 ⟨rfl, h6⟩)
      go_ret
      exact REnd_bad HRR.out rfl h6
    | ok q x =>
      rw [ht] at hl3
      have HRR := Lib.hid hl3
      have HTT : Hid (∀ W, RSt W0 N (some ⟨g, o, none⟩) n cap (p + 1) (m + 1) op ns W → Calls Tryz.prog 67 #[.pointer (some ⟨N, 0, none⟩), .string t] W fun e w' => e = .returned (.bool true) ∧ RSt W0 N (some ⟨g, o, none⟩) n cap q (m + 1) op (ns ++ [x]) w') := by
        intro W h
        have := HTC.out W h
        rw [ht] at this
        exact this
      clear ht hl3
      go_wp2_with fail
      go_quiet (fail)
      go_wp2_with (go_at_call 67; refine (HTT.out _ ((H5.out.drewN _).at_)).mono ?_; rintro e w6 ⟨rfl, h6⟩)
      go_ret
      exact REnd_ok HRR.out rfl h6

/-- No more may be open. -/
theorem fac_deep (W0 : World) (N : Nat) (A : Option Addr) (n cap p m op : Nat) (ns : List Sp.Nd) (zs : List ZTok) (w : World) (hst : RSt W0 N A n cap p m op ns w) (hn : zs.length = n) (hv : ViewZ W0 N A zs) (hop : 32 ≤ op) (b33 b40 : Bool) (h33 : Sp.sgAt (zs.map ptZ) p [33] = b33) (h40 : Sp.sgAt (zs.map ptZ) p [40] = b40) (hb : (b33 || b40) = true) :
    Calls Tryz.prog 53 #[.pointer (some ⟨N, 0, none⟩)] w fun e w' => e = .returned (.bool false) ∧ RBad W0 N A n cap p 53 w' := by
  have HC1 := Lib.hid (st_sign hst ⟨#[33]⟩ hn hv h33)
  have HC2 := Lib.hid (fun W (h : RSt W0 N A n cap p m op ns W) => st_sign h ⟨#[40]⟩ hn hv h40)
  have q1 : decide ((op : Int) ≥ 32) = true := decide_eq_true (by omega)
  clear hv hn h33 h40 hst hop
  cases b33 with
  | true =>
    clear hb
    go_enter Tryz.func53, Tryz.ntmps53
    go_wp2_with fail
    refine HC1.out.mono ?_
    rintro e w1 ⟨rfl, hs1⟩
    have HF := Lib.hid (st_fail hs1 53)
    obtain ⟨c1, f1, c4, f4⟩ := hs1.cells
    clear hs1
    go_wp2_with (go_at_call 54; refine HF.out.mono ?_; rintro e w6 ⟨rfl, h6⟩)
    go_ret
    exact ⟨rfl, h6⟩
  | false =>
    rw [Bool.false_or] at hb
    subst hb
    go_enter Tryz.func53, Tryz.ntmps53
    go_wp2_with fail
    refine HC1.out.mono ?_
    rintro e w1 ⟨rfl, hs1⟩
    go_wp2_with fail
    refine (HC2.out _ hs1).mono ?_
    rintro e w2 ⟨rfl, hs2⟩
    have HF := Lib.hid (st_fail hs2 53)
    obtain ⟨c1, f1, c4, f4⟩ := hs2.cells
    clear hs1 hs2
    go_wp2_with (go_at_call 54; refine HF.out.mono ?_; rintro e w6 ⟨rfl, h6⟩)
    go_ret
    exact ⟨rfl, h6⟩

theorem fac_bang (W0 : World) (N : Nat) (A : Option Addr) (n cap p m op : Nat) (ns : List Sp.Nd) (zs : List ZTok) (w : World) (hst : RSt W0 N A n cap p m op ns w) (hn : zs.length = n) (hnb : n ≤ 4611686018427387904) (hv : ViewZ W0 N A zs) (hop : op < 32) (hm : m ≤ 64) (hns : ns.length ≤ m) (h33 : Sp.sgAt (zs.map ptZ) p [33] = true) (F : Nat → List Sp.Nd → Nat → Sp.Rd) (hF : FacCalls 53 W0 N A n cap (op + 1) F) (hB : Sp.Bnd (zs.map ptZ) F) (R : Sp.Rd)
    (hR : R = if 64 ≤ m then .bad 51 p else match F (p + 1) ns (m + 1) with | .bad c q => .bad c q | .ok q ns' m' => .ok q (ns' ++ [Sp.nd 4]) m') :
    Calls Tryz.prog 53 #[.pointer (some ⟨N, 0, none⟩)] w (REnd W0 N A n cap op R) := by
  have hTl : (zs.map ptZ).length = n := by rw [List.length_map]; exact hn
  have hlt := Sp.sg_lt h33
  rw [hTl] at hlt
  have HC1 := Lib.hid (st_sign hst ⟨#[33]⟩ hn hv h33)
  have q1 : decide ((op : Int) ≥ 32) = false := decide_eq_false (by omega)
  have o1 : (0 : Int) ≤ (op : Int) := by omega
  have o2 : (op : Int) ≤ 32 := by omega
  have p1 : (0 : Int) ≤ (p : Int) := by omega
  have p2 : (p : Int) ≤ 4611686018427387904 := by omega
  by_cases h64 : 64 ≤ m
  · rw [if_pos h64] at hR
    have HR := Lib.hid hR
    have HM := Lib.hid (fun W (h : RSt W0 N A n cap p m op ns W) => st_makes_no h h64)
    clear hv hn h33 hst hop hF hB hR h64 hTl hlt hm hns
    go_enter Tryz.func53, Tryz.ntmps53
    go_wp2_with fail
    refine HC1.out.mono ?_
    rintro e w1 ⟨rfl, hs1⟩
    have HM1 := Lib.hid (HM.out _ hs1)
    obtain ⟨c1, f1, c4, f4⟩ := hs1.cells
    clear hs1
    go_wp2_with (go_at_call 31; refine HM1.out.mono ?_; rintro e w6 ⟨rfl, h6⟩)
    go_ret
    exact REnd_bad HR.out rfl h6
  rw [if_neg h64] at hR
  have HM := Lib.hid (fun W (h : RSt W0 N A n cap p m op ns W) => st_makes h h64)
  have hb0 := hB (p + 1) ns (m + 1) (by omega) (by omega)
  have hcf := fun W (h : RSt W0 N A n cap (p + 1) (m + 1) (op + 1) ns W) => hF (p + 1) ns (m + 1) W (by omega) (by omega) (by omega) h
  cases hf : F (p + 1) ns (m + 1) with
  | bad c q =>
    rw [hf] at hR
    simp only [hf] at hcf
    have HR := Lib.hid hR
    have HCF := Lib.hid hcf
    clear hv hn h33 hst hop hF hB hR h64 hTl hlt hm hns hcf hb0 hf
    go_enter Tryz.func53, Tryz.ntmps53
    go_wp2_with fail
    refine HC1.out.mono ?_
    rintro e w1 ⟨rfl, hs1⟩
    have HM1 := Lib.hid (HM.out _ hs1)
    obtain ⟨c1, f1, c4, f4⟩ := hs1.cells
    clear hs1
    go_wp2_with fail
    refine HM1.out.mono ?_
    rintro e w2 ⟨rfl, hs2⟩
    have HS2 := Lib.hid hs2
    clear c1 f1 c4 f4
    obtain ⟨c1, f1, _, _⟩ := hs2.cells
    clear hs2
    go_upto_region 7 with (fail)
    obtain ⟨W3, hW3⟩ : ∃ W3, w2.setCell ⟨N, 1, none⟩ (.int .i64 ((p : Int) + 1)) = W3 := ⟨_, rfl⟩
    have hs3 : RSt W0 N A n cap (p + 1) (m + 1) op ns W3 := by rw [← hW3]; exact HS2.out.at_
    rw [hW3]
    clear hW3 c1 f1
    obtain ⟨_, _, c4, f4⟩ := hs3.cells
    have HS3 := Lib.hid hs3
    clear hs3
    go_wp2_with (go_at_call 53; refine (HCF.out _ HS3.out.up).mono ?_; rintro e w6 ⟨rfl, h6⟩)
    go_ret
    exact REnd_bad HR.out rfl h6
  | ok q ns' m' =>
    rw [hf] at hR hb0
    simp only [hf] at hcf
    obtain ⟨x1, x2, x3, x4⟩ := hb0
    have hl2 : ns'.length ≤ 100000 := by omega
    have HR := Lib.hid hR
    have HCF := Lib.hid hcf
    clear hv hn h33 hst hop hF hB hR h64 hTl hlt hm hns hcf hf x1 x2 x3 x4
    go_enter Tryz.func53, Tryz.ntmps53
    go_wp2_with fail
    refine HC1.out.mono ?_
    rintro e w1 ⟨rfl, hs1⟩
    have HM1 := Lib.hid (HM.out _ hs1)
    obtain ⟨c1, f1, c4, f4⟩ := hs1.cells
    clear hs1
    go_wp2_with fail
    refine HM1.out.mono ?_
    rintro e w2 ⟨rfl, hs2⟩
    have HS2 := Lib.hid hs2
    clear c1 f1 c4 f4
    obtain ⟨c1, f1, _, _⟩ := hs2.cells
    clear hs2
    go_upto_region 7 with (fail)
    obtain ⟨W3, hW3⟩ : ∃ W3, w2.setCell ⟨N, 1, none⟩ (.int .i64 ((p : Int) + 1)) = W3 := ⟨_, rfl⟩
    have hs3 : RSt W0 N A n cap (p + 1) (m + 1) op ns W3 := by rw [← hW3]; exact HS2.out.at_
    rw [hW3]
    clear hW3 c1 f1
    obtain ⟨_, _, c4, f4⟩ := hs3.cells
    have HS3 := Lib.hid hs3
    clear hs3
    go_wp2_with fail
    refine (HCF.out _ HS3.out.up).mono ?_
    rintro e w6 ⟨rfl, hs6⟩
    clear c4 f4
    obtain ⟨_, _, c4, f4⟩ := hs6.cells
    have HS6 := Lib.hid hs6
    clear hs6
    have o3 : ((op + 1 : Nat) : Int) - 1 = op := by omega
    have o4 : ((op + 1 : Nat) : Int) ≤ 33 := by omega
    have o5 : (0 : Int) ≤ ((op + 1 : Nat) : Int) := by omega
    go_upto_region 11 with (fail)
    go_wp2_with (go_at_call 32; refine (st_put0 (HS6.out.opn op _ (by omega)) hl2 4).mono ?_; rintro e w9 ⟨rfl, h9⟩)
    go_ret
    exact REnd_ok HR.out rfl h9
theorem fac_brk (W0 : World) (N : Nat) (A : Option Addr) (n cap p m op : Nat) (ns : List Sp.Nd) (zs : List ZTok) (w : World) (hst : RSt W0 N A n cap p m op ns w) (hn : zs.length = n) (hnb : n ≤ 4611686018427387904) (hv : ViewZ W0 N A zs) (hop : op < 32) (hm : m ≤ 64) (hns : ns.length ≤ m) (h33 : Sp.sgAt (zs.map ptZ) p [33] = false) (h40 : Sp.sgAt (zs.map ptZ) p [40] = true) (G : Nat → List Sp.Nd → Nat → Sp.Rd) (hF : FacCalls 18 W0 N A n cap (op + 1) G) (hB : Sp.Bnd (zs.map ptZ) G) (R : Sp.Rd)
    (hR : R = match G (p + 1) ns m with | .bad c q => .bad c q | .ok q ns' m' => if Sp.sgAt (zs.map ptZ) q [41] then .ok (q + 1) ns' m' else .bad 50 q) :
    Calls Tryz.prog 53 #[.pointer (some ⟨N, 0, none⟩)] w (REnd W0 N A n cap op R) := by
  have hTl : (zs.map ptZ).length = n := by rw [List.length_map]; exact hn
  have hlt := Sp.sg_lt h40
  rw [hTl] at hlt
  have HC1 := Lib.hid (st_sign hst ⟨#[33]⟩ hn hv h33)
  have HC2 := Lib.hid (fun W (h : RSt W0 N A n cap p m op ns W) => st_sign h ⟨#[40]⟩ hn hv h40)
  have q1 : decide ((op : Int) ≥ 32) = false := decide_eq_false (by omega)
  have o1 : (0 : Int) ≤ (op : Int) := by omega
  have o2 : (op : Int) ≤ 32 := by omega
  have p1 : (0 : Int) ≤ (p : Int) := by omega
  have p2 : (p : Int) ≤ 4611686018427387904 := by omega
  have hb0 := hB (p + 1) ns m (by omega) (by omega)
  have hcf := fun W (h : RSt W0 N A n cap (p + 1) m (op + 1) ns W) => hF (p + 1) ns m W (by omega) (by omega) (by omega) h
  cases hf : G (p + 1) ns m with
  | bad c q =>
    rw [hf] at hR
    simp only [hf] at hcf
    have HR := Lib.hid hR
    have HCF := Lib.hid hcf
    clear hv hn h33 h40 hst hop hF hB hR hTl hlt hm hns hcf hb0 hf
    go_enter Tryz.func53, Tryz.ntmps53
    go_wp2_with fail
    refine HC1.out.mono ?_
    rintro e w0 ⟨rfl, hs0⟩
    go_wp2_with fail
    refine (HC2.out _ hs0).mono ?_
    rintro e w2 ⟨rfl, hs2⟩
    clear hs0
    have HS2 := Lib.hid hs2
    obtain ⟨c1, f1, c4, f4⟩ := hs2.cells
    clear hs2
    go_upto_region 16 with (fail)
    obtain ⟨W3, hW3⟩ : ∃ W3, w2.setCell ⟨N, 1, none⟩ (.int .i64 ((p : Int) + 1)) = W3 := ⟨_, rfl⟩
    have hs3 : RSt W0 N A n cap (p + 1) m op ns W3 := by rw [← hW3]; exact HS2.out.at_
    rw [hW3]
    clear hW3 c1 f1 c4 f4
    obtain ⟨_, _, c4, f4⟩ := hs3.cells
    have HS3 := Lib.hid hs3
    clear hs3
    go_wp2_with (go_at_call 18; refine (HCF.out _ HS3.out.up).mono ?_; rintro e w6 ⟨rfl, h6⟩)
    go_ret
    exact REnd_bad HR.out rfl h6
  | ok q ns' m' =>
    rw [hf] at hR hb0
    simp only [hf] at hcf
    obtain ⟨x1, x2, x3, x4⟩ := hb0
    have hqn : q ≤ n := by omega
    obtain ⟨b, hb⟩ : ∃ b, Sp.sgAt (zs.map ptZ) q [41] = b := ⟨_, rfl⟩
    have HC3 := Lib.hid (fun W (h : RSt W0 N A n cap q m' (op + 1) ns' W) => st_sign h ⟨#[41]⟩ hn hv hb)
    simp only [] at hR
    rw [hb] at hR
    have HR := Lib.hid hR
    have HCF := Lib.hid hcf
    have o3 : ((op + 1 : Nat) : Int) - 1 = op := by omega
    have o4 : ((op + 1 : Nat) : Int) ≤ 33 := by omega
    have o5 : (0 : Int) ≤ ((op + 1 : Nat) : Int) := by omega
    have p5 : (0 : Int) ≤ (q : Int) := by omega
    have p6 : (q : Int) ≤ 4611686018427387904 := by omega
    clear hv hn h33 h40 hst hop hF hB hR hTl hlt hm hns hcf hf x1 x2 x3 x4 hb
    go_enter Tryz.func53, Tryz.ntmps53
    go_wp2_with fail
    refine HC1.out.mono ?_
    rintro e w0 ⟨rfl, hs0⟩
    go_wp2_with fail
    refine (HC2.out _ hs0).mono ?_
    rintro e w2 ⟨rfl, hs2⟩
    clear hs0
    have HS2 := Lib.hid hs2
    obtain ⟨c1, f1, c4, f4⟩ := hs2.cells
    clear hs2
    go_upto_region 16 with (fail)
    obtain ⟨W3, hW3⟩ : ∃ W3, w2.setCell ⟨N, 1, none⟩ (.int .i64 ((p : Int) + 1)) = W3 := ⟨_, rfl⟩
    have hs3 : RSt W0 N A n cap (p + 1) m op ns W3 := by rw [← hW3]; exact HS2.out.at_
    rw [hW3]
    clear hW3 c1 f1 c4 f4
    obtain ⟨_, _, c4, f4⟩ := hs3.cells
    have HS3 := Lib.hid hs3
    clear hs3
    go_wp2_with fail
    refine (HCF.out _ HS3.out.up).mono ?_
    rintro e w6 ⟨rfl, hs6⟩
    clear c4 f4
    cases b with
    | false =>
      have HR2 : Hid (R = .bad 50 q) := HR.out
      go_wp2_with fail
      refine (HC3.out _ hs6).mono ?_
      rintro e w7 ⟨rfl, hs7⟩
      have HF7 := Lib.hid (st_fail hs7 50)
      clear hs6 hs7
      go_wp2_with (go_at_call 54; refine HF7.out.mono ?_; rintro e w8 ⟨rfl, h8⟩)
      go_ret
      exact REnd_bad HR2.out rfl h8
    | true =>
      have HR2 : Hid (R = .ok (q + 1) ns' m') := HR.out
      go_wp2_with fail
      refine (HC3.out _ hs6).mono ?_
      rintro e w7 ⟨rfl, hs7⟩
      have HS7 := Lib.hid hs7
      obtain ⟨c1, f1, c4, f4⟩ := hs7.cells
      clear hs6 hs7
      go_upto_region 22 with (fail)
      obtain ⟨W8, hW8⟩ : ∃ W8, w7.setCell ⟨N, 1, none⟩ (.int .i64 ((q : Int) + 1)) = W8 := ⟨_, rfl⟩
      have hs8 : RSt W0 N A n cap (q + 1) m' (op + 1) ns' W8 := by rw [← hW8]; exact HS7.out.at_
      rw [hW8]
      clear hW8 c1 f1 c4 f4
      obtain ⟨_, _, c4, f4⟩ := hs8.cells
      have HS8 := Lib.hid hs8
      clear hs8
      go_wp2_with fail
      go_ret
      exact REnd_ok HR2.out rfl (HS8.out.opn op _ (by omega))

/-- Every factor, where so many may be open. -/
theorem fac_all (W0 : World) (N : Nat) (A : Option Addr) (n cap : Nat) (zs : List ZTok) (hG : ∀ w, Below N W0 w → Gs w) (hn : zs.length = n) (hnb : n ≤ 4611686018427387904) (hv : ViewZ W0 N A zs) (hts : ∀ z ∈ zs, z.2.1.size ≤ 9223372036854775807) :
    ∀ d op, op + d = 32 → FacCalls 53 W0 N A n cap op (Sp.facV (zs.map ptZ) d) := by
  intro d
  induction d with
  | zero =>
    intro op hop p ns m w hp hm hns hst
    unfold Sp.facV
    cases h33 : Sp.sgAt (zs.map ptZ) p [33] with
    | true => exact fac_deep W0 N A n cap p m op ns zs w hst hn hv (by omega) true _ h33 rfl (by simp)
    | false =>
      cases h40 : Sp.sgAt (zs.map ptZ) p [40] with
      | true => exact fac_deep W0 N A n cap p m op ns zs w hst hn hv (by omega) false true h33 h40 rfl
      | false => exact fac_leaf W0 N A n cap p m op ns zs w hst hG hn hnb hv hts hp hm hns h33 h40
  | succ d ih =>
    intro op hop p ns m w hp hm hns hst
    have hF := ih (op + 1) (by omega)
    have hB := Sp.fac_bd (zs.map ptZ) d
    cases h33 : Sp.sgAt (zs.map ptZ) p [33] with
    | true => exact fac_bang W0 N A n cap p m op ns zs w hst hn hnb hv (by omega) hm hns h33 _ hF hB _ (by simp only [Sp.facV, h33, if_true]; cases Sp.facV (zs.map ptZ) d (p + 1) ns (m + 1) <;> rfl)
    | false =>
      cases h40 : Sp.sgAt (zs.map ptZ) p [40] with
      | true =>
        have hA := expr_chainAnd W0 N A n cap (op + 1) zs hn hnb hv _ hF hB
        have hO := expr_chainOr W0 N A n cap (op + 1) zs hn hnb hv _ hA (Sp.chain_bd hB _ _)
        exact fac_brk W0 N A n cap p m op ns zs w hst hn hnb hv (by omega) hm hns h33 h40 _ hO (Sp.or_bd hB) _ (by simp only [Sp.facV, Sp.orV, h33, h40, if_true, Bool.false_eq_true, if_false]; cases Sp.chainV (zs.map ptZ) (Sp.chainV (zs.map ptZ) (Sp.facV (zs.map ptZ) d) [38] 5) [124] 6 (p + 1) ns m <;> rfl)
      | false =>
        have := fac_leaf W0 N A n cap p m op ns zs w hst hG hn hnb hv hts hp hm hns h33 h40
        unfold Sp.facV
        rw [h33, h40]
        exact this

theorem own_mono {w : World} {B B' : Nat} {e : TypeId} {size : Nat} {v : Value} {n : Nat} {xs : List Value} (h : w.ownsRow B e size v n xs) (hb : B' ≤ B) : w.ownsRow B' e size v n xs :=
  ⟨h.1, h.2.elim Or.inl (fun ⟨g, cap, cur, hv, hg, r⟩ => Or.inr ⟨g, cap, cur, hv, Nat.le_trans hb hg, r⟩)⟩
namespace Sp
/-- P5.1: what Read comes to, from wherever. -/
def readE (T : List Pt) (x : Int) : Rd := if x < 0 ∨ (T.length : Int) < x then .bad 1 0 else readV T x.toNat
end Sp
/-- What Read hands back. -/
def ReadEnd (w : World) (r : Sp.Rd) (e : Ending) (w' : World) : Prop :=
  match r with
  | .bad c q => e = .returned (.tuple #[.slice none 0 0, .int .i64 (q : Nat), .int .i64 (c : Nat)]) ∧ Below w.heap.size w w'
  | .ok q ns _ => ∃ v, e = .returned (.tuple #[v, .int .i64 (q : Nat), .int .i64 0]) ∧ Nds w' w.heap.size v ns ∧ Below w.heap.size w w'
theorem ReadEnd_bad {w w' : World} {r : Sp.Rd} {c q : Nat} (hr : r = .bad c q) {e : Ending} (he : e = .returned (.tuple #[.slice none 0 0, .int .i64 (q : Nat), .int .i64 (c : Nat)])) (h : Below w.heap.size w w') : ReadEnd w r e w' := by
  subst hr
  exact ⟨he, h⟩
theorem ReadEnd_ok {w w' : World} {r : Sp.Rd} {q m : Nat} {ns : List Sp.Nd} (hr : r = .ok q ns m) {v : Value} {e : Ending} (he : e = .returned (.tuple #[v, .int .i64 (q : Nat), .int .i64 0])) (hn : Nds w' w.heap.size v ns) (h : Below w.heap.size w w') : ReadEnd w r e w' := by
  subst hr
  exact ⟨v, he, hn, h⟩

theorem expr_read (A : Option Addr) (n cap : Nat) (zs : List ZTok) (x : Int) (w : World) (hG : Gs w) (hn : zs.length = n) (hnb : n ≤ 4611686018427387904) (hv : ViewZ w w.heap.size A zs) (hts : ∀ z ∈ zs, z.2.1.size ≤ 9223372036854775807) :
    Calls Tryz.prog 6 #[.slice A n cap, .int .i64 x] w (ReadEnd w (Sp.readE (zs.map ptZ) x)) := by
  have hTl : (zs.map ptZ).length = n := by rw [List.length_map]; exact hn
  obtain ⟨R, hR⟩ : ∃ R, Sp.readE (zs.map ptZ) x = R := ⟨_, rfl⟩
  rw [hR]
  have hdef : R = if x < 0 ∨ (n : Int) < x then .bad 1 0 else Sp.readV (zs.map ptZ) x.toNat := by rw [← hR]; unfold Sp.readE; rw [hTl]
  by_cases h1 : x < 0
  · have q1 : decide (x < 0) = true := decide_eq_true h1
    have HR : Hid (R = .bad 1 0) := by show _ = _; rw [hdef, if_pos (Or.inl h1)]
    clear hdef hR hTl hn hv hts hG h1
    go_enter Tryz.func6, Tryz.ntmps6
    go_wp2
    go_ret3
    exact ReadEnd_bad HR.out rfl (Below.refl _ _)
  by_cases h2 : (n : Int) < x
  · have q1 : decide (x < 0) = false := decide_eq_false h1
    have q2 : decide (x > (n : Int)) = true := decide_eq_true h2
    have HR : Hid (R = .bad 1 0) := by show _ = _; rw [hdef, if_pos (Or.inr h2)]
    clear hdef hR hTl hn hv hts hG h1 h2
    go_enter Tryz.func6, Tryz.ntmps6
    go_wp2
    go_ret3
    exact ReadEnd_bad HR.out rfl (Below.refl _ _)
  obtain ⟨p, rfl⟩ : ∃ p : Nat, x = p := ⟨x.toNat, by omega⟩
  have hpn : p ≤ n := by omega
  rw [if_neg (fun h => h.elim h1 h2), Int.toNat_natCast] at hdef
  have q1 : decide ((p : Int) < 0) = false := decide_eq_false h1
  have q2 : decide ((p : Int) > (n : Int)) = false := decide_eq_false h2
  have q2b : decide (n < p) = false := decide_eq_false (by omega)
  obtain ⟨N, hN⟩ : ∃ N, w.heap.size = N := ⟨_, rfl⟩
  obtain ⟨W1, hW1⟩ : ∃ W1, w.alloc (.cells #[.slice A n cap, .int .i64 p, .slice none 0 0, .int .i64 0, .int .i64 0, .int .i64 0] 46) = W1 := ⟨_, rfl⟩
  have hst : RSt w N A n cap p 0 0 [] W1 := by
    rw [← hW1, ← hN]
    exact ⟨.slice none 0 0, Blk.new w _ _, World.ownsRow_nil _ _ _ _, (Below.refl _ _).alloc (Nat.le_refl _) _⟩
  rw [hN] at hv
  have hF := fac_all w N A n cap zs (fun w' hb => by rw [← hN] at hb; exact hG.below hb) hn hnb hv hts 32 0 rfl
  have hB := Sp.fac_bd (zs.map ptZ) 32
  have hA := expr_chainAnd w N A n cap 0 zs hn hnb hv _ hF hB
  have hO := expr_chainOr w N A n cap 0 zs hn hnb hv _ hA (Sp.chain_bd hB _ _)
  have hcall := hO p [] 0 W1 hpn (by omega) (by simp) hst
  have hdef2 : Sp.chainV (zs.map ptZ) (Sp.chainV (zs.map ptZ) (Sp.facV (zs.map ptZ) 32) [38] 5) [124] 6 p [] 0 = R := hdef.symm
  rw [hdef2] at hcall
  have HW := Lib.hid hW1
  have HN := Lib.hid hN
  cases R with
  | bad c q =>
    have HC : Hid (Calls Tryz.prog 18 #[.pointer (some ⟨N, 0, none⟩)] W1 fun e w' => e = .returned (.bool false) ∧ RBad w N A n cap q c w') := hcall
    clear hdef hdef2 hcall hO hA hB hF hst hW1 hN hR hTl hn hv hts hG h1 h2 hpn
    go_enter Tryz.func6, Tryz.ntmps6
    go_wp2_with fail
    rw [HW.out, HN.out]
    refine HC.out.mono ?_
    rintro e w2 ⟨rfl, hbd⟩
    obtain ⟨tv, m, op, hr, hb⟩ := hbd
    have c1 : w2.cell? ⟨N, 1, none⟩ = some (.int .i64 q) := hr.cell 1
    have c5 : w2.cell? ⟨N, 5, none⟩ = some (.int .i64 c) := hr.cell 5
    have HB := Lib.hid hb
    clear hr hb
    go_wp2_with fail
    go_quiet (fail)
    go_wp2_with fail
    go_ret3
    exact ReadEnd_bad rfl rfl (by rw [HN.out]; exact below_drewN' HB.out _)
  | ok q ns m =>
    have HC : Hid (Calls Tryz.prog 18 #[.pointer (some ⟨N, 0, none⟩)] W1 fun e w' => e = .returned (.bool true) ∧ RSt w N A n cap q m 0 ns w') := hcall
    clear hdef hdef2 hcall hO hA hB hF hst hW1 hN hR hTl hn hv hts hG h1 h2 hpn
    go_enter Tryz.func6, Tryz.ntmps6
    go_wp2_with fail
    rw [HW.out, HN.out]
    refine HC.out.mono ?_
    rintro e w2 ⟨rfl, hbd⟩
    obtain ⟨tv, hr, ht, hb⟩ := hbd
    have c1 : w2.cell? ⟨N, 1, none⟩ = some (.int .i64 q) := hr.cell 1
    have c2 : w2.cell? ⟨N, 2, none⟩ = some tv := hr.cell 2
    have HB := Lib.hid hb
    have HT := Lib.hid ht
    clear hr hb ht
    go_wp2_with fail
    go_quiet (fail)
    go_wp2_with fail
    go_ret3
    exact ReadEnd_ok rfl rfl (own_mono (by exact HT.out) (by rw [HN.out]; exact Nat.le_succ _)) (by rw [HN.out]; exact below_drewN' HB.out _)
end Go.Proofs.YtdmpapoabeljfaaGreatDoor
