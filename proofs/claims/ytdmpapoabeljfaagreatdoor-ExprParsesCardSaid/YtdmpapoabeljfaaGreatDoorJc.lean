/-
  WALK: the reference's Parse against the plain law (chapter 5).
-/
import Derived.Test.YtdmpapoabeljfaaGreatDoorJb
import Derived.Test.YtdmpapoabeljfaaGreatDoorFl
import Derived.Test.YtdmpapoabeljfaaGreatDoorRf
set_option linter.unusedVariables false
set_option linter.unusedSimpArgs false
set_option maxRecDepth 100000
set_option maxHeartbeats 4000000
namespace Go.Proofs.YtdmpapoabeljfaaGreatDoor
open Go.RowKit

theorem ref_reads {s : List UInt8} {ts : List Sp.Tok} {n m : Nat} (h : Sp.scanV s = (ts, 0, n, m)) {r : Sp.Rd} (hr : Sp.readV (ts.map Sp.ptOf) 0 = r) (hl : ts.length ≤ 16385) (w : World) : ReadSays 7 ts r w.heap.size w := by
  intro W A cap hb hv
  have := ref5_read A ts.length cap (ts.map zOf) 0 W (List.length_map _) (by omega) hv.toZ (toks_short h)
  rw [read_zero, hr] at this
  exact this
/-- The reference's Scan, its tokens to be read. -/
theorem ref_scans (s : ByteArray) (hs : s.size ≤ 9223372036854775807) {ts : List Sp.Tok} {c n m : Nat} (h : Sp.scanV s.data.toList = (ts, c, n, m)) (W : World) (hG : Gr W) :
    Calls Tryz.prog 23 #[.string s] W fun e w' => ∃ A cap, e = .returned (.tuple #[.slice A ts.length cap, .int .i64 (c : Nat), .int .i64 (n : Nat), .int .i64 (m : Nat)]) ∧ View w' w'.heap.size A ts ∧ Below W.heap.size W w' := by
  refine (ref3_scan s W hG hs).mono ?_
  rintro e w' ⟨tv, rfl, ht, hb⟩
  rw [h] at ht ⊢
  obtain ⟨A, cap, rfl, hv⟩ := toks_view ht
  exact ⟨A, cap, rfl, hv, hb⟩
theorem ref5_column (g q nt cap : Nat) (x : Int) (W : World) (h : W.cell? ⟨g, q * 4 + 3, none⟩ = some (.int .i64 x)) (hq : q < nt) (hn : nt ≤ 16385) :
    Calls Tryz.prog 24 #[.slice (some ⟨g, 0, none⟩) nt cap, .int .i64 (q : Nat)] W fun e w' => e = .returned (.int .i64 x) ∧ W = w' := by
  have z1 : decide ((q : Int) < (nt : Int)) = true := decide_eq_true (by omega)
  have z1b : decide (q < nt) = true := decide_eq_true hq
  have z2 : (q : Int) < (nt : Int) := by omega
  have z3 : (0 : Int) ≤ (q : Int) := by omega
  clear hn
  go_enter Tryz.func24, Tryz.ntmps24
  go_wp2_with fail
  go_ret
  exact ⟨by rfl, by rfl⟩
theorem ref5_parse (s : ByteArray) (w : World) (hG : Gr w) (hs : s.size ≤ 9223372036854775807) :
    Calls Tryz.prog 11 #[.string s] w (PrEnd w (Sp.parseV s.data.toList)) := by
  obtain ⟨ts, c, n, m, hX⟩ : ∃ ts c n m, Sp.scanV s.data.toList = (ts, c, n, m) := ⟨_, _, _, _, rfl⟩
  have HS := Lib.hid (ref_scans s hs hX w hG)
  have hC := Sp.parse_cases hX
  obtain ⟨R, hR⟩ : ∃ R, Sp.parseV s.data.toList = R := ⟨_, rfl⟩
  rw [hR] at hC ⊢
  cases hC with
  | scan h =>
    have q0 : ((c : Int) != 0) = true := by rw [bne_iff_ne]; omega
    clear hX hR hG hs h
    go_enter Tryz.func11, Tryz.ntmps11
    go_wp2_with fail
    refine HS.out.mono ?_
    rintro e w1 ⟨A, cap, rfl, hv, hb⟩
    have HB := Lib.hid hb
    clear hv hb
    go_wp2_with fail
    go_ret3
    exact PrEnd_bad rfl rfl rfl rfl HB.out
  | none h h1 =>
    subst h h1
    clear hX hR hG hs
    go_enter Tryz.func11, Tryz.ntmps11
    go_wp2_with fail
    refine HS.out.mono ?_
    rintro e w1 ⟨A, cap, rfl, hv, hb⟩
    have HB := Lib.hid hb
    clear hv hb
    go_wp2_with fail
    go_ret3
    exact PrEnd_bad rfl rfl rfl rfl HB.out
  | bad h h1 t d q m1 hr hq hd =>
    subst h
    have HRD := Lib.hid (ref_reads hX hr h1 w)
    have hql : q < ts.length := (List.getElem?_eq_some_iff.1 hq).1
    have q2 : ((ts.length : Int) == 0) = false := beq_eq_false_iff_ne.2 (by omega)
    have q2b : (ts.length == 0) = false := beq_eq_false_iff_ne.2 (by omega)
    have z1 : (q : Int) < (ts.length : Int) := by omega
    have z2 : (0 : Int) ≤ (q : Int) := by omega
    have q3 : ((d : Int) != 0) = true := by rw [bne_iff_ne]; omega
    have HQ := Lib.hid hq
    have HL := Lib.hid h1
    clear hX hR hG hs hr hq h1
    go_enter Tryz.func11, Tryz.ntmps11
    go_wp2_with fail
    refine HS.out.mono ?_
    rintro e w1 ⟨A, cap, rfl, hv, hb⟩
    obtain ⟨g, rfl, hg, a0, a1, a2, a3⟩ := hv q t HQ.out
    have HV := Lib.hid hv
    have HB := Lib.hid hb
    clear hv hb a1 a2
    go_wp2_with fail
    refine (HRD.out w1 (some ⟨g, 0, none⟩) cap HB.out HV.out).mono ?_
    rintro e w2 ⟨rfl, h2⟩
    have x0 := (h2.cell (p := ⟨g, q * 4, none⟩) hg).trans a0
    have x3 := (h2.cell (p := ⟨g, q * 4 + 3, none⟩) hg).trans a3
    have HB2 := Lib.hid (HB.out.trans (h2.mono HB.out.size))
    clear h2 a0 a3 hg
    have HCO := Lib.hid (fun cap W (h : w2 = W) => ref5_column g q ts.length cap _ W (h ▸ x3) (by omega) HL.out)
    clear x0 x3
    go_wp2_with fail
    refine (HCO.out _ _ rfl).mono ?_
    rintro e w3 ⟨rfl, hw3⟩
    subst hw3
    go_wp2_with fail
    go_ret3
    exact PrEnd_bad rfl rfl rfl rfl HB2.out
  | kind h h1 t q m1 ns hr hq hk =>
    subst h
    have HRD := Lib.hid (ref_reads hX hr h1 w)
    have hql : q < ts.length := (List.getElem?_eq_some_iff.1 hq).1
    have q2 : ((ts.length : Int) == 0) = false := beq_eq_false_iff_ne.2 (by omega)
    have q2b : (ts.length == 0) = false := beq_eq_false_iff_ne.2 (by omega)
    have z1 : (q : Int) < (ts.length : Int) := by omega
    have z2 : (0 : Int) ≤ (q : Int) := by omega
    have q4 : ((t.1 : Int) != 1) = true := by rw [bne_iff_ne]; omega
    have HQ := Lib.hid hq
    have HL := Lib.hid h1
    clear hX hR hG hs hr hq h1
    go_enter Tryz.func11, Tryz.ntmps11
    go_wp2_with fail
    refine HS.out.mono ?_
    rintro e w1 ⟨A, cap, rfl, hv, hb⟩
    obtain ⟨g, rfl, hg, a0, a1, a2, a3⟩ := hv q t HQ.out
    have HV := Lib.hid hv
    have HB := Lib.hid hb
    clear hv hb a1 a2
    go_wp2_with fail
    refine (HRD.out w1 (some ⟨g, 0, none⟩) cap HB.out HV.out).mono ?_
    rintro e w2 ⟨v, rfl, hn, h2⟩
    have x0 := (h2.cell (p := ⟨g, q * 4, none⟩) hg).trans a0
    have x3 := (h2.cell (p := ⟨g, q * 4 + 3, none⟩) hg).trans a3
    have HB2 := Lib.hid (HB.out.trans (h2.mono HB.out.size))
    have HN := Lib.hid hn
    clear hn
    clear h2 a0 a3 hg
    go_wp2_with fail
    go_quiet (fail)
    go_wp2_with fail
    go_ret3
    exact PrEnd_bad rfl rfl rfl rfl (below_drewN' HB2.out _)
  | more h h1 t u q m1 ns hr hq hk hu =>
    subst h
    have HRD := Lib.hid (ref_reads hX hr h1 w)
    have hql : q < ts.length := (List.getElem?_eq_some_iff.1 hq).1
    have q2 : ((ts.length : Int) == 0) = false := beq_eq_false_iff_ne.2 (by omega)
    have q2b : (ts.length == 0) = false := beq_eq_false_iff_ne.2 (by omega)
    have z1 : (q : Int) < (ts.length : Int) := by omega
    have z2 : (0 : Int) ≤ (q : Int) := by omega
    have q4 : ((t.1 : Int) != 1) = false := by rw [bne_eq_false_iff_eq]; omega
    have hul : q + 1 < ts.length := (List.getElem?_eq_some_iff.1 hu).1
    have HU := Lib.hid hu
    obtain ⟨r1, hr1⟩ : ∃ r1, q + 1 = r1 := ⟨_, rfl⟩
    have q5 : IntKind.i64.wrap ((q : Int) + 1) = (r1 : Int) := by rw [IntKind.wrap_i64]; omega
    have z4 : decide ((r1 : Int) < (ts.length : Int)) = true := decide_eq_true (by omega)
    have z4b : decide (r1 < ts.length) = true := decide_eq_true (by omega)
    have z5 : (r1 : Int) < (ts.length : Int) := by omega
    have z6 : (0 : Int) ≤ (r1 : Int) := by omega
    have HR1 := Lib.hid hr1
    clear hul hu hr1
    have HQ := Lib.hid hq
    have HL := Lib.hid h1
    clear hX hR hG hs hr hq h1
    go_enter Tryz.func11, Tryz.ntmps11
    go_wp2_with fail
    refine HS.out.mono ?_
    rintro e w1 ⟨A, cap, rfl, hv, hb⟩
    obtain ⟨g, rfl, hg, a0, a1, a2, a3⟩ := hv q t HQ.out
    obtain ⟨g', hg', _, b0, b1, b2, b3⟩ := hv (q + 1) u HU.out
    injection hg' with hg'
    injection hg' with hg' _ _
    subst hg'
    have HV := Lib.hid hv
    have HB := Lib.hid hb
    clear hv hb a1 a2 b0 b1 b2
    go_wp2_with fail
    refine (HRD.out w1 (some ⟨g, 0, none⟩) cap HB.out HV.out).mono ?_
    rintro e w2 ⟨v, rfl, hn, h2⟩
    have x0 := (h2.cell (p := ⟨g, q * 4, none⟩) hg).trans a0
    have x3 := (h2.cell (p := ⟨g, q * 4 + 3, none⟩) hg).trans a3
    have y3 := (h2.cell (p := ⟨g, (q + 1) * 4 + 3, none⟩) hg).trans b3
    rw [HR1.out] at y3
    have HB2 := Lib.hid (HB.out.trans (h2.mono HB.out.size))
    have HN := Lib.hid hn
    clear hn
    clear h2 a0 a3 hg b3
    clear x3
    go_wp2_with fail
    go_quiet (fail)
    go_wp2_with fail
    go_ret3
    exact PrEnd_bad rfl rfl rfl rfl (below_drewN' HB2.out _)
  | ok h h1 t q m1 ns hr hq hk hu hns =>
    subst h
    have HRD := Lib.hid (ref_reads hX hr h1 w)
    have hql : q < ts.length := (List.getElem?_eq_some_iff.1 hq).1
    have q2 : ((ts.length : Int) == 0) = false := beq_eq_false_iff_ne.2 (by omega)
    have q2b : (ts.length == 0) = false := beq_eq_false_iff_ne.2 (by omega)
    have z1 : (q : Int) < (ts.length : Int) := by omega
    have z2 : (0 : Int) ≤ (q : Int) := by omega
    have q4 : ((t.1 : Int) != 1) = false := by rw [bne_eq_false_iff_eq]; omega
    obtain ⟨r1, hr1⟩ : ∃ r1, q + 1 = r1 := ⟨_, rfl⟩
    have q5 : IntKind.i64.wrap ((q : Int) + 1) = (r1 : Int) := by rw [IntKind.wrap_i64]; omega
    have z4 : decide ((r1 : Int) < (ts.length : Int)) = false := decide_eq_false (by omega)
    have z4b : decide (r1 < ts.length) = false := decide_eq_false (by omega)
    have HNS := Lib.hid hns
    clear hns hu hr1
    have HQ := Lib.hid hq
    have HL := Lib.hid h1
    clear hX hR hG hs hr hq h1
    go_enter Tryz.func11, Tryz.ntmps11
    go_wp2_with fail
    refine HS.out.mono ?_
    rintro e w1 ⟨A, cap, rfl, hv, hb⟩
    obtain ⟨g, rfl, hg, a0, a1, a2, a3⟩ := hv q t HQ.out
    have HV := Lib.hid hv
    have HB := Lib.hid hb
    clear hv hb a1 a2
    go_wp2_with fail
    refine (HRD.out w1 (some ⟨g, 0, none⟩) cap HB.out HV.out).mono ?_
    rintro e w2 ⟨v, rfl, hn, h2⟩
    have x0 := (h2.cell (p := ⟨g, q * 4, none⟩) hg).trans a0
    have x3 := (h2.cell (p := ⟨g, q * 4 + 3, none⟩) hg).trans a3
    have HB2 := Lib.hid (HB.out.trans (h2.mono HB.out.size))
    have HN := Lib.hid hn
    clear hn
    clear h2 a0 a3 hg
    clear x3
    go_wp2_with fail
    go_ret3
    exact PrEnd_ok rfl rfl (own_mono (by exact HN.out) HB.out.size) HB2.out HNS.out
end Go.Proofs.YtdmpapoabeljfaaGreatDoor
