/-
  WALK: is a test one that a text gives (chapter 5)?
-/
import Derived.Test.YtdmpapoabeljfaaGreatDoorKe
import Derived.Test.YtdmpapoabeljfaaGreatDoorEh
set_option linter.unusedVariables false
set_option linter.unusedSimpArgs false
set_option maxRecDepth 100000
set_option maxHeartbeats 8000000
namespace Go.Proofs.YtdmpapoabeljfaaGreatDoor
open Go.RowKit

theorem run_neq_test (f1 f2 p1 p2 : List UInt8) (o1 o2 m1 m2 l1 l2 h1 h2 n1 n2 : Int) (W : World) : (binOp .neq 54 (.agg #[.string (bs f1), .int .i64 o1, .int .i64 m1, .int .i64 l1, .int .i64 h1, .int .i64 n1, .string (bs p1)]) (.agg #[.string (bs f2), .int .i64 o2, .int .i64 m2, .int .i64 l2, .int .i64 h2, .int .i64 n2, .string (bs p2)])).run Tryz.prog W = .ok (.bool (!(f1 == f2 && (o1 == o2 && (m1 == m2 && (l1 == l2 && (h1 == h2 && (n1 == n2 && p1 == p2)))))))) W := by
  go_simp
  simp only [bs_list]
  repeat' split
  all_goals simp_all

theorem cell_in {w : World} {a : Addr} {v : Value} (h : w.cell? a = some v) : a.block < w.heap.size := by
  rcases Nat.lt_or_ge a.block w.heap.size with hlt | hge
  · exact hlt
  · unfold World.cell? at h
    rw [Array.getElem?_eq_none hge] at h
    cases h
theorem two_new (w : World) {N : Nat} (hN : w.heap.size = N) (c1 c2 : Array Value) (t1 t2 : TypeId) :
    Below w.heap.size w ((w.alloc (.cells c1 t1)).alloc (.cells c2 t2)) ∧ Blk ((w.alloc (.cells c1 t1)).alloc (.cells c2 t2)) N t1 c1 ∧ Blk ((w.alloc (.cells c1 t1)).alloc (.cells c2 t2)) (N + 1) t2 c2 := by
  subst hN
  refine ⟨((Below.refl _ _).alloc (Nat.le_refl _) _).alloc (by simp) _, (Blk.new w t1 c1).alloc _, ?_⟩
  have h := Blk.new (w.alloc (.cells c1 t1)) t2 c2
  have e : (w.alloc (.cells c1 t1)).heap.size = w.heap.size + 1 := by simp
  rw [e] at h
  exact h
theorem three_new (w : World) {N : Nat} (hN : w.heap.size = N) (c1 c2 c3 : Array Value) (t1 t2 t3 : TypeId) :
    Below w.heap.size w (((w.alloc (.cells c1 t1)).alloc (.cells c2 t2)).alloc (.cells c3 t3)) ∧ Blk (((w.alloc (.cells c1 t1)).alloc (.cells c2 t2)).alloc (.cells c3 t3)) N t1 c1 ∧ Blk (((w.alloc (.cells c1 t1)).alloc (.cells c2 t2)).alloc (.cells c3 t3)) (N + 1 + 1) t3 c3 := by
  subst hN
  refine ⟨(((Below.refl _ _).alloc (Nat.le_refl _) _).alloc (by simp) _).alloc (by simp; omega) _, ((Blk.new w t1 c1).alloc _).alloc _, ?_⟩
  have h := Blk.new ((w.alloc (.cells c1 t1)).alloc (.cells c2 t2)) t3 c3
  have e : ((w.alloc (.cells c1 t1)).alloc (.cells c2 t2)).heap.size = w.heap.size + 1 + 1 := by simp
  rw [e] at h
  exact h

theorem written_1 (F pa : List UInt8) (op lo hi le : Int) (R : Bool) (w : World) (hG : Gs w) (hFl : F.length ≤ 4611686018427387904) (hpl : pa.length ≤ 4611686018427387904)
    (hR : R = (Sp.nameB F && F != Sp.anyW && F != Sp.noneW && decide (1 ≤ op) && decide (op ≤ 6) && Sp.fitB lo && Sp.fitB hi && Sp.fitB le && (0 == hi && (0 == le && [] == pa)))) :
    Calls Tryz.prog 26 #[.agg #[.string (bs F), .int .i64 op, .int .i64 1, .int .i64 lo, .int .i64 hi, .int .i64 le, .string (bs pa)]] w (Gives (.bool R) w) := by
  have hEQ : ∀ W : World, (binOp .neq 54 (.agg #[.string (bs F), .int .i64 op, .int .i64 1, .int .i64 lo, .int .i64 0, .int .i64 0, .string ⟨#[]⟩]) (.agg #[.string (bs F), .int .i64 op, .int .i64 1, .int .i64 lo, .int .i64 hi, .int .i64 le, .string (bs pa)])).run Tryz.prog W = .ok (.bool (!(0 == hi && (0 == le && [] == pa)))) W := by
    intro W
    have := run_neq_test F F [] pa op op 1 1 lo lo 0 hi 0 le W
    rw [show bs [] = (⟨#[]⟩ : ByteArray) from rfl] at this
    rw [this]
    congr 2
    simp
  generalize (0 == hi && (0 == le && [] == pa)) = eb at *
  have HNM := Lib.hid (fun W (h : Gs W) => expr_isName (bs F) W h (by rw [bs_size]; omega))
  have hbsF : (bs F).data.toList = F := rfl
  rw [hbsF] at HNM
  obtain ⟨nm, hnm⟩ : ∃ nm, Sp.nameB F = nm := ⟨_, rfl⟩
  rw [hnm] at hR HNM
  have hGB : ∀ W, Below w.heap.size w W → Gs W := fun W hb => hG.below hb
  have HGB := Lib.hid hGB
  have HR := Lib.hid hR
  have q0 : (bs F).toList = F := bs_list F
  clear hG hFl hnm hbsF hR hGB
  clear hpl
  obtain ⟨N, hN⟩ : ∃ N, w.heap.size = N := ⟨_, rfl⟩
  by_cases c1 : op < 1
  · have p1 : decide (op < 1) = true := decide_eq_true c1
    have HRR := Lib.hid (show R = false by rw [HR.out, decide_eq_false (show ¬ 1 ≤ op by omega)]; simp)
    go_enter Tryz.func26, Tryz.ntmps26
    go_wp2_with fail
    go_ret
    exact ⟨by rw [HRR.out]; rfl, by first | exact HBW.out | exact (((Below.refl _ _).alloc (Nat.le_refl _) _).alloc (by simp) _) | exact (((Below.refl _ _).alloc (Nat.le_refl _) _).alloc (by simp) _).drew⟩
  have p1 : decide (op < 1) = false := decide_eq_false c1
  by_cases c2 : 6 < op
  · have p2 : decide (op > 6) = true := decide_eq_true c2
    have p2b : decide (6 < op) = true := decide_eq_true c2
    have HRR := Lib.hid (show R = false by rw [HR.out, decide_eq_false (show ¬ op ≤ 6 by omega)]; simp)
    go_enter Tryz.func26, Tryz.ntmps26
    go_wp2_with fail
    go_ret
    exact ⟨by rw [HRR.out]; rfl, by first | exact HBW.out | exact (((Below.refl _ _).alloc (Nat.le_refl _) _).alloc (by simp) _) | exact (((Below.refl _ _).alloc (Nat.le_refl _) _).alloc (by simp) _).drew⟩
  have p2 : decide (op > 6) = false := decide_eq_false c2
  have p2b : decide (6 < op) = false := decide_eq_false c2
  cases eb
  case false =>
    have HRR := Lib.hid (show R = false by rw [HR.out]; simp)
    go_enter Tryz.func26, Tryz.ntmps26
    go_wp2_with fail
    go_ret
    exact ⟨by rw [HRR.out]; rfl, by first | exact HBW.out | exact (((Below.refl _ _).alloc (Nat.le_refl _) _).alloc (by simp) _) | exact (((Below.refl _ _).alloc (Nat.le_refl _) _).alloc (by simp) _).drew⟩
  case true =>
    have HR2 := Lib.hid (show R = (nm && F != Sp.anyW && F != Sp.noneW && (Sp.fitB lo && Sp.fitB hi && Sp.fitB le)) by rw [HR.out, decide_eq_true (show 1 ≤ op by omega), decide_eq_true (show op ≤ 6 by omega)]; simp [Bool.and_assoc])
    clear c1 c2
    go_enter Tryz.func26, Tryz.ntmps26
    go_wp2_with fail
    go_loopw [96] (fun v96 wr => ∃ i : Nat, v96 = .int .i64 (i : Int) ∧ i ≤ 3 ∧ Hid ((0 < i → Sp.fitB lo = true) ∧ (1 < i → Sp.fitB hi = true) ∧ (2 < i → Sp.fitB le = true)) ∧ Below w.heap.size w wr ∧ wr.cell? ⟨N, 0, none⟩ = some (.string (bs F)) ∧ wr.cell? ⟨N + 1 + 1, 0, none⟩ = some (.int .i64 lo) ∧ wr.cell? ⟨N + 1 + 1, 1, none⟩ = some (.int .i64 hi) ∧ wr.cell? ⟨N + 1 + 1, 2, none⟩ = some (.int .i64 le)) (fun v96 _ => 3 - (intOf v96).toNat)
    case atStart => exact ⟨0, rfl, by omega, Lib.hid ⟨by omega, by omega, by omega⟩, (three_new w hN _ _ _ 67 54 3).1, (three_new w hN _ _ _ 67 54 3).2.1.cell 0, (three_new w hN _ _ _ 67 54 3).2.2.cell 0, (three_new w hN _ _ _ 67 54 3).2.2.cell 1, (three_new w hN _ _ _ 67 54 3).2.2.cell 2⟩
    case round =>
      obtain ⟨i, rfl, hi3, hf, hb, k0, k1, k2, k3⟩ := hrel
      have HBW := Lib.hid hb
      have HK := Lib.hid (And.intro k0 (And.intro k1 (And.intro k2 k3)))
      clear hb
      rcases (show i = 0 ∨ i = 1 ∨ i = 2 ∨ i = 3 by omega) with rfl | rfl | rfl | rfl
      · clear hi3 k0 k2 k3
        by_cases l0 : lo < 0
        · have p9 : decide (lo < 0) = true := decide_eq_true l0
          have HRR := Lib.hid (show R = false by rw [HR2.out]; unfold Sp.fitB; rw [decide_eq_false (show ¬ 0 ≤ lo by omega)]; simp)
          clear l0
          go_wp2_with fail
          go_ret
          exact ⟨by rw [HRR.out]; rfl, HBW.out⟩
        have p9 : decide (lo < 0) = false := decide_eq_false l0
        by_cases l1 : 4294967295 < lo
        · have p10 : decide (lo > 4294967295) = true := decide_eq_true l1
          have p11 : decide (4294967295 < lo) = true := decide_eq_true l1
          have HRR := Lib.hid (show R = false by rw [HR2.out]; unfold Sp.fitB; rw [decide_eq_false (show ¬ lo ≤ 4294967295 by omega)]; simp)
          clear l0 l1
          go_wp2_with fail
          go_ret
          exact ⟨by rw [HRR.out]; rfl, HBW.out⟩
        have p10 : decide (lo > 4294967295) = false := decide_eq_false l1
        have p11 : decide (4294967295 < lo) = false := decide_eq_false l1
        have HV := Lib.hid (show Sp.fitB lo = true by unfold Sp.fitB; rw [decide_eq_true (show 0 ≤ lo by omega), decide_eq_true (show lo ≤ 4294967295 by omega)]; rfl)
        clear l0 l1
        go_wp2_with fail
        go_roundw
        case rel => exact ⟨1, rfl, by omega, Lib.hid ⟨fun _ => HV.out, fun h => absurd h (by omega), fun h => absurd h (by omega)⟩, HBW.out, HK.out.1, HK.out.2.1, HK.out.2.2.1, HK.out.2.2.2⟩
        case measure => simp [intOf]
      · clear hi3 k0 k1 k3
        by_cases l0 : hi < 0
        · have p9 : decide (hi < 0) = true := decide_eq_true l0
          have HRR := Lib.hid (show R = false by rw [HR2.out]; unfold Sp.fitB; rw [decide_eq_false (show ¬ 0 ≤ hi by omega)]; simp)
          clear l0
          go_wp2_with fail
          go_ret
          exact ⟨by rw [HRR.out]; rfl, HBW.out⟩
        have p9 : decide (hi < 0) = false := decide_eq_false l0
        by_cases l1 : 4294967295 < hi
        · have p10 : decide (hi > 4294967295) = true := decide_eq_true l1
          have p11 : decide (4294967295 < hi) = true := decide_eq_true l1
          have HRR := Lib.hid (show R = false by rw [HR2.out]; unfold Sp.fitB; rw [decide_eq_false (show ¬ hi ≤ 4294967295 by omega)]; simp)
          clear l0 l1
          go_wp2_with fail
          go_ret
          exact ⟨by rw [HRR.out]; rfl, HBW.out⟩
        have p10 : decide (hi > 4294967295) = false := decide_eq_false l1
        have p11 : decide (4294967295 < hi) = false := decide_eq_false l1
        have HV := Lib.hid (show Sp.fitB hi = true by unfold Sp.fitB; rw [decide_eq_true (show 0 ≤ hi by omega), decide_eq_true (show hi ≤ 4294967295 by omega)]; rfl)
        clear l0 l1
        go_wp2_with fail
        go_roundw
        case rel => exact ⟨2, rfl, by omega, Lib.hid ⟨fun _ => hf.out.1 (by omega), fun _ => HV.out, fun h => absurd h (by omega)⟩, HBW.out, HK.out.1, HK.out.2.1, HK.out.2.2.1, HK.out.2.2.2⟩
        case measure => simp [intOf]
      · clear hi3 k0 k1 k2
        by_cases l0 : le < 0
        · have p9 : decide (le < 0) = true := decide_eq_true l0
          have HRR := Lib.hid (show R = false by rw [HR2.out]; unfold Sp.fitB; rw [decide_eq_false (show ¬ 0 ≤ le by omega)]; simp)
          clear l0
          go_wp2_with fail
          go_ret
          exact ⟨by rw [HRR.out]; rfl, HBW.out⟩
        have p9 : decide (le < 0) = false := decide_eq_false l0
        by_cases l1 : 4294967295 < le
        · have p10 : decide (le > 4294967295) = true := decide_eq_true l1
          have p11 : decide (4294967295 < le) = true := decide_eq_true l1
          have HRR := Lib.hid (show R = false by rw [HR2.out]; unfold Sp.fitB; rw [decide_eq_false (show ¬ le ≤ 4294967295 by omega)]; simp)
          clear l0 l1
          go_wp2_with fail
          go_ret
          exact ⟨by rw [HRR.out]; rfl, HBW.out⟩
        have p10 : decide (le > 4294967295) = false := decide_eq_false l1
        have p11 : decide (4294967295 < le) = false := decide_eq_false l1
        have HV := Lib.hid (show Sp.fitB le = true by unfold Sp.fitB; rw [decide_eq_true (show 0 ≤ le by omega), decide_eq_true (show le ≤ 4294967295 by omega)]; rfl)
        clear l0 l1
        go_wp2_with fail
        go_roundw
        case rel => exact ⟨3, rfl, by omega, Lib.hid ⟨fun _ => hf.out.1 (by omega), fun _ => hf.out.2.1 (by omega), fun _ => HV.out⟩, HBW.out, HK.out.1, HK.out.2.1, HK.out.2.2.1, HK.out.2.2.2⟩
        case measure => simp [intOf]
      · have HFI := Lib.hid (show (Sp.fitB lo && Sp.fitB hi && Sp.fitB le) = true by rw [hf.out.1 (by omega), hf.out.2.1 (by omega), hf.out.2.2 (by omega)]; rfl)
        have HC := Lib.hid (HNM.out wr (HGB.out wr HBW.out))
        have hNl := cell_in k0
        clear hf hi3 k1 k2 k3
        obtain ⟨b1, hb1⟩ : ∃ b, (F == Sp.anyW) = b := ⟨_, rfl⟩
        obtain ⟨b2, hb2⟩ : ∃ b, (F == Sp.noneW) = b := ⟨_, rfl⟩
        have s1 : (F == [97, 110, 121]) = b1 := hb1
        have s2 : (F == [110, 111, 110, 101]) = b2 := hb2
        have HR3 := Lib.hid (show R = (nm && !b1 && !b2) by rw [HR2.out, HFI.out, ← hb1, ← hb2, Bool.and_true]; rfl)
        clear hb1 hb2
        go_wp2_with fail
        refine HC.out.mono ?_
        rintro e w3 ⟨rfl, h3⟩
        have k9 := (h3.cell (p := ⟨N, 0, none⟩) hNl).trans k0
        have HB3 := Lib.hid (HBW.out.trans (h3.mono HBW.out.size))
        clear h3 hNl
        cases nm
        case false =>
          have HRR := Lib.hid (show R = false by rw [HR3.out]; rfl)
          go_wp2_with fail
          go_ret
          exact ⟨by rw [HRR.out]; rfl, HB3.out⟩
        
        case true =>
          cases b1
          case false =>
            have HRR := Lib.hid (show R = !b2 by rw [HR3.out]; rfl)
            have s3 : (F != [110, 111, 110, 101]) = !b2 := by rw [← s2]; rfl
            go_wp2_with fail
            go_ret
            exact ⟨by rw [HRR.out]; rfl, HB3.out⟩
          case true =>
            have HRR := Lib.hid (show R = false by rw [HR3.out]; rfl)
            go_wp2_with fail
            go_ret
            exact ⟨by rw [HRR.out]; rfl, HB3.out⟩

theorem written_2 (F pa : List UInt8) (op lo hi le : Int) (R : Bool) (w : World) (hG : Gs w) (hFl : F.length ≤ 4611686018427387904) (hpl : pa.length ≤ 4611686018427387904)
    (hR : R = (Sp.nameB F && F != Sp.anyW && F != Sp.noneW && decide (1 ≤ op) && decide (op ≤ 6) && Sp.fitB lo && Sp.fitB hi && Sp.fitB le && (decide (op ≤ 2) && (0 == hi && [] == pa)))) :
    Calls Tryz.prog 26 #[.agg #[.string (bs F), .int .i64 op, .int .i64 2, .int .i64 lo, .int .i64 hi, .int .i64 le, .string (bs pa)]] w (Gives (.bool R) w) := by
  have hEQ : ∀ W : World, (binOp .neq 54 (.agg #[.string (bs F), .int .i64 op, .int .i64 2, .int .i64 lo, .int .i64 0, .int .i64 le, .string ⟨#[]⟩]) (.agg #[.string (bs F), .int .i64 op, .int .i64 2, .int .i64 lo, .int .i64 hi, .int .i64 le, .string (bs pa)])).run Tryz.prog W = .ok (.bool (!(0 == hi && [] == pa))) W := by
    intro W
    have := run_neq_test F F [] pa op op 2 2 lo lo 0 hi le le W
    rw [show bs [] = (⟨#[]⟩ : ByteArray) from rfl] at this
    rw [this]
    congr 2
    simp
  generalize (0 == hi && [] == pa) = eb at *
  have HNM := Lib.hid (fun W (h : Gs W) => expr_isName (bs F) W h (by rw [bs_size]; omega))
  have hbsF : (bs F).data.toList = F := rfl
  rw [hbsF] at HNM
  obtain ⟨nm, hnm⟩ : ∃ nm, Sp.nameB F = nm := ⟨_, rfl⟩
  rw [hnm] at hR HNM
  have hGB : ∀ W, Below w.heap.size w W → Gs W := fun W hb => hG.below hb
  have HGB := Lib.hid hGB
  have HR := Lib.hid hR
  have q0 : (bs F).toList = F := bs_list F
  clear hG hFl hnm hbsF hR hGB
  clear hpl
  obtain ⟨N, hN⟩ : ∃ N, w.heap.size = N := ⟨_, rfl⟩
  by_cases c1 : op < 1
  · have p1 : decide (op < 1) = true := decide_eq_true c1
    have HRR := Lib.hid (show R = false by rw [HR.out, decide_eq_false (show ¬ 1 ≤ op by omega)]; simp)
    go_enter Tryz.func26, Tryz.ntmps26
    go_wp2_with fail
    go_region
    all_goals go_wp2_with fail
    go_ret
    exact ⟨by rw [HRR.out]; rfl, by first | exact HBW.out | exact (((Below.refl _ _).alloc (Nat.le_refl _) _).alloc (by simp) _) | exact (((Below.refl _ _).alloc (Nat.le_refl _) _).alloc (by simp) _).drew⟩
  have p1 : decide (op < 1) = false := decide_eq_false c1
  by_cases c2 : 6 < op
  · have p2 : decide (op > 6) = true := decide_eq_true c2
    have p2b : decide (6 < op) = true := decide_eq_true c2
    have HRR := Lib.hid (show R = false by rw [HR.out, decide_eq_false (show ¬ op ≤ 6 by omega)]; simp)
    go_enter Tryz.func26, Tryz.ntmps26
    go_wp2_with fail
    go_region
    all_goals go_wp2_with fail
    go_ret
    exact ⟨by rw [HRR.out]; rfl, by first | exact HBW.out | exact (((Below.refl _ _).alloc (Nat.le_refl _) _).alloc (by simp) _) | exact (((Below.refl _ _).alloc (Nat.le_refl _) _).alloc (by simp) _).drew⟩
  have p2 : decide (op > 6) = false := decide_eq_false c2
  have p2b : decide (6 < op) = false := decide_eq_false c2
  by_cases c3 : 2 < op
  · have p3 : decide (op > 2) = true := decide_eq_true c3
    have p3b : decide (2 < op) = true := decide_eq_true c3
    have HRR := Lib.hid (show R = false by rw [HR.out, decide_eq_false (show ¬ op ≤ 2 by omega)]; simp)
    go_enter Tryz.func26, Tryz.ntmps26
    go_wp2_with fail
    go_region
    all_goals go_wp2_with fail
    go_ret
    exact ⟨by rw [HRR.out]; rfl, by first | exact HBW.out | exact (((Below.refl _ _).alloc (Nat.le_refl _) _).alloc (by simp) _) | exact (((Below.refl _ _).alloc (Nat.le_refl _) _).alloc (by simp) _).drew⟩
  have p3 : decide (op > 2) = false := decide_eq_false c3
  have p3b : decide (2 < op) = false := decide_eq_false c3
  cases eb
  case false =>
    have HRR := Lib.hid (show R = false by rw [HR.out]; simp)
    go_enter Tryz.func26, Tryz.ntmps26
    go_wp2_with fail
    go_region
    all_goals go_wp2_with fail
    go_ret
    exact ⟨by rw [HRR.out]; rfl, by first | exact HBW.out | exact (((Below.refl _ _).alloc (Nat.le_refl _) _).alloc (by simp) _) | exact (((Below.refl _ _).alloc (Nat.le_refl _) _).alloc (by simp) _).drew⟩
  case true =>
    have HR2 := Lib.hid (show R = (nm && F != Sp.anyW && F != Sp.noneW && (Sp.fitB lo && Sp.fitB hi && Sp.fitB le)) by rw [HR.out, decide_eq_true (show 1 ≤ op by omega), decide_eq_true (show op ≤ 6 by omega), decide_eq_true (show op ≤ 2 by omega)]; simp [Bool.and_assoc])
    clear c1 c2 c3
    go_enter Tryz.func26, Tryz.ntmps26
    go_wp2_with fail
    go_region
    all_goals go_wp2_with fail
    go_loopw [96] (fun v96 wr => ∃ i : Nat, v96 = .int .i64 (i : Int) ∧ i ≤ 3 ∧ Hid ((0 < i → Sp.fitB lo = true) ∧ (1 < i → Sp.fitB hi = true) ∧ (2 < i → Sp.fitB le = true)) ∧ Below w.heap.size w wr ∧ wr.cell? ⟨N, 0, none⟩ = some (.string (bs F)) ∧ wr.cell? ⟨N + 1 + 1, 0, none⟩ = some (.int .i64 lo) ∧ wr.cell? ⟨N + 1 + 1, 1, none⟩ = some (.int .i64 hi) ∧ wr.cell? ⟨N + 1 + 1, 2, none⟩ = some (.int .i64 le)) (fun v96 _ => 3 - (intOf v96).toNat)
    case atStart => exact ⟨0, rfl, by omega, Lib.hid ⟨by omega, by omega, by omega⟩, (three_new w hN _ _ _ 67 54 3).1.drew, (three_new w hN _ _ _ 67 54 3).2.1.cell 0, (three_new w hN _ _ _ 67 54 3).2.2.cell 0, (three_new w hN _ _ _ 67 54 3).2.2.cell 1, (three_new w hN _ _ _ 67 54 3).2.2.cell 2⟩
    case round =>
      obtain ⟨i, rfl, hi3, hf, hb, k0, k1, k2, k3⟩ := hrel
      have HBW := Lib.hid hb
      have HK := Lib.hid (And.intro k0 (And.intro k1 (And.intro k2 k3)))
      clear hb
      rcases (show i = 0 ∨ i = 1 ∨ i = 2 ∨ i = 3 by omega) with rfl | rfl | rfl | rfl
      · clear hi3 k0 k2 k3
        by_cases l0 : lo < 0
        · have p9 : decide (lo < 0) = true := decide_eq_true l0
          have HRR := Lib.hid (show R = false by rw [HR2.out]; unfold Sp.fitB; rw [decide_eq_false (show ¬ 0 ≤ lo by omega)]; simp)
          clear l0
          go_wp2_with fail
          go_ret
          exact ⟨by rw [HRR.out]; rfl, HBW.out⟩
        have p9 : decide (lo < 0) = false := decide_eq_false l0
        by_cases l1 : 4294967295 < lo
        · have p10 : decide (lo > 4294967295) = true := decide_eq_true l1
          have p11 : decide (4294967295 < lo) = true := decide_eq_true l1
          have HRR := Lib.hid (show R = false by rw [HR2.out]; unfold Sp.fitB; rw [decide_eq_false (show ¬ lo ≤ 4294967295 by omega)]; simp)
          clear l0 l1
          go_wp2_with fail
          go_ret
          exact ⟨by rw [HRR.out]; rfl, HBW.out⟩
        have p10 : decide (lo > 4294967295) = false := decide_eq_false l1
        have p11 : decide (4294967295 < lo) = false := decide_eq_false l1
        have HV := Lib.hid (show Sp.fitB lo = true by unfold Sp.fitB; rw [decide_eq_true (show 0 ≤ lo by omega), decide_eq_true (show lo ≤ 4294967295 by omega)]; rfl)
        clear l0 l1
        go_wp2_with fail
        go_roundw
        case rel => exact ⟨1, rfl, by omega, Lib.hid ⟨fun _ => HV.out, fun h => absurd h (by omega), fun h => absurd h (by omega)⟩, HBW.out, HK.out.1, HK.out.2.1, HK.out.2.2.1, HK.out.2.2.2⟩
        case measure => simp [intOf]
      · clear hi3 k0 k1 k3
        by_cases l0 : hi < 0
        · have p9 : decide (hi < 0) = true := decide_eq_true l0
          have HRR := Lib.hid (show R = false by rw [HR2.out]; unfold Sp.fitB; rw [decide_eq_false (show ¬ 0 ≤ hi by omega)]; simp)
          clear l0
          go_wp2_with fail
          go_ret
          exact ⟨by rw [HRR.out]; rfl, HBW.out⟩
        have p9 : decide (hi < 0) = false := decide_eq_false l0
        by_cases l1 : 4294967295 < hi
        · have p10 : decide (hi > 4294967295) = true := decide_eq_true l1
          have p11 : decide (4294967295 < hi) = true := decide_eq_true l1
          have HRR := Lib.hid (show R = false by rw [HR2.out]; unfold Sp.fitB; rw [decide_eq_false (show ¬ hi ≤ 4294967295 by omega)]; simp)
          clear l0 l1
          go_wp2_with fail
          go_ret
          exact ⟨by rw [HRR.out]; rfl, HBW.out⟩
        have p10 : decide (hi > 4294967295) = false := decide_eq_false l1
        have p11 : decide (4294967295 < hi) = false := decide_eq_false l1
        have HV := Lib.hid (show Sp.fitB hi = true by unfold Sp.fitB; rw [decide_eq_true (show 0 ≤ hi by omega), decide_eq_true (show hi ≤ 4294967295 by omega)]; rfl)
        clear l0 l1
        go_wp2_with fail
        go_roundw
        case rel => exact ⟨2, rfl, by omega, Lib.hid ⟨fun _ => hf.out.1 (by omega), fun _ => HV.out, fun h => absurd h (by omega)⟩, HBW.out, HK.out.1, HK.out.2.1, HK.out.2.2.1, HK.out.2.2.2⟩
        case measure => simp [intOf]
      · clear hi3 k0 k1 k2
        by_cases l0 : le < 0
        · have p9 : decide (le < 0) = true := decide_eq_true l0
          have HRR := Lib.hid (show R = false by rw [HR2.out]; unfold Sp.fitB; rw [decide_eq_false (show ¬ 0 ≤ le by omega)]; simp)
          clear l0
          go_wp2_with fail
          go_ret
          exact ⟨by rw [HRR.out]; rfl, HBW.out⟩
        have p9 : decide (le < 0) = false := decide_eq_false l0
        by_cases l1 : 4294967295 < le
        · have p10 : decide (le > 4294967295) = true := decide_eq_true l1
          have p11 : decide (4294967295 < le) = true := decide_eq_true l1
          have HRR := Lib.hid (show R = false by rw [HR2.out]; unfold Sp.fitB; rw [decide_eq_false (show ¬ le ≤ 4294967295 by omega)]; simp)
          clear l0 l1
          go_wp2_with fail
          go_ret
          exact ⟨by rw [HRR.out]; rfl, HBW.out⟩
        have p10 : decide (le > 4294967295) = false := decide_eq_false l1
        have p11 : decide (4294967295 < le) = false := decide_eq_false l1
        have HV := Lib.hid (show Sp.fitB le = true by unfold Sp.fitB; rw [decide_eq_true (show 0 ≤ le by omega), decide_eq_true (show le ≤ 4294967295 by omega)]; rfl)
        clear l0 l1
        go_wp2_with fail
        go_roundw
        case rel => exact ⟨3, rfl, by omega, Lib.hid ⟨fun _ => hf.out.1 (by omega), fun _ => hf.out.2.1 (by omega), fun _ => HV.out⟩, HBW.out, HK.out.1, HK.out.2.1, HK.out.2.2.1, HK.out.2.2.2⟩
        case measure => simp [intOf]
      · have HFI := Lib.hid (show (Sp.fitB lo && Sp.fitB hi && Sp.fitB le) = true by rw [hf.out.1 (by omega), hf.out.2.1 (by omega), hf.out.2.2 (by omega)]; rfl)
        have HC := Lib.hid (HNM.out wr (HGB.out wr HBW.out))
        have hNl := cell_in k0
        clear hf hi3 k1 k2 k3
        obtain ⟨b1, hb1⟩ : ∃ b, (F == Sp.anyW) = b := ⟨_, rfl⟩
        obtain ⟨b2, hb2⟩ : ∃ b, (F == Sp.noneW) = b := ⟨_, rfl⟩
        have s1 : (F == [97, 110, 121]) = b1 := hb1
        have s2 : (F == [110, 111, 110, 101]) = b2 := hb2
        have HR3 := Lib.hid (show R = (nm && !b1 && !b2) by rw [HR2.out, HFI.out, ← hb1, ← hb2, Bool.and_true]; rfl)
        clear hb1 hb2
        go_wp2_with fail
        refine HC.out.mono ?_
        rintro e w3 ⟨rfl, h3⟩
        have k9 := (h3.cell (p := ⟨N, 0, none⟩) hNl).trans k0
        have HB3 := Lib.hid (HBW.out.trans (h3.mono HBW.out.size))
        clear h3 hNl
        cases nm
        case false =>
          have HRR := Lib.hid (show R = false by rw [HR3.out]; rfl)
          go_wp2_with fail
          go_ret
          exact ⟨by rw [HRR.out]; rfl, HB3.out⟩
        
        case true =>
          cases b1
          case false =>
            have HRR := Lib.hid (show R = !b2 by rw [HR3.out]; rfl)
            have s3 : (F != [110, 111, 110, 101]) = !b2 := by rw [← s2]; rfl
            go_wp2_with fail
            go_ret
            exact ⟨by rw [HRR.out]; rfl, HB3.out⟩
          case true =>
            have HRR := Lib.hid (show R = false by rw [HR3.out]; rfl)
            go_wp2_with fail
            go_ret
            exact ⟨by rw [HRR.out]; rfl, HB3.out⟩

theorem written_3 (F pa : List UInt8) (op lo hi le : Int) (R : Bool) (w : World) (hG : Gs w) (hFl : F.length ≤ 4611686018427387904) (hpl : pa.length ≤ 4611686018427387904)
    (hR : R = (Sp.nameB F && F != Sp.anyW && F != Sp.noneW && decide (1 ≤ op) && decide (op ≤ 6) && Sp.fitB lo && Sp.fitB hi && Sp.fitB le && (decide (op ≤ 2) && (0 == le && [] == pa)))) :
    Calls Tryz.prog 26 #[.agg #[.string (bs F), .int .i64 op, .int .i64 3, .int .i64 lo, .int .i64 hi, .int .i64 le, .string (bs pa)]] w (Gives (.bool R) w) := by
  have hEQ : ∀ W : World, (binOp .neq 54 (.agg #[.string (bs F), .int .i64 op, .int .i64 3, .int .i64 lo, .int .i64 hi, .int .i64 0, .string ⟨#[]⟩]) (.agg #[.string (bs F), .int .i64 op, .int .i64 3, .int .i64 lo, .int .i64 hi, .int .i64 le, .string (bs pa)])).run Tryz.prog W = .ok (.bool (!(0 == le && [] == pa))) W := by
    intro W
    have := run_neq_test F F [] pa op op 3 3 lo lo hi hi 0 le W
    rw [show bs [] = (⟨#[]⟩ : ByteArray) from rfl] at this
    rw [this]
    congr 2
    simp
  generalize (0 == le && [] == pa) = eb at *
  have HNM := Lib.hid (fun W (h : Gs W) => expr_isName (bs F) W h (by rw [bs_size]; omega))
  have hbsF : (bs F).data.toList = F := rfl
  rw [hbsF] at HNM
  obtain ⟨nm, hnm⟩ : ∃ nm, Sp.nameB F = nm := ⟨_, rfl⟩
  rw [hnm] at hR HNM
  have hGB : ∀ W, Below w.heap.size w W → Gs W := fun W hb => hG.below hb
  have HGB := Lib.hid hGB
  have HR := Lib.hid hR
  have q0 : (bs F).toList = F := bs_list F
  clear hG hFl hnm hbsF hR hGB
  clear hpl
  obtain ⟨N, hN⟩ : ∃ N, w.heap.size = N := ⟨_, rfl⟩
  by_cases c1 : op < 1
  · have p1 : decide (op < 1) = true := decide_eq_true c1
    have HRR := Lib.hid (show R = false by rw [HR.out, decide_eq_false (show ¬ 1 ≤ op by omega)]; simp)
    go_enter Tryz.func26, Tryz.ntmps26
    go_wp2_with fail
    go_region
    all_goals go_wp2_with fail
    go_ret
    exact ⟨by rw [HRR.out]; rfl, by first | exact HBW.out | exact (((Below.refl _ _).alloc (Nat.le_refl _) _).alloc (by simp) _) | exact (((Below.refl _ _).alloc (Nat.le_refl _) _).alloc (by simp) _).drew⟩
  have p1 : decide (op < 1) = false := decide_eq_false c1
  by_cases c2 : 6 < op
  · have p2 : decide (op > 6) = true := decide_eq_true c2
    have p2b : decide (6 < op) = true := decide_eq_true c2
    have HRR := Lib.hid (show R = false by rw [HR.out, decide_eq_false (show ¬ op ≤ 6 by omega)]; simp)
    go_enter Tryz.func26, Tryz.ntmps26
    go_wp2_with fail
    go_region
    all_goals go_wp2_with fail
    go_ret
    exact ⟨by rw [HRR.out]; rfl, by first | exact HBW.out | exact (((Below.refl _ _).alloc (Nat.le_refl _) _).alloc (by simp) _) | exact (((Below.refl _ _).alloc (Nat.le_refl _) _).alloc (by simp) _).drew⟩
  have p2 : decide (op > 6) = false := decide_eq_false c2
  have p2b : decide (6 < op) = false := decide_eq_false c2
  by_cases c3 : 2 < op
  · have p3 : decide (op > 2) = true := decide_eq_true c3
    have p3b : decide (2 < op) = true := decide_eq_true c3
    have HRR := Lib.hid (show R = false by rw [HR.out, decide_eq_false (show ¬ op ≤ 2 by omega)]; simp)
    go_enter Tryz.func26, Tryz.ntmps26
    go_wp2_with fail
    go_region
    all_goals go_wp2_with fail
    go_ret
    exact ⟨by rw [HRR.out]; rfl, by first | exact HBW.out | exact (((Below.refl _ _).alloc (Nat.le_refl _) _).alloc (by simp) _) | exact (((Below.refl _ _).alloc (Nat.le_refl _) _).alloc (by simp) _).drew⟩
  have p3 : decide (op > 2) = false := decide_eq_false c3
  have p3b : decide (2 < op) = false := decide_eq_false c3
  cases eb
  case false =>
    have HRR := Lib.hid (show R = false by rw [HR.out]; simp)
    go_enter Tryz.func26, Tryz.ntmps26
    go_wp2_with fail
    go_region
    all_goals go_wp2_with fail
    go_ret
    exact ⟨by rw [HRR.out]; rfl, by first | exact HBW.out | exact (((Below.refl _ _).alloc (Nat.le_refl _) _).alloc (by simp) _) | exact (((Below.refl _ _).alloc (Nat.le_refl _) _).alloc (by simp) _).drew⟩
  case true =>
    have HR2 := Lib.hid (show R = (nm && F != Sp.anyW && F != Sp.noneW && (Sp.fitB lo && Sp.fitB hi && Sp.fitB le)) by rw [HR.out, decide_eq_true (show 1 ≤ op by omega), decide_eq_true (show op ≤ 6 by omega), decide_eq_true (show op ≤ 2 by omega)]; simp [Bool.and_assoc])
    clear c1 c2 c3
    go_enter Tryz.func26, Tryz.ntmps26
    go_wp2_with fail
    go_region
    all_goals go_wp2_with fail
    go_loopw [96] (fun v96 wr => ∃ i : Nat, v96 = .int .i64 (i : Int) ∧ i ≤ 3 ∧ Hid ((0 < i → Sp.fitB lo = true) ∧ (1 < i → Sp.fitB hi = true) ∧ (2 < i → Sp.fitB le = true)) ∧ Below w.heap.size w wr ∧ wr.cell? ⟨N, 0, none⟩ = some (.string (bs F)) ∧ wr.cell? ⟨N + 1 + 1, 0, none⟩ = some (.int .i64 lo) ∧ wr.cell? ⟨N + 1 + 1, 1, none⟩ = some (.int .i64 hi) ∧ wr.cell? ⟨N + 1 + 1, 2, none⟩ = some (.int .i64 le)) (fun v96 _ => 3 - (intOf v96).toNat)
    case atStart => exact ⟨0, rfl, by omega, Lib.hid ⟨by omega, by omega, by omega⟩, (three_new w hN _ _ _ 67 54 3).1.drew, (three_new w hN _ _ _ 67 54 3).2.1.cell 0, (three_new w hN _ _ _ 67 54 3).2.2.cell 0, (three_new w hN _ _ _ 67 54 3).2.2.cell 1, (three_new w hN _ _ _ 67 54 3).2.2.cell 2⟩
    case round =>
      obtain ⟨i, rfl, hi3, hf, hb, k0, k1, k2, k3⟩ := hrel
      have HBW := Lib.hid hb
      have HK := Lib.hid (And.intro k0 (And.intro k1 (And.intro k2 k3)))
      clear hb
      rcases (show i = 0 ∨ i = 1 ∨ i = 2 ∨ i = 3 by omega) with rfl | rfl | rfl | rfl
      · clear hi3 k0 k2 k3
        by_cases l0 : lo < 0
        · have p9 : decide (lo < 0) = true := decide_eq_true l0
          have HRR := Lib.hid (show R = false by rw [HR2.out]; unfold Sp.fitB; rw [decide_eq_false (show ¬ 0 ≤ lo by omega)]; simp)
          clear l0
          go_wp2_with fail
          go_ret
          exact ⟨by rw [HRR.out]; rfl, HBW.out⟩
        have p9 : decide (lo < 0) = false := decide_eq_false l0
        by_cases l1 : 4294967295 < lo
        · have p10 : decide (lo > 4294967295) = true := decide_eq_true l1
          have p11 : decide (4294967295 < lo) = true := decide_eq_true l1
          have HRR := Lib.hid (show R = false by rw [HR2.out]; unfold Sp.fitB; rw [decide_eq_false (show ¬ lo ≤ 4294967295 by omega)]; simp)
          clear l0 l1
          go_wp2_with fail
          go_ret
          exact ⟨by rw [HRR.out]; rfl, HBW.out⟩
        have p10 : decide (lo > 4294967295) = false := decide_eq_false l1
        have p11 : decide (4294967295 < lo) = false := decide_eq_false l1
        have HV := Lib.hid (show Sp.fitB lo = true by unfold Sp.fitB; rw [decide_eq_true (show 0 ≤ lo by omega), decide_eq_true (show lo ≤ 4294967295 by omega)]; rfl)
        clear l0 l1
        go_wp2_with fail
        go_roundw
        case rel => exact ⟨1, rfl, by omega, Lib.hid ⟨fun _ => HV.out, fun h => absurd h (by omega), fun h => absurd h (by omega)⟩, HBW.out, HK.out.1, HK.out.2.1, HK.out.2.2.1, HK.out.2.2.2⟩
        case measure => simp [intOf]
      · clear hi3 k0 k1 k3
        by_cases l0 : hi < 0
        · have p9 : decide (hi < 0) = true := decide_eq_true l0
          have HRR := Lib.hid (show R = false by rw [HR2.out]; unfold Sp.fitB; rw [decide_eq_false (show ¬ 0 ≤ hi by omega)]; simp)
          clear l0
          go_wp2_with fail
          go_ret
          exact ⟨by rw [HRR.out]; rfl, HBW.out⟩
        have p9 : decide (hi < 0) = false := decide_eq_false l0
        by_cases l1 : 4294967295 < hi
        · have p10 : decide (hi > 4294967295) = true := decide_eq_true l1
          have p11 : decide (4294967295 < hi) = true := decide_eq_true l1
          have HRR := Lib.hid (show R = false by rw [HR2.out]; unfold Sp.fitB; rw [decide_eq_false (show ¬ hi ≤ 4294967295 by omega)]; simp)
          clear l0 l1
          go_wp2_with fail
          go_ret
          exact ⟨by rw [HRR.out]; rfl, HBW.out⟩
        have p10 : decide (hi > 4294967295) = false := decide_eq_false l1
        have p11 : decide (4294967295 < hi) = false := decide_eq_false l1
        have HV := Lib.hid (show Sp.fitB hi = true by unfold Sp.fitB; rw [decide_eq_true (show 0 ≤ hi by omega), decide_eq_true (show hi ≤ 4294967295 by omega)]; rfl)
        clear l0 l1
        go_wp2_with fail
        go_roundw
        case rel => exact ⟨2, rfl, by omega, Lib.hid ⟨fun _ => hf.out.1 (by omega), fun _ => HV.out, fun h => absurd h (by omega)⟩, HBW.out, HK.out.1, HK.out.2.1, HK.out.2.2.1, HK.out.2.2.2⟩
        case measure => simp [intOf]
      · clear hi3 k0 k1 k2
        by_cases l0 : le < 0
        · have p9 : decide (le < 0) = true := decide_eq_true l0
          have HRR := Lib.hid (show R = false by rw [HR2.out]; unfold Sp.fitB; rw [decide_eq_false (show ¬ 0 ≤ le by omega)]; simp)
          clear l0
          go_wp2_with fail
          go_ret
          exact ⟨by rw [HRR.out]; rfl, HBW.out⟩
        have p9 : decide (le < 0) = false := decide_eq_false l0
        by_cases l1 : 4294967295 < le
        · have p10 : decide (le > 4294967295) = true := decide_eq_true l1
          have p11 : decide (4294967295 < le) = true := decide_eq_true l1
          have HRR := Lib.hid (show R = false by rw [HR2.out]; unfold Sp.fitB; rw [decide_eq_false (show ¬ le ≤ 4294967295 by omega)]; simp)
          clear l0 l1
          go_wp2_with fail
          go_ret
          exact ⟨by rw [HRR.out]; rfl, HBW.out⟩
        have p10 : decide (le > 4294967295) = false := decide_eq_false l1
        have p11 : decide (4294967295 < le) = false := decide_eq_false l1
        have HV := Lib.hid (show Sp.fitB le = true by unfold Sp.fitB; rw [decide_eq_true (show 0 ≤ le by omega), decide_eq_true (show le ≤ 4294967295 by omega)]; rfl)
        clear l0 l1
        go_wp2_with fail
        go_roundw
        case rel => exact ⟨3, rfl, by omega, Lib.hid ⟨fun _ => hf.out.1 (by omega), fun _ => hf.out.2.1 (by omega), fun _ => HV.out⟩, HBW.out, HK.out.1, HK.out.2.1, HK.out.2.2.1, HK.out.2.2.2⟩
        case measure => simp [intOf]
      · have HFI := Lib.hid (show (Sp.fitB lo && Sp.fitB hi && Sp.fitB le) = true by rw [hf.out.1 (by omega), hf.out.2.1 (by omega), hf.out.2.2 (by omega)]; rfl)
        have HC := Lib.hid (HNM.out wr (HGB.out wr HBW.out))
        have hNl := cell_in k0
        clear hf hi3 k1 k2 k3
        obtain ⟨b1, hb1⟩ : ∃ b, (F == Sp.anyW) = b := ⟨_, rfl⟩
        obtain ⟨b2, hb2⟩ : ∃ b, (F == Sp.noneW) = b := ⟨_, rfl⟩
        have s1 : (F == [97, 110, 121]) = b1 := hb1
        have s2 : (F == [110, 111, 110, 101]) = b2 := hb2
        have HR3 := Lib.hid (show R = (nm && !b1 && !b2) by rw [HR2.out, HFI.out, ← hb1, ← hb2, Bool.and_true]; rfl)
        clear hb1 hb2
        go_wp2_with fail
        refine HC.out.mono ?_
        rintro e w3 ⟨rfl, h3⟩
        have k9 := (h3.cell (p := ⟨N, 0, none⟩) hNl).trans k0
        have HB3 := Lib.hid (HBW.out.trans (h3.mono HBW.out.size))
        clear h3 hNl
        cases nm
        case false =>
          have HRR := Lib.hid (show R = false by rw [HR3.out]; rfl)
          go_wp2_with fail
          go_ret
          exact ⟨by rw [HRR.out]; rfl, HB3.out⟩
        
        case true =>
          cases b1
          case false =>
            have HRR := Lib.hid (show R = !b2 by rw [HR3.out]; rfl)
            have s3 : (F != [110, 111, 110, 101]) = !b2 := by rw [← s2]; rfl
            go_wp2_with fail
            go_ret
            exact ⟨by rw [HRR.out]; rfl, HB3.out⟩
          case true =>
            have HRR := Lib.hid (show R = false by rw [HR3.out]; rfl)
            go_wp2_with fail
            go_ret
            exact ⟨by rw [HRR.out]; rfl, HB3.out⟩

theorem written_4 (F pa : List UInt8) (op lo hi le : Int) (R : Bool) (w : World) (hG : Gs w) (hFl : F.length ≤ 4611686018427387904) (hpl : pa.length ≤ 4611686018427387904)
    (hR : R = (Sp.nameB F && F != Sp.anyW && F != Sp.noneW && decide (1 ≤ op) && decide (op ≤ 6) && Sp.fitB lo && Sp.fitB hi && Sp.fitB le && (decide (op ≤ 2) && ((0 == lo && (0 == hi && 0 == le)) && Sp.patV pa)))) :
    Calls Tryz.prog 26 #[.agg #[.string (bs F), .int .i64 op, .int .i64 4, .int .i64 lo, .int .i64 hi, .int .i64 le, .string (bs pa)]] w (Gives (.bool R) w) := by
  have hEQ : ∀ W : World, (binOp .neq 54 (.agg #[.string (bs F), .int .i64 op, .int .i64 4, .int .i64 0, .int .i64 0, .int .i64 0, .string (bs pa)]) (.agg #[.string (bs F), .int .i64 op, .int .i64 4, .int .i64 lo, .int .i64 hi, .int .i64 le, .string (bs pa)])).run Tryz.prog W = .ok (.bool (!(0 == lo && (0 == hi && 0 == le)))) W := by
    intro W
    have := run_neq_test F F pa pa op op 4 4 0 lo 0 hi 0 le W
    skip
    rw [this]
    congr 2
    simp
  generalize (0 == lo && (0 == hi && 0 == le)) = eb at *
  have HNM := Lib.hid (fun W (h : Gs W) => expr_isName (bs F) W h (by rw [bs_size]; omega))
  have hbsF : (bs F).data.toList = F := rfl
  rw [hbsF] at HNM
  obtain ⟨nm, hnm⟩ : ∃ nm, Sp.nameB F = nm := ⟨_, rfl⟩
  rw [hnm] at hR HNM
  have hGB : ∀ W, Below w.heap.size w W → Gs W := fun W hb => hG.below hb
  have HGB := Lib.hid hGB
  have HR := Lib.hid hR
  have q0 : (bs F).toList = F := bs_list F
  clear hG hFl hnm hbsF hR hGB
  have r1 : ∀ W, (Op.stringOp .add (⟨#[37]⟩ : ByteArray) (bs pa)).run Tryz.prog W = .ok (.string (bs (37 :: pa))) W := by
    intro W
    have := run_string_add_sum (P := Tryz.prog) (w := W) (⟨#[37]⟩ : ByteArray) (bs pa) (by rw [bs_size]; show 1 + _ ≤ _; omega)
    rw [show (⟨#[37]⟩ : ByteArray) = bs [37] from rfl, bs_app] at this
    exact this
  have HPT := Lib.hid (fun W (h : Gs W) => expr_isPattern (bs (37 :: pa)) W h (by rw [bs_size, List.length_cons]; omega))
  have hpe : Sp.patB (bs (37 :: pa)).data.toList = Sp.patV pa := rfl
  rw [hpe] at HPT
  generalize Sp.patV pa = pb at *
  clear hpe
  clear hpl
  obtain ⟨N, hN⟩ : ∃ N, w.heap.size = N := ⟨_, rfl⟩
  go_enter Tryz.func26, Tryz.ntmps26
  go_wp2_with fail
  have T2 := two_new w hN #[.string (bs F), .int .i64 op, .int .i64 4, .int .i64 lo, .int .i64 hi, .int .i64 le, .string (bs pa)] #[.string (bs F), .int .i64 op, .int .i64 4, .int .i64 0, .int .i64 0, .int .i64 0, .string (bs pa)] 67 54
  refine (HPT.out _ (HGB.out _ T2.1)).mono ?_
  rintro e w3 ⟨rfl, h3⟩
  have HB3 := Lib.hid (T2.1.trans (h3.mono T2.1.size))
  have l0 : N < w3.heap.size := Nat.lt_of_lt_of_le T2.2.1.lt h3.size
  have l1 : N + 1 < w3.heap.size := Nat.lt_of_lt_of_le T2.2.2.lt h3.size
  have k00 := (T2.2.1.below h3 T2.2.1.lt).cell 0
  have k01 := (T2.2.1.below h3 T2.2.1.lt).cell 1
  have k02 := (T2.2.1.below h3 T2.2.1.lt).cell 2
  have k03 := (T2.2.1.below h3 T2.2.1.lt).cell 3
  have k04 := (T2.2.1.below h3 T2.2.1.lt).cell 4
  have k05 := (T2.2.1.below h3 T2.2.1.lt).cell 5
  have k06 := (T2.2.1.below h3 T2.2.1.lt).cell 6
  have k10 := (T2.2.2.below h3 T2.2.2.lt).cell 0
  have k11 := (T2.2.2.below h3 T2.2.2.lt).cell 1
  have k12 := (T2.2.2.below h3 T2.2.2.lt).cell 2
  have k13 := (T2.2.2.below h3 T2.2.2.lt).cell 3
  have k14 := (T2.2.2.below h3 T2.2.2.lt).cell 4
  have k15 := (T2.2.2.below h3 T2.2.2.lt).cell 5
  have k16 := (T2.2.2.below h3 T2.2.2.lt).cell 6
  simp only [List.getElem?_toArray, List.getElem?_cons_zero, List.getElem?_cons_succ] at k00 k10 k01 k11 k02 k12 k03 k13 k04 k14 k05 k15 k06 k16
  have HN3 := Lib.hid (And.intro l0 l1)
  obtain ⟨M, hM⟩ : ∃ M, w3.heap.size = M := ⟨_, rfl⟩
  have BM := Lib.hid (fun cs => hM ▸ Blk.new w3 3 cs : ∀ cs, Blk (w3.alloc (.cells cs 3)) M 3 cs)
  clear h3 T2 l0 l1
  cases pb
  case false =>
    have HRR := Lib.hid (show R = false by rw [HR.out]; simp)
    go_wp2_with fail
    go_ret
    exact ⟨by rw [HRR.out]; rfl, HB3.out⟩
  case true =>
  skip
  by_cases c1 : op < 1
  · have p1 : decide (op < 1) = true := decide_eq_true c1
    have HRR := Lib.hid (show R = false by rw [HR.out, decide_eq_false (show ¬ 1 ≤ op by omega)]; simp)
    go_wp2_with fail
    go_ret
    exact ⟨by rw [HRR.out]; rfl, by exact HB3.out⟩
  have p1 : decide (op < 1) = false := decide_eq_false c1
  by_cases c2 : 6 < op
  · have p2 : decide (op > 6) = true := decide_eq_true c2
    have p2b : decide (6 < op) = true := decide_eq_true c2
    have HRR := Lib.hid (show R = false by rw [HR.out, decide_eq_false (show ¬ op ≤ 6 by omega)]; simp)
    go_wp2_with fail
    go_ret
    exact ⟨by rw [HRR.out]; rfl, by exact HB3.out⟩
  have p2 : decide (op > 6) = false := decide_eq_false c2
  have p2b : decide (6 < op) = false := decide_eq_false c2
  by_cases c3 : 2 < op
  · have p3 : decide (op > 2) = true := decide_eq_true c3
    have p3b : decide (2 < op) = true := decide_eq_true c3
    have HRR := Lib.hid (show R = false by rw [HR.out, decide_eq_false (show ¬ op ≤ 2 by omega)]; simp)
    go_wp2_with fail
    go_ret
    exact ⟨by rw [HRR.out]; rfl, by exact HB3.out⟩
  have p3 : decide (op > 2) = false := decide_eq_false c3
  have p3b : decide (2 < op) = false := decide_eq_false c3
  cases eb
  case false =>
    have HRR := Lib.hid (show R = false by rw [HR.out]; simp)
    go_wp2_with fail
    go_ret
    exact ⟨by rw [HRR.out]; rfl, by exact HB3.out⟩
  case true =>
    have HR2 := Lib.hid (show R = (nm && F != Sp.anyW && F != Sp.noneW && (Sp.fitB lo && Sp.fitB hi && Sp.fitB le)) by rw [HR.out, decide_eq_true (show 1 ≤ op by omega), decide_eq_true (show op ≤ 6 by omega), decide_eq_true (show op ≤ 2 by omega)]; simp [Bool.and_assoc])
    clear c1 c2 c3
    go_wp2_with fail
    go_loopw [96] (fun v96 wr => ∃ i : Nat, v96 = .int .i64 (i : Int) ∧ i ≤ 3 ∧ Hid ((0 < i → Sp.fitB lo = true) ∧ (1 < i → Sp.fitB hi = true) ∧ (2 < i → Sp.fitB le = true)) ∧ Below w.heap.size w wr ∧ wr.cell? ⟨N, 0, none⟩ = some (.string (bs F)) ∧ wr.cell? ⟨M, 0, none⟩ = some (.int .i64 lo) ∧ wr.cell? ⟨M, 1, none⟩ = some (.int .i64 hi) ∧ wr.cell? ⟨M, 2, none⟩ = some (.int .i64 le)) (fun v96 _ => 3 - (intOf v96).toNat)
    case atStart => exact ⟨0, rfl, by omega, Lib.hid ⟨by omega, by omega, by omega⟩, HB3.out.trans (((Below.refl _ _).alloc (Nat.le_refl _) _).mono HB3.out.size), ((Below.refl _ _).alloc (Nat.le_refl w3.heap.size) _).cell (p := ⟨N, 0, none⟩) HN3.out.1 |>.trans k00, (BM.out _).cell 0, (BM.out _).cell 1, (BM.out _).cell 2⟩
    case round =>
      obtain ⟨i, rfl, hi3, hf, hb, k0, k1, k2, k3⟩ := hrel
      have HBW := Lib.hid hb
      have HK := Lib.hid (And.intro k0 (And.intro k1 (And.intro k2 k3)))
      clear hb
      rcases (show i = 0 ∨ i = 1 ∨ i = 2 ∨ i = 3 by omega) with rfl | rfl | rfl | rfl
      · clear hi3 k0 k2 k3
        by_cases l0 : lo < 0
        · have p9 : decide (lo < 0) = true := decide_eq_true l0
          have HRR := Lib.hid (show R = false by rw [HR2.out]; unfold Sp.fitB; rw [decide_eq_false (show ¬ 0 ≤ lo by omega)]; simp)
          clear l0
          go_wp2_with fail
          go_ret
          exact ⟨by rw [HRR.out]; rfl, HBW.out⟩
        have p9 : decide (lo < 0) = false := decide_eq_false l0
        by_cases l1 : 4294967295 < lo
        · have p10 : decide (lo > 4294967295) = true := decide_eq_true l1
          have p11 : decide (4294967295 < lo) = true := decide_eq_true l1
          have HRR := Lib.hid (show R = false by rw [HR2.out]; unfold Sp.fitB; rw [decide_eq_false (show ¬ lo ≤ 4294967295 by omega)]; simp)
          clear l0 l1
          go_wp2_with fail
          go_ret
          exact ⟨by rw [HRR.out]; rfl, HBW.out⟩
        have p10 : decide (lo > 4294967295) = false := decide_eq_false l1
        have p11 : decide (4294967295 < lo) = false := decide_eq_false l1
        have HV := Lib.hid (show Sp.fitB lo = true by unfold Sp.fitB; rw [decide_eq_true (show 0 ≤ lo by omega), decide_eq_true (show lo ≤ 4294967295 by omega)]; rfl)
        clear l0 l1
        go_wp2_with fail
        go_roundw
        case rel => exact ⟨1, rfl, by omega, Lib.hid ⟨fun _ => HV.out, fun h => absurd h (by omega), fun h => absurd h (by omega)⟩, HBW.out, HK.out.1, HK.out.2.1, HK.out.2.2.1, HK.out.2.2.2⟩
        case measure => simp [intOf]
      · clear hi3 k0 k1 k3
        by_cases l0 : hi < 0
        · have p9 : decide (hi < 0) = true := decide_eq_true l0
          have HRR := Lib.hid (show R = false by rw [HR2.out]; unfold Sp.fitB; rw [decide_eq_false (show ¬ 0 ≤ hi by omega)]; simp)
          clear l0
          go_wp2_with fail
          go_ret
          exact ⟨by rw [HRR.out]; rfl, HBW.out⟩
        have p9 : decide (hi < 0) = false := decide_eq_false l0
        by_cases l1 : 4294967295 < hi
        · have p10 : decide (hi > 4294967295) = true := decide_eq_true l1
          have p11 : decide (4294967295 < hi) = true := decide_eq_true l1
          have HRR := Lib.hid (show R = false by rw [HR2.out]; unfold Sp.fitB; rw [decide_eq_false (show ¬ hi ≤ 4294967295 by omega)]; simp)
          clear l0 l1
          go_wp2_with fail
          go_ret
          exact ⟨by rw [HRR.out]; rfl, HBW.out⟩
        have p10 : decide (hi > 4294967295) = false := decide_eq_false l1
        have p11 : decide (4294967295 < hi) = false := decide_eq_false l1
        have HV := Lib.hid (show Sp.fitB hi = true by unfold Sp.fitB; rw [decide_eq_true (show 0 ≤ hi by omega), decide_eq_true (show hi ≤ 4294967295 by omega)]; rfl)
        clear l0 l1
        go_wp2_with fail
        go_roundw
        case rel => exact ⟨2, rfl, by omega, Lib.hid ⟨fun _ => hf.out.1 (by omega), fun _ => HV.out, fun h => absurd h (by omega)⟩, HBW.out, HK.out.1, HK.out.2.1, HK.out.2.2.1, HK.out.2.2.2⟩
        case measure => simp [intOf]
      · clear hi3 k0 k1 k2
        by_cases l0 : le < 0
        · have p9 : decide (le < 0) = true := decide_eq_true l0
          have HRR := Lib.hid (show R = false by rw [HR2.out]; unfold Sp.fitB; rw [decide_eq_false (show ¬ 0 ≤ le by omega)]; simp)
          clear l0
          go_wp2_with fail
          go_ret
          exact ⟨by rw [HRR.out]; rfl, HBW.out⟩
        have p9 : decide (le < 0) = false := decide_eq_false l0
        by_cases l1 : 4294967295 < le
        · have p10 : decide (le > 4294967295) = true := decide_eq_true l1
          have p11 : decide (4294967295 < le) = true := decide_eq_true l1
          have HRR := Lib.hid (show R = false by rw [HR2.out]; unfold Sp.fitB; rw [decide_eq_false (show ¬ le ≤ 4294967295 by omega)]; simp)
          clear l0 l1
          go_wp2_with fail
          go_ret
          exact ⟨by rw [HRR.out]; rfl, HBW.out⟩
        have p10 : decide (le > 4294967295) = false := decide_eq_false l1
        have p11 : decide (4294967295 < le) = false := decide_eq_false l1
        have HV := Lib.hid (show Sp.fitB le = true by unfold Sp.fitB; rw [decide_eq_true (show 0 ≤ le by omega), decide_eq_true (show le ≤ 4294967295 by omega)]; rfl)
        clear l0 l1
        go_wp2_with fail
        go_roundw
        case rel => exact ⟨3, rfl, by omega, Lib.hid ⟨fun _ => hf.out.1 (by omega), fun _ => hf.out.2.1 (by omega), fun _ => HV.out⟩, HBW.out, HK.out.1, HK.out.2.1, HK.out.2.2.1, HK.out.2.2.2⟩
        case measure => simp [intOf]
      · have HFI := Lib.hid (show (Sp.fitB lo && Sp.fitB hi && Sp.fitB le) = true by rw [hf.out.1 (by omega), hf.out.2.1 (by omega), hf.out.2.2 (by omega)]; rfl)
        have HC := Lib.hid (HNM.out wr (HGB.out wr HBW.out))
        have hNl := cell_in k0
        clear hf hi3 k1 k2 k3
        obtain ⟨b1, hb1⟩ : ∃ b, (F == Sp.anyW) = b := ⟨_, rfl⟩
        obtain ⟨b2, hb2⟩ : ∃ b, (F == Sp.noneW) = b := ⟨_, rfl⟩
        have s1 : (F == [97, 110, 121]) = b1 := hb1
        have s2 : (F == [110, 111, 110, 101]) = b2 := hb2
        have HR3 := Lib.hid (show R = (nm && !b1 && !b2) by rw [HR2.out, HFI.out, ← hb1, ← hb2, Bool.and_true]; rfl)
        clear hb1 hb2
        go_wp2_with fail
        refine HC.out.mono ?_
        rintro e w3 ⟨rfl, h3⟩
        have k9 := (h3.cell (p := ⟨N, 0, none⟩) hNl).trans k0
        have HB3 := Lib.hid (HBW.out.trans (h3.mono HBW.out.size))
        clear h3 hNl
        cases nm
        case false =>
          have HRR := Lib.hid (show R = false by rw [HR3.out]; rfl)
          go_wp2_with fail
          go_ret
          exact ⟨by rw [HRR.out]; rfl, HB3.out⟩
        
        case true =>
          cases b1
          case false =>
            have HRR := Lib.hid (show R = !b2 by rw [HR3.out]; rfl)
            have s3 : (F != [110, 111, 110, 101]) = !b2 := by rw [← s2]; rfl
            go_wp2_with fail
            go_ret
            exact ⟨by rw [HRR.out]; rfl, HB3.out⟩
          case true =>
            have HRR := Lib.hid (show R = false by rw [HR3.out]; rfl)
            go_wp2_with fail
            go_ret
            exact ⟨by rw [HRR.out]; rfl, HB3.out⟩

theorem written_0 (F pa : List UInt8) (op fo lo hi le : Int) (w : World) (h1 : fo ≠ 1) (h2 : fo ≠ 2) (h3 : fo ≠ 3) (h4 : fo ≠ 4) :
    Calls Tryz.prog 26 #[.agg #[.string (bs F), .int .i64 op, .int .i64 fo, .int .i64 lo, .int .i64 hi, .int .i64 le, .string (bs pa)]] w (Gives (.bool false) w) := by
  have e1 : (fo == 1) = false := beq_eq_false_iff_ne.2 h1
  have e2 : (fo == 2) = false := beq_eq_false_iff_ne.2 h2
  have e3 : (fo == 3) = false := beq_eq_false_iff_ne.2 h3
  have e4 : (fo == 4) = false := beq_eq_false_iff_ne.2 h4
  clear h1 h2 h3 h4
  go_enter Tryz.func26, Tryz.ntmps26
  go_wp2_with fail
  go_ret
  exact ⟨rfl, ((Below.refl _ _).alloc (Nat.le_refl _) _).alloc (by simp) _⟩
/-- Does a text give this test? -/
theorem expr_written (d : Sp.Nd) (w : World) (hG : Gs w) (hFl : d.field.length ≤ 4611686018427387904) (hpl : d.pat.length ≤ 4611686018427387904) :
    Calls Tryz.prog 26 #[.agg (testCells d).toArray] w (Gives (.bool (Sp.wrB d)) w) := by
  obtain ⟨k, F, op, fo, lo, hi, le, pa⟩ := d
  have e : ∀ a b : Int, (a == b) = (b == a) := fun a b => Bool.beq_comm
  have e2 : (pa == []) = ([] == pa) := Bool.beq_comm
  by_cases h1 : fo = 1
  · subst h1
    refine written_1 F pa op lo hi le _ w hG hFl hpl ?_
    unfold Sp.wrB Sp.formB
    simp only [if_pos, e hi 0, e le 0, e2, Bool.and_assoc]
  by_cases h2 : fo = 2
  · subst h2
    refine written_2 F pa op lo hi le _ w hG hFl hpl ?_
    unfold Sp.wrB Sp.formB
    simp only [if_neg (show ¬ (2 : Int) = 1 by decide), if_pos, e hi 0, e2, Bool.and_assoc]
  by_cases h3 : fo = 3
  · subst h3
    refine written_3 F pa op lo hi le _ w hG hFl hpl ?_
    unfold Sp.wrB Sp.formB
    simp only [if_neg (show ¬ (3 : Int) = 1 by decide), if_neg (show ¬ (3 : Int) = 2 by decide), if_pos, e le 0, e2, Bool.and_assoc]
  by_cases h4 : fo = 4
  · subst h4
    refine written_4 F pa op lo hi le _ w hG hFl hpl ?_
    unfold Sp.wrB Sp.formB
    simp only [if_neg (show ¬ (4 : Int) = 1 by decide), if_neg (show ¬ (4 : Int) = 2 by decide), if_neg (show ¬ (4 : Int) = 3 by decide), if_pos, e lo 0, e hi 0, e le 0, Bool.and_assoc]
  have hw : Sp.wrB ⟨k, F, op, fo, lo, hi, le, pa⟩ = false := by
    unfold Sp.wrB Sp.formB
    simp [h1, h2, h3, h4]
  rw [hw]
  exact written_0 F pa op fo lo hi le w h1 h2 h3 h4
end Go.Proofs.YtdmpapoabeljfaaGreatDoor
