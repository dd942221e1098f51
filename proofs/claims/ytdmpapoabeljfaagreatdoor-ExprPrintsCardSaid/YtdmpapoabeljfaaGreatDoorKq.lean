/-
  WALK: reachref5.said: does a text give this test? (chapter 5)
-/
import Derived.Test.YtdmpapoabeljfaaGreatDoorKr
set_option linter.unusedVariables false
set_option linter.unusedSimpArgs false
set_option maxRecDepth 100000
set_option maxHeartbeats 8000000
namespace Go.Proofs.YtdmpapoabeljfaaGreatDoor
open Go.RowKit

theorem sign_empty (op : Int) : (Sp.signS op).isEmpty = !(decide (1 ≤ op) && decide (op ≤ 6)) := by
  unfold Sp.signS
  by_cases h1 : op = 1
  · subst h1; rfl
  by_cases h2 : op = 2
  · subst h2; rfl
  by_cases h3 : op = 3
  · subst h3; rfl
  by_cases h4 : op = 4
  · subst h4; rfl
  by_cases h5 : op = 5
  · subst h5; rfl
  by_cases h6 : op = 6
  · subst h6; rfl
  rw [if_neg h1, if_neg h2, if_neg h3, if_neg h4, if_neg h5, if_neg h6]
  by_cases g : 1 ≤ op
  · rw [decide_eq_false (show ¬ op ≤ 6 by omega)]; simp
  · rw [decide_eq_false g]; simp

theorem ref5_said (d : Sp.Nd) (w : World) (hFl : d.field.length ≤ 4611686018427387904) (hpl : d.pat.length ≤ 4611686018427387904) :
    Calls Tryz.prog 27 #[.agg (testCells d).toArray] w (Gives (.bool (Sp.wrB d)) w) := by
  obtain ⟨R, hR⟩ : ∃ R, Sp.wrB d = R := ⟨_, rfl⟩
  rw [hR]
  obtain ⟨k, F, op, fo, lo, hi, le, pa⟩ := d
  show Calls Tryz.prog 27 #[.agg #[.string (bs F), .int .i64 op, .int .i64 fo, .int .i64 lo, .int .i64 hi, .int .i64 le, .string (bs pa)]] w (Gives (.bool R) w)
  simp only [] at hFl hpl
  have HNM := Lib.hid (fun W => ref5_Name (bs F) W (by rw [bs_size]; omega))
  rw [show (bs F).data.toList = F from rfl] at HNM
  have HDF := Lib.hid (fun W => ref5_digitsFit (bs pa) W (by rw [bs_size]; omega))
  rw [show (bs pa).data.toList = pa from rfl] at HDF
  have HSG := Lib.hid (fun W => ref5_signOf op W)
  have HF1 := Lib.hid (fun W => ref5_fitting lo W)
  have HF2 := Lib.hid (fun W => ref5_fitting hi W)
  have HF3 := Lib.hid (fun W => ref5_fitting le W)
  have hse := sign_empty op
  unfold Sp.wrB at hR
  simp only [] at hR
  obtain ⟨nm, hnm⟩ : ∃ b, Sp.nameB F = b := ⟨_, rfl⟩
  obtain ⟨b1, hb1⟩ : ∃ b, (F == Sp.anyW) = b := ⟨_, rfl⟩
  obtain ⟨b2, hb2⟩ : ∃ b, (F == Sp.noneW) = b := ⟨_, rfl⟩
  obtain ⟨ns, hns⟩ : ∃ b, (Sp.signS op).isEmpty = b := ⟨_, rfl⟩
  obtain ⟨f1, hf1⟩ : ∃ b, Sp.fitB lo = b := ⟨_, rfl⟩
  obtain ⟨f2, hf2⟩ : ∃ b, Sp.fitB hi = b := ⟨_, rfl⟩
  obtain ⟨f3, hf3⟩ : ∃ b, Sp.fitB le = b := ⟨_, rfl⟩
  obtain ⟨S, hS⟩ : ∃ S, Sp.signS op = S := ⟨_, rfl⟩
  obtain ⟨FB, hFB⟩ : ∃ b, Sp.formB ⟨k, F, op, fo, lo, hi, le, pa⟩ = b := ⟨_, rfl⟩
  have hR2 : R = (nm && !b1 && !b2 && !ns && f1 && f2 && f3 && FB) := by
    rw [← hR, ← hns, hse, ← hb1, ← hb2, ← hnm, ← hf1, ← hf2, ← hf3, ← hFB]
    simp only [Bool.not_not, Bool.and_assoc, bne]
  rw [hnm] at HNM
  rw [hf1] at HF1
  rw [hf2] at HF2
  rw [hf3] at HF3
  rw [hS] at HSG hns
  have HR := Lib.hid hR2
  have HFB := Lib.hid hFB
  have s1 : (F == [97, 110, 121]) = b1 := hb1
  have s2 : (F == [110, 111, 110, 101]) = b2 := hb2
  have z1 : (bs F).toList = F := bs_list F
  have z2 : (bs S).toList = S := bs_list S
  have z3 : (bs pa).toList = pa := bs_list pa
  have HB := Lib.hid ((Below.refl w.heap.size w).alloc (Nat.le_refl _) (.cells #[.string (bs F), .int .i64 op, .int .i64 fo, .int .i64 lo, .int .i64 hi, .int .i64 le, .string (bs pa)] 54))
  clear hR hR2 hse hnm hb1 hb2 hf1 hf2 hf3 hS hFB hFl hpl
  go_enter Tryz.func27, Tryz.ntmps27
  go_wp2_with fail
  refine (HNM.out _).mono ?_
  rintro e w1 ⟨rfl, rfl⟩
  cases nm
  case false =>
    have HRR := Lib.hid (show R = false by rw [HR.out]; simp)
    go_wp2_with fail
    go_ret
    exact ⟨by rw [HRR.out]; rfl, HB.out⟩
  case true =>
    cases b1
    case true =>
      have HRR := Lib.hid (show R = false by rw [HR.out]; simp)
      go_wp2_with fail
      go_ret
      exact ⟨by rw [HRR.out]; rfl, HB.out⟩
    case false =>
      cases b2
      case true =>
        have HRR := Lib.hid (show R = false by rw [HR.out]; simp)
        go_wp2_with fail
        go_ret
        exact ⟨by rw [HRR.out]; rfl, HB.out⟩
      case false =>
        go_wp2_with fail
        refine (HSG.out _).mono ?_
        rintro e w1 ⟨rfl, rfl⟩
        cases ns
        case true =>
          have HRR := Lib.hid (show R = false by rw [HR.out]; simp)
          go_wp2_with fail
          go_ret
          exact ⟨by rw [HRR.out]; rfl, HB.out⟩
        case false =>
          go_wp2_with fail
          refine (HF1.out _).mono ?_
          rintro e w1 ⟨rfl, rfl⟩
          cases f1
          case false =>
            have HRR := Lib.hid (show R = false by rw [HR.out]; simp)
            go_wp2_with fail
            go_ret
            exact ⟨by rw [HRR.out]; rfl, HB.out⟩
          case true =>
            go_wp2_with fail
            refine (HF2.out _).mono ?_
            rintro e w1 ⟨rfl, rfl⟩
            cases f2
            case false =>
              have HRR := Lib.hid (show R = false by rw [HR.out]; simp)
              go_wp2_with fail
              go_ret
              exact ⟨by rw [HRR.out]; rfl, HB.out⟩
            case true =>
              go_wp2_with fail
              refine (HF3.out _).mono ?_
              rintro e w1 ⟨rfl, rfl⟩
              cases f3
              case false =>
                have HRR := Lib.hid (show R = false by rw [HR.out]; simp)
                go_wp2_with fail
                go_ret
                exact ⟨by rw [HRR.out]; rfl, HB.out⟩
              case true =>
                have HR3 := Lib.hid (show R = FB by rw [HR.out]; rfl)
                obtain ⟨ep, hep⟩ : ∃ b, pa.isEmpty = b := ⟨_, rfl⟩
                have hep2 : (pa == []) = ep := by rw [← hep]; cases pa <;> rfl
                obtain ⟨o2, ho2⟩ : ∃ b, decide (op ≤ 2) = b := ⟨_, rfl⟩
                obtain ⟨e1, he1⟩ : ∃ b, (lo == 0) = b := ⟨_, rfl⟩
                obtain ⟨e2, he2⟩ : ∃ b, (hi == 0) = b := ⟨_, rfl⟩
                obtain ⟨e3, he3⟩ : ∃ b, (le == 0) = b := ⟨_, rfl⟩
                clear hns
                by_cases h1 : fo = 1
                · subst h1
                  have HR4 := Lib.hid (show R = (e2 && e3 && ep) by rw [HR3.out, ← HFB.out]; unfold Sp.formB; rw [if_pos rfl]; simp only [ho2, he1, he2, he3, hep2])
                  clear hep2 ho2 he1
                  cases e2
                  case false =>
                    have HRR := Lib.hid (show R = false by rw [HR4.out]; simp)
                    go_wp2_with fail
                    go_ret
                    exact ⟨by rw [HRR.out]; rfl, HB.out⟩
                  case true =>
                    cases e3
                    case false =>
                      have HRR := Lib.hid (show R = false by rw [HR4.out]; simp)
                      go_wp2_with fail
                      go_ret
                      exact ⟨by rw [HRR.out]; rfl, HB.out⟩
                    case true =>
                      have HRR := Lib.hid (show R = ep by rw [HR4.out]; rfl)
                      go_wp2_with fail
                      go_ret
                      exact ⟨by rw [HRR.out]; rfl, HB.out⟩
                by_cases h2 : fo = 2
                · subst h2
                  have HR4 := Lib.hid (show R = (o2 && e2 && ep) by rw [HR3.out, ← HFB.out]; unfold Sp.formB; rw [if_neg (show ¬ (2 : Int) = 1 by decide), if_pos rfl]; simp only [ho2, he1, he2, he3, hep2])
                  clear hep2 he1 he3 h1
                  cases o2
                  case false =>
                    have HRR := Lib.hid (show R = false by rw [HR4.out]; simp)
                    go_wp2_with fail
                    go_ret
                    exact ⟨by rw [HRR.out]; rfl, HB.out⟩
                  case true =>
                    cases e2
                    case false =>
                      have HRR := Lib.hid (show R = false by rw [HR4.out]; simp)
                      go_wp2_with fail
                      go_ret
                      exact ⟨by rw [HRR.out]; rfl, HB.out⟩
                    case true =>
                      have HRR := Lib.hid (show R = ep by rw [HR4.out]; rfl)
                      go_wp2_with fail
                      go_ret
                      exact ⟨by rw [HRR.out]; rfl, HB.out⟩
                by_cases h3 : fo = 3
                · subst h3
                  have HR4 := Lib.hid (show R = (o2 && e3 && ep) by rw [HR3.out, ← HFB.out]; unfold Sp.formB; rw [if_neg (show ¬ (3 : Int) = 1 by decide), if_neg (show ¬ (3 : Int) = 2 by decide), if_pos rfl]; simp only [ho2, he1, he2, he3, hep2])
                  clear hep2 he1 he2 h1 h2
                  cases o2
                  case false =>
                    have HRR := Lib.hid (show R = false by rw [HR4.out]; simp)
                    go_wp2_with fail
                    go_ret
                    exact ⟨by rw [HRR.out]; rfl, HB.out⟩
                  case true =>
                    cases e3
                    case false =>
                      have HRR := Lib.hid (show R = false by rw [HR4.out]; simp)
                      go_wp2_with fail
                      go_ret
                      exact ⟨by rw [HRR.out]; rfl, HB.out⟩
                    case true =>
                      have HRR := Lib.hid (show R = ep by rw [HR4.out]; rfl)
                      go_wp2_with fail
                      go_ret
                      exact ⟨by rw [HRR.out]; rfl, HB.out⟩
                by_cases h4 : fo = 4
                · subst h4
                  have HR4 := Lib.hid (show R = (o2 && e1 && e2 && e3 && Sp.patV pa) by rw [HR3.out, ← HFB.out]; unfold Sp.formB; rw [if_neg (show ¬ (4 : Int) = 1 by decide), if_neg (show ¬ (4 : Int) = 2 by decide), if_neg (show ¬ (4 : Int) = 3 by decide), if_pos rfl]; simp only [ho2, he1, he2, he3, hep2])
                  clear hep2 hep h1 h2 h3
                  obtain ⟨pv, hpv⟩ : ∃ b, Sp.patV pa = b := ⟨_, rfl⟩
                  rw [hpv] at HR4 HDF
                  clear hpv
                  cases o2
                  case false =>
                    have HRR := Lib.hid (show R = false by rw [HR4.out]; simp)
                    go_wp2_with fail
                    go_ret
                    exact ⟨by rw [HRR.out]; rfl, HB.out⟩
                  case true =>
                    cases e1
                    case false =>
                      have HRR := Lib.hid (show R = false by rw [HR4.out]; simp)
                      go_wp2_with fail
                      go_ret
                      exact ⟨by rw [HRR.out]; rfl, HB.out⟩
                    case true =>
                      cases e2
                      case false =>
                        have HRR := Lib.hid (show R = false by rw [HR4.out]; simp)
                        go_wp2_with fail
                        go_ret
                        exact ⟨by rw [HRR.out]; rfl, HB.out⟩
                      case true =>
                        cases e3
                        case false =>
                          have HRR := Lib.hid (show R = false by rw [HR4.out]; simp)
                          go_wp2_with fail
                          go_ret
                          exact ⟨by rw [HRR.out]; rfl, HB.out⟩
                        case true =>
                          have HRR := Lib.hid (show R = pv by rw [HR4.out]; rfl)
                          go_wp2_with fail
                          refine (HDF.out _).mono ?_
                          rintro e w1 ⟨rfl, rfl⟩
                          go_wp2_with fail
                          go_ret
                          exact ⟨by rw [HRR.out]; rfl, HB.out⟩
                have HRR := Lib.hid (show R = false by rw [HR3.out, ← HFB.out]; unfold Sp.formB; rw [if_neg h1, if_neg h2, if_neg h3, if_neg h4])
                have g1 : (fo == 1) = false := beq_eq_false_iff_ne.2 h1
                have g2 : (fo == 2) = false := beq_eq_false_iff_ne.2 h2
                have g3 : (fo == 3) = false := beq_eq_false_iff_ne.2 h3
                have g4 : (fo == 4) = false := beq_eq_false_iff_ne.2 h4
                clear h1 h2 h3 h4 hep hep2 ho2 he1 he2 he3
                go_wp2_with fail
                go_ret
                exact ⟨by rw [HRR.out]; rfl, HB.out⟩
end Go.Proofs.YtdmpapoabeljfaaGreatDoor
