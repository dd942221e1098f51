/-
  THE WALKS of the reference's token, at a number (chapter 3).
-/
import Derived.Test.YtdmpapoabeljfaaGreatDoorRc
set_option linter.unusedVariables false
set_option linter.unusedSimpArgs false
set_option maxRecDepth 100000
set_option maxHeartbeats 6000000
namespace Go.Proofs.YtdmpapoabeljfaaGreatDoor
open Go.RowKit

theorem letter_no (c : UInt8) (h : Sp.classB c ≠ 5) : Sp.letterB c = false := by
  cases hh : Sp.letterB c with
  | false => rfl
  | true => exact absurd ((class_letter c).2 hh) h
theorem numAt_cons (c : UInt8) (r : List UInt8) : numAt (c :: r) = (Sp.wordB c || (c == 46 && Sp.classV r == 6)) := rfl

theorem ref3_token_num (s : ByteArray) (i : Nat) (w : World) (hi : i < s.size) (hs : s.size ≤ 1073741824) (h6 : Sp.classV (s.data.toList.drop i) = 6) :
    Calls Tryz.prog 64 #[.string s, .int .i64 i] w (RefTok i (Sp.pieceV (s.data.toList.drop i)) w) := by
  have hsl := Lib.size_eq s
  have hle := Sp.numRun_le (s.data.toList.drop i)
  rw [List.length_drop, ← hsl] at hle
  have hi' : (i : Int) < s.size := by omega
  have hd0 := Sp.drop_cons s i hi
  have h6b : Sp.classB (s[i]'hi) = 6 := by rw [hd0] at h6; exact h6
  have hl0 := fun W => ref3_letter (s[i]'hi) W
  rw [letter_no _ (by omega)] at hl0
  have HL0 := Lib.hid hl0
  have hg0 := fun W => ref3_digit (s[i]'hi) W
  rw [(class_digit _).1 h6b] at hg0
  have HG0 := Lib.hid hg0
  have hA := fun n h => numRun_at (s.data.toList.drop i) n h
  obtain ⟨P, hP⟩ : ∃ P, Sp.pieceV (s.data.toList.drop i) = P := ⟨_, rfl⟩
  rw [hP]
  unfold Sp.pieceV at hP
  rw [h6, if_neg (by omega), if_pos rfl] at hP
  obtain ⟨m, hm⟩ : ∃ m, Sp.numRun (s.data.toList.drop i) = m := ⟨_, rfl⟩
  rw [hm] at hle hA hP
  obtain ⟨J, hJ⟩ : ∃ J, i + m = J := ⟨_, rfl⟩
  have hJs : J ≤ s.size := by omega
  have hnum := fun W => ref3_number (s.extract i J) W (by rw [ByteArray.size_extract]; omega)
  rw [show (s.extract i J).data.toList = (s.data.toList.drop i).take m by rw [Lib.extract_data]; congr 1; omega] at hnum
  have HA : Hid (∀ j, i ≤ j → j ≤ J → numAt (s.data.toList.drop j) = decide (j < J)) := by
    intro j h1 h2
    have := hA (j - i) (by omega)
    rw [List.drop_drop, show i + (j - i) = j by omega] at this
    rw [this]
    exact decide_eq_decide.2 (by omega)
  have bJ : (i : Int) ≤ (J : Int) := by omega
  have bJ2 : (J : Int) ≤ (s.size : Int) := by omega
  have b0 : (0 : Int) ≤ (i : Int) := by omega
  obtain ⟨o, ho⟩ : ∃ o, Sp.numV ((s.data.toList.drop i).take m) = o := ⟨_, rfl⟩
  rw [ho] at hnum hP
  have HN := Lib.hid hnum
  have HP := Lib.hid hP
  have HSL := Lib.hid hsl
  clear hl0 hg0 hd0 h6b h6 hA hnum hP hm ho hsl
  cases o with
  | none =>
    have HN' := HN
    clear HN
    have HN : Hid (∀ W, Calls Tryz.prog 79 #[.string (s.extract i J)] W fun e w' => e = .returned (.int .i64 (-1)) ∧ Below W.heap.size W w') := HN'.out
    clear HN'
    go_enter Tryz.func64, Tryz.ntmps64
    go_wp2_with (first | (go_at_call 75; refine (HL0.out _).mono ?_; rintro e w1 ⟨rfl, rfl⟩) | (go_at_call 77; refine (HG0.out _).mono ?_; rintro e w1 ⟨rfl, rfl⟩))
    go_loopw [10] (fun v10 wr => wr = w ∧ ∃ j : Nat, v10 = .int .i64 (j : Int) ∧ i ≤ j ∧ j ≤ J) (fun v10 _ => J - (intOf v10).toNat)
    case atStart => exact ⟨rfl, i, rfl, by omega, by omega⟩
    case round =>
      obtain ⟨rfl, j, rfl, hij, hj⟩ := hrel
      have hat := HA.out j hij hj
      by_cases c2 : j < s.size
      · have q2 : decide ((j : Int) < s.size) = true := decide_eq_true (by omega)
        have c2' : (j : Int) < s.size := by omega
        rw [Sp.drop_cons s j c2, numAt_cons] at hat
        have hw0 := fun W => ref3_word (s[j]'c2) W
        by_cases c1 : Sp.wordB (s[j]'c2) = true
        · rw [c1, Bool.true_or] at hat
          rw [c1] at hw0
          have hlt : j < J := of_decide_eq_true hat.symm
          have HW := Lib.hid hw0
          clear hat hw0 c1
          go_wp2_with (go_at_call 78; refine (HW.out _).mono ?_; rintro e w1 ⟨rfl, rfl⟩)
          go_roundw
          case rel => exact ⟨by trivial, j + 1, by rfl, by omega, by omega⟩
          case measure => simp [intOf]; omega
        have c1' : Sp.wordB (s[j]'c2) = false := by simpa using c1
        rw [c1', Bool.false_or] at hat
        rw [c1'] at hw0
        have HW := Lib.hid hw0
        clear hw0 c1 c1'
        by_cases c3 : (s[j]'c2).toNat = 46
        · have q3 : (((s[j]'c2).toNat : Int) == 46) = true := beq_iff_eq.2 (by omega)
          rw [beq_iff_eq.2 (show s[j]'c2 = 46 from UInt8.toNat_inj.1 c3), Bool.true_and] at hat
          by_cases c4 : j + 1 < s.size
          · have q4 : decide ((j : Int) + 1 < s.size) = true := decide_eq_true (by omega)
            have b4 : (j : Int) + 1 < s.size := by omega
            have b5 : ((j : Int) + 1).toNat = j + 1 := by omega
            have hd1 := fun W => ref3_digit (s[j + 1]'c4) W
            rw [Sp.drop_cons s (j + 1) c4] at hat
            by_cases c5 : Sp.digitB (s[j + 1]'c4) = true
            · have e6 : Sp.classV ((s[j + 1]'c4) :: s.data.toList.drop (j + 1 + 1)) = 6 := (class_digit _).2 c5
              rw [e6] at hat
              have hlt : j < J := of_decide_eq_true hat.symm
              rw [c5] at hd1
              have HD := Lib.hid hd1
              clear hat hd1 c5 e6 c3
              go_wp2_with (first | (go_at_call 78; refine (HW.out _).mono ?_; rintro e w1 ⟨rfl, rfl⟩) | (go_at_call 77; refine (HD.out _).mono ?_; rintro e w2 ⟨rfl, rfl⟩))
              go_roundw
              case rel => exact ⟨by trivial, j + 1, by rfl, by omega, by omega⟩
              case measure => simp [intOf]; omega
            · have c5' : Sp.digitB (s[j + 1]'c4) = false := by simpa using c5
              have e6 : (Sp.classV ((s[j + 1]'c4) :: s.data.toList.drop (j + 1 + 1)) == 6) = false := beq_eq_false_iff_ne.2 (fun h => c5 ((class_digit _).1 h))
              rw [e6] at hat
              have hjJ : j = J := by have := of_decide_eq_false hat.symm; omega
              rw [c5'] at hd1
              have HD := Lib.hid hd1
              clear hat hd1 c5 c5' e6 c3
              subst hjJ
              have q9 : decide ((-1 : Int) < 0) = true := by decide
              go_wp2_with (first | (go_at_call 78; refine (HW.out _).mono ?_; rintro e w1 ⟨rfl, rfl⟩) | (go_at_call 77; refine (HD.out _).mono ?_; rintro e w2 ⟨rfl, rfl⟩) | (go_at_call 79; refine (HN.out _).mono ?_; rintro e w3 ⟨rfl, hb3⟩))
              go_ret3
              exact RefTok_bad HP.out.symm (by omega) rfl rfl hb3
          · have q4 : decide ((j : Int) + 1 < s.size) = false := decide_eq_false (by omega)
            rw [List.drop_eq_nil_of_le (show s.data.toList.length ≤ j + 1 by rw [← HSL.out]; omega)] at hat
            have hjJ : j = J := by have := of_decide_eq_false hat.symm; omega
            clear hat c3
            subst hjJ
            have q9 : decide ((-1 : Int) < 0) = true := by decide
            go_wp2_with (first | (go_at_call 78; refine (HW.out _).mono ?_; rintro e w1 ⟨rfl, rfl⟩) | (go_at_call 77; refine (HD.out _).mono ?_; rintro e w2 ⟨rfl, rfl⟩) | (go_at_call 79; refine (HN.out _).mono ?_; rintro e w3 ⟨rfl, hb3⟩))
            go_ret3
            exact RefTok_bad HP.out.symm (by omega) rfl rfl hb3
        · have q3 : (((s[j]'c2).toNat : Int) == 46) = false := beq_eq_false_iff_ne.2 (by omega)
          rw [beq_eq_false_iff_ne.2 (show s[j]'c2 ≠ 46 from fun e => c3 (by rw [e]; rfl)), Bool.false_and] at hat
          have hjJ : j = J := by have := of_decide_eq_false hat.symm; omega
          clear hat c3
          subst hjJ
          have q9 : decide ((-1 : Int) < 0) = true := by decide
          go_wp2_with (first | (go_at_call 78; refine (HW.out _).mono ?_; rintro e w1 ⟨rfl, rfl⟩) | (go_at_call 77; refine (HD.out _).mono ?_; rintro e w2 ⟨rfl, rfl⟩) | (go_at_call 79; refine (HN.out _).mono ?_; rintro e w3 ⟨rfl, hb3⟩))
          go_ret3
          exact RefTok_bad HP.out.symm (by omega) rfl rfl hb3
      · have q2 : decide ((j : Int) < s.size) = false := decide_eq_false (by omega)
        have hjJ : j = J := by omega
        clear hat
        subst hjJ
        have q9 : decide ((-1 : Int) < 0) = true := by decide
        go_wp2_with (first | (go_at_call 78; refine (HW.out _).mono ?_; rintro e w1 ⟨rfl, rfl⟩) | (go_at_call 77; refine (HD.out _).mono ?_; rintro e w2 ⟨rfl, rfl⟩) | (go_at_call 79; refine (HN.out _).mono ?_; rintro e w3 ⟨rfl, hb3⟩))
        go_ret3
        exact RefTok_bad HP.out.symm (by omega) rfl rfl hb3
  | some v =>
    have HN' := HN
    clear HN
    have HN : Hid (∀ W, Calls Tryz.prog 79 #[.string (s.extract i J)] W fun e w' => e = .returned (.int .i64 (v : Int)) ∧ Below W.heap.size W w') := HN'.out
    clear HN'
    go_enter Tryz.func64, Tryz.ntmps64
    go_wp2_with (first | (go_at_call 75; refine (HL0.out _).mono ?_; rintro e w1 ⟨rfl, rfl⟩) | (go_at_call 77; refine (HG0.out _).mono ?_; rintro e w1 ⟨rfl, rfl⟩))
    go_loopw [10] (fun v10 wr => wr = w ∧ ∃ j : Nat, v10 = .int .i64 (j : Int) ∧ i ≤ j ∧ j ≤ J) (fun v10 _ => J - (intOf v10).toNat)
    case atStart => exact ⟨rfl, i, rfl, by omega, by omega⟩
    case round =>
      obtain ⟨rfl, j, rfl, hij, hj⟩ := hrel
      have hat := HA.out j hij hj
      by_cases c2 : j < s.size
      · have q2 : decide ((j : Int) < s.size) = true := decide_eq_true (by omega)
        have c2' : (j : Int) < s.size := by omega
        rw [Sp.drop_cons s j c2, numAt_cons] at hat
        have hw0 := fun W => ref3_word (s[j]'c2) W
        by_cases c1 : Sp.wordB (s[j]'c2) = true
        · rw [c1, Bool.true_or] at hat
          rw [c1] at hw0
          have hlt : j < J := of_decide_eq_true hat.symm
          have HW := Lib.hid hw0
          clear hat hw0 c1
          go_wp2_with (go_at_call 78; refine (HW.out _).mono ?_; rintro e w1 ⟨rfl, rfl⟩)
          go_roundw
          case rel => exact ⟨by trivial, j + 1, by rfl, by omega, by omega⟩
          case measure => simp [intOf]; omega
        have c1' : Sp.wordB (s[j]'c2) = false := by simpa using c1
        rw [c1', Bool.false_or] at hat
        rw [c1'] at hw0
        have HW := Lib.hid hw0
        clear hw0 c1 c1'
        by_cases c3 : (s[j]'c2).toNat = 46
        · have q3 : (((s[j]'c2).toNat : Int) == 46) = true := beq_iff_eq.2 (by omega)
          rw [beq_iff_eq.2 (show s[j]'c2 = 46 from UInt8.toNat_inj.1 c3), Bool.true_and] at hat
          by_cases c4 : j + 1 < s.size
          · have q4 : decide ((j : Int) + 1 < s.size) = true := decide_eq_true (by omega)
            have b4 : (j : Int) + 1 < s.size := by omega
            have b5 : ((j : Int) + 1).toNat = j + 1 := by omega
            have hd1 := fun W => ref3_digit (s[j + 1]'c4) W
            rw [Sp.drop_cons s (j + 1) c4] at hat
            by_cases c5 : Sp.digitB (s[j + 1]'c4) = true
            · have e6 : Sp.classV ((s[j + 1]'c4) :: s.data.toList.drop (j + 1 + 1)) = 6 := (class_digit _).2 c5
              rw [e6] at hat
              have hlt : j < J := of_decide_eq_true hat.symm
              rw [c5] at hd1
              have HD := Lib.hid hd1
              clear hat hd1 c5 e6 c3
              go_wp2_with (first | (go_at_call 78; refine (HW.out _).mono ?_; rintro e w1 ⟨rfl, rfl⟩) | (go_at_call 77; refine (HD.out _).mono ?_; rintro e w2 ⟨rfl, rfl⟩))
              go_roundw
              case rel => exact ⟨by trivial, j + 1, by rfl, by omega, by omega⟩
              case measure => simp [intOf]; omega
            · have c5' : Sp.digitB (s[j + 1]'c4) = false := by simpa using c5
              have e6 : (Sp.classV ((s[j + 1]'c4) :: s.data.toList.drop (j + 1 + 1)) == 6) = false := beq_eq_false_iff_ne.2 (fun h => c5 ((class_digit _).1 h))
              rw [e6] at hat
              have hjJ : j = J := by have := of_decide_eq_false hat.symm; omega
              rw [c5'] at hd1
              have HD := Lib.hid hd1
              clear hat hd1 c5 c5' e6 c3
              subst hjJ
              have q9 : decide ((v : Int) < 0) = false := decide_eq_false (by omega)
              go_wp2_with (first | (go_at_call 78; refine (HW.out _).mono ?_; rintro e w1 ⟨rfl, rfl⟩) | (go_at_call 77; refine (HD.out _).mono ?_; rintro e w2 ⟨rfl, rfl⟩) | (go_at_call 79; refine (HN.out _).mono ?_; rintro e w3 ⟨rfl, hb3⟩))
              go_ret3
              exact RefTok_ok HP.out.symm rfl (by omega) hb3
          · have q4 : decide ((j : Int) + 1 < s.size) = false := decide_eq_false (by omega)
            rw [List.drop_eq_nil_of_le (show s.data.toList.length ≤ j + 1 by rw [← HSL.out]; omega)] at hat
            have hjJ : j = J := by have := of_decide_eq_false hat.symm; omega
            clear hat c3
            subst hjJ
            have q9 : decide ((v : Int) < 0) = false := decide_eq_false (by omega)
            go_wp2_with (first | (go_at_call 78; refine (HW.out _).mono ?_; rintro e w1 ⟨rfl, rfl⟩) | (go_at_call 77; refine (HD.out _).mono ?_; rintro e w2 ⟨rfl, rfl⟩) | (go_at_call 79; refine (HN.out _).mono ?_; rintro e w3 ⟨rfl, hb3⟩))
            go_ret3
            exact RefTok_ok HP.out.symm rfl (by omega) hb3
        · have q3 : (((s[j]'c2).toNat : Int) == 46) = false := beq_eq_false_iff_ne.2 (by omega)
          rw [beq_eq_false_iff_ne.2 (show s[j]'c2 ≠ 46 from fun e => c3 (by rw [e]; rfl)), Bool.false_and] at hat
          have hjJ : j = J := by have := of_decide_eq_false hat.symm; omega
          clear hat c3
          subst hjJ
          have q9 : decide ((v : Int) < 0) = false := decide_eq_false (by omega)
          go_wp2_with (first | (go_at_call 78; refine (HW.out _).mono ?_; rintro e w1 ⟨rfl, rfl⟩) | (go_at_call 77; refine (HD.out _).mono ?_; rintro e w2 ⟨rfl, rfl⟩) | (go_at_call 79; refine (HN.out _).mono ?_; rintro e w3 ⟨rfl, hb3⟩))
          go_ret3
          exact RefTok_ok HP.out.symm rfl (by omega) hb3
      · have q2 : decide ((j : Int) < s.size) = false := decide_eq_false (by omega)
        have hjJ : j = J := by omega
        clear hat
        subst hjJ
        have q9 : decide ((v : Int) < 0) = false := decide_eq_false (by omega)
        go_wp2_with (first | (go_at_call 78; refine (HW.out _).mono ?_; rintro e w1 ⟨rfl, rfl⟩) | (go_at_call 77; refine (HD.out _).mono ?_; rintro e w2 ⟨rfl, rfl⟩) | (go_at_call 79; refine (HN.out _).mono ?_; rintro e w3 ⟨rfl, hb3⟩))
        go_ret3
        exact RefTok_ok HP.out.symm rfl (by omega) hb3

end Go.Proofs.YtdmpapoabeljfaaGreatDoor
