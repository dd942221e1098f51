/-
  THE WALKS of the reference's functions on one line: letter, word, blank, run, column (chapter 3).
-/
import Derived.Test.YtdmpapoabeljfaaGreatDoorQz
import Derived.Test.YtdmpapoabeljfaaGreatDoorWb
set_option linter.unusedVariables false
set_option linter.unusedSimpArgs false
set_option maxRecDepth 100000
set_option maxHeartbeats 2000000
namespace Go.Proofs.YtdmpapoabeljfaaGreatDoor
open Go.RowKit

theorem ref3_letter (c : UInt8) (w : World) :
    Calls Tryz.prog 75 #[.int .u8 c.toNat] w fun e w' => e = .returned (.bool (Sp.letterB c)) ∧ w = w' := by
  go_enter Tryz.func75, Tryz.ntmps75
  go_wp2
  all_goals go_ret
  all_goals exact ⟨ret_bool (by rw [Bool.eq_iff_iff]; simp [Sp.letterB]; omega), rfl⟩

theorem ref3_blank (c : UInt8) (w : World) :
    Calls Tryz.prog 63 #[.int .u8 c.toNat] w fun e w' => e = .returned (.bool (Sp.blankB c)) ∧ w = w' := by
  go_enter Tryz.func63, Tryz.ntmps63
  go_wp2
  all_goals go_ret
  all_goals exact ⟨ret_bool (by rw [Bool.eq_iff_iff]; simp [Sp.blankB]; omega), rfl⟩

theorem ref3_word (c : UInt8) (w : World) :
    Calls Tryz.prog 78 #[.int .u8 c.toNat] w fun e w' => e = .returned (.bool (Sp.wordB c)) ∧ w = w' := by
  go_enter Tryz.func78, Tryz.ntmps78
  go_wp2_with (first | (go_at_call 75; refine (ref3_letter c _).mono ?_; rintro e w1 ⟨rfl, rfl⟩) | (go_at_call 77; refine (ref3_digit c _).mono ?_; rintro e w1 ⟨rfl, rfl⟩))
  all_goals go_ret
  all_goals exact ⟨ret_bool (by unfold Sp.wordB; simp_all), rfl⟩

theorem word_no {c : UInt8} {r : List UInt8} (h : Sp.wordB c = false) : Sp.wordRun (c :: r) = 0 := by
  unfold Sp.wordRun
  rw [List.takeWhile_cons, if_neg (by rw [h]; simp)]
  rfl

theorem ref3_run (s : ByteArray) (i : Nat) (w : World) (hi : i ≤ s.size) (hs : s.size ≤ 1073741824) :
    Calls Tryz.prog 76 #[.string s, .int .i64 i] w fun e w' => e = .returned (.int .i64 ((i + Sp.wordRun (s.data.toList.drop i) : Nat) : Int)) ∧ w = w' := by
  have HSL := Lib.hid (Lib.size_eq s)
  go_enter Tryz.func76, Tryz.ntmps76
  go_wp2
  go_loopw [1] (fun v1 wr => wr = w ∧ ∃ j : Nat, v1 = .int .i64 (j : Int) ∧ j ≤ s.size ∧ Hid (j + Sp.wordRun (s.data.toList.drop j) = i + Sp.wordRun (s.data.toList.drop i))) (fun v1 _ => (s.size - intOf v1).toNat)
  case atStart => exact ⟨rfl, i, rfl, hi, rfl⟩
  case round =>
    obtain ⟨rfl, j, rfl, hj, HF⟩ := hrel
    by_cases hlt : j < s.size
    · have q1 : decide ((j : Int) < s.size) = true := decide_eq_true (by omega)
      have hlt' : (j : Int) < s.size := by omega
      have hd := Sp.drop_cons s j hlt
      have hf := HF.out
      rw [hd] at hf
      obtain ⟨c, hc⟩ : ∃ c, s[j]'hlt = c := ⟨_, rfl⟩
      rw [hc] at hf
      have hw := fun W => ref3_word (s[j]'hlt) W
      rw [hc] at hw
      by_cases hcw : Sp.wordB c = true
      · rw [hcw] at hw
        rw [Sp.wordRun_pos hcw] at hf
        have HF2 : Hid (j + 1 + Sp.wordRun (s.data.toList.drop (j + 1)) = i + Sp.wordRun (s.data.toList.drop i)) := by
          show _ = _
          rw [← hf]
          omega
        have HW := Lib.hid hw
        clear hf HF hd hw
        go_wp2_with (go_at_call 78; refine (HW.out _).mono ?_; rintro e w1 ⟨rfl, rfl⟩)
        go_roundw
        case rel => exact ⟨by trivial, j + 1, by rfl, by omega, HF2⟩
        case measure => simp [intOf]; omega
      · have hcw2 : Sp.wordB c = false := by simpa using hcw
        rw [hcw2] at hw
        rw [word_no hcw2] at hf
        have HR := Lib.hid hf
        have HW := Lib.hid hw
        clear hf HF hd hw
        go_wp2_with (go_at_call 78; refine (HW.out _).mono ?_; rintro e w1 ⟨rfl, rfl⟩)
        go_ret
        exact ⟨ret_int (by rw [← HR.out]; rfl), rfl⟩
    · have q1 : decide ((j : Int) < s.size) = false := decide_eq_false (by omega)
      have hf := HF.out
      rw [List.drop_eq_nil_of_le (show s.data.toList.length ≤ j by rw [← HSL.out]; omega)] at hf
      have HR := Lib.hid hf
      clear hf HF
      go_wp2
      go_ret
      exact ⟨ret_int (by rw [← HR.out]; rfl), rfl⟩

theorem ref3_column (s : ByteArray) (i : Nat) (w : World) (hs : s.size ≤ 1073741824) (hb : Sp.Bd s.data.toList i) :
    Calls Tryz.prog 65 #[.string s, .int .i64 i] w fun e w' => e = .returned (.int .i64 ((Sp.chars (s.data.toList.take i) + 1 : Nat) : Int)) ∧ w = w' := by
  have hi := hb.le
  rw [← Lib.size_eq] at hi
  have HSL := Lib.hid (Lib.size_eq s)
  have HB := Lib.hid hb
  clear hb
  go_enter Tryz.func65, Tryz.ntmps65
  go_wp2
  go_loopw [5, 6, 7, 8] (fun v5 v6 _ _ wr => wr = w ∧ ∃ j n : Nat, v6 = .int .i64 (j : Int) ∧ v5 = .int .i64 (n : Int) ∧ j ≤ i ∧ n ≤ j + 1 ∧ Hid (n = Sp.chars (s.data.toList.take j) + 1 ∧ Sp.Bd s.data.toList j ∧ Sp.Bd (s.data.toList.drop j) (i - j))) (fun _ v6 _ _ _ => i - (intOf v6).toNat)
  case atStart => exact ⟨rfl, 0, 1, rfl, rfl, by omega, by omega, by rw [List.take_zero]; rfl, Sp.Bd.zero _, by rw [List.drop_zero]; exact HB.out⟩
  case round =>
    obtain ⟨rfl, j, n, rfl, rfl, hj, hn, HF⟩ := hrel
    by_cases hlt : j < i
    · have q1 : decide ((j : Int) < i) = true := decide_eq_true (by omega)
      obtain ⟨f1, f2, f3⟩ := HF.out
      obtain ⟨hne, j', e1, e2⟩ := f3.inv (by omega)
      have hone := Sp.chars_one _ hne
      have hstep : Sp.Bd (s.data.toList.drop j) (Sp.dec (s.data.toList.drop j)).2 := by
        have := Sp.Bd.step (s.data.toList.drop j) 0 hne (Sp.Bd.zero _)
        rw [Nat.add_zero] at this
        exact this
      have hpos := Sp.dec_pos _ hne
      have hsz := fun W => ref3_size s (j : Int) W (by omega) (by omega) (by omega)
      rw [show ((j : Int)).toNat = j from rfl] at hsz
      obtain ⟨k, hk⟩ : ∃ k, (Sp.dec (s.data.toList.drop j)).2 = k := ⟨_, rfl⟩
      rw [hk] at hsz e1 e2 hone hstep hpos
      rw [List.drop_drop] at e2
      have HF2 : Hid (n + 1 = Sp.chars (s.data.toList.take (j + k)) + 1 ∧ Sp.Bd s.data.toList (j + k) ∧ Sp.Bd (s.data.toList.drop (j + k)) (i - (j + k))) := by
        refine ⟨?_, f2.trans hstep, ?_⟩
        · rw [Sp.chars_take_add f2, hone, f1]
        · rw [show i - (j + k) = j' by omega]
          exact e2
      have HSZ := Lib.hid hsz
      have hjk : j + k ≤ i := by omega
      clear HF f1 f2 f3 e2 hone hstep hsz hne hk e1
      go_wp2_with (go_at_call 83; refine (HSZ.out _).mono ?_; rintro e w1 ⟨rfl, rfl⟩)
      go_roundw
      case rel => exact ⟨by trivial, j + k, n + 1, by rfl, by rfl, by omega, by omega, HF2⟩
      case measure => simp [intOf]; omega
    · have q1 : decide ((j : Int) < i) = false := decide_eq_false (by omega)
      have hji : j = i := by omega
      subst hji
      have HR := Lib.hid HF.out.1
      clear HF
      go_wp2
      go_ret
      exact ⟨ret_int (by rw [HR.out]), rfl⟩
end Go.Proofs.YtdmpapoabeljfaaGreatDoor
