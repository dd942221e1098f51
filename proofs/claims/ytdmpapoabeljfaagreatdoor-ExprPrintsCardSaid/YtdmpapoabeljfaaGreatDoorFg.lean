/-
  THE WALKS of reachref5.Name, digitsFit (chapter 5).
-/
import Derived.Test.YtdmpapoabeljfaaGreatDoorFa
import Derived.Test.YtdmpapoabeljfaaGreatDoorFp
set_option linter.unusedVariables false
set_option linter.unusedSimpArgs false
set_option maxRecDepth 100000
set_option maxHeartbeats 4000000
namespace Go.Proofs.YtdmpapoabeljfaaGreatDoor
open Go.RowKit

theorem all_step {l : List UInt8} {q : UInt8 → Bool} {i : Nat} (h : (l.take i).all q = true) {c : UInt8} (hc : l[i]? = some c) (hq : q c = true) : (l.take (i + 1)).all q = true := by
  have hi := (List.getElem?_eq_some_iff.1 hc).1
  have hb := (List.getElem?_eq_some_iff.1 hc).2
  rw [List.take_succ_eq_append_getElem hi, List.all_append, h, hb]
  simp [hq]
theorem all_not {l : List UInt8} {q : UInt8 → Bool} {i : Nat} {c : UInt8} (hc : l[i]? = some c) (hq : q c = false) : l.all q = false := by
  rw [List.all_eq_false]
  exact ⟨c, List.mem_of_getElem? hc, by rw [hq]; decide⟩
theorem class0 {l : List UInt8} {c : UInt8} (hc : l[0]? = some c) : Sp.classV l = Sp.classB c := by
  cases l with
  | nil => cases hc
  | cons x r =>
    injection hc with hc
    rw [← hc]
    rfl
theorem class5_of {n : Nat} : ∀ c : UInt8, Sp.letterB c = true → Sp.classB c = 5 := by
  intro c h
  unfold Sp.letterB at h
  have h1 := of_decide_eq_true h
  unfold Sp.classB
  have h2 : Sp.blankB c = false := by unfold Sp.blankB; exact decide_eq_false (by omega)
  rw [h2, if_neg (by decide), if_neg (by omega), if_neg (by omega), if_neg (by omega), if_neg (by omega), if_pos (by unfold Sp.letterB; exact decide_eq_true h1)]
theorem class5_not : ∀ c : UInt8, Sp.letterB c = false → Sp.classB c ≠ 5 := by
  intro c h
  unfold Sp.classB
  rw [h]
  repeat' split
  all_goals first | decide | (rename_i h; exact absurd h (by decide))

theorem ref5_Name (s : ByteArray) (w : World) (hs : s.size ≤ 9223372036854775807) :
    Calls Tryz.prog 33 #[.string s] w fun e w' => e = .returned (.bool (Sp.nameB s.data.toList)) ∧ w = w' := by
  have hsl := Lib.size_eq s
  obtain ⟨R, hR⟩ : ∃ R, Sp.nameB s.data.toList = R := ⟨_, rfl⟩
  rw [hR]
  unfold Sp.nameB at hR
  by_cases h1 : s.size < 1
  · have q1 : decide ((s.size : Int) < 1) = true := decide_eq_true (by omega)
    have hr : R = false := by
      rw [← hR, List.eq_nil_of_length_eq_zero (show s.data.toList.length = 0 by omega)]
      rfl
    subst hr
    clear hR hsl h1
    go_enter Tryz.func33, Tryz.ntmps33
    go_wp2_with fail
    go_ret
    exact ⟨rfl, rfl⟩
  by_cases h2 : 24 < s.size
  · have q1 : decide ((s.size : Int) < 1) = false := decide_eq_false (by omega)
    have q2 : decide ((s.size : Int) > 24) = true := decide_eq_true (by omega)
    have hr : R = false := by
      rw [← hR, decide_eq_false (show ¬ s.data.toList.length ≤ 24 by omega), Bool.and_false]
    subst hr
    clear hR hsl h1 h2
    go_enter Tryz.func33, Tryz.ntmps33
    go_wp2_with fail
    go_ret
    exact ⟨rfl, rfl⟩
  have q1 : decide ((s.size : Int) < 1) = false := decide_eq_false (by omega)
  have q2 : decide ((s.size : Int) > 24) = false := decide_eq_false (by omega)
  rw [decide_eq_true (show s.data.toList.length ≤ 24 by omega), Bool.and_true] at hR
  have hs32 : (s.size : Int) ≤ 32 := by omega
  have HR := Lib.hid hR
  have HSL := Lib.hid hsl
  have H1 := Lib.hid h1
  clear hR hsl h1 h2 hs
  go_enter Tryz.func33, Tryz.ntmps33
  go_wp2_with fail
  go_loopw [3, 4, 5] (fun v3 _ _ wr => wr = w ∧ ∃ i : Nat, v3 = .int .i64 (i : Int) ∧ i ≤ s.size ∧ Hid ((0 < i → Sp.classV s.data.toList = 5) ∧ (s.data.toList.take i).all Sp.wordB = true)) (fun v3 _ _ _ => s.size - (intOf v3).toNat)
  case atStart => exact ⟨rfl, 0, rfl, by omega, fun h => absurd h (by omega), by simp⟩
  case round =>
    obtain ⟨rfl, i, rfl, hi, HF⟩ := hrel
    by_cases hlt : i < s.size
    rotate_left
    · have z1 : decide ((i : Int) < s.size) = false := decide_eq_false (by omega)
      have hr : R = true := by
        obtain ⟨f1, f2⟩ := HF.out
        have := H1.out
        rw [← HR.out, f1 (by omega)]
        rw [List.take_of_length_le (by rw [← HSL.out]; omega)] at f2
        rw [f2]
        rfl
      have HRR := Lib.hid hr
      clear hr HF hi
      go_wp2_with fail
      go_ret
      exact ⟨by rw [HRR.out]; rfl, rfl⟩
    have z1 : decide ((i : Int) < s.size) = true := decide_eq_true (by omega)
    have z2 : (i : Int) < s.size := by omega
    have z3 : (0 : Int) ≤ (i : Int) := by omega
    have z4 : (i : Int) ≤ 32 := by omega
    have hcc : s.data.toList[i]? = some (s[i]'hlt) := by
      rw [List.getElem?_eq_getElem (by rw [← HSL.out]; exact hlt), ← Sp.get_idx s i hlt]
    obtain ⟨n, hn⟩ : ∃ n, (s[i]'hlt).toNat = n := ⟨_, rfl⟩
    have hn256 : n < 256 := by rw [← hn]; exact UInt8.toNat_lt _
    have HN := Lib.hid hn
    have HC := Lib.hid hcc
    clear hcc
    by_cases hL : Sp.letterB (s[i]'hlt) = true
    · have HF2 : Hid ((0 < i + 1 → Sp.classV s.data.toList = 5) ∧ (s.data.toList.take (i + 1)).all Sp.wordB = true) := by
        obtain ⟨f1, f2⟩ := HF.out
        refine ⟨fun _ => ?_, all_step f2 HC.out (by unfold Sp.wordB; rw [hL]; rfl)⟩
        by_cases h0 : i = 0
        · subst h0
          rw [class0 HC.out]
          exact class5_of (n := 0) _ hL
        · exact f1 (by omega)
      have hl3 : n = 95 ∨ (97 ≤ n ∧ n ≤ 122) ∨ (65 ≤ n ∧ n ≤ 90) := by
        unfold Sp.letterB at hL
        have := of_decide_eq_true hL
        rw [hn] at this
        omega
      clear hL HF
      rcases hl3 with h3 | ⟨h3, h4⟩ | ⟨h3, h4⟩
      · have a1 : (((s[i]'hlt).toNat : Int) == 95) = true := beq_iff_eq.2 (by omega)
        clear hn h3 hn256
        go_wp2_with fail
        go_roundw
        case rel => exact ⟨by trivial, i + 1, by rfl, by omega, HF2⟩
        case measure => simp [intOf]; omega
      · have a1 : (((s[i]'hlt).toNat : Int) == 95) = false := beq_eq_false_iff_ne.2 (by omega)
        have a2 : decide (((s[i]'hlt).toNat : Int) ≥ 97) = true := decide_eq_true (by omega)
        have a3 : decide (((s[i]'hlt).toNat : Int) ≤ 122) = true := decide_eq_true (by omega)
        clear hn h3 h4 hn256
        go_wp2_with fail
        go_roundw
        case rel => exact ⟨by trivial, i + 1, by rfl, by omega, HF2⟩
        case measure => simp [intOf]; omega
      · have a1 : (((s[i]'hlt).toNat : Int) == 95) = false := beq_eq_false_iff_ne.2 (by omega)
        have a2 : decide (((s[i]'hlt).toNat : Int) ≥ 97) = false := decide_eq_false (by omega)
        have a3 : decide (((s[i]'hlt).toNat : Int) ≥ 65) = true := decide_eq_true (by omega)
        have a4 : decide (((s[i]'hlt).toNat : Int) ≤ 90) = true := decide_eq_true (by omega)
        clear hn h3 h4 hn256
        go_wp2_with fail
        go_roundw
        case rel => exact ⟨by trivial, i + 1, by rfl, by omega, HF2⟩
        case measure => simp [intOf]; omega
    · rw [Bool.not_eq_true] at hL
      have hl3 : n ≠ 95 ∧ ¬ (97 ≤ n ∧ n ≤ 122) ∧ ¬ (65 ≤ n ∧ n ≤ 90) := by
        unfold Sp.letterB at hL
        have := of_decide_eq_false hL
        rw [hn] at this
        omega
      obtain ⟨e1, e2, e3⟩ := hl3
      by_cases hD : 0 < i ∧ 48 ≤ n ∧ n ≤ 57
      · obtain ⟨d1, d2, d3⟩ := hD
        have HF2 : Hid ((0 < i + 1 → Sp.classV s.data.toList = 5) ∧ (s.data.toList.take (i + 1)).all Sp.wordB = true) := by
          obtain ⟨f1, f2⟩ := HF.out
          refine ⟨fun _ => f1 d1, all_step f2 HC.out ?_⟩
          unfold Sp.wordB Sp.digitB
          rw [hn, decide_eq_true (show 48 ≤ n ∧ n ≤ 57 from ⟨d2, d3⟩), Bool.or_true]
        have a1 : (((s[i]'hlt).toNat : Int) == 95) = false := beq_eq_false_iff_ne.2 (by omega)
        have a2 : decide (((s[i]'hlt).toNat : Int) ≥ 97) = false := decide_eq_false (by omega)
        have a3 : decide (((s[i]'hlt).toNat : Int) ≥ 65) = false := decide_eq_false (by omega)
        have a4 : ((i : Int) == 0) = false := beq_eq_false_iff_ne.2 (by omega)
        have a5 : decide (((s[i]'hlt).toNat : Int) < 48) = false := decide_eq_false (by omega)
        have a6 : decide (((s[i]'hlt).toNat : Int) > 57) = false := decide_eq_false (by omega)
        clear hn hn256 e1 e2 e3 d1 d2 d3 hL HF
        go_wp2_with fail
        go_roundw
        case rel => exact ⟨by trivial, i + 1, by rfl, by omega, HF2⟩
        case measure => simp [intOf]; omega
      have hr : R = false := by
        rw [← HR.out]
        by_cases h0 : i = 0
        · subst h0
          rw [class0 HC.out, beq_eq_false_iff_ne.2 (class5_not _ hL), Bool.false_and]
        · rw [all_not (q := Sp.wordB) HC.out (by unfold Sp.wordB Sp.digitB; rw [hL, hn, decide_eq_false (by omega)]; rfl), Bool.and_false]
      have HRR := Lib.hid hr
      clear hr HF hL
      have a1 : (((s[i]'hlt).toNat : Int) == 95) = false := beq_eq_false_iff_ne.2 (by omega)
      have hcase : (122 < n) ∨ (90 < n ∧ n < 97) ∨ n < 65 := by omega
      by_cases h0 : i = 0
      · have a6 : ((i : Int) == 0) = true := beq_iff_eq.2 (by omega)
        rcases hcase with hc | ⟨hc, hc'⟩ | hc
        · have a2 : decide (((s[i]'hlt).toNat : Int) ≥ 97) = true := decide_eq_true (by omega)
          have a3 : decide (((s[i]'hlt).toNat : Int) ≤ 122) = false := decide_eq_false (by omega)
          have a4 : decide (((s[i]'hlt).toNat : Int) ≥ 65) = true := decide_eq_true (by omega)
          have a5 : decide (((s[i]'hlt).toNat : Int) ≤ 90) = false := decide_eq_false (by omega)
          clear hn hn256 e1 e2 e3 hD hc h0
          go_wp2_with fail
          go_ret
          exact ⟨by rw [HRR.out]; rfl, rfl⟩
        · have a2 : decide (((s[i]'hlt).toNat : Int) ≥ 97) = false := decide_eq_false (by omega)
          have a4 : decide (((s[i]'hlt).toNat : Int) ≥ 65) = true := decide_eq_true (by omega)
          have a5 : decide (((s[i]'hlt).toNat : Int) ≤ 90) = false := decide_eq_false (by omega)
          clear hn hn256 e1 e2 e3 hD hc h0 hc'
          go_wp2_with fail
          go_ret
          exact ⟨by rw [HRR.out]; rfl, rfl⟩
        · have a2 : decide (((s[i]'hlt).toNat : Int) ≥ 97) = false := decide_eq_false (by omega)
          have a4 : decide (((s[i]'hlt).toNat : Int) ≥ 65) = false := decide_eq_false (by omega)
          clear hn hn256 e1 e2 e3 hD hc h0
          go_wp2_with fail
          go_ret
          exact ⟨by rw [HRR.out]; rfl, rfl⟩
      · have a6 : ((i : Int) == 0) = false := beq_eq_false_iff_ne.2 (by omega)
        have hl2 : n < 48 ∨ 57 < n := by omega
        rcases hcase with hc | ⟨hc, hc'⟩ | hc
        · have a2 : decide (((s[i]'hlt).toNat : Int) ≥ 97) = true := decide_eq_true (by omega)
          have a3 : decide (((s[i]'hlt).toNat : Int) ≤ 122) = false := decide_eq_false (by omega)
          have a4 : decide (((s[i]'hlt).toNat : Int) ≥ 65) = true := decide_eq_true (by omega)
          have a5 : decide (((s[i]'hlt).toNat : Int) ≤ 90) = false := decide_eq_false (by omega)
          have a7 : decide (((s[i]'hlt).toNat : Int) < 48) = false := decide_eq_false (by omega)
          have a8 : decide (((s[i]'hlt).toNat : Int) > 57) = true := decide_eq_true (by omega)
          clear hl2
          clear hn hn256 e1 e2 e3 hD hc h0
          go_wp2_with fail
          go_ret
          exact ⟨by rw [HRR.out]; rfl, rfl⟩
        · have a2 : decide (((s[i]'hlt).toNat : Int) ≥ 97) = false := decide_eq_false (by omega)
          have a4 : decide (((s[i]'hlt).toNat : Int) ≥ 65) = true := decide_eq_true (by omega)
          have a5 : decide (((s[i]'hlt).toNat : Int) ≤ 90) = false := decide_eq_false (by omega)
          have a7 : decide (((s[i]'hlt).toNat : Int) < 48) = false := decide_eq_false (by omega)
          have a8 : decide (((s[i]'hlt).toNat : Int) > 57) = true := decide_eq_true (by omega)
          clear hl2
          clear hn hn256 e1 e2 e3 hD hc h0 hc'
          go_wp2_with fail
          go_ret
          exact ⟨by rw [HRR.out]; rfl, rfl⟩
        · have a2 : decide (((s[i]'hlt).toNat : Int) ≥ 97) = false := decide_eq_false (by omega)
          have a4 : decide (((s[i]'hlt).toNat : Int) ≥ 65) = false := decide_eq_false (by omega)
          rcases hl2 with hl2 | hl2
          · have a7 : decide (((s[i]'hlt).toNat : Int) < 48) = true := decide_eq_true (by omega)
            clear hn hn256 e1 e2 e3 hD hc hl2 h0
            go_wp2_with fail
            go_ret
            exact ⟨by rw [HRR.out]; rfl, rfl⟩
          · have a7 : decide (((s[i]'hlt).toNat : Int) < 48) = false := decide_eq_false (by omega)
            have a8 : decide (((s[i]'hlt).toNat : Int) > 57) = true := decide_eq_true (by omega)
            clear hn hn256 e1 e2 e3 hD hc hl2 h0
            go_wp2_with fail
            go_ret
            exact ⟨by rw [HRR.out]; rfl, rfl⟩

theorem ref5_digitsFit (s : ByteArray) (w : World) (hs : s.size ≤ 9223372036854775807) :
    Calls Tryz.prog 49 #[.string s] w fun e w' => e = .returned (.bool (Sp.patV s.data.toList)) ∧ w = w' := by
  have hsl := Lib.size_eq s
  obtain ⟨R, hR⟩ : ∃ R, Sp.patV s.data.toList = R := ⟨_, rfl⟩
  rw [hR]
  unfold Sp.patV at hR
  by_cases h1 : s.size < 1
  · have q1 : decide ((s.size : Int) < 1) = true := decide_eq_true (by omega)
    have hr : R = false := by
      rw [← hR, List.eq_nil_of_length_eq_zero (show s.data.toList.length = 0 by omega)]
      rfl
    subst hr
    clear hR hsl h1
    go_enter Tryz.func49, Tryz.ntmps49
    go_wp2_with fail
    go_ret
    exact ⟨rfl, rfl⟩
  by_cases h2 : 32 < s.size
  · have q1 : decide ((s.size : Int) < 1) = false := decide_eq_false (by omega)
    have q2 : decide ((s.size : Int) > 32) = true := decide_eq_true (by omega)
    have hr : R = false := by
      rw [← hR, decide_eq_false (show ¬ s.data.toList.length ≤ 32 by omega), Bool.and_false]
    subst hr
    clear hR hsl h1 h2
    go_enter Tryz.func49, Tryz.ntmps49
    go_wp2_with fail
    go_ret
    exact ⟨rfl, rfl⟩
  have q1 : decide ((s.size : Int) < 1) = false := decide_eq_false (by omega)
  have q2 : decide ((s.size : Int) > 32) = false := decide_eq_false (by omega)
  rw [decide_eq_true (show s.data.toList.length ≤ 32 by omega), Bool.and_true, bne_iff_ne.2 (show s.data.toList.length ≠ 0 by omega), Bool.and_true] at hR
  have hs32 : (s.size : Int) ≤ 32 := by omega
  have HR := Lib.hid hR
  have HSL := Lib.hid hsl
  clear hR hsl h1 h2 hs
  go_enter Tryz.func49, Tryz.ntmps49
  go_wp2_with fail
  go_loopw [3] (fun v3 wr => wr = w ∧ ∃ i : Nat, v3 = .int .i64 (i : Int) ∧ i ≤ s.size ∧ Hid ((s.data.toList.take i).all (fun c => c == 48 || c == 49 || c == 120) = true)) (fun v3 _ => s.size - (intOf v3).toNat)
  case atStart => exact ⟨rfl, 0, rfl, by omega, by show _ = _; simp⟩
  case round =>
    obtain ⟨rfl, i, rfl, hi, HF⟩ := hrel
    by_cases hlt : i < s.size
    rotate_left
    · have z1 : decide ((i : Int) < s.size) = false := decide_eq_false (by omega)
      have hr : R = true := by
        have f2 := HF.out
        rw [List.take_of_length_le (by rw [← HSL.out]; omega)] at f2
        rw [← HR.out, f2]
      have HRR := Lib.hid hr
      clear hr HF hi
      go_wp2_with fail
      go_ret
      exact ⟨by rw [HRR.out]; rfl, rfl⟩
    have z1 : decide ((i : Int) < s.size) = true := decide_eq_true (by omega)
    have z2 : (i : Int) < s.size := by omega
    have z3 : (0 : Int) ≤ (i : Int) := by omega
    have z4 : (i : Int) ≤ 32 := by omega
    have hcc : s.data.toList[i]? = some (s[i]'hlt) := by
      rw [List.getElem?_eq_getElem (by rw [← HSL.out]; exact hlt), ← Sp.get_idx s i hlt]
    obtain ⟨c, hc⟩ : ∃ c, s[i]'hlt = c := ⟨_, rfl⟩
    rw [hc] at hcc
    have HC := Lib.hid hcc
    clear hcc
    by_cases hL : c = 48 ∨ c = 49 ∨ c = 120
    · have HF2 : Hid ((s.data.toList.take (i + 1)).all (fun c => c == 48 || c == 49 || c == 120) = true) := by
        refine all_step HF.out HC.out ?_
        rcases hL with rfl | rfl | rfl <;> rfl
      clear HF
      rcases hL with h3 | h3 | h3
      · have a1 : (((s[i]'hlt).toNat : Int) != 48) = false := by rw [hc, h3]; rfl
        clear hc h3
        go_wp2_with fail
        go_roundw
        case rel => exact ⟨by trivial, i + 1, by rfl, by omega, HF2⟩
        case measure => simp [intOf]; omega
      · have a1 : (((s[i]'hlt).toNat : Int) != 48) = true := by rw [hc, h3]; rfl
        have a2 : (((s[i]'hlt).toNat : Int) != 49) = false := by rw [hc, h3]; rfl
        clear hc h3
        go_wp2_with fail
        go_roundw
        case rel => exact ⟨by trivial, i + 1, by rfl, by omega, HF2⟩
        case measure => simp [intOf]; omega
      · have a1 : (((s[i]'hlt).toNat : Int) != 48) = true := by rw [hc, h3]; rfl
        have a2 : (((s[i]'hlt).toNat : Int) != 49) = true := by rw [hc, h3]; rfl
        have a3 : (((s[i]'hlt).toNat : Int) != 120) = false := by rw [hc, h3]; rfl
        clear hc h3
        go_wp2_with fail
        go_roundw
        case rel => exact ⟨by trivial, i + 1, by rfl, by omega, HF2⟩
        case measure => simp [intOf]; omega
    · have a1 : (((s[i]'hlt).toNat : Int) != 48) = true := by rw [hc, bne_iff_ne]; exact fun e => hL (by exact Or.inl (UInt8.toNat_inj.1 (show c.toNat = 48 by omega)))
      have a2 : (((s[i]'hlt).toNat : Int) != 49) = true := by rw [hc, bne_iff_ne]; exact fun e => hL (by exact Or.inr <| Or.inl (UInt8.toNat_inj.1 (show c.toNat = 49 by omega)))
      have a3 : (((s[i]'hlt).toNat : Int) != 120) = true := by rw [hc, bne_iff_ne]; exact fun e => hL (by exact Or.inr <| Or.inr (UInt8.toNat_inj.1 (show c.toNat = 120 by omega)))
      have hr : R = false := by
        rw [← HR.out]
        refine all_not HC.out ?_
        simp only [Bool.or_eq_false_iff, beq_eq_false_iff_ne]
        exact ⟨⟨fun e => hL (Or.inl e), fun e => hL (Or.inr (Or.inl e))⟩, fun e => hL (Or.inr (Or.inr e))⟩
      have HRR := Lib.hid hr
      clear hr HF hL hc
      go_wp2_with fail
      go_ret
      exact ⟨by rw [HRR.out]; rfl, rfl⟩
end Go.Proofs.YtdmpapoabeljfaaGreatDoor
