/-
  THE WALKS of expr.isName, isPattern, signOf and of the reader's method number (chapter 5).
-/
import Derived.Test.YtdmpapoabeljfaaGreatDoorEg
import Derived.Test.YtdmpapoabeljfaaGreatDoorVh
set_option linter.unusedVariables false
set_option linter.unusedSimpArgs false
set_option maxRecDepth 100000
set_option maxHeartbeats 4000000
namespace Go.Proofs.YtdmpapoabeljfaaGreatDoor
open Go.RowKit

theorem expr_isName (s : ByteArray) (w : World) (hG : Gs w) (hs : s.size ≤ 9223372036854775807) :
    Calls Tryz.prog 46 #[.string s] w fun e w' => e = .returned (.bool (Sp.nameB s.data.toList)) ∧ Below w.heap.size w w' := by
  rw [← Sp.sole_name]
  obtain ⟨ts, c, n, m, hsc⟩ : ∃ ts c n m, Sp.scanV s.data.toList = (ts, c, n, m) := ⟨_, _, _, _, rfl⟩
  have hS := scan_says s hs hsc w hG
  obtain ⟨R, hR⟩ : ∃ R, Sp.soleV 2 s.data.toList = R := ⟨_, rfl⟩
  rw [hR]
  have hdef : R = (c == 0 && ts.length == 2 && Sp.headIs 2 s.data.toList ts) := by
    rw [← hR]
    unfold Sp.soleV
    rw [hsc]
  obtain ⟨nt, hnt⟩ : ∃ nt, ts.length = nt := ⟨_, rfl⟩
  rw [hnt] at hS hdef
  have HS := Lib.hid hS
  clear hS hR hsc
  by_cases h0 : c = 0
  · subst h0
    by_cases h2 : nt = 2
    · subst h2
      have hex : ∃ t r, ts = t :: r := by
        cases ts with
        | nil => simp at hnt
        | cons t r => exact ⟨t, r, rfl⟩
      obtain ⟨⟨kn, tx, ln, cl⟩, r, rfl⟩ := hex
      · skip
        obtain ⟨kk, hkk⟩ : ∃ kk : Int, (kn : Int) = kk := ⟨_, rfl⟩
        obtain ⟨X, hX⟩ : ∃ X : ByteArray, (⟨tx.toArray⟩ : ByteArray) = X := ⟨_, rfl⟩
        have HKK := Lib.hid hkk
        have HXX := Lib.hid hX
        by_cases hk : kk = 2
        · have q2 : (kk == 2) = true := beq_iff_eq.2 hk
          have q3 : (X.toList == s.toList) = R := by
            rw [Lib.toList_data, Lib.toList_data, hdef, ← hX]
            simp only [Sp.headIs]
            rw [show (kn == 2) = true from beq_iff_eq.2 (by omega)]
            rfl
          have hcall : Calls Tryz.prog 22 #[.string s] w fun e w' => ∃ g cap, e = .returned (.tuple #[.slice (some ⟨g, 0, none⟩) 2 cap, .int .i64 0, .int .i64 n, .int .i64 m]) ∧ w'.cell? ⟨g, 0, none⟩ = some (.int .i64 kk) ∧ w'.cell? ⟨g, 1, none⟩ = some (.string X) ∧ Below w.heap.size w w' := by
            refine HS.out.mono ?_
            rintro e w1 ⟨A, cap, rfl, hv, hb⟩
            obtain ⟨g, rfl, hg, a0, a1, _, _⟩ := hv 0 _ rfl
            rw [Nat.zero_mul] at a0 a1
            refine ⟨g, cap, rfl, ?_, ?_, hb⟩
            · rw [← HKK.out]; exact a0
            · rw [← HXX.out]; exact a1
          have HC := Lib.hid hcall
          have HQ3 := Lib.hid q3
          clear hdef hnt hk hkk hX hG hs hcall HS q3
          cases R with
          | true =>
            have q3 := HQ3.out
            go_enter Tryz.func46, Tryz.ntmps46
            go_wp2_with (go_at_call 22; refine HC.out.mono ?_; rintro e w1 ⟨g, cap, rfl, a0, a1, hb⟩)
            go_ret
            exact ⟨rfl, hb⟩
          | false =>
            have q3 := HQ3.out
            go_enter Tryz.func46, Tryz.ntmps46
            go_wp2_with (go_at_call 22; refine HC.out.mono ?_; rintro e w1 ⟨g, cap, rfl, a0, a1, hb⟩)
            go_ret
            exact ⟨rfl, hb⟩
        · have q2 : (kk == 2) = false := beq_eq_false_iff_ne.2 hk
          have hr : R = false := by
            rw [hdef]
            simp only [Sp.headIs]
            rw [show (kn == 2) = false from beq_eq_false_iff_ne.2 (by omega)]
            rfl
          subst hr
          have hcall : Calls Tryz.prog 22 #[.string s] w fun e w' => ∃ g cap, e = .returned (.tuple #[.slice (some ⟨g, 0, none⟩) 2 cap, .int .i64 0, .int .i64 n, .int .i64 m]) ∧ w'.cell? ⟨g, 0, none⟩ = some (.int .i64 kk) ∧ Below w.heap.size w w' := by
            refine HS.out.mono ?_
            rintro e w1 ⟨A, cap, rfl, hv, hb⟩
            obtain ⟨g, rfl, hg, a0, a1, _, _⟩ := hv 0 _ rfl
            rw [Nat.zero_mul] at a0 a1
            refine ⟨g, cap, rfl, ?_, hb⟩
            rw [← HKK.out]
            exact a0
          have HC := Lib.hid hcall
          clear hdef hnt hk hkk hX hG hs hcall HS
          go_enter Tryz.func46, Tryz.ntmps46
          go_wp2_with (go_at_call 22; refine HC.out.mono ?_; rintro e w1 ⟨g, cap, rfl, a0, hb⟩)
          go_ret
          exact ⟨rfl, hb⟩
    · have q1 : ((nt : Int) == 2) = false := beq_eq_false_iff_ne.2 (by omega)
      have hr : R = false := by rw [hdef, beq_eq_false_iff_ne.2 h2]; simp
      subst hr
      clear hdef hnt h2 hG hs
      go_enter Tryz.func46, Tryz.ntmps46
      go_wp2_with (go_at_call 22; refine HS.out.mono ?_; rintro e w1 ⟨A, cap, rfl, hv, hb⟩; clear hv)
      go_ret
      exact ⟨rfl, hb⟩
  · obtain ⟨ci, hci⟩ : ∃ ci : Int, (c : Int) = ci := ⟨_, rfl⟩
    have q0 : (ci == 0) = false := beq_eq_false_iff_ne.2 (by omega)
    have hr : R = false := by rw [hdef, beq_eq_false_iff_ne.2 h0]; simp
    subst hr
    have hS := HS.out
    rw [hci] at hS
    have HS := Lib.hid hS
    clear hdef hnt h0 hG hs hS hci
    go_enter Tryz.func46, Tryz.ntmps46
    go_wp2_with (go_at_call 22; refine HS.out.mono ?_; rintro e w1 ⟨A, cap, rfl, hv, hb⟩; clear hv)
    go_ret
    exact ⟨rfl, hb⟩

theorem expr_isPattern (s : ByteArray) (w : World) (hG : Gs w) (hs : s.size ≤ 9223372036854775807) :
    Calls Tryz.prog 45 #[.string s] w fun e w' => e = .returned (.bool (Sp.patB s.data.toList)) ∧ Below w.heap.size w w' := by
  rw [← Sp.sole_pat]
  obtain ⟨ts, c, n, m, hsc⟩ : ∃ ts c n m, Sp.scanV s.data.toList = (ts, c, n, m) := ⟨_, _, _, _, rfl⟩
  have hS := scan_says s hs hsc w hG
  obtain ⟨R, hR⟩ : ∃ R, Sp.soleV 5 s.data.toList = R := ⟨_, rfl⟩
  rw [hR]
  have hdef : R = (c == 0 && ts.length == 2 && Sp.headIs 5 s.data.toList ts) := by
    rw [← hR]
    unfold Sp.soleV
    rw [hsc]
  obtain ⟨nt, hnt⟩ : ∃ nt, ts.length = nt := ⟨_, rfl⟩
  rw [hnt] at hS hdef
  have HS := Lib.hid hS
  clear hS hR hsc
  by_cases h0 : c = 0
  · subst h0
    by_cases h2 : nt = 2
    · subst h2
      have hex : ∃ t r, ts = t :: r := by
        cases ts with
        | nil => simp at hnt
        | cons t r => exact ⟨t, r, rfl⟩
      obtain ⟨⟨kn, tx, ln, cl⟩, r, rfl⟩ := hex
      · skip
        obtain ⟨kk, hkk⟩ : ∃ kk : Int, (kn : Int) = kk := ⟨_, rfl⟩
        obtain ⟨X, hX⟩ : ∃ X : ByteArray, (⟨tx.toArray⟩ : ByteArray) = X := ⟨_, rfl⟩
        have HKK := Lib.hid hkk
        have HXX := Lib.hid hX
        by_cases hk : kk = 5
        · have q2 : (kk == 5) = true := beq_iff_eq.2 hk
          have q3 : (X.toList == s.toList) = R := by
            rw [Lib.toList_data, Lib.toList_data, hdef, ← hX]
            simp only [Sp.headIs]
            rw [show (kn == 5) = true from beq_iff_eq.2 (by omega)]
            rfl
          have hcall : Calls Tryz.prog 22 #[.string s] w fun e w' => ∃ g cap, e = .returned (.tuple #[.slice (some ⟨g, 0, none⟩) 2 cap, .int .i64 0, .int .i64 n, .int .i64 m]) ∧ w'.cell? ⟨g, 0, none⟩ = some (.int .i64 kk) ∧ w'.cell? ⟨g, 1, none⟩ = some (.string X) ∧ Below w.heap.size w w' := by
            refine HS.out.mono ?_
            rintro e w1 ⟨A, cap, rfl, hv, hb⟩
            obtain ⟨g, rfl, hg, a0, a1, _, _⟩ := hv 0 _ rfl
            rw [Nat.zero_mul] at a0 a1
            refine ⟨g, cap, rfl, ?_, ?_, hb⟩
            · rw [← HKK.out]; exact a0
            · rw [← HXX.out]; exact a1
          have HC := Lib.hid hcall
          have HQ3 := Lib.hid q3
          clear hdef hnt hk hkk hX hG hs hcall HS q3
          cases R with
          | true =>
            have q3 := HQ3.out
            go_enter Tryz.func45, Tryz.ntmps45
            go_wp2_with (go_at_call 22; refine HC.out.mono ?_; rintro e w1 ⟨g, cap, rfl, a0, a1, hb⟩)
            go_ret
            exact ⟨rfl, hb⟩
          | false =>
            have q3 := HQ3.out
            go_enter Tryz.func45, Tryz.ntmps45
            go_wp2_with (go_at_call 22; refine HC.out.mono ?_; rintro e w1 ⟨g, cap, rfl, a0, a1, hb⟩)
            go_ret
            exact ⟨rfl, hb⟩
        · have q2 : (kk == 5) = false := beq_eq_false_iff_ne.2 hk
          have hr : R = false := by
            rw [hdef]
            simp only [Sp.headIs]
            rw [show (kn == 5) = false from beq_eq_false_iff_ne.2 (by omega)]
            rfl
          subst hr
          have hcall : Calls Tryz.prog 22 #[.string s] w fun e w' => ∃ g cap, e = .returned (.tuple #[.slice (some ⟨g, 0, none⟩) 2 cap, .int .i64 0, .int .i64 n, .int .i64 m]) ∧ w'.cell? ⟨g, 0, none⟩ = some (.int .i64 kk) ∧ Below w.heap.size w w' := by
            refine HS.out.mono ?_
            rintro e w1 ⟨A, cap, rfl, hv, hb⟩
            obtain ⟨g, rfl, hg, a0, a1, _, _⟩ := hv 0 _ rfl
            rw [Nat.zero_mul] at a0 a1
            refine ⟨g, cap, rfl, ?_, hb⟩
            rw [← HKK.out]
            exact a0
          have HC := Lib.hid hcall
          clear hdef hnt hk hkk hX hG hs hcall HS
          go_enter Tryz.func45, Tryz.ntmps45
          go_wp2_with (go_at_call 22; refine HC.out.mono ?_; rintro e w1 ⟨g, cap, rfl, a0, hb⟩)
          go_ret
          exact ⟨rfl, hb⟩
    · have q1 : ((nt : Int) == 2) = false := beq_eq_false_iff_ne.2 (by omega)
      have hr : R = false := by rw [hdef, beq_eq_false_iff_ne.2 h2]; simp
      subst hr
      clear hdef hnt h2 hG hs
      go_enter Tryz.func45, Tryz.ntmps45
      go_wp2_with (go_at_call 22; refine HS.out.mono ?_; rintro e w1 ⟨A, cap, rfl, hv, hb⟩; clear hv)
      go_ret
      exact ⟨rfl, hb⟩
  · obtain ⟨ci, hci⟩ : ∃ ci : Int, (c : Int) = ci := ⟨_, rfl⟩
    have q0 : (ci == 0) = false := beq_eq_false_iff_ne.2 (by omega)
    have hr : R = false := by rw [hdef, beq_eq_false_iff_ne.2 h0]; simp
    subst hr
    have hS := HS.out
    rw [hci] at hS
    have HS := Lib.hid hS
    clear hdef hnt h0 hG hs hS hci
    go_enter Tryz.func45, Tryz.ntmps45
    go_wp2_with (go_at_call 22; refine HS.out.mono ?_; rintro e w1 ⟨A, cap, rfl, hv, hb⟩; clear hv)
    go_ret
    exact ⟨rfl, hb⟩

end Go.Proofs.YtdmpapoabeljfaaGreatDoor
