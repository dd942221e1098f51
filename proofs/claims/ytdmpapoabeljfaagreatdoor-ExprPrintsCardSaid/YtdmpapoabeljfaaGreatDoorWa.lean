/-
  THE WALKS of the reference's small functions (chapter 3): bytes and characters.
-/
import Derived.Test.YtdmpapoabeljfaaGreatDoorProg
import Derived.Test.YtdmpapoabeljfaaGreatDoorPa
import Derived.WalkKit
import Derived.WalkSpells
import Derived.WalkLawsBesides
import Derived.BigGuardPart
import Derived.Lib.Hide
set_option linter.unusedVariables false
set_option linter.unusedSimpArgs false
namespace Go.Proofs.YtdmpapoabeljfaaGreatDoor
open Go.RowKit

theorem ret_bool {a b : Bool} (h : a = b) : Ending.returned (.bool a) = .returned (.bool b) := by rw [h]
theorem ret_int {k : IntKind} {a b : Int} (h : a = b) : Ending.returned (.int k a) = .returned (.int k b) := by rw [h]

set_option maxHeartbeats 400000 in
theorem ref3_digit (c : UInt8) (w : World) :
    Calls Tryz.prog 77 #[.int .u8 c.toNat] w fun e w' => e = .returned (.bool (Sp.digitB c)) ∧ w = w' := by
  go_enter Tryz.func77, Tryz.ntmps77
  go_wp2
  all_goals go_ret
  all_goals exact ⟨ret_bool (by rw [Bool.eq_iff_iff]; simp [Sp.digitB]; omega), rfl⟩

set_option maxHeartbeats 400000 in
theorem ref3_hex (c : UInt8) (w : World) :
    Calls Tryz.prog 98 #[.int .u8 c.toNat] w fun e w' => e = .returned (.int .i64 (Sp.hexZ c)) ∧ w = w' := by
  have hc := c.toNat_lt
  by_cases h1 : Sp.digitB c = true
  · have h2 := of_decide_eq_true h1
    go_enter Tryz.func98, Tryz.ntmps98
    go_wp2_with (go_at_call 77; refine (ref3_digit _ _).mono ?_; rintro e w' ⟨rfl, rfl⟩)
    go_ret
    exact ⟨ret_int (by exact (Sp.hexZ_dig c h2.1 h2.2).symm), rfl⟩
  · have h2 : ¬ (48 ≤ c.toNat ∧ c.toNat ≤ 57) := fun h => h1 (decide_eq_true h)
    have h3 : Sp.digitB c = false := by simpa using h1
    go_enter Tryz.func98, Tryz.ntmps98
    go_wp2_with (go_at_call 77; refine (ref3_digit _ _).mono ?_; rintro e w' ⟨rfl, rfl⟩)
    all_goals go_ret
    all_goals exact ⟨ret_int (by rw [Sp.hexZ_eq, if_neg h2]; (repeat' split) <;> omega), rfl⟩

set_option maxHeartbeats 400000 in
theorem ref3_within (s : ByteArray) (i : Int) (lo hi : UInt8) (w : World) (h0 : 0 ≤ i) (hs : s.size ≤ 9223372036854775807) :
    Calls Tryz.prog 102 #[.string s, .int .i64 i, .int .u8 lo.toNat, .int .u8 hi.toNat] w fun e w' => e = .returned (.bool (Sp.wi s.data.toList i.toNat lo.toNat hi.toNat)) ∧ w = w' := by
  obtain ⟨n, rfl⟩ := Int.eq_ofNat_of_zero_le h0
  by_cases hn : n < s.size
  · have hb := Sp.bt_idx s n hn
    have HB : Hid ((s[n]'hn).toNat = Sp.bt s.data.toList n) := Lib.hid hb
    clear hb
    go_enter Tryz.func102, Tryz.ntmps102
    go_wp2
    all_goals go_ret
    all_goals
      have hb := HB.out
      exact ⟨ret_bool (by rw [Bool.eq_iff_iff]; simp only [decide_eq_true_eq, Sp.wi_iff, Int.toNat_natCast, Bool.false_eq_true, false_iff]; omega), rfl⟩
  · go_enter Tryz.func102, Tryz.ntmps102
    go_wp2
    all_goals go_ret
    exact ⟨ret_bool (by rw [Bool.eq_iff_iff]; simp only [Sp.wi_iff, Int.toNat_natCast, Bool.false_eq_true, false_iff]; omega), rfl⟩

/-- with the bounds as numbers -/
theorem ref3_within_lit (s : ByteArray) (i lo hi : Int) (w : World) (h0 : 0 ≤ i) (hs : s.size ≤ 9223372036854775807) (hl : 0 ≤ lo ∧ lo < 256) (hh : 0 ≤ hi ∧ hi < 256) :
    Calls Tryz.prog 102 #[.string s, .int .i64 i, .int .u8 lo, .int .u8 hi] w fun e w' => e = .returned (.bool (Sp.wi s.data.toList i.toNat lo.toNat hi.toNat)) ∧ w = w' := by
  obtain ⟨a, rfl⟩ := Int.eq_ofNat_of_zero_le hl.1
  obtain ⟨b, rfl⟩ := Int.eq_ofNat_of_zero_le hh.1
  have e1 : (UInt8.ofNat a).toNat = a := by rw [UInt8.toNat_ofNat']; omega
  have e2 : (UInt8.ofNat b).toNat = b := by rw [UInt8.toNat_ofNat']; omega
  have h := ref3_within s i (UInt8.ofNat a) (UInt8.ofNat b) w h0 hs
  rw [e1, e2] at h
  exact h
end Go.Proofs.YtdmpapoabeljfaaGreatDoor
