/-
  THE WALK of the reference's reader's method op (chapter 5).
-/
import Derived.Test.YtdmpapoabeljfaaGreatDoorFb
set_option linter.unusedVariables false
set_option linter.unusedSimpArgs false
set_option maxRecDepth 100000
set_option maxHeartbeats 4000000
namespace Go.Proofs.YtdmpapoabeljfaaGreatDoor
open Go.RowKit

theorem f_op {W0 w : World} {N n cap p m c : Nat} {A : Option Addr} {st : List UInt8} {ns : List Sp.Nd} (h : FSt W0 N A n cap p st ns m c w) {zs : List ZTok} (hn : zs.length = n) (hv : ViewZ W0 N A zs) {on : Nat} (hon : Sp.opAt (zs.map ptZ) p = on) :
    Calls Tryz.prog 56 #[.pointer (some ⟨N, 0, none⟩)] w fun r w' => r = .returned (.int .i64 (on : Nat)) ∧ w = w' := by
  obtain ⟨s1, s2, s3, s4, s5, s6⟩ := Sp.opSigns (zs.map ptZ) p
  have hol := Sp.opLe (zs.map ptZ) p
  rw [hon] at s1 s2 s3 s4 s5 s6 hol
  have h7 : on = 0 ∨ on = 1 ∨ on = 2 ∨ on = 3 ∨ on = 4 ∨ on = 5 ∨ on = 6 := by omega
  obtain ⟨_, c1, _⟩ := h.cells
  have H0 := Lib.hid h
  clear h hol
  rcases h7 with rfl | rfl | rfl | rfl | rfl | rfl | rfl
  · skip
    have HS1 := Lib.hid (H0.out.sign p ⟨#[61]⟩ hn hv (b := false) s1)
    have HS2 := Lib.hid (H0.out.sign p ⟨#[33, 61]⟩ hn hv (b := false) s2)
    have HS3 := Lib.hid (H0.out.sign p ⟨#[60]⟩ hn hv (b := false) s3)
    have HS4 := Lib.hid (H0.out.sign p ⟨#[60, 61]⟩ hn hv (b := false) s4)
    have HS5 := Lib.hid (H0.out.sign p ⟨#[62]⟩ hn hv (b := false) s5)
    have HS6 := Lib.hid (H0.out.sign p ⟨#[62, 61]⟩ hn hv (b := false) s6)
    clear hn hv hon s1 s2 s3 s4 s5 s6
    go_enter Tryz.func56, Tryz.ntmps56
    go_wp2_with fail
    refine HS1.out.mono ?_
    rintro e w1 ⟨rfl, rfl⟩
    go_wp2_with fail
    refine HS2.out.mono ?_
    rintro e w2 ⟨rfl, rfl⟩
    go_wp2_with fail
    refine HS3.out.mono ?_
    rintro e w3 ⟨rfl, rfl⟩
    go_wp2_with fail
    refine HS4.out.mono ?_
    rintro e w4 ⟨rfl, rfl⟩
    go_wp2_with fail
    refine HS5.out.mono ?_
    rintro e w5 ⟨rfl, rfl⟩
    go_wp2_with fail
    refine HS6.out.mono ?_
    rintro e w6 ⟨rfl, rfl⟩
    go_wp2_with fail
    go_ret
    exact ⟨rfl, rfl⟩
  · skip
    have HS1 := Lib.hid (H0.out.sign p ⟨#[61]⟩ hn hv (b := true) s1)
    clear hn hv hon s1 s2 s3 s4 s5 s6
    go_enter Tryz.func56, Tryz.ntmps56
    go_wp2_with fail
    refine HS1.out.mono ?_
    rintro e w1 ⟨rfl, rfl⟩
    go_wp2_with fail
    go_ret
    exact ⟨rfl, rfl⟩
  · skip
    have HS1 := Lib.hid (H0.out.sign p ⟨#[61]⟩ hn hv (b := false) s1)
    have HS2 := Lib.hid (H0.out.sign p ⟨#[33, 61]⟩ hn hv (b := true) s2)
    clear hn hv hon s1 s2 s3 s4 s5 s6
    go_enter Tryz.func56, Tryz.ntmps56
    go_wp2_with fail
    refine HS1.out.mono ?_
    rintro e w1 ⟨rfl, rfl⟩
    go_wp2_with fail
    refine HS2.out.mono ?_
    rintro e w2 ⟨rfl, rfl⟩
    go_wp2_with fail
    go_ret
    exact ⟨rfl, rfl⟩
  · skip
    have HS1 := Lib.hid (H0.out.sign p ⟨#[61]⟩ hn hv (b := false) s1)
    have HS2 := Lib.hid (H0.out.sign p ⟨#[33, 61]⟩ hn hv (b := false) s2)
    have HS3 := Lib.hid (H0.out.sign p ⟨#[60]⟩ hn hv (b := true) s3)
    clear hn hv hon s1 s2 s3 s4 s5 s6
    go_enter Tryz.func56, Tryz.ntmps56
    go_wp2_with fail
    refine HS1.out.mono ?_
    rintro e w1 ⟨rfl, rfl⟩
    go_wp2_with fail
    refine HS2.out.mono ?_
    rintro e w2 ⟨rfl, rfl⟩
    go_wp2_with fail
    refine HS3.out.mono ?_
    rintro e w3 ⟨rfl, rfl⟩
    go_wp2_with fail
    go_ret
    exact ⟨rfl, rfl⟩
  · skip
    have HS1 := Lib.hid (H0.out.sign p ⟨#[61]⟩ hn hv (b := false) s1)
    have HS2 := Lib.hid (H0.out.sign p ⟨#[33, 61]⟩ hn hv (b := false) s2)
    have HS3 := Lib.hid (H0.out.sign p ⟨#[60]⟩ hn hv (b := false) s3)
    have HS4 := Lib.hid (H0.out.sign p ⟨#[60, 61]⟩ hn hv (b := true) s4)
    clear hn hv hon s1 s2 s3 s4 s5 s6
    go_enter Tryz.func56, Tryz.ntmps56
    go_wp2_with fail
    refine HS1.out.mono ?_
    rintro e w1 ⟨rfl, rfl⟩
    go_wp2_with fail
    refine HS2.out.mono ?_
    rintro e w2 ⟨rfl, rfl⟩
    go_wp2_with fail
    refine HS3.out.mono ?_
    rintro e w3 ⟨rfl, rfl⟩
    go_wp2_with fail
    refine HS4.out.mono ?_
    rintro e w4 ⟨rfl, rfl⟩
    go_wp2_with fail
    go_ret
    exact ⟨rfl, rfl⟩
  · skip
    have HS1 := Lib.hid (H0.out.sign p ⟨#[61]⟩ hn hv (b := false) s1)
    have HS2 := Lib.hid (H0.out.sign p ⟨#[33, 61]⟩ hn hv (b := false) s2)
    have HS3 := Lib.hid (H0.out.sign p ⟨#[60]⟩ hn hv (b := false) s3)
    have HS4 := Lib.hid (H0.out.sign p ⟨#[60, 61]⟩ hn hv (b := false) s4)
    have HS5 := Lib.hid (H0.out.sign p ⟨#[62]⟩ hn hv (b := true) s5)
    clear hn hv hon s1 s2 s3 s4 s5 s6
    go_enter Tryz.func56, Tryz.ntmps56
    go_wp2_with fail
    refine HS1.out.mono ?_
    rintro e w1 ⟨rfl, rfl⟩
    go_wp2_with fail
    refine HS2.out.mono ?_
    rintro e w2 ⟨rfl, rfl⟩
    go_wp2_with fail
    refine HS3.out.mono ?_
    rintro e w3 ⟨rfl, rfl⟩
    go_wp2_with fail
    refine HS4.out.mono ?_
    rintro e w4 ⟨rfl, rfl⟩
    go_wp2_with fail
    refine HS5.out.mono ?_
    rintro e w5 ⟨rfl, rfl⟩
    go_wp2_with fail
    go_ret
    exact ⟨rfl, rfl⟩
  · skip
    have HS1 := Lib.hid (H0.out.sign p ⟨#[61]⟩ hn hv (b := false) s1)
    have HS2 := Lib.hid (H0.out.sign p ⟨#[33, 61]⟩ hn hv (b := false) s2)
    have HS3 := Lib.hid (H0.out.sign p ⟨#[60]⟩ hn hv (b := false) s3)
    have HS4 := Lib.hid (H0.out.sign p ⟨#[60, 61]⟩ hn hv (b := false) s4)
    have HS5 := Lib.hid (H0.out.sign p ⟨#[62]⟩ hn hv (b := false) s5)
    have HS6 := Lib.hid (H0.out.sign p ⟨#[62, 61]⟩ hn hv (b := true) s6)
    clear hn hv hon s1 s2 s3 s4 s5 s6
    go_enter Tryz.func56, Tryz.ntmps56
    go_wp2_with fail
    refine HS1.out.mono ?_
    rintro e w1 ⟨rfl, rfl⟩
    go_wp2_with fail
    refine HS2.out.mono ?_
    rintro e w2 ⟨rfl, rfl⟩
    go_wp2_with fail
    refine HS3.out.mono ?_
    rintro e w3 ⟨rfl, rfl⟩
    go_wp2_with fail
    refine HS4.out.mono ?_
    rintro e w4 ⟨rfl, rfl⟩
    go_wp2_with fail
    refine HS5.out.mono ?_
    rintro e w5 ⟨rfl, rfl⟩
    go_wp2_with fail
    refine HS6.out.mono ?_
    rintro e w6 ⟨rfl, rfl⟩
    go_wp2_with fail
    go_ret
    exact ⟨rfl, rfl⟩
end Go.Proofs.YtdmpapoabeljfaaGreatDoor
