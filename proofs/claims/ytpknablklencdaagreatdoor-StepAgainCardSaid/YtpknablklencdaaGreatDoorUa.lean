/-
  THE WALKS of reachlaw10's num, in, has, lets (chapter 10).
-/
import Derived.Test.YtpknablklencdaaGreatDoorMs
import Derived.Deep.QuietTactic
import Derived.BigQuiet
set_option linter.unusedVariables false
set_option linter.unusedSimpArgs false
set_option maxRecDepth 100000
set_option maxHeartbeats 4000000
namespace Go.Proofs.YtpknablklencdaaGreatDoor
open Go.RowKit
theorem law10_num (e : Int) (w : World) : Calls Tryz.prog 10 #[.int .i64 e] w fun r w' => r = .returned (.int .i64 e) ∧ w' = w := by
  go_enter Tryz.func10, Tryz.ntmps10
  go_wp2
  go_ret
  exact ⟨rfl, rfl⟩
theorem law10_in (A : Option Addr) (cap : Nat) (l : List Int) (x : Int) (w : World) (hv : IV w A l) (hl : l.length ≤ 4611686018427387904) :
    Calls Tryz.prog 30 #[.slice A l.length cap, .int .i64 x] w fun e w' => e = .returned (.bool (Sp.memB l x)) ∧ w' = w := by
  obtain ⟨n, hn⟩ : ∃ n, l.length = n := ⟨_, rfl⟩
  rw [hn] at hl ⊢
  have HN := Lib.hid hn
  have HV := Lib.hid hv
  clear hn hv
  go_enter Tryz.func30, Tryz.ntmps30
  go_wp2
  go_loop [5] (fun v8 => ∃ i : Nat, v8 = .int .i64 (i : Int) ∧ i ≤ n ∧ Hid (∀ (j : Nat) (y : Int), j < i → l[j]? = some y → (x == y) = false)) (fun v8 => n - (intOf v8).toNat)
  case atStart => exact ⟨0, rfl, Nat.zero_le _, Lib.hid (fun j y hj => by omega)⟩
  case round =>
    obtain ⟨i, rfl, hi, hno⟩ := hrel
    have i0 : (0 : Int) ≤ (i : Int) := by omega
    by_cases hlt : i < n
    · have p1 : decide ((i : Int) < (n : Int)) = true := decide_eq_true (by omega)
      have p2 : decide (i < n) = true := decide_eq_true hlt
      have p3 : (i : Int) < (n : Int) := by omega
      obtain ⟨y, hy⟩ : ∃ y, l[i]? = some y := ⟨_, List.getElem?_eq_getElem (by rw [HN.out]; exact hlt)⟩
      obtain ⟨g, o, rfl, hg, c0⟩ := HV.out.at hy
      have z1 : IntKind.i64.wrap ((i : Int) + 1) = (i : Int) + 1 := by rw [IntKind.wrap_i64]; omega
      have HI := Lib.hid (show i + 1 ≤ n by omega)
      by_cases hxy : (x == y) = true
      · have HY : Hid (Sp.memB l x = true) := Lib.hid (by
          unfold Sp.memB Sp.idxI
          rw [Sp.idxF_yes (f := fun y => x == y) hy hxy hno.out]
          exact decide_eq_true (by omega))
        have hxy2 : (y == x) = true := by rw [beq_iff_eq] at hxy ⊢; exact hxy.symm
        clear hi hlt hy hno hxy
        go_wp2
        go_ret
        exact ⟨by rw [HY.out]; rfl, rfl⟩
      · have hxf : (x == y) = false := Bool.eq_false_iff.2 hxy
        have hyf : (y == x) = false := by rw [beq_eq_false_iff_ne] at hxf ⊢; exact fun e => hxf e.symm
        have hno2 : ∀ (j : Nat) (z : Int), j < i + 1 → l[j]? = some z → (x == z) = false := by
          intro j z hj hz
          by_cases hji : j = i
          · subst hji
            rw [hy] at hz
            injection hz with hz
            rw [← hz]
            exact hxf
          · exact hno.out j z (by omega) hz
        have HNO := Lib.hid hno2
        clear hi hlt hy hno hxy hno2 hxf
        go_wp2
        go_round
        case rel => exact ⟨i + 1, by rfl, HI.out, HNO⟩
        case measure => have := HI.out; simp [intOf]; omega
    · have p1 : decide ((i : Int) < (n : Int)) = false := decide_eq_false (by omega)
      have p2 : decide (i < n) = false := decide_eq_false hlt
      have HY : Hid (Sp.memB l x = false) := Lib.hid (by
        unfold Sp.memB Sp.idxI
        rw [Sp.idxF_no (f := fun y => x == y) (l := l) (fun j y hj => hno.out j y (by have := (List.getElem?_eq_some_iff.1 hj).1; rw [HN.out] at this; omega) hj)]
        rfl)
      clear hi hlt hno
      go_wp2
      go_ret
      exact ⟨by rw [HY.out]; rfl, rfl⟩
end Go.Proofs.YtpknablklencdaaGreatDoor
