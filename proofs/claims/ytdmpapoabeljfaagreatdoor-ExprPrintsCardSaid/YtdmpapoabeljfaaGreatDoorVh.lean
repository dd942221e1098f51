/-
  THE WALKS of scan.Value and reachref3.Value (chapter 3).
-/
import Derived.Test.YtdmpapoabeljfaaGreatDoorVe
set_option linter.unusedVariables false
set_option linter.unusedSimpArgs false
set_option maxRecDepth 100000
set_option maxHeartbeats 2000000
namespace Go.Proofs.YtdmpapoabeljfaaGreatDoor
open Go.RowKit

def ValEnd (s : ByteArray) (W : World) (e : Ending) (w' : World) : Prop :=
  e = .returned (.tuple #[.int .i64 (Sp.valueV s.data.toList).1, .int .i64 (Sp.valueV s.data.toList).2]) ∧ Below W.heap.size W w'
theorem ValEnd_of {s : ByteArray} {W w' : World} {n c : Nat} (h : Sp.valueV s.data.toList = (n, c)) {x y : Int} (hx : x = n) (hy : y = c) (hb : Below W.heap.size W w') :
    ValEnd s W (.returned (.tuple #[.int .i64 x, .int .i64 y])) w' := by
  subst hx; subst hy
  unfold ValEnd
  rw [h]
  exact ⟨rfl, hb⟩

theorem scan_value (s : ByteArray) (w : World) (hG : Gl w) (hs : s.size ≤ 9223372036854775807) :
    Calls Tryz.prog 104 #[.string s] w (ValEnd s w) := by
  have hsl := Lib.size_eq s
  by_cases h1 : 16384 < s.size
  · have hv : Sp.valueV s.data.toList = (0, 2) := by unfold Sp.valueV; rw [if_pos (by omega)]
    have HU := Lib.hid hv
    have q1 : decide ((s.size : Int) > 16384) = true := decide_eq_true (by omega)
    clear hsl hv hG
    go_enter Tryz.func104, Tryz.ntmps104
    go_wp2
    go_ret2
    exact ValEnd_of HU.out rfl rfl (Below.refl _ _)
  have q1 : decide ((s.size : Int) > 16384) = false := decide_eq_false (by omega)
  have hn := scan_number s w hG (by omega)
  cases hv : Sp.numV s.data.toList with
  | none =>
    have HU := Lib.hid (show Sp.valueV s.data.toList = (0, 31) by unfold Sp.valueV; rw [if_neg (by omega), hv])
    rw [okV_none hv] at hn
    have HN := Lib.hid hn
    clear hsl hv hG hn
    go_enter Tryz.func104, Tryz.ntmps104
    go_wp2_with (go_at_call 71; refine HN.out.mono ?_; rintro e w1 ⟨rfl, hb1⟩)
    go_ret2
    exact ValEnd_of HU.out rfl rfl (by assumption)
  | some v =>
    have HU := Lib.hid (show Sp.valueV s.data.toList = (v, 0) by unfold Sp.valueV; rw [if_neg (by omega), hv])
    rw [okV_some hv] at hn
    have HN := Lib.hid hn
    clear hsl hv hG hn
    go_enter Tryz.func104, Tryz.ntmps104
    go_wp2_with (go_at_call 71; refine HN.out.mono ?_; rintro e w1 ⟨rfl, hb1⟩)
    go_ret2
    exact ValEnd_of HU.out rfl rfl (by assumption)

theorem ref3_value (s : ByteArray) (w : World) (hs : s.size ≤ 9223372036854775807) :
    Calls Tryz.prog 68 #[.string s] w (ValEnd s w) := by
  have hsl := Lib.size_eq s
  by_cases h1 : 16384 < s.size
  · have hv : Sp.valueV s.data.toList = (0, 2) := by unfold Sp.valueV; rw [if_pos (by omega)]
    have HU := Lib.hid hv
    have q1 : decide ((s.size : Int) > 16384) = true := decide_eq_true (by omega)
    clear hsl hv
    go_enter Tryz.func68, Tryz.ntmps68
    go_wp2
    go_ret2
    exact ValEnd_of HU.out rfl rfl (Below.refl _ _)
  have q1 : decide ((s.size : Int) > 16384) = false := decide_eq_false (by omega)
  have hn := ref3_number s w (by omega)
  cases hv : Sp.numV s.data.toList with
  | none =>
    have HU := Lib.hid (show Sp.valueV s.data.toList = (0, 31) by unfold Sp.valueV; rw [if_neg (by omega), hv])
    rw [optI_none hv] at hn
    have HN := Lib.hid hn
    clear hsl hv hn
    go_enter Tryz.func68, Tryz.ntmps68
    go_wp2_with (go_at_call 79; refine HN.out.mono ?_; rintro e w1 ⟨rfl, hb1⟩)
    go_ret2
    exact ValEnd_of HU.out rfl rfl (by assumption)
  | some v =>
    have HU := Lib.hid (show Sp.valueV s.data.toList = (v, 0) by unfold Sp.valueV; rw [if_neg (by omega), hv])
    rw [optI_some hv] at hn
    have HN := Lib.hid hn
    have q2 : decide ((v : Int) < 0) = false := decide_eq_false (by omega)
    clear hsl hv hn
    go_enter Tryz.func68, Tryz.ntmps68
    go_wp2_with (go_at_call 79; refine HN.out.mono ?_; rintro e w1 ⟨rfl, hb1⟩)
    go_ret2
    exact ValEnd_of HU.out rfl rfl (by assumption)
end Go.Proofs.YtdmpapoabeljfaaGreatDoor
