/-
  THE WALK of scan.Value, of reachref3.Value and of the law ScanValues (chapter 3).
-/
import Derived.Test.YtjedoipbllcfdaaDoorVe
set_option linter.unusedVariables false
set_option linter.unusedSimpArgs false
set_option maxRecDepth 100000
set_option maxHeartbeats 2000000
namespace Go.Proofs.YtjedoipbllcfdaaDoor
open Go.RowKit

def ValEnd (s : ByteArray) (W : World) (e : Ending) (w' : World) : Prop :=
  e = .returned (.tuple #[.int .i64 (Sp.valueV s.data.toList).1, .int .i64 (Sp.valueV s.data.toList).2]) ∧ Below W.heap.size W w'
theorem ValEnd_of {s : ByteArray} {W w' : World} {n c : Nat} (h : Sp.valueV s.data.toList = (n, c)) {x y : Int} (hx : x = n) (hy : y = c) (hb : Below W.heap.size W w') :
    ValEnd s W (.returned (.tuple #[.int .i64 x, .int .i64 y])) w' := by
  subst hx; subst hy
  unfold ValEnd
  rw [h]
  exact ⟨rfl, hb⟩

theorem scan_value (s : ByteArray) (w : World) (hG : Gl w) (hs : s.size ≤ 9223372036854775807) :
    Calls Tryd.prog 14 #[.string s] w (ValEnd s w) := by
  have hsl := Lib.size_eq s
  by_cases h1 : 16384 < s.size
  · have hv : Sp.valueV s.data.toList = (0, 2) := by unfold Sp.valueV; rw [if_pos (by omega)]
    have HU := Lib.hid hv
    have q1 : decide ((s.size : Int) > 16384) = true := decide_eq_true (by omega)
    clear hsl hv hG
    go_enter Tryd.func14, Tryd.ntmps14
    go_wp2
    go_ret2
    exact ValEnd_of HU.out rfl rfl (Below.refl _ _)
  have q1 : decide ((s.size : Int) > 16384) = false := decide_eq_false (by omega)
  have hn := scan_number s w hG (by omega)
  cases hv : Sp.numV s.data.toList with
  | none =>
    have HU := Lib.hid (show Sp.valueV s.data.toList = (0, 31) by unfold Sp.valueV; rw [if_neg (by omega), hv])
    rw [okV_none hv] at hn
    have HN := Lib.hid hn
    clear hsl hv hG hn
    go_enter Tryd.func14, Tryd.ntmps14
    go_wp2_with (go_at_call 28; refine HN.out.mono ?_; rintro e w1 ⟨rfl, hb1⟩)
    go_ret2
    exact ValEnd_of HU.out rfl rfl (by assumption)
  | some v =>
    have HU := Lib.hid (show Sp.valueV s.data.toList = (v, 0) by unfold Sp.valueV; rw [if_neg (by omega), hv])
    rw [okV_some hv] at hn
    have HN := Lib.hid hn
    clear hsl hv hG hn
    go_enter Tryd.func14, Tryd.ntmps14
    go_wp2_with (go_at_call 28; refine HN.out.mono ?_; rintro e w1 ⟨rfl, hb1⟩)
    go_ret2
    exact ValEnd_of HU.out rfl rfl (by assumption)

theorem ref3_value (s : ByteArray) (w : World) (hs : s.size ≤ 9223372036854775807) :
    Calls Tryd.prog 15 #[.string s] w (ValEnd s w) := by
  have hsl := Lib.size_eq s
  by_cases h1 : 16384 < s.size
  · have hv : Sp.valueV s.data.toList = (0, 2) := by unfold Sp.valueV; rw [if_pos (by omega)]
    have HU := Lib.hid hv
    have q1 : decide ((s.size : Int) > 16384) = true := decide_eq_true (by omega)
    clear hsl hv
    go_enter Tryd.func15, Tryd.ntmps15
    go_wp2
    go_ret2
    exact ValEnd_of HU.out rfl rfl (Below.refl _ _)
  have q1 : decide ((s.size : Int) > 16384) = false := decide_eq_false (by omega)
  have hn := ref3_number s w (by omega)
  cases hv : Sp.numV s.data.toList with
  | none =>
    have HU := Lib.hid (show Sp.valueV s.data.toList = (0, 31) by unfold Sp.valueV; rw [if_neg (by omega), hv])
    rw [optI_none hv] at hn
    have HN := Lib.hid hn
    clear hsl hv hn
    go_enter Tryd.func15, Tryd.ntmps15
    go_wp2_with (go_at_call 29; refine HN.out.mono ?_; rintro e w1 ⟨rfl, hb1⟩)
    go_ret2
    exact ValEnd_of HU.out rfl rfl (by assumption)
  | some v =>
    have HU := Lib.hid (show Sp.valueV s.data.toList = (v, 0) by unfold Sp.valueV; rw [if_neg (by omega), hv])
    rw [optI_some hv] at hn
    have HN := Lib.hid hn
    have q2 : decide ((v : Int) < 0) = false := decide_eq_false (by omega)
    clear hsl hv hn
    go_enter Tryd.func15, Tryd.ntmps15
    go_wp2_with (go_at_call 29; refine HN.out.mono ?_; rintro e w1 ⟨rfl, hb1⟩)
    go_ret2
    exact ValEnd_of HU.out rfl rfl (by assumption)

theorem value_head : Sp.valueV [48, 120, 49, 70] = (31, 0) := by decide

theorem law_values (s : ByteArray) (w : World) (hG : Gl w) (hs : s.size ≤ 9223372036854775807) :
    Calls Tryd.prog 5 #[.string s] w fun e w' => e = .returned (.bool true) ∧ Below w.heap.size w w' := by
  obtain ⟨c, hc⟩ : ∃ c : Int, ((Sp.valueV s.data.toList).1 : Int) = c := ⟨_, rfl⟩
  obtain ⟨p, hp⟩ : ∃ p : Int, ((Sp.valueV s.data.toList).2 : Int) = p := ⟨_, rfl⟩
  have h1 := fun W (hW : Gl W) => scan_value s W hW hs
  have h2 := fun W => ref3_value s W hs
  have h3 := fun W (hW : Gl W) => scan_value ⟨#[48, 120, 49, 70]⟩ W hW (by decide)
  unfold ValEnd at h1 h2 h3
  rw [value_head] at h3
  simp only [hc, hp] at h1 h2
  have HG := Lib.hid hG
  have H1 := Lib.hid h1
  have H2 := Lib.hid h2
  have H3 := Lib.hid h3
  clear h1 h2 h3 hG hc hp
  go_enter Tryd.func5, Tryd.ntmps5
  go_wp2_with (first
    | (go_at_call 14; have hg3 := (HG.out.below hb1).below hb2; refine (H3.out _ hg3).mono ?_; rintro e w3 ⟨rfl, hb3⟩)
    | (go_at_call 14; refine (H1.out _ HG.out).mono ?_; rintro e w1 ⟨rfl, hb1⟩)
    | (go_at_call 15; refine (H2.out _).mono ?_; rintro e w2 ⟨rfl, hb2⟩))
  go_ret
  refine ⟨rfl, ?_⟩
  exact (hb1.trans (hb2.mono hb1.size)).trans (hb3.mono (by have := hb1.size; have := hb2.size; omega))
end Go.Proofs.YtjedoipbllcfdaaDoor
