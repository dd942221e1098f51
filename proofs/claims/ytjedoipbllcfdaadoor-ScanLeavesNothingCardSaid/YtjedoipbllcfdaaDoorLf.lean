/-
  THE WALK of the law ScanLeavesNothing (chapter 3).
-/
import Derived.Test.YtjedoipbllcfdaaDoorLe
set_option linter.unusedVariables false
set_option linter.unusedSimpArgs false
set_option maxRecDepth 100000
set_option maxHeartbeats 4000000
namespace Go.Proofs.YtjedoipbllcfdaaDoor
open Go.RowKit

def bAB : ByteArray := ⟨#[97, 32, 61, 32, 49, 32, 35, 32, 98]⟩
theorem ab_scan : ∃ ts, Sp.scanV bAB.data.toList = (ts, 0, 0, 0) ∧ ts.length = 4 := by
  refine ⟨(Sp.scanV bAB.data.toList).1, ?_, ?_⟩
  · show Sp.scanV bAB.data.toList = ((Sp.scanV bAB.data.toList).1, 0, 0, 0)
    have : (Sp.scanV bAB.data.toList).2 = (0, 0, 0) := by decide +kernel
    rw [← this]
  · decide +kernel

/-- placed, at what Scan hands back. -/
theorem placed_says (s : ByteArray) {ts : List Sp.Tok} (hsc : Sp.scanV s.data.toList = (ts, 0, 0, 0)) : ∀ (W : World) (A : Option Addr) (cap : Nat), View W W.heap.size A ts →
    Calls Tryd.prog 17 #[.string s, .slice A ts.length cap] W fun e w' => e = .returned (.bool true) ∧ Below W.heap.size W w' := by
  intro W A cap hv
  have hsl := Lib.size_eq s
  have hle : s.data.toList.length ≤ 16384 := by
    rcases Nat.lt_or_ge 16384 s.data.toList.length with h | h
    · unfold Sp.scanV at hsc
      rw [if_pos h] at hsc
      injection hsc with _ h2
      injection h2 with h3 _
      cases h3
    · exact h
  have hb := (Sp.scanV_bound _ hle).1
  have hp := Sp.scan_placed s.data.toList (by rw [hsc])
  rw [hsc] at hb hp
  simp only at hb hp
  exact law3_placed s A cap ts.length ts W (by omega) rfl (by omega) hv hp

theorem law_leaves (s : ByteArray) (w : World) (hG : Gs w) (hs : s.size ≤ 140737488351232) :
    Calls Tryd.prog 6 #[.string s] w fun e w' => e = .returned (.bool true) ∧ Below w.heap.size w w' := by
  obtain ⟨ts2, hab, hab4⟩ := ab_scan
  have hS2 : ScanSays bAB ts2 0 0 0 := scan_says bAB (by show (9 : Nat) ≤ _; omega) hab
  have hP2 := placed_says bAB hab
  rw [hab4] at hP2
  have hS2' : ∀ W, Gs W → Calls Tryd.prog 16 #[.string ⟨#[97, 32, 61, 32, 49, 32, 35, 32, 98]⟩] W fun e w' => ∃ A cap, e = .returned (.tuple #[.slice A 4 cap, .int .i64 0, .int .i64 0, .int .i64 0]) ∧ View w' w'.heap.size A ts2 ∧ Below W.heap.size W w' := by
    intro W hW
    have := hS2 W hW
    rw [hab4] at this
    exact this
  have hP2' : ∀ (W : World) (A : Option Addr) (cap : Nat), View W W.heap.size A ts2 → Calls Tryd.prog 17 #[.string ⟨#[97, 32, 61, 32, 49, 32, 35, 32, 98]⟩, .slice A 4 cap] W fun e w' => e = .returned (.bool true) ∧ Below W.heap.size W w' := hP2
  have HS2 := Lib.hid hS2'
  have HP2 := Lib.hid hP2'
  clear hS2 hP2 hS2' hP2' hab hab4
  have HG := Lib.hid hG
  clear hG
  obtain ⟨ts, c, n, m, hsc⟩ : ∃ ts c n m, Sp.scanV s.data.toList = (ts, c, n, m) := ⟨_, _, _, _, rfl⟩
  have hcode := Sp.scanV_code s.data.toList
  rw [hsc] at hcode
  simp only at hcode
  have tok1 : True := trivial
  by_cases hc : c = 0
  · subst hc
    have h2 := hcode.1 rfl
    injection h2 with h3 h4
    subst h3 h4
    have hS : ScanSays s ts 0 0 0 := scan_says s (by omega) hsc
    have HS := Lib.hid hS
    have hP := placed_says s hsc
    have HP := Lib.hid hP
    clear hS hP hcode hsc
    go_enter Tryd.func6, Tryd.ntmps6
    go_wp2_with (first
      | (go_at_call 16; have _t := tok1; refine (HS.out _ HG.out).mono ?_; clear tok1 _t; rintro e w1 ⟨A1, cap1, rfl, hv1, hb1⟩; have hg1 := HG.out.below hb1; have tok2 : True := trivial)
      | (go_at_call 17; have _t := tok2; refine (HP.out _ _ _ hv1).mono ?_; clear tok2 _t; rintro e w2 ⟨rfl, hb2⟩; have hg2 := hg1.below hb2; have tok3 : True := trivial)
      | (go_at_call 16; have _t := tok3; refine (HS2.out _ hg2).mono ?_; clear tok3 _t; rintro e w3 ⟨A3, cap3, rfl, hv3, hb3⟩; have tok4 : True := trivial)
      | (go_at_call 17; have _t := tok4; refine (HP2.out _ _ _ hv3).mono ?_; clear tok4 _t; rintro e w4 ⟨rfl, hb4⟩))
    go_ret
    exact ⟨rfl, ((hb1.trans (hb2.mono hb1.size)).trans (hb3.mono (by have := hb1.size; have := hb2.size; omega))).trans (hb4.mono (by have := hb1.size; have := hb2.size; have := hb3.size; omega))⟩
  · have h2 := hcode.2 hc
    subst h2
    have hS : ScanSays s [] c n m := scan_says s (by omega) hsc
    have HS := Lib.hid hS
    have q1 : ((c : Int) == 0) = false := beq_eq_false_iff_ne.2 (by omega)
    have q2 : ((c : Int) != 0) = true := by rw [bne_iff_ne]; omega
    clear hS hcode hsc
    go_enter Tryd.func6, Tryd.ntmps6
    go_wp2_with (first
      | (go_at_call 16; have _t := tok1; refine (HS.out _ HG.out).mono ?_; clear tok1 _t; rintro e w1 ⟨A1, cap1, rfl, hv1, hb1⟩; (try simp only [List.length_nil]); have hg2 := HG.out.below hb1; have tok3 : True := trivial)
      | (go_at_call 16; have _t := tok3; refine (HS2.out _ hg2).mono ?_; clear tok3 _t; rintro e w3 ⟨A3, cap3, rfl, hv3, hb3⟩; have tok4 : True := trivial)
      | (go_at_call 17; have _t := tok4; refine (HP2.out _ _ _ hv3).mono ?_; clear tok4 _t; rintro e w4 ⟨rfl, hb4⟩))
    go_ret
    exact ⟨rfl, (hb1.trans (hb3.mono hb1.size)).trans (hb4.mono (by have := hb1.size; have := hb3.size; omega))⟩
end Go.Proofs.YtjedoipbllcfdaaDoor
