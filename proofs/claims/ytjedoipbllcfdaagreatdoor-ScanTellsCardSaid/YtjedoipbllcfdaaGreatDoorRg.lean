/-
  THE WALK of the law ScanTells (chapter 3).
-/
import Derived.Test.YtjedoipbllcfdaaGreatDoorRf
set_option linter.unusedVariables false
set_option linter.unusedSimpArgs false
set_option maxRecDepth 100000
set_option maxHeartbeats 4000000
namespace Go.Proofs.YtjedoipbllcfdaaGreatDoor
open Go.RowKit

theorem law3_scans (s : ByteArray) (w : World) (hG : Gr w) (hs : s.size ≤ 140737488351232) :
    Calls Tryz.prog 7 #[.string s] w fun e w' => e = .returned (.bool true) ∧ Below w.heap.size w w' := by
  obtain ⟨ts, c, n, m, hsc⟩ : ∃ ts c n m, Sp.scanV s.data.toList = (ts, c, n, m) := ⟨_, _, _, _, rfl⟩
  have hS := scan_says s (by omega) hsc
  have hR : ∀ W, Gr W → Calls Tryz.prog 16 #[.string s] W fun e w' => ∃ A cap, e = .returned (.tuple #[.slice A ts.length cap, .int .i64 c, .int .i64 n, .int .i64 m]) ∧ View w' w'.heap.size A ts ∧ Below W.heap.size W w' := by
    intro W hW
    refine (ref3_scan s W hW (by omega)).mono ?_
    rintro e w' ⟨tv, rfl, ht, hb⟩
    rw [hsc] at ht ⊢
    obtain ⟨A, cap, rfl, hv⟩ := toks_view ht
    exact ⟨A, cap, rfl, hv, hb⟩
  have hlen : ts.length ≤ 1073741824 := by
    rcases Nat.lt_or_ge 16384 s.data.toList.length with h | h
    · have : Sp.scanV s.data.toList = ([], 2, 0, 0) := by unfold Sp.scanV; rw [if_pos h]
      rw [this] at hsc
      injection hsc with h1
      rw [← h1]
      simp
    · have := (Sp.scanV_bound _ h).1
      rw [hsc] at this
      simp only at this
      omega
  obtain ⟨nt, hnt⟩ : ∃ nt, ts.length = nt := ⟨_, rfl⟩
  have hS' : ∀ W, Gr W → Calls Tryz.prog 13 #[.string s] W fun e w' => ∃ A cap, e = .returned (.tuple #[.slice A nt cap, .int .i64 c, .int .i64 n, .int .i64 m]) ∧ View w' w'.heap.size A ts ∧ Below W.heap.size W w' := by
    intro W hW
    have := hS W hW.toGs
    rw [hnt] at this
    exact this
  simp only [hnt] at hR
  have hA : ∀ (A1 A2 : Option Addr) (c1 c2 : Nat) (W : World), View W W.heap.size A1 ts → View W W.heap.size A2 ts → Calls Tryz.prog 11 #[.slice A1 nt c1, .slice A2 nt c2] W fun e w' => e = .returned (.bool true) ∧ Below W.heap.size W w' := fun A1 A2 c1 c2 W h1 h2 => law3_sameAll A1 A2 c1 c2 nt ts W hnt (by omega) h1 h2
  have HS := Lib.hid hS'
  have HR := Lib.hid hR
  have HA := Lib.hid hA
  have HG := Lib.hid hG
  have q1 : ((c : Int) == (c : Int)) = true := beq_self_eq_true _
  have q2 : ((n : Int) == (n : Int)) = true := beq_self_eq_true _
  have q3 : ((m : Int) == (m : Int)) = true := beq_self_eq_true _
  clear hS hS' hR hA hG hsc hnt hlen
  go_enter Tryz.func7, Tryz.ntmps7
  go_wp2_with (first
    | (go_at_call 13; refine (HS.out _ HG.out).mono ?_; rintro e w1 ⟨A1, cap1, rfl, hv1, hb1⟩; have hg1 := HG.out.below hb1)
    | (go_at_call 16; refine (HR.out _ hg1).mono ?_; rintro e w2 ⟨A2, cap2, rfl, hv2, hb2⟩; have hv1' := (hv1.below hb2 (Nat.le_refl _)).more hb2.size)
    | (go_at_call 11; refine (HA.out _ _ _ _ _ hv1' hv2).mono ?_; rintro e w3 ⟨rfl, hb3⟩))
  go_ret
  exact ⟨rfl, (hb1.trans (hb2.mono hb1.size)).trans (hb3.mono (by have := hb1.size; have := hb2.size; omega))⟩

theorem law_tells (s : ByteArray) (w : World) (hG : Gr w) (hs : s.size ≤ 140737488351232) :
    Calls Tryz.prog 3 #[.string s] w fun e w' => e = .returned (.bool true) ∧ Below w.heap.size w w' := by
  have h1 := law3_scans ⟨#[114, 117, 108, 101, 32, 55]⟩ w hG (by decide)
  have h2 := fun W h => law3_scans s W h hs
  have H1 := Lib.hid h1
  have H2 := Lib.hid h2
  have HG := Lib.hid hG
  have tok1 : True := trivial
  clear h1 h2 hG
  go_enter Tryz.func3, Tryz.ntmps3
  go_wp2_with (first
    | (have _t := tok1; go_at_call 7; refine H1.out.mono ?_; clear tok1 _t; rintro e w1 ⟨rfl, hb1⟩; have hg1 := HG.out.below hb1; have tok2 : True := trivial)
    | (have _t := tok2; go_at_call 7; refine (H2.out _ hg1).mono ?_; clear tok2 _t; rintro e w2 ⟨rfl, hb2⟩))
  go_ret
  exact ⟨rfl, hb1.trans (hb2.mono hb1.size)⟩
end Go.Proofs.YtjedoipbllcfdaaGreatDoor
