/-
  THE WALKS of the reference's reader's methods deep, plain (chapter 5).
-/
import Derived.Test.YtdmpapoabeljfaaGreatDoorFd
set_option linter.unusedVariables false
set_option linter.unusedSimpArgs false
set_option maxRecDepth 100000
set_option maxHeartbeats 4000000
namespace Go.Proofs.YtdmpapoabeljfaaGreatDoor
open Go.RowKit

section
variable {W0 w w' : World} {N n cap p m c : Nat} {A : Option Addr} {st st' : List UInt8} {ns ns' : List Sp.Nd}
theorem f_deep (h : FSt W0 N A n cap p st ns m 0 w) (hl : st.length ≤ 1000000) {c' : Nat} (hc' : c' = if 32 ≤ Sp.cnt st then 53 else 0) :
    Calls Tryz.prog 35 #[.pointer (some ⟨N, 0, none⟩)] w fun r w' => r = .returned (.tuple #[]) ∧ FSt W0 N A n cap p st ns m c' w' := by
  have H := Lib.hid h
  have HF := Lib.hid (f_fail h 53 p)
  obtain ⟨_, c1, _⟩ := h.cells
  obtain ⟨ov, tv, r1, r2, r3, r4⟩ := h
  obtain ⟨A', cap', rfl⟩ := opn_form r2
  have c2 : w.cell? ⟨N, 2, none⟩ = some (.slice A' st.length cap') := r1.cell 2
  have hat := fun i b (hi : st.reverse[i]? = some b) => opn_at r2 hi
  obtain ⟨k, hk⟩ : ∃ k, st.length = k := ⟨_, rfl⟩
  rw [hk] at c2 hl hat
  have HA := Lib.hid hat
  have HK := Lib.hid hk
  have HC := Lib.hid hc'
  have C1 := Lib.hid c1
  have k1 : (k : Int) ≤ 1000000 := by omega
  clear r1 r2 r3 r4 hk hc' hat c1
  go_enter Tryz.func35, Tryz.ntmps35
  go_wp2_with fail
  go_loopw [2, 3] (fun v2 v3 wr => wr = w ∧ ∃ x i : Nat, v2 = .int .i64 (x : Int) ∧ v3 = .int .i64 (i : Int) ∧ i ≤ k ∧ x ≤ i ∧ Hid (x = Sp.cnt (st.reverse.take i))) (fun _ v3 _ => k - (intOf v3).toNat)
  case atStart => exact ⟨rfl, 0, 0, rfl, rfl, by omega, by omega, rfl⟩
  case round =>
    obtain ⟨rfl, x, i, rfl, rfl, hi, hx, HF2⟩ := hrel
    by_cases hlt : i < k
    · have z1 : decide ((i : Int) < k) = true := decide_eq_true (by omega)
      have z1b : decide (i < k) = true := decide_eq_true hlt
      have z2 : (i : Int) < k := by omega
      have z3 : (0 : Int) ≤ (i : Int) := by omega
      have z4 : (0 : Int) ≤ (x : Int) := by omega
      have z5 : (x : Int) ≤ 1000000 := by omega
      obtain ⟨b, hb⟩ : ∃ b, st.reverse[i]? = some b := ⟨_, List.getElem?_eq_getElem (by rw [List.length_reverse, HK.out]; exact hlt)⟩
      obtain ⟨g, cap2, hs, a0, _, _⟩ := HA.out i b hb
      injection hs with hs1 hs2 hs3
      subst hs1 hs3
      have hct := Sp.cnt_take hb
      clear hb hs2
      by_cases hb1 : b = 40 ∨ b = 33
      · have HF3 : Hid (x + 1 = Sp.cnt (st.reverse.take (i + 1))) := by
          show _ = _
          rw [hct, ← HF2.out]
          rcases hb1 with rfl | rfl <;> rfl
        clear hct HF2
        by_cases hb2 : b = 40
        · have a1 : ((b.toNat : Int) == 40) = true := by rw [hb2]; rfl
          clear hb1 hb2
          go_wp2_with fail
          go_roundw
          case rel => exact ⟨by trivial, x + 1, i + 1, by rfl, by rfl, by omega, by omega, HF3⟩
          case measure => simp [intOf]; omega
        · have hb3 : b = 33 := hb1.resolve_left hb2
          have a1 : ((b.toNat : Int) == 40) = false := by rw [hb3]; rfl
          have a2 : ((b.toNat : Int) == 33) = true := by rw [hb3]; rfl
          clear hb1 hb2 hb3
          go_wp2_with fail
          go_roundw
          case rel => exact ⟨by trivial, x + 1, i + 1, by rfl, by rfl, by omega, by omega, HF3⟩
          case measure => simp [intOf]; omega
      · have hn1 : b ≠ 40 := fun e => hb1 (Or.inl e)
        have hn2 : b ≠ 33 := fun e => hb1 (Or.inr e)
        have HF3 : Hid (x = Sp.cnt (st.reverse.take (i + 1))) := by
          show _ = _
          rw [hct, ← HF2.out, beq_eq_false_iff_ne.2 hn1, beq_eq_false_iff_ne.2 hn2]
          rfl
        have a1 : ((b.toNat : Int) == 40) = false := beq_eq_false_iff_ne.2 (fun e => hn1 (UInt8.toNat_inj.1 (show b.toNat = 40 by omega)))
        have a2 : ((b.toNat : Int) == 33) = false := beq_eq_false_iff_ne.2 (fun e => hn2 (UInt8.toNat_inj.1 (show b.toNat = 33 by omega)))
        clear hct HF2 hb1 hn1 hn2
        go_wp2_with fail
        go_roundw
        case rel => exact ⟨by trivial, x, i + 1, by rfl, by rfl, by omega, by omega, HF3⟩
        case measure => simp [intOf]; omega
    · have z1 : decide ((i : Int) < k) = false := decide_eq_false (by omega)
      have z1b : decide (i < k) = false := decide_eq_false hlt
      have hxe : x = Sp.cnt st := by
        rw [HF2.out, List.take_of_length_le (by rw [List.length_reverse, HK.out]; omega), Sp.cnt_rev]
      have c1 := C1.out
      by_cases h32 : 32 ≤ x
      · have a1 : decide ((x : Int) ≥ 32) = true := decide_eq_true (by omega)
        have HCC : Hid (c' = 53) := by show _ = _; rw [HC.out, if_pos (by omega)]
        clear hxe HF2 h32
        go_wp2_with (go_at_call 39; refine HF.out.mono ?_; rintro e w6 ⟨rfl, h6, _⟩)
        go_end0
        exact ⟨rfl, by rw [HCC.out]; exact h6⟩
      · have a1 : decide ((x : Int) ≥ 32) = false := decide_eq_false (by omega)
        have HCC : Hid (c' = 0) := by show _ = _; rw [HC.out, if_neg (by omega)]
        clear hxe HF2 h32
        go_wp2_with fail
        go_end0
        exact ⟨rfl, by rw [HCC.out]; exact H.out⟩

theorem f_plain_ok (h : FSt W0 N A n cap p st ns m 0 w) (hp : p ≤ 4611686018427387904) (hm : ¬ 64 ≤ m) (hl : ns.length ≤ 1000000) (k : Int) :
    Calls Tryz.prog 37 #[.pointer (some ⟨N, 0, none⟩), .int .i64 k] w fun r w' => r = .returned (.tuple #[]) ∧ FSt W0 N A n cap (p + 1) st (ns ++ [Sp.nd k]) (m + 1) 0 w' := by
  have HM := Lib.hid (f_make h (by omega) (c' := 0) (by rw [if_neg (fun h => hm h.2)]))
  have p1 : (p : Int) ≤ 4611686018427387904 := by omega
  have p2 : (0 : Int) ≤ (p : Int) := by omega
  clear h hm
  go_enter Tryz.func37, Tryz.ntmps37
  go_wp2_with fail
  refine HM.out.mono ?_
  rintro e w1 ⟨rfl, h1⟩
  have HP := Lib.hid (f_put h1 hl k)
  obtain ⟨_, _, _, _, _, c5, f5⟩ := h1.cells
  clear h1
  go_wp2_with fail
  refine HP.out.mono ?_
  rintro e w2 ⟨rfl, h2⟩
  clear c5 f5
  obtain ⟨_, c1, f1, _⟩ := h2.cells
  have H2 := Lib.hid h2
  clear h2
  go_wp2_with fail
  go_end0
  exact ⟨rfl, H2.out.setAt (p + 1) _ (by omega)⟩
theorem f_plain_no (h : FSt W0 N A n cap p st ns m 0 w) (hm : 64 ≤ m) (hm2 : m ≤ 1000000) (k : Int) :
    Calls Tryz.prog 37 #[.pointer (some ⟨N, 0, none⟩), .int .i64 k] w fun r w' => r = .returned (.tuple #[]) ∧ FSt W0 N A n cap p st ns (m + 1) 51 w' := by
  have HM := Lib.hid (f_make h (by omega) (c' := 51) (by rw [if_pos ⟨rfl, hm⟩]))
  clear h hm hm2
  go_enter Tryz.func37, Tryz.ntmps37
  go_wp2_with fail
  refine HM.out.mono ?_
  rintro e w1 ⟨rfl, h1⟩
  obtain ⟨_, _, _, _, _, c5, f5⟩ := h1.cells
  have H1 := Lib.hid h1
  clear h1
  go_wp2_with fail
  go_end0
  exact ⟨rfl, H1.out⟩
end
end Go.Proofs.YtdmpapoabeljfaaGreatDoor
