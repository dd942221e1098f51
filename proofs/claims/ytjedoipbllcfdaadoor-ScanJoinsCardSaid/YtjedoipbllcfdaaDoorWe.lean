/-
  THE WALK of reachref3.escape: the x piece (chapter 3).
-/
import Derived.Test.YtjedoipbllcfdaaDoorWd
import Derived.Deep.RegionHeld3
set_option linter.unusedVariables false
set_option linter.unusedSimpArgs false
set_option maxRecDepth 100000
set_option maxHeartbeats 2000000
namespace Go.Proofs.YtjedoipbllcfdaaDoor
open Go.RowKit

theorem ref3_escape_x (s : ByteArray) (n : Nat) (w : World) (hs : s.size ≤ 4611686018427387904) (h1 : n + 1 < s.size) (hc : (s[n + 1]'h1).toNat = 120)
    (h3 : n + 3 < s.size) (h2 : n + 2 < s.size) (ha : Sp.hexv (s[n + 2]'h2) < 16) (hb : Sp.hexv (s[n + 3]'h3) < 16) :
    Calls Tryd.prog 37 #[.string s, .int .i64 n] w fun e w' => e = .returned (.tuple #[.int .i64 4, .string ⟨#[(16 * Sp.hexv (s[n + 2]'h2) + Sp.hexv (s[n + 3]'h3)).toUInt8]⟩]) ∧ Below w.heap.size w w' := by
  have t0 : (((s[n + 1]'h1).toNat : Int) == 34) = false := beq_eq_false_iff_ne.2 (by omega)
  have t1 : (((s[n + 1]'h1).toNat : Int) == 92) = false := beq_eq_false_iff_ne.2 (by omega)
  have t2 : (((s[n + 1]'h1).toNat : Int) == 110) = false := beq_eq_false_iff_ne.2 (by omega)
  have t3 : (((s[n + 1]'h1).toNat : Int) == 114) = false := beq_eq_false_iff_ne.2 (by omega)
  have t4 : (((s[n + 1]'h1).toNat : Int) == 116) = false := beq_eq_false_iff_ne.2 (by omega)
  have t5 : (((s[n + 1]'h1).toNat : Int) == 120) = true := beq_iff_eq.2 (by omega)
  clear hc
  obtain ⟨a, hd⟩ : ∃ d : Int, Sp.hexZ (s[n + 2]'h2) = d := ⟨_, rfl⟩
  have hd0 : 0 ≤ a := by rw [← hd, Sp.hexZ_pos _ ha]; omega
  have hd1 : a ≤ 15 := by rw [← hd, Sp.hexZ_pos _ ha]; omega
  obtain ⟨b, he⟩ : ∃ d : Int, Sp.hexZ (s[n + 3]'h3) = d := ⟨_, rfl⟩
  have he0 : 0 ≤ b := by rw [← he, Sp.hexZ_pos _ hb]; omega
  have he1 : b ≤ 15 := by rw [← he, Sp.hexZ_pos _ hb]; omega
  have hav : a = (Sp.hexv (s[n + 2]'h2) : Nat) := by rw [← hd, Sp.hexZ_pos _ ha]
  have hbv : b = (Sp.hexv (s[n + 3]'h3) : Nat) := by rw [← he, Sp.hexZ_pos _ hb]
  have HA := Lib.hid hav
  have HB := Lib.hid hbv
  clear hav hbv ha hb
  have hcv := fun z : Int => str_lit_drew w [z]
  simp only [List.map_cons, List.map_nil, List.length_cons, List.length_nil, Nat.zero_add] at hcv
  have q1 : decide ((n : Int) + 3 < s.size) = true := decide_eq_true (by omega)
  go_enter Tryd.func37, Tryd.ntmps37
  go_wp2_with (go_at_call 49; refine (ref3_hex _ _).mono ?_; rintro e w' ⟨rfl, rfl⟩)
  have wr1 : IntKind.i64.wrap (16 * a) = 16 * a := by rw [IntKind.wrap_i64]; omega
  have wr2 : IntKind.i64.wrap (16 * a + b) = 16 * a + b := by rw [IntKind.wrap_i64]; omega
  have wr3 : IntKind.u8.wrap (16 * a + b) = 16 * a + b := by rw [IntKind.wrap_u8]; omega
  have wr4 : IntKind.i64.wrap ((n : Int) + 2) = (n : Int) + 2 := by rw [IntKind.wrap_i64]; omega
  have wr5 : IntKind.i64.wrap ((n : Int) + 3) = (n : Int) + 3 := by rw [IntKind.wrap_i64]; omega
  have i2 : ((n : Int) + 2).toNat = n + 2 := by omega
  have i3 : ((n : Int) + 3).toNat = n + 3 := by omega
  go_region_with (first | (go_at_call 49; refine (ref3_hex _ _).mono ?_; rintro e w' ⟨rfl, rfl⟩))
  all_goals go_wp2
  all_goals go_ret2
  all_goals
    refine ⟨Eq.trans (b := Ending.returned (.tuple #[.int .i64 4, .string (strOfNums [16 * a + b])])) ?_ (ret_x (by have := HA.out; have := HB.out; omega)), ((Below.refl _ _).alloc (Nat.le_refl _) _).drew⟩
    simp [Act.put, i2, i3, hd, he, wr1, wr2, wr3]

theorem ref3_escape (s : ByteArray) (i : Int) (w : World) (h0 : 0 ≤ i) (hn : i ≤ 4611686018427387904) (hs : s.size ≤ 4611686018427387904) :
    Calls Tryd.prog 37 #[.string s, .int .i64 i] w (escSpec (s.data.toList.drop i.toNat) w) := by
  obtain ⟨n, rfl⟩ := Int.eq_ofNat_of_zero_le h0
  rw [Int.toNat_natCast]
  have hE := Sp.escV_eq (s.data.toList.drop n)
  rw [List.length_drop, ← Lib.size_eq] at hE
  by_cases h1 : n + 1 < s.size
  · have hb := Sp.bt_idx s (n + 1) h1
    rw [if_neg (by omega), Sp.bt_drop, ← hb] at hE
    by_cases c1 : (s[n + 1]'h1).toNat = 34
    · rw [if_pos c1] at hE
      exact (ref3_escape_34 s n w hs h1 c1).mono (escSpec_some hE)
    rw [if_neg c1] at hE
    by_cases c2 : (s[n + 1]'h1).toNat = 92
    · rw [if_pos c2] at hE
      exact (ref3_escape_92 s n w hs h1 c2).mono (escSpec_some hE)
    rw [if_neg c2] at hE
    by_cases c3 : (s[n + 1]'h1).toNat = 110
    · rw [if_pos c3] at hE
      exact (ref3_escape_110 s n w hs h1 c3).mono (escSpec_some hE)
    rw [if_neg c3] at hE
    by_cases c4 : (s[n + 1]'h1).toNat = 114
    · rw [if_pos c4] at hE
      exact (ref3_escape_114 s n w hs h1 c4).mono (escSpec_some hE)
    rw [if_neg c4] at hE
    by_cases c5 : (s[n + 1]'h1).toNat = 116
    · rw [if_pos c5] at hE
      exact (ref3_escape_116 s n w hs h1 c5).mono (escSpec_some hE)
    rw [if_neg c5] at hE
    by_cases c6 : (s[n + 1]'h1).toNat = 120
    · rw [if_pos c6] at hE
      have g2 : (s.data.toList.drop n).getD 2 0 = s.data.toList.getD (n + 2) 0 := by rw [List.getD_eq_getElem?_getD, List.getD_eq_getElem?_getD, List.getElem?_drop]
      have g3 : (s.data.toList.drop n).getD 3 0 = s.data.toList.getD (n + 3) 0 := by rw [List.getD_eq_getElem?_getD, List.getD_eq_getElem?_getD, List.getElem?_drop]
      rw [g2, g3] at hE
      by_cases hx : n + 3 < s.size ∧ Sp.hexv (s.data.toList.getD (n + 2) 0) < 16 ∧ Sp.hexv (s.data.toList.getD (n + 3) 0) < 16
      · obtain ⟨h3, ha, hb'⟩ := hx
        have h2 : n + 2 < s.size := by omega
        rw [if_pos ⟨by omega, ha, hb'⟩] at hE
        rw [getD_idx s (n + 2) h2] at ha hE
        rw [getD_idx s (n + 3) h3] at hb' hE
        exact (ref3_escape_x s n w hs h1 c6 h3 h2 ha hb').mono (escSpec_some hE)
      · rw [if_neg (fun h => hx ⟨by omega, h.2.1, h.2.2⟩)] at hE
        exact (ref3_escape_x_no s n w hs h1 c6 hx).mono (escSpec_none hE)
    rw [if_neg c6] at hE
    by_cases c7 : (s[n + 1]'h1).toNat = 117
    · exact ref3_escape_u s n w hs hn h1 c7
    · rw [if_neg c7] at hE
      exact (ref3_escape_no s n w hs h1 c1 c2 c3 c4 c5 c6 c7).mono (escSpec_none hE)
  · rw [if_pos (by omega)] at hE
    exact (ref3_escape_end s n w hs hn h1).mono (escSpec_none hE)

end Go.Proofs.YtjedoipbllcfdaaDoor
