/-
  THE WALK of reachref3.braced (chapter 3).
-/
import Derived.Test.YtjedoipbllcfdaaDoorWb
set_option linter.unusedVariables false
set_option linter.unusedSimpArgs false
set_option maxRecDepth 100000
set_option maxHeartbeats 2000000
namespace Go.Proofs.YtjedoipbllcfdaaDoor
open Go.RowKit

theorem ret_ii {a b c d : Int} (h1 : a = b) (h2 : c = d) : Ending.returned (.tuple #[.int .i64 a, .int .i64 c]) = .returned (.tuple #[.int .i64 b, .int .i64 d]) := by rw [h1, h2]

theorem ref3_braced_no (s : ByteArray) (n : Nat) (w : World) (hs : s.size ≤ 4611686018427387904) (hn : (n : Int) ≤ 4611686018427387904) (hno : ¬ (n + 2 < s.size ∧ Sp.bt s.data.toList (n + 2) = 123)) :
    Calls Tryd.prog 63 #[.string s, .int .i64 n] w fun e w' => e = .returned (.tuple #[.int .i64 0, .int .i64 0]) ∧ w = w' := by
  by_cases h2 : n + 2 < s.size
  · have hb := Sp.bt_idx s (n + 2) h2
    have q : (((s[n + 2]'h2).toNat : Int) != 123) = true := by rw [bne_iff_ne]; intro h; exact hno ⟨h2, by omega⟩
    clear hb hno
    go_enter Tryd.func63, Tryd.ntmps63
    go_wp2
    go_ret2
    exact ⟨rfl, rfl⟩
  · go_enter Tryd.func63, Tryd.ntmps63
    go_wp2
    go_ret2
    exact ⟨rfl, rfl⟩

theorem br_key (s : ByteArray) (n : Nat) (m : List UInt8) (k : Nat) (a : Int) (hO : Sp.brO (s.data.toList.drop n) = Sp.bracedV m) (hR : Sp.bracedR m k = Sp.bracedV m) (ha : a = (Sp.digitsV 16 0 (m.take k) : Nat))
    (hlt : n + 3 + k < s.size) (hkm : k < m.length) (hb : Sp.bt m k = (s[n + 3 + k]'hlt).toNat) :
    ((k = 0 ∨ (s[n + 3 + k]'hlt).toNat ≠ 125 ∨ 1114111 < a ∨ (55296 ≤ a ∧ a ≤ 57343)) → Sp.brK (s.data.toList.drop n) = 0 ∧ Sp.brN (s.data.toList.drop n) = 0) ∧
    (¬ (k = 0 ∨ (s[n + 3 + k]'hlt).toNat ≠ 125 ∨ 1114111 < a ∨ (55296 ≤ a ∧ a ≤ 57343)) → (Sp.brK (s.data.toList.drop n) : Int) = k + 4 ∧ (Sp.brN (s.data.toList.drop n) : Int) = a) := by
  have hv : (Sp.validRune (Sp.digitsV 16 0 (m.take k)) = false) ↔ (1114111 < a ∨ (55296 ≤ a ∧ a ≤ 57343)) := by
    unfold Sp.validRune
    rw [decide_eq_false_iff_not]
    omega
  have hC : (k = 0 ∨ m.length ≤ k ∨ Sp.bt m k ≠ 125 ∨ Sp.validRune (Sp.digitsV 16 0 (m.take k)) = false) ↔ (k = 0 ∨ (s[n + 3 + k]'hlt).toNat ≠ 125 ∨ 1114111 < a ∨ (55296 ≤ a ∧ a ≤ 57343)) := by
    rw [hb, hv]
    omega
  unfold Sp.brK Sp.brN
  rw [hO, ← hR]
  unfold Sp.bracedR
  constructor
  · intro h
    rw [if_pos (hC.2 h)]
    exact ⟨rfl, rfl⟩
  · intro h
    rw [if_neg (fun g => h (hC.1 g))]
    exact ⟨by simp, ha.symm⟩
theorem br_zero (s : ByteArray) (n : Nat) (m : List UInt8) (k : Nat) (hO : Sp.brO (s.data.toList.drop n) = Sp.bracedV m) (hR : Sp.bracedR m k = Sp.bracedV m) (hkm : m.length ≤ k) :
    Sp.brK (s.data.toList.drop n) = 0 ∧ Sp.brN (s.data.toList.drop n) = 0 := by
  unfold Sp.brK Sp.brN
  rw [hO, ← hR]
  unfold Sp.bracedR
  rw [if_pos (Or.inr (Or.inl hkm))]
  exact ⟨rfl, rfl⟩
theorem hexAll_le {m : List UInt8} {k : Nat} (h : Sp.hexAll (m.take k) = true) (j : Nat) (hj : (m.take k).length ≤ j) : Sp.digitsV 16 0 (m.take k) < 16 ^ j := Sp.digitsV_lt 16 (by omega) _ h j hj
theorem take_le (m : List UInt8) (k : Nat) : (m.take k).length ≤ k := by rw [List.length_take]; omega

theorem ref3_braced_yes (s : ByteArray) (n : Nat) (w : World) (hs : s.size ≤ 4611686018427387904) (h2 : n + 2 < s.size) (hb : Sp.bt s.data.toList (n + 2) = 123) :
    Calls Tryd.prog 63 #[.string s, .int .i64 n] w fun e w' => e = .returned (.tuple #[.int .i64 (Sp.brK (s.data.toList.drop n)), .int .i64 (Sp.brN (s.data.toList.drop n))]) ∧ w = w' := by
  have q : (((s[n + 2]'h2).toNat : Int) != 123) = false := by rw [bne_eq_false_iff_eq, Sp.bt_idx]; omega
  obtain ⟨m, hm⟩ : ∃ m, m = s.data.toList.drop (n + 3) := ⟨_, rfl⟩
  have hlen : m.length + (n + 3) = s.size := by rw [hm, List.length_drop, ← Lib.size_eq]; omega
  have hO : Sp.brO (s.data.toList.drop n) = Sp.bracedV m := by
    unfold Sp.brO
    rw [if_pos ⟨by rw [List.length_drop, ← Lib.size_eq]; omega, by rw [Sp.bt_drop]; exact hb⟩, List.drop_drop, hm]
  have hmi : ∀ (k : Nat) (h : n + 3 + k < s.size) (h' : k < m.length), m[k]'h' = s[n + 3 + k]'h := by
    intro k h h'
    subst hm
    rw [List.getElem_drop, Sp.get_idx s (n + 3 + k) h (by rw [← Lib.size_eq]; exact h)]
  have HO := Lib.hid hO
  have HM := Lib.hid hm
  have HMI := Lib.hid hmi
  have HL := Lib.hid hlen
  clear hO hm hmi hlen hb
  go_enter Tryd.func63, Tryd.ntmps63
  go_wp2
  · exfalso; omega
  go_loop [6, 7] (fun v6 v7 => ∃ (k : Nat) (a : Int), k ≤ 6 ∧ n + 3 + k ≤ s.size ∧ v7 = .int .i64 ((n : Int) + 3 + k) ∧ v6 = .int .i64 a ∧ 0 ≤ a ∧ Hid (a = (Sp.digitsV 16 0 (m.take k) : Nat) ∧ Sp.hexAll (m.take k) = true))
    (fun _ v7 => s.size - (intOf v7).toNat)
  case atStart => exact ⟨0, 0, by omega, by omega, by go_num, rfl, by omega, rfl, rfl⟩
  case round =>
    obtain ⟨k, a, hk, hj, rfl, rfl, ha0, H⟩ := hrel
    have hbound : a ≤ 16777215 := by
      have := hexAll_le H.out.2 6 (Nat.le_trans (take_le m k) hk)
      have := H.out.1
      omega
    by_cases hlt : n + 3 + k < s.size
    · have hkm : k < m.length := by have := HL.out; omega
      have hck := HMI.out k hlt hkm
      by_cases hx : Sp.hexv (s[n + 3 + k]'hlt) < 16
      · obtain ⟨d, hd⟩ : ∃ d : Int, Sp.hexZ (s[n + 3 + k]'hlt) = d := ⟨_, rfl⟩
        have hd0 : 0 ≤ d := by rw [← hd, Sp.hexZ_pos _ hx]; omega
        have hd1 : d ≤ 15 := by rw [← hd, Sp.hexZ_pos _ hx]; omega
        have hdv : d = (Sp.hexv (m[k]'hkm) : Nat) := by rw [← hd, Sp.hexZ_pos _ hx, hck]
        have HX := Lib.hid hx
        have HC := Lib.hid hck
        have HDV := Lib.hid hdv
        clear hx hck hdv
        by_cases hk6 : k < 6
        · have hb5 : a ≤ 1048575 := by
            have := hexAll_le H.out.2 5 (Nat.le_trans (take_le m k) (by omega))
            have := H.out.1
            omega
          go_wp2_with (go_at_call 49; refine (ref3_hex _ _).mono ?_; rintro e w' ⟨rfl, rfl⟩)
          go_round
          case rel =>
            refine ⟨k + 1, 16 * a + d, by omega, by omega, by go_num, rfl, by omega, ?_, ?_⟩
            · rw [Sp.digits_snoc 16 m k hkm, HDV.out, H.out.1]; simp
            · exact Sp.hexAll_snoc m k hkm H.out.2 (by rw [HC.out]; exact HX.out)
          case measure => simp [intOf]; omega
        · have KEY := Lib.hid (br_key s n m k a HO.out (Sp.bracedR_eq m k hk (by omega) H.out.2 (Or.inr (Or.inl (by omega)))) H.out.1 hlt (by have := HL.out; omega) (by rw [Sp.bt_get m k hkm, HC.out]))
          have q0 : ((n : Int) + 3 + k == (n : Int) + 3) = false := beq_eq_false_iff_ne.2 (by omega)
          go_wp2_with (go_at_call 49; refine (ref3_hex _ _).mono ?_; rintro e w' ⟨rfl, rfl⟩)
          all_goals (go_ret2; first | (obtain ⟨e1, e2⟩ := KEY.out.1 (by omega); exact ⟨ret_ii (by omega) (by omega), rfl⟩) | (obtain ⟨e1, e2⟩ := KEY.out.2 (by omega); exact ⟨ret_ii (by omega) (by omega), rfl⟩))
      · have hd := Sp.hexZ_neg _ hx
        have KEY := Lib.hid (br_key s n m k a HO.out (Sp.bracedR_eq m k hk (by omega) H.out.2 (Or.inr (Or.inr ⟨hkm, by rw [hck]; exact hx⟩))) H.out.1 hlt (by have := HL.out; omega) (by rw [Sp.bt_get m k hkm, hck]))
        clear hx hck
        by_cases hk0 : k = 0
        · have q0 : ((n : Int) + 3 + k == (n : Int) + 3) = true := beq_iff_eq.2 (by omega)
          have hk1 : k ≤ 0 := by omega
          clear hk0
          go_wp2_with (go_at_call 49; refine (ref3_hex _ _).mono ?_; rintro e w' ⟨rfl, rfl⟩)
          all_goals (go_ret2; first | (obtain ⟨e1, e2⟩ := KEY.out.1 (by omega); exact ⟨ret_ii (by omega) (by omega), rfl⟩) | (obtain ⟨e1, e2⟩ := KEY.out.2 (by omega); exact ⟨ret_ii (by omega) (by omega), rfl⟩))
        · have q0 : ((n : Int) + 3 + k == (n : Int) + 3) = false := beq_eq_false_iff_ne.2 (by omega)
          have hk1 : 1 ≤ k := by omega
          clear hk0
          go_wp2_with (go_at_call 49; refine (ref3_hex _ _).mono ?_; rintro e w' ⟨rfl, rfl⟩)
          all_goals (go_ret2; first | (obtain ⟨e1, e2⟩ := KEY.out.1 (by omega); exact ⟨ret_ii (by omega) (by omega), rfl⟩) | (obtain ⟨e1, e2⟩ := KEY.out.2 (by omega); exact ⟨ret_ii (by omega) (by omega), rfl⟩))
    · have hRE : Sp.bracedR m k = Sp.bracedV m := Sp.bracedR_eq m k hk (by have := HL.out; omega) H.out.2 (Or.inl (by have := HL.out; omega))
      have hz := br_zero s n m k HO.out hRE (by have := HL.out; omega)
      have HZ := Lib.hid hz
      clear hz hRE
      by_cases hk0 : k = 0
      · have q0 : ((n : Int) + 3 + k == (n : Int) + 3) = true := beq_iff_eq.2 (by omega)
        have hk1 : k ≤ 0 := by omega
        clear hk0
        go_wp2_with (go_at_call 49; refine (ref3_hex _ _).mono ?_; rintro e w' ⟨rfl, rfl⟩)
        all_goals (go_ret2; exact ⟨ret_ii (by have := HZ.out.1; omega) (by have := HZ.out.2; omega), rfl⟩)
      · have q0 : ((n : Int) + 3 + k == (n : Int) + 3) = false := beq_eq_false_iff_ne.2 (by omega)
        have q1 : decide ((s.size : Int) ≤ (n : Int) + 3 + k) = true := decide_eq_true (by omega)
        have hk1 : 1 ≤ k := by omega
        clear hk0
        go_wp2_with (go_at_call 49; refine (ref3_hex _ _).mono ?_; rintro e w' ⟨rfl, rfl⟩)
        all_goals (go_ret2; exact ⟨ret_ii (by have := HZ.out.1; omega) (by have := HZ.out.2; omega), rfl⟩)

theorem ref3_braced (s : ByteArray) (i : Int) (w : World) (h0 : 0 ≤ i) (h1 : i ≤ 4611686018427387904) (hs : s.size ≤ 4611686018427387904) :
    Calls Tryd.prog 63 #[.string s, .int .i64 i] w fun e w' => e = .returned (.tuple #[.int .i64 (Sp.brK (s.data.toList.drop i.toNat)), .int .i64 (Sp.brN (s.data.toList.drop i.toNat))]) ∧ w = w' := by
  obtain ⟨n, rfl⟩ := Int.eq_ofNat_of_zero_le h0
  rw [Int.toNat_natCast]
  by_cases h : n + 2 < s.size ∧ Sp.bt s.data.toList (n + 2) = 123
  · exact ref3_braced_yes s n w hs h.1 h.2
  · have hO : Sp.brO (s.data.toList.drop n) = none := by
      unfold Sp.brO
      rw [if_neg]
      rintro ⟨g1, g2⟩
      rw [List.length_drop, ← Lib.size_eq] at g1
      rw [Sp.bt_drop] at g2
      exact h ⟨by omega, g2⟩
    unfold Sp.brK Sp.brN
    rw [hO]
    exact ref3_braced_no s n w hs h1 h
end Go.Proofs.YtjedoipbllcfdaaDoor
