/-
  THE WALK of reachref3.quad (chapter 3).
-/
import Derived.Test.YtjedoipbllcfdaaDoorVb
set_option linter.unusedVariables false
set_option linter.unusedSimpArgs false
set_option maxRecDepth 100000
set_option maxHeartbeats 2000000
namespace Go.Proofs.YtjedoipbllcfdaaDoor
open Go.RowKit

theorem optI_some {o : Option Nat} {v : Nat} (h : o = some v) : optI o = v := by rw [h]; rfl
theorem optI_none {o : Option Nat} (h : o = none) : optI o = -1 := by rw [h]; rfl
theorem decV_le {top : Nat} {l : List UInt8} {v : Nat} (h : Sp.decV top l = some v) : v ≤ top := by
  unfold Sp.decV at h
  split at h
  · cases h
  split at h
  · cases h
  · injection h with h; omega
theorem ext_take (S : ByteArray) (p : Nat) : (S.extract 0 p).data.toList = S.data.toList.take p := by
  rw [Lib.extract_data, List.drop_zero, Nat.sub_zero]
theorem ext_drop (S : ByteArray) (p : Nat) : (S.extract p S.size).data.toList = S.data.toList.drop p := by
  rw [Lib.extract_data, List.take_of_length_le]
  rw [List.length_drop, ← Lib.size_eq]
  omega
theorem tw_take (q : UInt8 → Bool) : ∀ l : List UInt8, l.take (l.takeWhile q).length = l.takeWhile q
  | [] => rfl
  | c :: r => by
    rw [List.takeWhile_cons]
    by_cases h : q c = true
    · rw [if_pos h, List.length_cons, List.take_succ_cons, tw_take q r]
    · rw [if_neg h]; rfl

/-- So many parts are to come. -/
def QuadR (l : List UInt8) (k N : Nat) (r : List UInt8) : Prop := if k < 4 then Sp.quadF (3 - k) N r = Sp.quadF 3 0 l else Sp.quadF 3 0 l = some N

theorem ref3_quad (s : ByteArray) (w : World) (hs : s.size ≤ 4611686018427387904) :
    Calls Tryd.prog 48 #[.string s] w fun e w' => e = .returned (.int .i64 (optI (Sp.quadF 3 0 s.data.toList))) ∧ Below w.heap.size w w' := by
  obtain ⟨l, hl⟩ : ∃ l, s.data.toList = l := ⟨_, rfl⟩
  rw [hl]
  obtain ⟨res, hres⟩ : ∃ r, optI (Sp.quadF 3 0 l) = r := ⟨_, rfl⟩
  rw [hres]
  have HRES := Lib.hid hres
  have HL := Lib.hid hl
  clear hres hl
  go_enter Tryd.func48, Tryd.ntmps48
  go_wp2
  go_loopw [0, 3, 4, 5, 6, 7] (fun v0 v3 v4 _ _ _ wr => Below w.heap.size w wr ∧ ∃ (k N : Nat) (S : ByteArray), v0 = .string S ∧ v3 = .int .i64 (N : Int) ∧ v4 = .int .i64 (k : Int) ∧ k ≤ 4 ∧ S.size ≤ 4611686018427387904 ∧ N < 256 ^ k ∧ Hid (QuadR l k N S.data.toList)) (fun _ _ v4 _ _ _ _ => 4 - (intOf v4).toNat)
  case atStart => exact ⟨Below.refl _ _, 0, 0, s, rfl, rfl, rfl, by omega, hs, by simp, by show QuadR _ _ _ _; unfold QuadR; rw [if_pos (by omega), HL.out]⟩
  case round =>
    obtain ⟨hbw, k, N, S, rfl, rfl, rfl, hk, hS, hN, HQ⟩ := hrel
    have hN2 : N < 4294967296 := Nat.lt_of_lt_of_le hN (Nat.le_trans (Nat.pow_le_pow_right (by omega) hk) (by decide))
    obtain ⟨M, hM⟩ : ∃ M : Int, (N : Int) = M := ⟨_, rfl⟩
    have hM0 : 0 ≤ M := by omega
    have hM1 : M < 4294967296 := by omega
    rw [hM]
    have hdot := fun W => ref3_dot S W hS
    by_cases hk4 : k < 4
    · have q0 : decide ((k : Int) < 4) = true := decide_eq_true (by omega)
      have hq := HQ.out
      unfold QuadR at hq
      rw [if_pos hk4] at hq
      by_cases hk3 : k < 3
      · have q1 : decide ((k : Int) < 3) = true := decide_eq_true (by omega)
        rw [show 3 - k = (2 - k) + 1 by omega, Sp.quadF] at hq
        rw [Sp.indexByte_tw] at hdot
        by_cases ha : S.data.toList.all (fun x => decide (x ≠ 46)) = true
        · rw [if_pos ha] at hdot hq
          have hr : (-1 : Int) = res := by rw [← HRES.out, optI_none hq.symm]
          have HR := Lib.hid hr
          have HD := Lib.hid hdot
          clear hdot hq hr ha hM hN hN2
          go_wp2_with (go_at_call 47; refine (HD.out _).mono ?_; rintro e w1 ⟨rfl, rfl⟩)
          go_ret
          exact ⟨ret_int HR.out, hbw⟩
        · rw [if_neg ha] at hdot hq
          have hlt := Sp.tw_lt (fun x => decide (x ≠ 46)) _ ha
          have htk := tw_take (fun x => decide (x ≠ 46)) S.data.toList
          obtain ⟨p, hp⟩ : ∃ p, (S.data.toList.takeWhile (fun x => decide (x ≠ 46))).length = p := ⟨_, rfl⟩
          rw [hp] at hdot hq hlt htk
          rw [← Lib.size_eq] at hlt
          rw [← htk, ← ext_take] at hq
          have hsz1 : (S.extract 0 p).size ≤ 4611686018427387904 := by rw [ByteArray.size_extract]; omega
          have hsz2 : (S.extract (p + 1) S.size).size ≤ 4611686018427387904 := by rw [ByteArray.size_extract]; omega
          have hdec := fun W => ref3_decimal (S.extract 0 p) 255 W hsz1 (by omega)
          have hplt : (p : Int) < S.size := by omega
          cases hv : Sp.decV 255 (S.extract 0 p).data.toList with
          | none =>
            rw [hv] at hq
            simp only [optI_none hv] at hdec
            have hr : (-1 : Int) = res := by rw [← HRES.out, optI_none hq.symm]
            have HR := Lib.hid hr
            have HD := Lib.hid hdot
            have HE := Lib.hid hdec
            clear hdot hdec hq hr ha hM hN hN2 hv htk hp
            go_wp2_with (first | (go_at_call 47; refine (HD.out _).mono ?_; rintro e w1 ⟨rfl, rfl⟩) | (go_at_call 50; refine (HE.out _).mono ?_; rintro e w2 ⟨rfl, hb2⟩))
            go_ret
            exact ⟨ret_int HR.out, hbw.trans (hb2.mono hbw.size)⟩
          | some v =>
            have hv255 := decV_le hv
            rw [hv] at hq
            simp only [optI_some hv] at hdec
            have HQ2 : Hid (QuadR l (k + 1) (256 * N + v) (S.extract (p + 1) S.size).data.toList) := by
              show QuadR _ _ _ _
              unfold QuadR
              rw [if_pos (by omega), show 3 - (k + 1) = 2 - k by omega, ext_drop]
              exact hq
            have hN3 : 256 * N + v < 256 ^ (k + 1) := by rw [Nat.pow_succ]; omega
            obtain ⟨V, hV⟩ : ∃ V : Int, (v : Int) = V := ⟨_, rfl⟩
            have hV0 : 0 ≤ V := by omega
            have hV1 : V ≤ 255 := by omega
            have q2 : decide (V < 0) = false := decide_eq_false (by omega)
            simp only [hV] at hdec
            have hE : 256 * M + V = ((256 * N + v : Nat) : Int) := by omega
            have HE2 := Lib.hid hE
            have HD := Lib.hid hdot
            have HE := Lib.hid hdec
            clear hdot hdec hq ha hM hN hN2 hv htk hp hV hE
            go_wp2_with (first | (go_at_call 47; refine (HD.out _).mono ?_; rintro e w1 ⟨rfl, rfl⟩) | (go_at_call 50; refine (HE.out _).mono ?_; rintro e w2 ⟨rfl, hb2⟩))
            go_roundw
            case rel => exact ⟨hbw.trans (hb2.mono hbw.size), k + 1, 256 * N + v, _, rfl, by rw [HE2.out], by rfl, by omega, hsz2, hN3, HQ2⟩
            case measure => simp [intOf]; omega
      · obtain rfl : k = 3 := by omega
        rw [show 3 - 3 = 0 by omega, Sp.quadF] at hq
        have hdec := fun W => ref3_decimal S 255 W hS (by omega)
        obtain ⟨d, hd⟩ : ∃ d : Int, Lib.indexByte S.data.toList 46 = d := ⟨_, rfl⟩
        rw [hd] at hdot
        have HD := Lib.hid hdot
        clear hdot hd
        cases hv : Sp.decV 255 S.data.toList with
        | none =>
          rw [hv] at hq
          simp only [optI_none hv] at hdec
          have hr : (-1 : Int) = res := by rw [← HRES.out, optI_none hq.symm]
          have HR := Lib.hid hr
          have HE := Lib.hid hdec
          clear hdec hq hr hM hN hN2 hv
          go_wp2_with (first | (go_at_call 47; refine (HD.out _).mono ?_; rintro e w1 ⟨rfl, rfl⟩) | (go_at_call 50; refine (HE.out _).mono ?_; rintro e w2 ⟨rfl, hb2⟩))
          go_ret
          exact ⟨ret_int HR.out, hbw.trans (hb2.mono hbw.size)⟩
        | some v =>
          have hv255 := decV_le hv
          rw [hv] at hq
          simp only [optI_some hv] at hdec
          have HQ2 : Hid (QuadR l (3 + 1) (256 * N + v) S.data.toList) := by
            show QuadR _ _ _ _
            unfold QuadR
            rw [if_neg (by omega)]
            exact hq.symm
          have hN3 : 256 * N + v < 256 ^ (3 + 1) := by rw [Nat.pow_succ]; omega
          obtain ⟨V, hV⟩ : ∃ V : Int, (v : Int) = V := ⟨_, rfl⟩
          have hV0 : 0 ≤ V := by omega
          have hV1 : V ≤ 255 := by omega
          have q2 : decide (V < 0) = false := decide_eq_false (by omega)
          simp only [hV] at hdec
          have hE : 256 * M + V = ((256 * N + v : Nat) : Int) := by omega
          have HE2 := Lib.hid hE
          have HE := Lib.hid hdec
          clear hdec hq hM hN hN2 hv hV hE
          go_wp2_with (first | (go_at_call 47; refine (HD.out _).mono ?_; rintro e w1 ⟨rfl, rfl⟩) | (go_at_call 50; refine (HE.out _).mono ?_; rintro e w2 ⟨rfl, hb2⟩))
          go_roundw
          case rel => exact ⟨hbw.trans (hb2.mono hbw.size), 3 + 1, 256 * N + v, _, rfl, by rw [HE2.out], by rfl, by omega, hS, hN3, HQ2⟩
          case measure => simp [intOf]
    · obtain rfl : k = 4 := by omega
      have hq := HQ.out
      unfold QuadR at hq
      rw [if_neg hk4] at hq
      have hr : M = res := by rw [← HRES.out, optI_some hq, hM]
      have HR := Lib.hid hr
      clear hq hr hM hN hN2 hdot
      go_wp2
      go_ret
      exact ⟨ret_int HR.out, hbw⟩
end Go.Proofs.YtjedoipbllcfdaaDoor
