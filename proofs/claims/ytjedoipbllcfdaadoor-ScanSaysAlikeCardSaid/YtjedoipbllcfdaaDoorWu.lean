/-
  THE WALK of scan.write at a character that is written by its number (chapter 3) (written by wip/gen/writeu.py).
-/
import Derived.Test.YtjedoipbllcfdaaDoorWt
set_option linter.unusedVariables false
set_option linter.unusedSimpArgs false
set_option maxRecDepth 100000
set_option maxHeartbeats 4000000
namespace Go.Proofs.YtjedoipbllcfdaaDoor
open Go.RowKit

theorem unseen_two (n : Nat) (h : Sp.unseenB n = true) : 128 ≤ n ∧ (n < 160 ∨ 8192 ≤ n ∧ n < 65536) := by
  unfold Sp.unseenB at h
  have := of_decide_eq_true h
  omega

theorem shr_fact (n p : Nat) : ((n : Int) / (p : Int)) = ((n / p : Nat) : Int) := (Int.natCast_ediv n p).symm

theorem scan_write_hex (B : Nat) (v : Value) (acc : List UInt8) (n : Nat) (hn : n ≤ 1114111) (hu : Sp.unseenB n = true)
    (hi : ∀ W, Calls Tryd.prog 40 #[.string MEANT, .int .i32 (n : Int)] W fun e w' => e = .returned (.int .i64 (-1)) ∧ Below W.heap.size W w' ∧ Lib.OthersKept 5 none W w') (W w : World) (hb : Buf B v acc W w) (hbw : ∀ w', Below w.heap.size w w' → Lib.OthersKept 5 none w w' → Buf B v acc W w') (hl : acc.length ≤ 1073741824) :
    Calls Tryd.prog 27 #[v, .int .i32 (n : Int)] w (Apd B acc ([92, 117, 123] ++ Sp.hexF 5 n ++ [125]) W) := by
  have hun := fun W => scan_unseen n hn W
  simp only [hu] at hun
  have hu2 := unseen_two n hu
  have HU := Lib.hid hun
  have HI := Lib.hid hi
  have HBW := Lib.hid hbw
  obtain ⟨r, hr⟩ : ∃ r : Int, (n : Int) = r := ⟨_, rfl⟩
  rw [hr] at HU HI ⊢
  have q1 : decide (r < 32) = false := decide_eq_false (by omega)
  have q2 : (r == 127) = false := beq_eq_false_iff_ne.2 (by omega)
  obtain ⟨D, hD⟩ : ∃ D, Sp.hexF 5 n = D := ⟨_, rfl⟩
  rw [hD]
  clear hi hb hun hbw hu
  go_enter Tryd.func27, Tryd.ntmps27
  go_wp2_with (first
    | (go_at_call 40; refine (HI.out _).mono ?_; rintro e w' ⟨rfl, hw1, hw2⟩)
    | (go_at_call 41; refine (HU.out _).mono ?_; rintro e w' ⟨rfl, rfl⟩)
    | (at_builtin; refine wpList_buf_text rfl _ _ rfl B v acc rfl W (HBW.out _ hw1 hw2) ⟨#[92, 117, 123]⟩ rfl (by show acc.length + 3 ≤ _; omega) ?_; intro v1 w1 hB1))
  go_loopw [6] (fun v6 wr => w1 = wr ∧ (v6 = .int .i64 20 ∨ v6 = .int .i64 16 ∨ v6 = .int .i64 12 ∨ (v6 = .int .i64 8 ∧ n < 160) ∨ (v6 = .int .i64 4 ∧ n < 160))) (fun v6 _ => (intOf v6).toNat)
  case atStart => exact ⟨rfl, Or.inl rfl⟩
  case round =>
    obtain ⟨rfl, hrel⟩ := hrel
    rcases hrel with rfl | rfl | rfl | ⟨rfl, hn2⟩ | ⟨rfl, hn2⟩
    · have q3 : (r / 1048576 == 0) = true := by rw [beq_iff_eq]; omega
      go_wp2
      go_roundw
      case rel => exact ⟨by trivial, Or.inr (Or.inl rfl)⟩
      case measure => simp [intOf]
    · have q3 : (r / 65536 == 0) = true := by rw [beq_iff_eq]; omega
      go_wp2
      go_roundw
      case rel => exact ⟨by trivial, Or.inr (Or.inr (Or.inl rfl))⟩
      case measure => simp [intOf]
    · by_cases hn2 : n < 160
      · have q3 : (r / 4096 == 0) = true := by rw [beq_iff_eq]; omega
        go_wp2
        go_roundw
        case rel => exact ⟨by trivial, Or.inr (Or.inr (Or.inr (Or.inl ⟨rfl, hn2⟩)))⟩
        case measure => simp [intOf]
      · have q3 : (r / 4096 == 0) = false := by rw [beq_eq_false_iff_ne]; omega
        go_wp2
        have hb2 : Buf B v1 (acc ++ [92, 117, 123]) W w1 := hB1
        have hdig : D = Sp.digF 4 n := by rw [← hD]; exact Sp.hexF_dig 5 3 n (by omega) (by omega) (Or.inr (by omega))
        go_loopw [0, 6] (fun v0 v6 wr => ∃ (k : Nat) (z : Int) (acc' : List UInt8), v6 = .int .i64 z ∧ z = 4 * k - 4 ∧ k ≤ 4 ∧ Buf B v0 acc' W wr ∧ acc'.length + k ≤ acc.length + 8 ∧ Hid (acc' ++ Sp.digF k n = acc ++ [92, 117, 123] ++ D)) (fun _ v6 _ => (intOf v6 + 4).toNat)
        case atStart => exact ⟨4, _, acc ++ [92, 117, 123], rfl, by omega, by omega, hb2, by simp, by rw [hdig]; exact rfl⟩
        case round =>
          obtain ⟨k, z, acc', rfl, hz, hk, hb3, hla, HA⟩ := hrel
          rcases k with _ | k
          · have qz : decide (z ≥ 0) = false := decide_eq_false (by omega)
            clear hz
            have HA2 := HA.out
            simp only [Sp.digF, List.append_nil] at HA2
            have HB3 := Lib.hid hb3
            clear hb3 HA hB1 hb2
            go_wp2_with (at_builtin; refine wpList_buf rfl _ _ rfl B u0 acc' rfl W _ [125] _ rfl HB3.out 1 rfl rfl (by rw [List.length_singleton]; omega) ?_; intro v3 w3 hB4)
            go_ret
            refine ⟨_, rfl, ?_⟩
            rw [HA2] at hB4
            simpa using hB4
          · obtain ⟨x, hx⟩ : ∃ x, n / 16 ^ k % 16 = x := ⟨_, rfl⟩
            have hx16 : x < 16 := by omega
            have hx3 : (x : Int) < 16 := by omega
            have e1 : (⟨#[48, 49, 50, 51, 52, 53, 54, 55, 56, 57, 97, 98, 99, 100, 101, 102]⟩ : ByteArray)[x]'hx16 = Sp.hexd x := Sp.hex_at x hx16 hx16
            have hand := Lib.and15_shift r n hr.symm (by omega) (16 ^ k)
            rw [hx] at hand
            have HA2 : Hid ((acc' ++ [Sp.hexd x]) ++ Sp.digF k n = acc ++ [92, 117, 123] ++ D) := by
              have h := HA.out
              show _ = _
              rw [← h, List.append_assoc]
              simp only [Sp.digF, hx]
              rfl
            have HB3 := Lib.hid hb3
            clear hb3 HA hB1 hb2
            have hkk : k = 0 ∨ k = 1 ∨ k = 2 ∨ k = 3 := by omega
            rcases hkk with rfl | rfl | rfl | rfl
            · have hand2 : bits .and .i32 (r) 15 = (x : Int) := by rw [show r / ((16 ^ 0 : Nat) : Int) = r from by simp] at hand; exact hand
              clear hand
              obtain rfl : z = 0 := by omega
              clear hz hx
              go_wp2_with (at_builtin; refine wpList_buf rfl _ _ rfl B u0 acc' rfl W _ [Sp.hexd x] _ rfl HB3.out 1 rfl rfl (by rw [List.length_singleton]; omega) ?_; intro v3 w3 hB4)
              go_roundw
              case rel => exact ⟨0, _, acc' ++ [Sp.hexd x], rfl, by omega, by omega, hB4, by simp; omega, HA2⟩
              case measure => simp [intOf]
            · have hand2 : bits .and .i32 (r / 16) 15 = (x : Int) := hand
              clear hand
              obtain rfl : z = 4 := by omega
              clear hz hx
              go_wp2_with (at_builtin; refine wpList_buf rfl _ _ rfl B u0 acc' rfl W _ [Sp.hexd x] _ rfl HB3.out 1 rfl rfl (by rw [List.length_singleton]; omega) ?_; intro v3 w3 hB4)
              go_roundw
              case rel => exact ⟨1, _, acc' ++ [Sp.hexd x], rfl, by omega, by omega, hB4, by simp; omega, HA2⟩
              case measure => simp [intOf]
            · have hand2 : bits .and .i32 (r / 256) 15 = (x : Int) := hand
              clear hand
              obtain rfl : z = 8 := by omega
              clear hz hx
              go_wp2_with (at_builtin; refine wpList_buf rfl _ _ rfl B u0 acc' rfl W _ [Sp.hexd x] _ rfl HB3.out 1 rfl rfl (by rw [List.length_singleton]; omega) ?_; intro v3 w3 hB4)
              go_roundw
              case rel => exact ⟨2, _, acc' ++ [Sp.hexd x], rfl, by omega, by omega, hB4, by simp; omega, HA2⟩
              case measure => simp [intOf]
            · have hand2 : bits .and .i32 (r / 4096) 15 = (x : Int) := hand
              clear hand
              obtain rfl : z = 12 := by omega
              clear hz hx
              go_wp2_with (at_builtin; refine wpList_buf rfl _ _ rfl B u0 acc' rfl W _ [Sp.hexd x] _ rfl HB3.out 1 rfl rfl (by rw [List.length_singleton]; omega) ?_; intro v3 w3 hB4)
              go_roundw
              case rel => exact ⟨3, _, acc' ++ [Sp.hexd x], rfl, by omega, by omega, hB4, by simp; omega, HA2⟩
              case measure => simp [intOf]
    · have q3 : (r / 256 == 0) = true := by rw [beq_iff_eq]; omega
      go_wp2
      go_roundw
      case rel => exact ⟨by trivial, Or.inr (Or.inr (Or.inr (Or.inr ⟨rfl, hn2⟩)))⟩
      case measure => simp [intOf]
    · have q3 : (r / 16 == 0) = false := by rw [beq_eq_false_iff_ne]; omega
      go_wp2
      have hb2 : Buf B v1 (acc ++ [92, 117, 123]) W w1 := hB1
      have hdig : D = Sp.digF 2 n := by rw [← hD]; exact Sp.hexF_dig 5 1 n (by omega) (by omega) (Or.inr (by omega))
      go_loopw [0, 6] (fun v0 v6 wr => ∃ (k : Nat) (z : Int) (acc' : List UInt8), v6 = .int .i64 z ∧ z = 4 * k - 4 ∧ k ≤ 2 ∧ Buf B v0 acc' W wr ∧ acc'.length + k ≤ acc.length + 8 ∧ Hid (acc' ++ Sp.digF k n = acc ++ [92, 117, 123] ++ D)) (fun _ v6 _ => (intOf v6 + 4).toNat)
      case atStart => exact ⟨2, _, acc ++ [92, 117, 123], rfl, by omega, by omega, hb2, by simp, by rw [hdig]; exact rfl⟩
      case round =>
        obtain ⟨k, z, acc', rfl, hz, hk, hb3, hla, HA⟩ := hrel
        rcases k with _ | k
        · have qz : decide (z ≥ 0) = false := decide_eq_false (by omega)
          clear hz
          have HA2 := HA.out
          simp only [Sp.digF, List.append_nil] at HA2
          have HB3 := Lib.hid hb3
          clear hb3 HA hB1 hb2
          go_wp2_with (at_builtin; refine wpList_buf rfl _ _ rfl B u0 acc' rfl W _ [125] _ rfl HB3.out 1 rfl rfl (by rw [List.length_singleton]; omega) ?_; intro v3 w3 hB4)
          go_ret
          refine ⟨_, rfl, ?_⟩
          rw [HA2] at hB4
          simpa using hB4
        · obtain ⟨x, hx⟩ : ∃ x, n / 16 ^ k % 16 = x := ⟨_, rfl⟩
          have hx16 : x < 16 := by omega
          have hx3 : (x : Int) < 16 := by omega
          have e1 : (⟨#[48, 49, 50, 51, 52, 53, 54, 55, 56, 57, 97, 98, 99, 100, 101, 102]⟩ : ByteArray)[x]'hx16 = Sp.hexd x := Sp.hex_at x hx16 hx16
          have hand := Lib.and15_shift r n hr.symm (by omega) (16 ^ k)
          rw [hx] at hand
          have HA2 : Hid ((acc' ++ [Sp.hexd x]) ++ Sp.digF k n = acc ++ [92, 117, 123] ++ D) := by
            have h := HA.out
            show _ = _
            rw [← h, List.append_assoc]
            simp only [Sp.digF, hx]
            rfl
          have HB3 := Lib.hid hb3
          clear hb3 HA hB1 hb2
          have hkk : k = 0 ∨ k = 1 := by omega
          rcases hkk with rfl | rfl
          · have hand2 : bits .and .i32 (r) 15 = (x : Int) := by rw [show r / ((16 ^ 0 : Nat) : Int) = r from by simp] at hand; exact hand
            clear hand
            obtain rfl : z = 0 := by omega
            clear hz hx
            go_wp2_with (at_builtin; refine wpList_buf rfl _ _ rfl B u0 acc' rfl W _ [Sp.hexd x] _ rfl HB3.out 1 rfl rfl (by rw [List.length_singleton]; omega) ?_; intro v3 w3 hB4)
            go_roundw
            case rel => exact ⟨0, _, acc' ++ [Sp.hexd x], rfl, by omega, by omega, hB4, by simp; omega, HA2⟩
            case measure => simp [intOf]
          · have hand2 : bits .and .i32 (r / 16) 15 = (x : Int) := hand
            clear hand
            obtain rfl : z = 4 := by omega
            clear hz hx
            go_wp2_with (at_builtin; refine wpList_buf rfl _ _ rfl B u0 acc' rfl W _ [Sp.hexd x] _ rfl HB3.out 1 rfl rfl (by rw [List.length_singleton]; omega) ?_; intro v3 w3 hB4)
            go_roundw
            case rel => exact ⟨1, _, acc' ++ [Sp.hexd x], rfl, by omega, by omega, hB4, by simp; omega, HA2⟩
            case measure => simp [intOf]
end Go.Proofs.YtjedoipbllcfdaaDoor
