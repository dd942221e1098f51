/-
  Texts joined: Wt Wu Wv.
-/
import Derived.Test.YtjedoipbllcfdaaDoorWs
import Derived.Laws.OwnMore

/-
  THE WALK of scan.write (chapter 3) (written by wip/gen/write.py).
-/
set_option linter.unusedVariables false
set_option linter.unusedSimpArgs false
set_option maxRecDepth 100000
set_option maxHeartbeats 4000000
namespace Go.Proofs.YtjedoipbllcfdaaDoor
open Go.RowKit

theorem index_ascii (n : Nat) (hn : n < 128) (w : World) : Calls Tryd.prog 40 #[.string MEANT, .int .i32 (n : Int)] w fun e w' => e = .returned (.int .i64 (Lib.indexByte [34, 92, 10, 13, 9] n.toUInt8)) ∧ w' = w := by
  have h := Tryd.strings_IndexRune_ascii MEANT n w (by omega) (by omega)
  rw [Int.toNat_natCast] at h
  exact h

theorem append_rune (B : Nat) (v : Value) (acc : List UInt8) (n : Nat) (hn : n ≤ 1114111) (W w : World) (hb : Buf B v acc W w) (hl : acc.length ≤ 1073741824) :
    Calls Tryd.prog 36 #[v, .int .i32 (n : Int)] w (Apd B acc (Lib.encodeRune (n : Nat)) W) := by
  refine (Tryd.utf8_AppendRune_row B v acc.length (Lib.byteCells acc) (n : Int) (by omega) (by omega) w hb.1 (by omega) hb.2.2.1).mono ?_
  rintro e w' ⟨v', rfl, hown, o, hg⟩
  refine ⟨v', rfl, (hb.alloc o).grown ?_ hg⟩
  rw [List.length_append, Lib.byteCells_append, Lib.byteCells_encodeRune, ← Lib.runeCells_length]
  exact hown

theorem scan_write_34 (B : Nat) (v : Value) (acc : List UInt8) (W w : World) (hb : Buf B v acc W w) (hl : acc.length ≤ 1073741824) :
    Calls Tryd.prog 27 #[v, .int .i32 34] w (Apd B acc [92, 34] W) := by
  have hi := fun W => index_ascii 34 (by omega) W
  have hv : Lib.indexByte [34, 92, 10, 13, 9] (Nat.toUInt8 34) = 0 := by decide
  simp only [hv] at hi
  have HI := Lib.hid hi
  have HB := Lib.hid hb
  clear hi hv hb
  go_enter Tryd.func27, Tryd.ntmps27
  go_wp2_with (first
    | (go_at_call 40; refine (HI.out _).mono ?_; rintro e w' ⟨rfl, rfl⟩)
    | (at_builtin; refine wpList_buf rfl _ _ rfl B v acc rfl W _ [92, 34] _ rfl HB.out 2 rfl rfl (by simp; omega) ?_; intro v' w2 hB'))
  go_ret
  exact ⟨_, rfl, hB'⟩

theorem scan_write_92 (B : Nat) (v : Value) (acc : List UInt8) (W w : World) (hb : Buf B v acc W w) (hl : acc.length ≤ 1073741824) :
    Calls Tryd.prog 27 #[v, .int .i32 92] w (Apd B acc [92, 92] W) := by
  have hi := fun W => index_ascii 92 (by omega) W
  have hv : Lib.indexByte [34, 92, 10, 13, 9] (Nat.toUInt8 92) = 1 := by decide
  simp only [hv] at hi
  have HI := Lib.hid hi
  have HB := Lib.hid hb
  clear hi hv hb
  go_enter Tryd.func27, Tryd.ntmps27
  go_wp2_with (first
    | (go_at_call 40; refine (HI.out _).mono ?_; rintro e w' ⟨rfl, rfl⟩)
    | (at_builtin; refine wpList_buf rfl _ _ rfl B v acc rfl W _ [92, 92] _ rfl HB.out 2 rfl rfl (by simp; omega) ?_; intro v' w2 hB'))
  go_ret
  exact ⟨_, rfl, hB'⟩

theorem scan_write_10 (B : Nat) (v : Value) (acc : List UInt8) (W w : World) (hb : Buf B v acc W w) (hl : acc.length ≤ 1073741824) :
    Calls Tryd.prog 27 #[v, .int .i32 10] w (Apd B acc [92, 110] W) := by
  have hi := fun W => index_ascii 10 (by omega) W
  have hv : Lib.indexByte [34, 92, 10, 13, 9] (Nat.toUInt8 10) = 2 := by decide
  simp only [hv] at hi
  have HI := Lib.hid hi
  have HB := Lib.hid hb
  clear hi hv hb
  go_enter Tryd.func27, Tryd.ntmps27
  go_wp2_with (first
    | (go_at_call 40; refine (HI.out _).mono ?_; rintro e w' ⟨rfl, rfl⟩)
    | (at_builtin; refine wpList_buf rfl _ _ rfl B v acc rfl W _ [92, 110] _ rfl HB.out 2 rfl rfl (by simp; omega) ?_; intro v' w2 hB'))
  go_ret
  exact ⟨_, rfl, hB'⟩

theorem scan_write_13 (B : Nat) (v : Value) (acc : List UInt8) (W w : World) (hb : Buf B v acc W w) (hl : acc.length ≤ 1073741824) :
    Calls Tryd.prog 27 #[v, .int .i32 13] w (Apd B acc [92, 114] W) := by
  have hi := fun W => index_ascii 13 (by omega) W
  have hv : Lib.indexByte [34, 92, 10, 13, 9] (Nat.toUInt8 13) = 3 := by decide
  simp only [hv] at hi
  have HI := Lib.hid hi
  have HB := Lib.hid hb
  clear hi hv hb
  go_enter Tryd.func27, Tryd.ntmps27
  go_wp2_with (first
    | (go_at_call 40; refine (HI.out _).mono ?_; rintro e w' ⟨rfl, rfl⟩)
    | (at_builtin; refine wpList_buf rfl _ _ rfl B v acc rfl W _ [92, 114] _ rfl HB.out 2 rfl rfl (by simp; omega) ?_; intro v' w2 hB'))
  go_ret
  exact ⟨_, rfl, hB'⟩

theorem scan_write_9 (B : Nat) (v : Value) (acc : List UInt8) (W w : World) (hb : Buf B v acc W w) (hl : acc.length ≤ 1073741824) :
    Calls Tryd.prog 27 #[v, .int .i32 9] w (Apd B acc [92, 116] W) := by
  have hi := fun W => index_ascii 9 (by omega) W
  have hv : Lib.indexByte [34, 92, 10, 13, 9] (Nat.toUInt8 9) = 4 := by decide
  simp only [hv] at hi
  have HI := Lib.hid hi
  have HB := Lib.hid hb
  clear hi hv hb
  go_enter Tryd.func27, Tryd.ntmps27
  go_wp2_with (first
    | (go_at_call 40; refine (HI.out _).mono ?_; rintro e w' ⟨rfl, rfl⟩)
    | (at_builtin; refine wpList_buf rfl _ _ rfl B v acc rfl W _ [92, 116] _ rfl HB.out 2 rfl rfl (by simp; omega) ?_; intro v' w2 hB'))
  go_ret
  exact ⟨_, rfl, hB'⟩

theorem wrap_u8_fin : ∀ n : Fin 256, IntKind.u8.wrap (n.1 : Int) = (n.1 : Int) := by decide
theorem wrap_u8 (b : UInt8) : IntKind.u8.wrap (b.toNat : Int) = (b.toNat : Int) := wrap_u8_fin ⟨b.toNat, b.toNat_lt⟩

theorem scan_write_name (B : Nat) (v : Value) (acc : List UInt8) (b : UInt8) (h1 : b.toNat < 32 ∨ b.toNat = 127) (hi : Lib.indexByte [34, 92, 10, 13, 9] b = -1) (W w : World) (hb : Buf B v acc W w) (hl : acc.length ≤ 1073741824) :
    Calls Tryd.prog 27 #[v, .int .i32 b.toNat] w (Apd B acc (Sp.byNameV b.toNat) W) := by
  have hi2 := fun W => index_ascii b.toNat (by omega) W
  have e : b.toNat.toUInt8 = b := by simp
  simp only [e, hi] at hi2
  have HI := Lib.hid hi2
  have HN := Lib.hid (fun W2 (h : Buf B v acc W W2) => scan_byName B v acc b W W2 h hl)
  have HB := Lib.hid hb
  have hw : IntKind.u8.wrap (b.toNat : Int) = b.toNat := wrap_u8 b
  clear hi hb e hi2
  by_cases c1 : b.toNat < 32
  · have q1 : decide ((b.toNat : Int) < 32) = true := decide_eq_true (by omega)
    go_enter Tryd.func27, Tryd.ntmps27
    go_wp2_with (first
      | (go_at_call 40; refine (HI.out _).mono ?_; rintro e w' ⟨rfl, rfl⟩)
      | (go_at_call 26; refine (HN.out _ HB.out).mono ?_; rintro e w' ⟨v', rfl, hB'⟩))
    go_ret
    exact ⟨_, rfl, hB'⟩
  · have q1 : decide ((b.toNat : Int) < 32) = false := decide_eq_false (by omega)
    have q2 : ((b.toNat : Int) == 127) = true := beq_iff_eq.2 (by omega)
    go_enter Tryd.func27, Tryd.ntmps27
    go_wp2_with (first
      | (go_at_call 40; refine (HI.out _).mono ?_; rintro e w' ⟨rfl, rfl⟩)
      | (go_at_call 26; refine (HN.out _ HB.out).mono ?_; rintro e w' ⟨v', rfl, hB'⟩))
    go_ret
    exact ⟨_, rfl, hB'⟩

theorem scan_write_rune (B : Nat) (v : Value) (acc : List UInt8) (n : Nat) (hn : n ≤ 1114111) (h1 : 32 ≤ n) (h2 : n ≠ 127) (hu : Sp.unseenB n = false)
    (hi : ∀ W, Calls Tryd.prog 40 #[.string MEANT, .int .i32 (n : Int)] W fun e w' => e = .returned (.int .i64 (-1)) ∧ Below W.heap.size W w' ∧ Lib.OthersKept 5 none W w') (W w : World) (hb : Buf B v acc W w) (hbw : ∀ w', Below w.heap.size w w' → Lib.OthersKept 5 none w w' → Buf B v acc W w') (hl : acc.length ≤ 1073741824) :
    Calls Tryd.prog 27 #[v, .int .i32 (n : Int)] w (Apd B acc (Lib.encodeRune (n : Nat)) W) := by
  have hun := fun W => scan_unseen n hn W
  simp only [hu] at hun
  have HU := Lib.hid hun
  have HR := Lib.hid (fun W2 (h : Buf B v acc W W2) => append_rune B v acc n hn W W2 h hl)
  have HI := Lib.hid hi
  have HBW := Lib.hid hbw
  obtain ⟨r, hr⟩ : ∃ r : Int, (n : Int) = r := ⟨_, rfl⟩
  rw [hr] at HU HR HI ⊢
  have q1 : decide (r < 32) = false := decide_eq_false (by omega)
  have q2 : (r == 127) = false := beq_eq_false_iff_ne.2 (by omega)
  clear hi hb hun hbw hr hn h1 h2 hu
  go_enter Tryd.func27, Tryd.ntmps27
  go_wp2_with (first
    | (go_at_call 40; refine (HI.out _).mono ?_; rintro e w' ⟨rfl, hw1, hw2⟩)
    | (go_at_call 41; refine (HU.out _).mono ?_; rintro e w' ⟨rfl, rfl⟩)
    | (go_at_call 36; refine (HR.out _ (HBW.out _ hw1 hw2)).mono ?_; rintro e w' ⟨v', rfl, hB'⟩))
  go_ret
  exact ⟨_, rfl, hB'⟩
end Go.Proofs.YtjedoipbllcfdaaDoor

/-
  THE WALK of scan.write at a character that is written by its number (chapter 3) (written by wip/gen/writeu.py).
-/
set_option linter.unusedVariables false
set_option linter.unusedSimpArgs false
set_option maxRecDepth 100000
set_option maxHeartbeats 4000000
namespace Go.Proofs.YtjedoipbllcfdaaDoor
open Go.RowKit

theorem unseen_two (n : Nat) (h : Sp.unseenB n = true) : 128 ≤ n ∧ (n < 160 ∨ 8192 ≤ n ∧ n < 65536) := by
  unfold Sp.unseenB at h
  have := of_decide_eq_true h
  omega

theorem shr_fact (n p : Nat) : ((n : Int) / (p : Int)) = ((n / p : Nat) : Int) := (Int.natCast_ediv n p).symm

theorem scan_write_hex (B : Nat) (v : Value) (acc : List UInt8) (n : Nat) (hn : n ≤ 1114111) (hu : Sp.unseenB n = true)
    (hi : ∀ W, Calls Tryd.prog 40 #[.string MEANT, .int .i32 (n : Int)] W fun e w' => e = .returned (.int .i64 (-1)) ∧ Below W.heap.size W w' ∧ Lib.OthersKept 5 none W w') (W w : World) (hb : Buf B v acc W w) (hbw : ∀ w', Below w.heap.size w w' → Lib.OthersKept 5 none w w' → Buf B v acc W w') (hl : acc.length ≤ 1073741824) :
    Calls Tryd.prog 27 #[v, .int .i32 (n : Int)] w (Apd B acc ([92, 117, 123] ++ Sp.hexF 5 n ++ [125]) W) := by
  have hun := fun W => scan_unseen n hn W
  simp only [hu] at hun
  have hu2 := unseen_two n hu
  have HU := Lib.hid hun
  have HI := Lib.hid hi
  have HBW := Lib.hid hbw
  obtain ⟨r, hr⟩ : ∃ r : Int, (n : Int) = r := ⟨_, rfl⟩
  rw [hr] at HU HI ⊢
  have q1 : decide (r < 32) = false := decide_eq_false (by omega)
  have q2 : (r == 127) = false := beq_eq_false_iff_ne.2 (by omega)
  obtain ⟨D, hD⟩ : ∃ D, Sp.hexF 5 n = D := ⟨_, rfl⟩
  rw [hD]
  clear hi hb hun hbw hu
  go_enter Tryd.func27, Tryd.ntmps27
  go_wp2_with (first
    | (go_at_call 40; refine (HI.out _).mono ?_; rintro e w' ⟨rfl, hw1, hw2⟩)
    | (go_at_call 41; refine (HU.out _).mono ?_; rintro e w' ⟨rfl, rfl⟩)
    | (at_builtin; refine wpList_buf_text rfl _ _ rfl B v acc rfl W (HBW.out _ hw1 hw2) ⟨#[92, 117, 123]⟩ rfl (by show acc.length + 3 ≤ _; omega) ?_; intro v1 w1 hB1))
  go_loopw [6] (fun v6 wr => w1 = wr ∧ (v6 = .int .i64 20 ∨ v6 = .int .i64 16 ∨ v6 = .int .i64 12 ∨ (v6 = .int .i64 8 ∧ n < 160) ∨ (v6 = .int .i64 4 ∧ n < 160))) (fun v6 _ => (intOf v6).toNat)
  case atStart => exact ⟨rfl, Or.inl rfl⟩
  case round =>
    obtain ⟨rfl, hrel⟩ := hrel
    rcases hrel with rfl | rfl | rfl | ⟨rfl, hn2⟩ | ⟨rfl, hn2⟩
    · have q3 : (r / 1048576 == 0) = true := by rw [beq_iff_eq]; omega
      go_wp2
      go_roundw
      case rel => exact ⟨by trivial, Or.inr (Or.inl rfl)⟩
      case measure => simp [intOf]
    · have q3 : (r / 65536 == 0) = true := by rw [beq_iff_eq]; omega
      go_wp2
      go_roundw
      case rel => exact ⟨by trivial, Or.inr (Or.inr (Or.inl rfl))⟩
      case measure => simp [intOf]
    · by_cases hn2 : n < 160
      · have q3 : (r / 4096 == 0) = true := by rw [beq_iff_eq]; omega
        go_wp2
        go_roundw
        case rel => exact ⟨by trivial, Or.inr (Or.inr (Or.inr (Or.inl ⟨rfl, hn2⟩)))⟩
        case measure => simp [intOf]
      · have q3 : (r / 4096 == 0) = false := by rw [beq_eq_false_iff_ne]; omega
        go_wp2
        have hb2 : Buf B v1 (acc ++ [92, 117, 123]) W w1 := hB1
        have hdig : D = Sp.digF 4 n := by rw [← hD]; exact Sp.hexF_dig 5 3 n (by omega) (by omega) (Or.inr (by omega))
        go_loopw [0, 6] (fun v0 v6 wr => ∃ (k : Nat) (z : Int) (acc' : List UInt8), v6 = .int .i64 z ∧ z = 4 * k - 4 ∧ k ≤ 4 ∧ Buf B v0 acc' W wr ∧ acc'.length + k ≤ acc.length + 8 ∧ Hid (acc' ++ Sp.digF k n = acc ++ [92, 117, 123] ++ D)) (fun _ v6 _ => (intOf v6 + 4).toNat)
        case atStart => exact ⟨4, _, acc ++ [92, 117, 123], rfl, by omega, by omega, hb2, by simp, by rw [hdig]; exact rfl⟩
        case round =>
          obtain ⟨k, z, acc', rfl, hz, hk, hb3, hla, HA⟩ := hrel
          rcases k with _ | k
          · have qz : decide (z ≥ 0) = false := decide_eq_false (by omega)
            clear hz
            have HA2 := HA.out
            simp only [Sp.digF, List.append_nil] at HA2
            have HB3 := Lib.hid hb3
            clear hb3 HA hB1 hb2
            go_wp2_with (at_builtin; refine wpList_buf rfl _ _ rfl B u0 acc' rfl W _ [125] _ rfl HB3.out 1 rfl rfl (by rw [List.length_singleton]; omega) ?_; intro v3 w3 hB4)
            go_ret
            refine ⟨_, rfl, ?_⟩
            rw [HA2] at hB4
            simpa using hB4
          · obtain ⟨x, hx⟩ : ∃ x, n / 16 ^ k % 16 = x := ⟨_, rfl⟩
            have hx16 : x < 16 := by omega
            have hx3 : (x : Int) < 16 := by omega
            have e1 : (⟨#[48, 49, 50, 51, 52, 53, 54, 55, 56, 57, 97, 98, 99, 100, 101, 102]⟩ : ByteArray)[x]'hx16 = Sp.hexd x := Sp.hex_at x hx16 hx16
            have hand := Lib.and15_shift r n hr.symm (by omega) (16 ^ k)
            rw [hx] at hand
            have HA2 : Hid ((acc' ++ [Sp.hexd x]) ++ Sp.digF k n = acc ++ [92, 117, 123] ++ D) := by
              have h := HA.out
              show _ = _
              rw [← h, List.append_assoc]
              simp only [Sp.digF, hx]
              rfl
            have HB3 := Lib.hid hb3
            clear hb3 HA hB1 hb2
            have hkk : k = 0 ∨ k = 1 ∨ k = 2 ∨ k = 3 := by omega
            rcases hkk with rfl | rfl | rfl | rfl
            · have hand2 : bits .and .i32 (r) 15 = (x : Int) := by rw [show r / ((16 ^ 0 : Nat) : Int) = r from by simp] at hand; exact hand
              clear hand
              obtain rfl : z = 0 := by omega
              clear hz hx
              go_wp2_with (at_builtin; refine wpList_buf rfl _ _ rfl B u0 acc' rfl W _ [Sp.hexd x] _ rfl HB3.out 1 rfl rfl (by rw [List.length_singleton]; omega) ?_; intro v3 w3 hB4)
              go_roundw
              case rel => exact ⟨0, _, acc' ++ [Sp.hexd x], rfl, by omega, by omega, hB4, by simp; omega, HA2⟩
              case measure => simp [intOf]
            · have hand2 : bits .and .i32 (r / 16) 15 = (x : Int) := hand
              clear hand
              obtain rfl : z = 4 := by omega
              clear hz hx
              go_wp2_with (at_builtin; refine wpList_buf rfl _ _ rfl B u0 acc' rfl W _ [Sp.hexd x] _ rfl HB3.out 1 rfl rfl (by rw [List.length_singleton]; omega) ?_; intro v3 w3 hB4)
              go_roundw
              case rel => exact ⟨1, _, acc' ++ [Sp.hexd x], rfl, by omega, by omega, hB4, by simp; omega, HA2⟩
              case measure => simp [intOf]
            · have hand2 : bits .and .i32 (r / 256) 15 = (x : Int) := hand
              clear hand
              obtain rfl : z = 8 := by omega
              clear hz hx
              go_wp2_with (at_builtin; refine wpList_buf rfl _ _ rfl B u0 acc' rfl W _ [Sp.hexd x] _ rfl HB3.out 1 rfl rfl (by rw [List.length_singleton]; omega) ?_; intro v3 w3 hB4)
              go_roundw
              case rel => exact ⟨2, _, acc' ++ [Sp.hexd x], rfl, by omega, by omega, hB4, by simp; omega, HA2⟩
              case measure => simp [intOf]
            · have hand2 : bits .and .i32 (r / 4096) 15 = (x : Int) := hand
              clear hand
              obtain rfl : z = 12 := by omega
              clear hz hx
              go_wp2_with (at_builtin; refine wpList_buf rfl _ _ rfl B u0 acc' rfl W _ [Sp.hexd x] _ rfl HB3.out 1 rfl rfl (by rw [List.length_singleton]; omega) ?_; intro v3 w3 hB4)
              go_roundw
              case rel => exact ⟨3, _, acc' ++ [Sp.hexd x], rfl, by omega, by omega, hB4, by simp; omega, HA2⟩
              case measure => simp [intOf]
    · have q3 : (r / 256 == 0) = true := by rw [beq_iff_eq]; omega
      go_wp2
      go_roundw
      case rel => exact ⟨by trivial, Or.inr (Or.inr (Or.inr (Or.inr ⟨rfl, hn2⟩)))⟩
      case measure => simp [intOf]
    · have q3 : (r / 16 == 0) = false := by rw [beq_eq_false_iff_ne]; omega
      go_wp2
      have hb2 : Buf B v1 (acc ++ [92, 117, 123]) W w1 := hB1
      have hdig : D = Sp.digF 2 n := by rw [← hD]; exact Sp.hexF_dig 5 1 n (by omega) (by omega) (Or.inr (by omega))
      go_loopw [0, 6] (fun v0 v6 wr => ∃ (k : Nat) (z : Int) (acc' : List UInt8), v6 = .int .i64 z ∧ z = 4 * k - 4 ∧ k ≤ 2 ∧ Buf B v0 acc' W wr ∧ acc'.length + k ≤ acc.length + 8 ∧ Hid (acc' ++ Sp.digF k n = acc ++ [92, 117, 123] ++ D)) (fun _ v6 _ => (intOf v6 + 4).toNat)
      case atStart => exact ⟨2, _, acc ++ [92, 117, 123], rfl, by omega, by omega, hb2, by simp, by rw [hdig]; exact rfl⟩
      case round =>
        obtain ⟨k, z, acc', rfl, hz, hk, hb3, hla, HA⟩ := hrel
        rcases k with _ | k
        · have qz : decide (z ≥ 0) = false := decide_eq_false (by omega)
          clear hz
          have HA2 := HA.out
          simp only [Sp.digF, List.append_nil] at HA2
          have HB3 := Lib.hid hb3
          clear hb3 HA hB1 hb2
          go_wp2_with (at_builtin; refine wpList_buf rfl _ _ rfl B u0 acc' rfl W _ [125] _ rfl HB3.out 1 rfl rfl (by rw [List.length_singleton]; omega) ?_; intro v3 w3 hB4)
          go_ret
          refine ⟨_, rfl, ?_⟩
          rw [HA2] at hB4
          simpa using hB4
        · obtain ⟨x, hx⟩ : ∃ x, n / 16 ^ k % 16 = x := ⟨_, rfl⟩
          have hx16 : x < 16 := by omega
          have hx3 : (x : Int) < 16 := by omega
          have e1 : (⟨#[48, 49, 50, 51, 52, 53, 54, 55, 56, 57, 97, 98, 99, 100, 101, 102]⟩ : ByteArray)[x]'hx16 = Sp.hexd x := Sp.hex_at x hx16 hx16
          have hand := Lib.and15_shift r n hr.symm (by omega) (16 ^ k)
          rw [hx] at hand
          have HA2 : Hid ((acc' ++ [Sp.hexd x]) ++ Sp.digF k n = acc ++ [92, 117, 123] ++ D) := by
            have h := HA.out
            show _ = _
            rw [← h, List.append_assoc]
            simp only [Sp.digF, hx]
            rfl
          have HB3 := Lib.hid hb3
          clear hb3 HA hB1 hb2
          have hkk : k = 0 ∨ k = 1 := by omega
          rcases hkk with rfl | rfl
          · have hand2 : bits .and .i32 (r) 15 = (x : Int) := by rw [show r / ((16 ^ 0 : Nat) : Int) = r from by simp] at hand; exact hand
            clear hand
            obtain rfl : z = 0 := by omega
            clear hz hx
            go_wp2_with (at_builtin; refine wpList_buf rfl _ _ rfl B u0 acc' rfl W _ [Sp.hexd x] _ rfl HB3.out 1 rfl rfl (by rw [List.length_singleton]; omega) ?_; intro v3 w3 hB4)
            go_roundw
            case rel => exact ⟨0, _, acc' ++ [Sp.hexd x], rfl, by omega, by omega, hB4, by simp; omega, HA2⟩
            case measure => simp [intOf]
          · have hand2 : bits .and .i32 (r / 16) 15 = (x : Int) := hand
            clear hand
            obtain rfl : z = 4 := by omega
            clear hz hx
            go_wp2_with (at_builtin; refine wpList_buf rfl _ _ rfl B u0 acc' rfl W _ [Sp.hexd x] _ rfl HB3.out 1 rfl rfl (by rw [List.length_singleton]; omega) ?_; intro v3 w3 hB4)
            go_roundw
            case rel => exact ⟨1, _, acc' ++ [Sp.hexd x], rfl, by omega, by omega, hB4, by simp; omega, HA2⟩
            case measure => simp [intOf]
end Go.Proofs.YtjedoipbllcfdaaDoor

/-
  THE WALK of scan.write, joined, and of scan.Quote (chapter 3).
-/
set_option linter.unusedVariables false
set_option linter.unusedSimpArgs false
set_option maxRecDepth 100000
set_option maxHeartbeats 4000000
namespace Go.Proofs.YtjedoipbllcfdaaDoor
open Go.RowKit

theorem others_below {w w' : World} (h : Below w.heap.size w w') : Lib.OthersKept 5 none w w' := by
  intro k o hk _ _
  have hlt : k < w.heap.size := (Array.getElem?_eq_some_iff.1 hk).1
  rw [h.block k hlt]
  exact hk
theorem Buf.below {B : Nat} {v : Value} {acc : List UInt8} {W w w' : World} (h : Buf B v acc W w) (hb : Below w.heap.size w w') : Buf B v acc W w' :=
  ⟨ownsRowF_below h.1 hb, h.2.1.trans (hb.mono h.2.2.1), Nat.le_trans h.2.2.1 hb.size, h.2.2.2.trans (others_below hb)⟩

theorem idx_ascii_none {c : UInt8} (h34 : c.toNat ≠ 34) (h92 : c.toNat ≠ 92) (h10 : c.toNat ≠ 10) (h13 : c.toNat ≠ 13) (h9 : c.toNat ≠ 9) : Lib.indexByte [34, 92, 10, 13, 9] c = -1 := by
  rw [Sp.indexByte_tw, if_pos]
  simp only [List.all_cons, List.all_nil, Bool.and_true, Bool.and_eq_true, decide_eq_true_eq]
  refine ⟨?_, ?_, ?_, ?_, ?_⟩ <;> (rintro rfl; simp at h34 h92 h10 h13 h9)

theorem scan_write (B : Nat) (v : Value) (acc : List UInt8) (n : Nat) (hn : n ≤ 1114111) (hv : n < 55296 ∨ 57343 < n) (W w : World) (hb : Buf B v acc W w) (hl : acc.length ≤ 1073741824) :
    Calls Tryd.prog 27 #[v, .int .i32 (n : Int)] w (Apd B acc (Sp.writeV n) W) := by
  unfold Sp.writeV
  by_cases c1 : n = 34
  · rw [if_pos c1]; subst c1; exact scan_write_34 B v acc W w hb hl
  rw [if_neg c1]
  by_cases c2 : n = 92
  · rw [if_pos c2]; subst c2; exact scan_write_92 B v acc W w hb hl
  rw [if_neg c2]
  by_cases c3 : n = 10
  · rw [if_pos c3]; subst c3; exact scan_write_10 B v acc W w hb hl
  rw [if_neg c3]
  by_cases c4 : n = 13
  · rw [if_pos c4]; subst c4; exact scan_write_13 B v acc W w hb hl
  rw [if_neg c4]
  by_cases c5 : n = 9
  · rw [if_pos c5]; subst c5; exact scan_write_9 B v acc W w hb hl
  rw [if_neg c5]
  have hbw : ∀ w', Below w.heap.size w w' → Lib.OthersKept 5 none w w' → Buf B v acc W w' := fun w' h _ => hb.below h
  by_cases c6 : n < 128
  · obtain ⟨b, rfl⟩ : ∃ b : UInt8, n = b.toNat := ⟨n.toUInt8, by simp; omega⟩
    have hi := idx_ascii_none c1 c2 c3 c4 c5
    by_cases c7 : b.toNat < 32 ∨ b.toNat = 127
    · rw [if_pos c7]; exact scan_write_name B v acc b c7 hi W w hb hl
    · rw [if_neg c7]
      have hu : Sp.unseenB b.toNat = false := by unfold Sp.unseenB; exact decide_eq_false (by omega)
      rw [if_neg (by rw [hu]; simp)]
      refine scan_write_rune B v acc b.toNat hn (by omega) (by omega) hu (fun W' => (index_ascii b.toNat c6 W').mono ?_) W w hb hbw hl
      rintro e w' ⟨rfl, rfl⟩
      have e : b.toNat.toUInt8 = b := by simp
      rw [e, hi]
      exact ⟨rfl, Below.refl _ _, Lib.OthersKept.refl _ _ _⟩
  · rw [if_neg (by omega)]
    have hvr : Lib.validRune (n : Int) = true := by rw [Sp.valid_rune]; unfold Sp.validRune; exact decide_eq_true (by omega)
    have hi := fun W' => index_none (n : Int) (by omega) hvr W'
    by_cases c7 : Sp.unseenB n = true
    · rw [if_pos c7]; exact scan_write_hex B v acc n hn c7 hi W w hb hbw hl
    · rw [if_neg c7]; exact scan_write_rune B v acc n hn (by omega) (by omega) (by simpa using c7) hi W w hb hbw hl

theorem dec_top (l : List UInt8) (hl : l ≠ []) : (Sp.dec l).1 ≤ 1114111 := by
  have h0 := Sp.bt_lt l 0; have h1 := Sp.bt_lt l 1; have h2 := Sp.bt_lt l 2; have h3 := Sp.bt_lt l 3
  rcases Sp.dec_cases l hl with h | h | h | h | h <;> simp [h] <;> omega

/-- What Quote hands back. -/
def QuoEnd (s : ByteArray) (W : World) (e : Ending) (w' : World) : Prop :=
  e = .returned (.tuple #[.string ⟨(Sp.quoteV s.data.toList).1.toArray⟩, .int .i64 (Sp.quoteV s.data.toList).2]) ∧ Below W.heap.size W w'
theorem QuoEnd_of {s : ByteArray} {W w' : World} {c : Nat} {b : List UInt8} (h : Sp.quoteV s.data.toList = (b, c)) {x : ByteArray} {y : Int} (hx : x = ⟨b.toArray⟩) (hy : y = c) (hb : Below W.heap.size W w') :
    QuoEnd s W (.returned (.tuple #[.string x, .int .i64 y])) w' := by
  subst hx; subst hy
  unfold QuoEnd
  rw [h]
  exact ⟨rfl, hb⟩

theorem scan_quote (s : ByteArray) (w : World) (hG : Gl w) (hs : s.size ≤ 9223372036854775807) :
    Calls Tryd.prog 13 #[.string s] w (QuoEnd s w) := by
  have hsl := Lib.size_eq s
  by_cases h1 : 256 < s.size
  · have hQ : Sp.quoteV s.data.toList = ([], 37) := by unfold Sp.quoteV; rw [if_pos (by omega)]
    have HQ := Lib.hid hQ
    have q1 : decide ((s.size : Int) > 256) = true := decide_eq_true (by omega)
    clear hQ hG hsl
    go_enter Tryd.func13, Tryd.ntmps13
    go_wp2
    go_ret2
    exact QuoEnd_of HQ.out rfl rfl (Below.refl _ _)
  have hQ : Sp.quoteV s.data.toList = ([34] ++ Sp.bodyV s.data.toList ++ [34], 0) := by unfold Sp.quoteV; rw [if_neg (by omega)]
  have HQ := Lib.hid hQ
  have HG := Lib.hid hG
  have q1 : decide ((s.size : Int) > 256) = false := decide_eq_false (by omega)
  clear hQ hG hsl
  go_enter Tryd.func13, Tryd.ntmps13
  go_wp2
  go_loopw [4, 5, 6] (fun v4 v5 v6 wr => ∃ (pos : Nat) (acc : List UInt8), wr.heap[w.heap.size + 1]? = some (.stringIter s pos) ∧ wr.ownsRowF w.heap.size 5 1 v4 acc.length (Lib.byteCells acc) ∧ Below w.heap.size w wr ∧ acc.length ≤ 10 * pos + 1 ∧ pos ≤ s.size ∧ Hid (∃ f, s.size - pos ≤ f ∧ acc ++ Sp.bodyF f (s.data.toList.drop pos) = [34] ++ Sp.bodyV s.data.toList)) (fun _ _ _ wr => s.size - wr.iterPos (w.heap.size + 1))
  case atStart =>
    refine ⟨0, [34], ?_, ?_, ?_, by simp, by omega, s.size, by omega, ?_⟩
    · have h := World.iter_heap (w.alloc (.cells #[.int .u8 34] 5)) s 0
      have e : (w.alloc (.cells #[.int .u8 34] 5)).heap.size = w.heap.size + 1 := by simp
      rw [e] at h
      exact h
    · exact (World.ownsRowF_of (World.ownsRow_lit w #[.int .u8 34] 1 (Nat.le_refl _) (by unfold maxLen; omega) rfl)).alloc _
    · exact ((Below.refl _ _).alloc (Nat.le_refl _) _).alloc (by simp) _
    · rw [List.drop_zero, Lib.size_eq]
      rfl
  case round =>
    obtain ⟨pos, acc, hit, hown, hbw, hal, hps, HF⟩ := hrel
    have hpos0 := iterPos_of hit
    by_cases hp : pos < s.size
    · obtain ⟨l, hl⟩ : ∃ l, s.data.toList.drop pos = l := ⟨_, rfl⟩
      have hnx := fun ty => Lib.run_next_any_at (P := Tryd.prog) wr (w.heap.size + 1) s pos ty hit hp
      simp only [Sp.dec_at, hl] at hnx
      obtain ⟨c, hc⟩ : ∃ c : Nat, (Sp.dec l).1 = c := ⟨_, rfl⟩
      obtain ⟨k, hk⟩ : ∃ k : Nat, (Sp.dec l).2 = k := ⟨_, rfl⟩
      have hit2 := Lib.iterAt_heap wr (w.heap.size + 1) s pos (pos + k) hit
      have hown2 := ownsRowF_iterAt hown hit (p' := pos + k)
      have hbw2 := Lib.below_iterAt hbw (k := w.heap.size + 1) (Nat.le_succ _) s (pos + k)
      rw [hc, hk] at hnx
      obtain ⟨W2, hW2⟩ : ∃ W2, wr.iterAt (w.heap.size + 1) s (pos + k) = W2 := ⟨_, rfl⟩
      rw [hW2] at hnx hit2 hown2 hbw2
      have hG2 : Gl W2 := HG.out.below hbw2
      have hsz2 := hbw2.size
      have hdc := Sp.drop_cons s pos hp
      have hlc : l = (s[pos]'hp) :: s.data.toList.drop (pos + 1) := by rw [← hl]; exact hdc
      have hlne : l ≠ [] := by rw [hlc]; simp
      have hll : l.length = s.size - pos := by rw [← hl, List.length_drop, ← Lib.size_eq]
      have hkp := Sp.dec_pos l hlne
      have hkl := Sp.dec_len l hlne
      have hpq := Sp.pieceQ_len l hlne
      rw [hk] at hkp hkl
      have hct := dec_top l hlne
      have hcv := Sp.dec_valid l hlne
      rw [hc] at hct hcv
      have hF2 : ∃ f, s.size - (pos + k) ≤ f ∧ (acc ++ Sp.pieceQ l) ++ Sp.bodyF f (s.data.toList.drop (pos + k)) = [34] ++ Sp.bodyV s.data.toList := by
        obtain ⟨f, hf1, hf2⟩ := HF.out
        obtain ⟨f, rfl⟩ : ∃ g, f = g + 1 := ⟨f - 1, by omega⟩
        refine ⟨f, by omega, ?_⟩
        rw [← hf2, List.append_assoc, hl, hlc]
        congr 1
        show _ = Sp.pieceQ _ ++ Sp.bodyF f (List.drop (Sp.dec _).2 _)
        rw [← hlc, hk, ← hl, List.drop_drop]
      have HF2 := Lib.hid hF2
      have hp' : (pos : Int) < s.size := by omega
      have hlo := fun (W : World) (hW : Gl W) => scan_loose s (pos : Int) W hW (by omega) hp' (by omega)
      simp only [Int.toNat_natCast, hl, hc] at hlo
      have HLo := Lib.hid hlo
      have HG2 := Lib.hid hG2
      have HB := Lib.hid hbw2
      have HO := Lib.hid hown2
      have HIT := Lib.hid hit2
      have hbuf : ∀ w3, Below W2.heap.size W2 w3 → Buf w.heap.size u4 acc w3 w3 := fun w3 h3 => ⟨ownsRowF_below hown2 h3, Below.refl _ _, by have := h3.size; omega, Lib.OthersKept.refl _ _ _⟩
      have HBUF := Lib.hid hbuf
      have fin : ∀ (bs : List UInt8) (v' : Value) (w3 w4 : World), bs = Sp.pieceQ l → Below W2.heap.size W2 w3 → Buf w.heap.size v' (acc ++ bs) w3 w4 → w4.heap[w.heap.size + 1]? = some (.stringIter s (pos + k)) ∧ w4.ownsRowF w.heap.size 5 1 v' (acc ++ bs).length (Lib.byteCells (acc ++ bs)) ∧ Below w.heap.size w w4 ∧ (acc ++ bs).length ≤ 10 * (pos + k) + 1 ∧ pos + k ≤ s.size ∧ Hid (∃ f, s.size - (pos + k) ≤ f ∧ (acc ++ bs) ++ Sp.bodyF f (s.data.toList.drop (pos + k)) = [34] ++ Sp.bodyV s.data.toList) := by
        rintro bs v' w3 w4 rfl h3 h4
        refine ⟨h4.2.2.2 _ _ (iter_below hit2 h3) (by simp) (fun _ _ e => by cases e), h4.1, (hbw2.trans (h3.mono hsz2)).trans h4.2.1, by rw [List.length_append]; omega, by omega, hF2⟩
      have FIN := Lib.hid fin
      clear hlo hbw2 hown2 hbuf fin hF2 hit hown hbw HF hdc hW2
      by_cases c1 : Sp.looseB l = true
      · simp only [c1] at HLo
        have hN := fun w3 h3 => scan_byName w.heap.size u4 acc (s[pos]'hp) w3 w3 (HBUF.out w3 h3) (by omega)
        have hpz : Sp.byNameV (s[pos]'hp).toNat = Sp.pieceQ l := by
          unfold Sp.pieceQ
          rw [if_pos c1, hlc]
          rfl
        have HN := Lib.hid hN
        have HPZ := Lib.hid hpz
        clear hN hpz hlc
        go_wp2_with (first
          | (go_at_call 25; refine (HLo.out _ HG2.out).mono ?_; rintro e w3 ⟨rfl, hb3⟩)
          | (go_at_call 26; refine (HN.out _ hb3).mono ?_; rintro e w4 ⟨v', rfl, hB'⟩))
        obtain ⟨r1, r2, r3, r4, r5, r6⟩ := FIN.out _ _ _ _ HPZ.out hb3 hB'
        go_roundw
        case rel => exact ⟨pos + k, _, r1, r2, r3, r4, r5, r6⟩
        case measure =>
          rw [iterPos_of r1, hpos0]
          omega
      · have c2 : Sp.looseB l = false := by simpa using c1
        simp only [c2] at HLo
        have hN := fun w3 h3 => scan_write w.heap.size u4 acc c hct hcv w3 w3 (HBUF.out w3 h3) (by omega)
        have hpz : Sp.writeV c = Sp.pieceQ l := by
          unfold Sp.pieceQ
          rw [if_neg c1, hc]
        have HN := Lib.hid hN
        have HPZ := Lib.hid hpz
        clear hN hpz hlc
        go_wp2_with (first
          | (go_at_call 25; refine (HLo.out _ HG2.out).mono ?_; rintro e w3 ⟨rfl, hb3⟩)
          | (go_at_call 27; refine (HN.out _ hb3).mono ?_; rintro e w4 ⟨v', rfl, hB'⟩))
        obtain ⟨r1, r2, r3, r4, r5, r6⟩ := FIN.out _ _ _ _ HPZ.out hb3 hB'
        go_roundw
        case rel => exact ⟨pos + k, _, r1, r2, r3, r4, r5, r6⟩
        case measure =>
          rw [iterPos_of r1, hpos0]
          omega
    · have hnx := fun ty => Lib.run_next_end_at (P := Tryd.prog) wr (w.heap.size + 1) s pos ty hit hp
      have hbuf : Buf w.heap.size u4 acc wr wr := ⟨hown, Below.refl _ _, hbw.size, Lib.OthersKept.refl _ _ _⟩
      have HBUF := Lib.hid hbuf
      have hacc : acc ++ [34] = [34] ++ Sp.bodyV s.data.toList ++ [34] := by
        obtain ⟨f, hf1, hf2⟩ := HF.out
        rw [← hf2, List.drop_eq_nil_of_le (by rw [← Lib.size_eq]; omega)]
        cases f <;> simp [Sp.bodyF]
      have HA := Lib.hid hacc
      clear hbuf hown HF hacc
      go_wp2_with (at_builtin; refine wpList_buf rfl _ _ rfl w.heap.size u4 acc rfl wr _ [34] _ rfl HBUF.out 1 rfl rfl (by rw [List.length_singleton]; omega) ?_; intro v' w4 hB'; have hcv := own_string hB'.1)
      go_ret2
      exact QuoEnd_of HQ.out (by rw [← HA.out]) rfl (hbw.trans hB'.2.1)
end Go.Proofs.YtjedoipbllcfdaaDoor
