/-
  THE WALK of scan.write (chapter 3) (written by wip/gen/write.py).
-/
import Derived.Test.YtjedoipbllcfdaaDoorWs
set_option linter.unusedVariables false
set_option linter.unusedSimpArgs false
set_option maxRecDepth 100000
set_option maxHeartbeats 4000000
namespace Go.Proofs.YtjedoipbllcfdaaDoor
open Go.RowKit

theorem index_ascii (n : Nat) (hn : n < 128) (w : World) : Calls Tryd.prog 40 #[.string MEANT, .int .i32 (n : Int)] w fun e w' => e = .returned (.int .i64 (Lib.indexByte [34, 92, 10, 13, 9] n.toUInt8)) ∧ w' = w := by
  have h := Tryd.strings_IndexRune_ascii MEANT n w (by omega) (by omega)
  rw [Int.toNat_natCast] at h
  exact h

theorem append_rune (B : Nat) (v : Value) (acc : List UInt8) (n : Nat) (hn : n ≤ 1114111) (W w : World) (hb : Buf B v acc W w) (hl : acc.length ≤ 1073741824) :
    Calls Tryd.prog 36 #[v, .int .i32 (n : Int)] w (Apd B acc (Lib.encodeRune (n : Nat)) W) := by
  refine (Tryd.utf8_AppendRune_row B v acc.length (Lib.byteCells acc) (n : Int) (by omega) (by omega) w hb.1 (by omega) hb.2.2.1).mono ?_
  rintro e w' ⟨v', rfl, hown, o, hg⟩
  refine ⟨v', rfl, (hb.alloc o).grown ?_ hg⟩
  rw [List.length_append, Lib.byteCells_append, Lib.byteCells_encodeRune, ← Lib.runeCells_length]
  exact hown

theorem scan_write_34 (B : Nat) (v : Value) (acc : List UInt8) (W w : World) (hb : Buf B v acc W w) (hl : acc.length ≤ 1073741824) :
    Calls Tryd.prog 27 #[v, .int .i32 34] w (Apd B acc [92, 34] W) := by
  have hi := fun W => index_ascii 34 (by omega) W
  have hv : Lib.indexByte [34, 92, 10, 13, 9] (Nat.toUInt8 34) = 0 := by decide
  simp only [hv] at hi
  have HI := Lib.hid hi
  have HB := Lib.hid hb
  clear hi hv hb
  go_enter Tryd.func27, Tryd.ntmps27
  go_wp2_with (first
    | (go_at_call 40; refine (HI.out _).mono ?_; rintro e w' ⟨rfl, rfl⟩)
    | (at_builtin; refine wpList_buf rfl _ _ rfl B v acc rfl W _ [92, 34] _ rfl HB.out 2 rfl rfl (by simp; omega) ?_; intro v' w2 hB'))
  go_ret
  exact ⟨_, rfl, hB'⟩

theorem scan_write_92 (B : Nat) (v : Value) (acc : List UInt8) (W w : World) (hb : Buf B v acc W w) (hl : acc.length ≤ 1073741824) :
    Calls Tryd.prog 27 #[v, .int .i32 92] w (Apd B acc [92, 92] W) := by
  have hi := fun W => index_ascii 92 (by omega) W
  have hv : Lib.indexByte [34, 92, 10, 13, 9] (Nat.toUInt8 92) = 1 := by decide
  simp only [hv] at hi
  have HI := Lib.hid hi
  have HB := Lib.hid hb
  clear hi hv hb
  go_enter Tryd.func27, Tryd.ntmps27
  go_wp2_with (first
    | (go_at_call 40; refine (HI.out _).mono ?_; rintro e w' ⟨rfl, rfl⟩)
    | (at_builtin; refine wpList_buf rfl _ _ rfl B v acc rfl W _ [92, 92] _ rfl HB.out 2 rfl rfl (by simp; omega) ?_; intro v' w2 hB'))
  go_ret
  exact ⟨_, rfl, hB'⟩

theorem scan_write_10 (B : Nat) (v : Value) (acc : List UInt8) (W w : World) (hb : Buf B v acc W w) (hl : acc.length ≤ 1073741824) :
    Calls Tryd.prog 27 #[v, .int .i32 10] w (Apd B acc [92, 110] W) := by
  have hi := fun W => index_ascii 10 (by omega) W
  have hv : Lib.indexByte [34, 92, 10, 13, 9] (Nat.toUInt8 10) = 2 := by decide
  simp only [hv] at hi
  have HI := Lib.hid hi
  have HB := Lib.hid hb
  clear hi hv hb
  go_enter Tryd.func27, Tryd.ntmps27
  go_wp2_with (first
    | (go_at_call 40; refine (HI.out _).mono ?_; rintro e w' ⟨rfl, rfl⟩)
    | (at_builtin; refine wpList_buf rfl _ _ rfl B v acc rfl W _ [92, 110] _ rfl HB.out 2 rfl rfl (by simp; omega) ?_; intro v' w2 hB'))
  go_ret
  exact ⟨_, rfl, hB'⟩

theorem scan_write_13 (B : Nat) (v : Value) (acc : List UInt8) (W w : World) (hb : Buf B v acc W w) (hl : acc.length ≤ 1073741824) :
    Calls Tryd.prog 27 #[v, .int .i32 13] w (Apd B acc [92, 114] W) := by
  have hi := fun W => index_ascii 13 (by omega) W
  have hv : Lib.indexByte [34, 92, 10, 13, 9] (Nat.toUInt8 13) = 3 := by decide
  simp only [hv] at hi
  have HI := Lib.hid hi
  have HB := Lib.hid hb
  clear hi hv hb
  go_enter Tryd.func27, Tryd.ntmps27
  go_wp2_with (first
    | (go_at_call 40; refine (HI.out _).mono ?_; rintro e w' ⟨rfl, rfl⟩)
    | (at_builtin; refine wpList_buf rfl _ _ rfl B v acc rfl W _ [92, 114] _ rfl HB.out 2 rfl rfl (by simp; omega) ?_; intro v' w2 hB'))
  go_ret
  exact ⟨_, rfl, hB'⟩

theorem scan_write_9 (B : Nat) (v : Value) (acc : List UInt8) (W w : World) (hb : Buf B v acc W w) (hl : acc.length ≤ 1073741824) :
    Calls Tryd.prog 27 #[v, .int .i32 9] w (Apd B acc [92, 116] W) := by
  have hi := fun W => index_ascii 9 (by omega) W
  have hv : Lib.indexByte [34, 92, 10, 13, 9] (Nat.toUInt8 9) = 4 := by decide
  simp only [hv] at hi
  have HI := Lib.hid hi
  have HB := Lib.hid hb
  clear hi hv hb
  go_enter Tryd.func27, Tryd.ntmps27
  go_wp2_with (first
    | (go_at_call 40; refine (HI.out _).mono ?_; rintro e w' ⟨rfl, rfl⟩)
    | (at_builtin; refine wpList_buf rfl _ _ rfl B v acc rfl W _ [92, 116] _ rfl HB.out 2 rfl rfl (by simp; omega) ?_; intro v' w2 hB'))
  go_ret
  exact ⟨_, rfl, hB'⟩

theorem wrap_u8_fin : ∀ n : Fin 256, IntKind.u8.wrap (n.1 : Int) = (n.1 : Int) := by decide
theorem wrap_u8 (b : UInt8) : IntKind.u8.wrap (b.toNat : Int) = (b.toNat : Int) := wrap_u8_fin ⟨b.toNat, b.toNat_lt⟩

theorem scan_write_name (B : Nat) (v : Value) (acc : List UInt8) (b : UInt8) (h1 : b.toNat < 32 ∨ b.toNat = 127) (hi : Lib.indexByte [34, 92, 10, 13, 9] b = -1) (W w : World) (hb : Buf B v acc W w) (hl : acc.length ≤ 1073741824) :
    Calls Tryd.prog 27 #[v, .int .i32 b.toNat] w (Apd B acc (Sp.byNameV b.toNat) W) := by
  have hi2 := fun W => index_ascii b.toNat (by omega) W
  have e : b.toNat.toUInt8 = b := by simp
  simp only [e, hi] at hi2
  have HI := Lib.hid hi2
  have HN := Lib.hid (fun W2 (h : Buf B v acc W W2) => scan_byName B v acc b W W2 h hl)
  have HB := Lib.hid hb
  have hw : IntKind.u8.wrap (b.toNat : Int) = b.toNat := wrap_u8 b
  clear hi hb e hi2
  by_cases c1 : b.toNat < 32
  · have q1 : decide ((b.toNat : Int) < 32) = true := decide_eq_true (by omega)
    go_enter Tryd.func27, Tryd.ntmps27
    go_wp2_with (first
      | (go_at_call 40; refine (HI.out _).mono ?_; rintro e w' ⟨rfl, rfl⟩)
      | (go_at_call 26; refine (HN.out _ HB.out).mono ?_; rintro e w' ⟨v', rfl, hB'⟩))
    go_ret
    exact ⟨_, rfl, hB'⟩
  · have q1 : decide ((b.toNat : Int) < 32) = false := decide_eq_false (by omega)
    have q2 : ((b.toNat : Int) == 127) = true := beq_iff_eq.2 (by omega)
    go_enter Tryd.func27, Tryd.ntmps27
    go_wp2_with (first
      | (go_at_call 40; refine (HI.out _).mono ?_; rintro e w' ⟨rfl, rfl⟩)
      | (go_at_call 26; refine (HN.out _ HB.out).mono ?_; rintro e w' ⟨v', rfl, hB'⟩))
    go_ret
    exact ⟨_, rfl, hB'⟩

theorem scan_write_rune (B : Nat) (v : Value) (acc : List UInt8) (n : Nat) (hn : n ≤ 1114111) (h1 : 32 ≤ n) (h2 : n ≠ 127) (hu : Sp.unseenB n = false)
    (hi : ∀ W, Calls Tryd.prog 40 #[.string MEANT, .int .i32 (n : Int)] W fun e w' => e = .returned (.int .i64 (-1)) ∧ Below W.heap.size W w' ∧ Lib.OthersKept 5 none W w') (W w : World) (hb : Buf B v acc W w) (hbw : ∀ w', Below w.heap.size w w' → Lib.OthersKept 5 none w w' → Buf B v acc W w') (hl : acc.length ≤ 1073741824) :
    Calls Tryd.prog 27 #[v, .int .i32 (n : Int)] w (Apd B acc (Lib.encodeRune (n : Nat)) W) := by
  have hun := fun W => scan_unseen n hn W
  simp only [hu] at hun
  have HU := Lib.hid hun
  have HR := Lib.hid (fun W2 (h : Buf B v acc W W2) => append_rune B v acc n hn W W2 h hl)
  have HI := Lib.hid hi
  have HBW := Lib.hid hbw
  obtain ⟨r, hr⟩ : ∃ r : Int, (n : Int) = r := ⟨_, rfl⟩
  rw [hr] at HU HR HI ⊢
  have q1 : decide (r < 32) = false := decide_eq_false (by omega)
  have q2 : (r == 127) = false := beq_eq_false_iff_ne.2 (by omega)
  clear hi hb hun hbw hr hn h1 h2 hu
  go_enter Tryd.func27, Tryd.ntmps27
  go_wp2_with (first
    | (go_at_call 40; refine (HI.out _).mono ?_; rintro e w' ⟨rfl, hw1, hw2⟩)
    | (go_at_call 41; refine (HU.out _).mono ?_; rintro e w' ⟨rfl, rfl⟩)
    | (go_at_call 36; refine (HR.out _ (HBW.out _ hw1 hw2)).mono ?_; rintro e w' ⟨v', rfl, hB'⟩))
  go_ret
  exact ⟨_, rfl, hB'⟩
end Go.Proofs.YtjedoipbllcfdaaDoor
