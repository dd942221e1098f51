/-
  THE WALK of scan.pattern (chapter 3).
-/
import Derived.Test.YtjedoipbllcfdaaDoorYb
import Derived.Test.YtjedoipbllcfdaaDoorWm
import Derived.Test.YtjedoipbllcfdaaDoorWn
set_option linter.unusedVariables false
set_option linter.unusedSimpArgs false
set_option maxRecDepth 100000
set_option maxHeartbeats 2000000
namespace Go.Proofs.YtjedoipbllcfdaaDoor
open Go.RowKit

def patB (c : UInt8) : Bool := c == 48 || c == 49 || c == 120
theorem patB_iff (c : UInt8) : patB c = true ↔ c.toNat = 48 ∨ c.toNat = 49 ∨ c.toNat = 120 := by
  unfold patB
  simp only [Bool.or_eq_true, beq_iff_eq, ← UInt8.toNat_inj]
  constructor
  · rintro ((h | h) | h)
    · exact Or.inl h
    · exact Or.inr (Or.inl h)
    · exact Or.inr (Or.inr h)
  · rintro (h | h | h)
    · exact Or.inl (Or.inl h)
    · exact Or.inl (Or.inr h)
    · exact Or.inr h
theorem patV_eq (l : List UInt8) : Sp.patV l = (l.all patB && l.length != 0 && decide (l.length ≤ 32)) := rfl

theorem scan_pattern (s : ByteArray) (w : World) (hs : s.size ≤ 1073741824) :
    Calls Tryd.prog 80 #[.string s] w fun e w' => e = .returned (.bool (Sp.patV s.data.toList)) ∧ Below w.heap.size w w' := by
  have hsl := Lib.size_eq s
  have hsT : s.toList = s.data.toList := Lib.toList_data s
  obtain ⟨res, hres⟩ : ∃ r, Sp.patV s.data.toList = r := ⟨_, rfl⟩
  rw [hres]
  rw [patV_eq] at hres
  have HRES := Lib.hid hres
  have HSL := Lib.hid hsl
  have HST := Lib.hid hsT
  clear hres hsl hsT
  go_enter Tryd.func80, Tryd.ntmps80
  go_wp2
  go_loopw [4] (fun v4 wr => ∃ (pos : Nat), wr.heap[w.heap.size]? = some (.stringIter s pos) ∧ Below w.heap.size w wr ∧ pos ≤ s.size ∧ Hid (s.data.toList.all patB = (s.data.toList.drop pos).all patB)) (fun v4 wr => s.size - wr.iterPos w.heap.size)
  case atStart =>
    refine ⟨0, World.iter_heap w s 0, (Below.refl _ _).alloc (Nat.le_refl _) _, by omega, ?_⟩
    show _ = _
    rw [List.drop_zero]
  case round =>
    obtain ⟨pos, hit, hbw, hps, HF⟩ := hrel
    have hpos0 := iterPos_of hit
    by_cases hp : pos < s.size
    · obtain ⟨l, hl⟩ : ∃ l, s.data.toList.drop pos = l := ⟨_, rfl⟩
      have hnx := fun ty => Lib.run_next_any_at (P := Tryd.prog) wr w.heap.size s pos ty hit hp
      simp only [Sp.dec_at, hl] at hnx
      have hdc := Sp.drop_cons s pos hp
      rw [hl] at hdc
      obtain ⟨b, hb⟩ : ∃ b, s[pos]'hp = b := ⟨_, rfl⟩
      rw [hb] at hdc
      have ht := fun n hn => dec_tests l b _ hdc n hn
      have hf := HF.out
      rw [hl, hdc, List.all_cons] at hf
      by_cases hok : patB b = true
      · have hk := (patB_iff b).1 hok
        have hasc := Sp.dec_ascii b (s.data.toList.drop (pos + 1)) (by omega)
        rw [← hdc] at hasc
        rw [hasc] at hnx
        simp only [] at hnx
        have hit2 := Lib.iterAt_heap wr w.heap.size s pos (pos + 1) hit
        have hbw2 := Lib.below_iterAt hbw (k := w.heap.size) (Nat.le_refl _) s (pos + 1)
        rw [hok, Bool.true_and] at hf
        have HF2 : Hid (s.data.toList.all patB = (s.data.toList.drop (pos + 1)).all patB) := hf
        obtain ⟨W2, hW2⟩ : ∃ W2, wr.iterAt w.heap.size s (pos + 1) = W2 := ⟨_, rfl⟩
        rw [hW2] at hnx hit2 hbw2
        obtain ⟨c, hc⟩ : ∃ c : Nat, b.toNat = c := ⟨_, rfl⟩
        rw [hc] at hnx hk
        have HIT := Lib.hid hit2
        have HB := Lib.hid hbw2
        clear hit hbw HF hf hdc ht hasc hl hok hb hit2 hbw2 hW2 hc
        rcases hk with rfl | rfl | rfl
        · have q1 : (((48 : Nat) : Int) != 48) = false := by decide
          go_wp2
          go_roundw
          case rel => exact ⟨pos + 1, HIT.out, HB.out, by omega, HF2⟩
          case measure =>
            rw [iterPos_of HIT.out, hpos0]
            omega
        · have q1 : (((49 : Nat) : Int) != 48) = true := by decide
          have q2 : (((49 : Nat) : Int) != 49) = false := by decide
          go_wp2
          go_roundw
          case rel => exact ⟨pos + 1, HIT.out, HB.out, by omega, HF2⟩
          case measure =>
            rw [iterPos_of HIT.out, hpos0]
            omega
        · have q1 : (((120 : Nat) : Int) != 48) = true := by decide
          have q2 : (((120 : Nat) : Int) != 49) = true := by decide
          have q3 : (((120 : Nat) : Int) != 120) = false := by decide
          go_wp2
          go_roundw
          case rel => exact ⟨pos + 1, HIT.out, HB.out, by omega, HF2⟩
          case measure =>
            rw [iterPos_of HIT.out, hpos0]
            omega
      · have hk : ¬ (b.toNat = 48 ∨ b.toNat = 49 ∨ b.toNat = 120) := fun h => hok ((patB_iff b).2 h)
        have hall : s.data.toList.all patB = false := by
          rw [hf]
          simp only [Bool.not_eq_true] at hok
          rw [hok, Bool.false_and]
        have hr := HRES.out
        rw [hall, Bool.false_and, Bool.false_and] at hr
        have t48 := (ht 48 (by omega)).1
        have t49 := (ht 49 (by omega)).1
        have t120 := (ht 120 (by omega)).1
        obtain ⟨c, hc⟩ : ∃ c : Nat, (Sp.dec l).1 = c := ⟨_, rfl⟩
        obtain ⟨k, hk2⟩ : ∃ k : Nat, (Sp.dec l).2 = k := ⟨_, rfl⟩
        rw [hc] at t48 t49 t120
        have q1 : ((c : Int) != 48) = true := by rw [bne_iff_ne]; omega
        have q2 : ((c : Int) != 49) = true := by rw [bne_iff_ne]; omega
        have q3 : ((c : Int) != 120) = true := by rw [bne_iff_ne]; omega
        rw [hc, hk2] at hnx
        have hbw2 := Lib.below_iterAt hbw (k := w.heap.size) (Nat.le_refl _) s (pos + k)
        obtain ⟨W2, hW2⟩ : ∃ W2, wr.iterAt w.heap.size s (pos + k) = W2 := ⟨_, rfl⟩
        rw [hW2] at hnx hbw2
        have HB := Lib.hid hbw2
        have HR := Lib.hid hr
        clear hit hbw HF hf hdc ht hl hok hb hbw2 hW2 hc hall hr t48 t49 t120 hk hk2
        go_wp2
        go_ret
        exact ⟨ret_bool HR.out, HB.out⟩
    · have hnx := fun ty => Lib.run_next_end_at (P := Tryd.prog) wr w.heap.size s pos ty hit hp
      have hall : s.data.toList.all patB = true := by
        rw [HF.out, List.drop_eq_nil_of_le (by rw [← HSL.out]; omega)]
        rfl
      have hr := HRES.out
      rw [hall, Bool.true_and, ← HSL.out] at hr
      have HR := Lib.hid hr
      have hT := HST.out
      by_cases h0 : s.size = 0
      · have q1 : s.toList.isEmpty = true := by rw [hT, List.isEmpty_iff]; exact List.length_eq_zero_iff.1 (by rw [← HSL.out]; exact h0)
        have HR2 : Hid (false = res) := by show _ = _; rw [← HR.out, h0]; rfl
        clear hr hall hT h0 HF
        go_wp2
        go_ret
        exact ⟨ret_bool HR2.out, hbw⟩
      · have q1 : s.toList.isEmpty = false := by
          rw [hT, Bool.eq_false_iff]
          intro h
          rw [List.isEmpty_iff] at h
          have := HSL.out
          rw [h] at this
          exact h0 this
        have HR2 : Hid (decide (s.size ≤ 32) = res) := by
          show _ = _
          rw [← HR.out]
          have : (s.size != 0) = true := by rw [bne_iff_ne]; exact h0
          rw [this, Bool.true_and]
        have hbb := hbw
        clear hr hall hT h0 HF
        go_wp2
        go_ret
        refine ⟨ret_bool ?_, hbb⟩
        rw [← HR2.out, Bool.eq_iff_iff, decide_eq_true_eq, decide_eq_true_eq]
        omega
end Go.Proofs.YtjedoipbllcfdaaDoor
