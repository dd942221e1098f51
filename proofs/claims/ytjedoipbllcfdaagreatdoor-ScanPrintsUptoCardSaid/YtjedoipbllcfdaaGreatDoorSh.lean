/-
  THE WALK of reachref3.apart (chapter 3).
-/
import Derived.Test.YtjedoipbllcfdaaGreatDoorSg
set_option linter.unusedVariables false
set_option linter.unusedSimpArgs false
set_option maxRecDepth 100000
set_option maxHeartbeats 16000000
namespace Go.Proofs.YtjedoipbllcfdaaGreatDoor
open Go.RowKit

/-- Two tokens in their boxes, at whatever world the walk has come to. -/
def At8 (w wr : World) (k l c : Int) (t : ByteArray) (k2 l2 c2 : Int) (t2 : ByteArray) : Prop :=
  Below w.heap.size w wr ∧ w.heap.size + 2 ≤ wr.heap.size ∧ Box8 wr w.heap.size k l c t k2 l2 c2 t2
theorem At8.on {w wr w' : World} {k l c : Int} {t : ByteArray} {k2 l2 c2 : Int} {t2 : ByteArray} (h : At8 w wr k l c t k2 l2 c2 t2) (hb : Below wr.heap.size wr w') : At8 w w' k l c t k2 l2 c2 t2 :=
  ⟨h.1.trans (hb.mono (by have := h.2.1; omega)), Nat.le_trans h.2.1 hb.size, h.2.2.below hb (by have := h.2.1; omega)⟩

theorem ref3_apart (k l c : Int) (t : ByteArray) (k2 l2 c2 : Int) (t2 : ByteArray) (w : World) :
    Calls Tryz.prog 23 #[.agg #[.int .i64 k, .string t, .int .i64 l, .int .i64 c], .agg #[.int .i64 k2, .string t2, .int .i64 l2, .int .i64 c2]] w fun e w' => e = .returned (.bool (Sp.spacedV (k, t.data.toList) (k2, t2.data.toList))) ∧ Below w.heap.size w w' := by
  obtain ⟨R, hR⟩ : ∃ R, Sp.spacedV (k, t.data.toList) (k2, t2.data.toList) = R := ⟨_, rfl⟩
  rw [hR]
  unfold Sp.spacedV at hR
  simp only [] at hR
  obtain ⟨W2, hW2⟩ : ∃ W2, (w.alloc (.cells #[.int .i64 k, .string t, .int .i64 l, .int .i64 c] 25)).alloc (.cells #[.int .i64 k2, .string t2, .int .i64 l2, .int .i64 c2] 25) = W2 := ⟨_, rfl⟩
  have ca : ∀ i, W2.cell? ⟨w.heap.size, i, none⟩ = (#[.int .i64 k, .string t, .int .i64 l, .int .i64 c] : Array Value)[i]? := by
    intro i
    rw [← hW2, World.cell?_alloc_lt _ _ _ (by simp)]
    exact World.cell?_alloc_at _ _ _ _ rfl
  have cb : ∀ i, W2.cell? ⟨w.heap.size + 1, i, none⟩ = (#[.int .i64 k2, .string t2, .int .i64 l2, .int .i64 c2] : Array Value)[i]? := by
    intro i
    rw [← hW2]
    exact World.cell?_alloc_at _ _ _ _ (by simp)
  have hb2 : Below w.heap.size w W2 := by
    rw [← hW2]
    exact ((Below.refl _ _).alloc (Nat.le_refl _) _).alloc (by simp) _
  have hat : At8 w W2 k l c t k2 l2 c2 t2 := ⟨hb2, by rw [← hW2]; simp, ca 0, ca 1, ca 2, ca 3, cb 0, cb 1, cb 2, cb 3⟩
  have HW := Lib.hid hW2
  have HB2 := Lib.hid hb2
  obtain ⟨a0, a1, a2, a3, b0, b1, b2, b3⟩ := hat.2.2
  have hx := Lib.hid hat
  have HR := Lib.hid hR
  clear hW2 ca cb hb2 hat hR
  by_cases hk : k = 1
  · have q0 : ((k : Int) == 1) = true := beq_iff_eq.2 hk
    have hr : false = R := by have h9 := HR.out; simpa [hk] using h9
    have HR2 := Lib.hid hr
    clear hr HR hk
    go_enter Tryz.func23, Tryz.ntmps23
    go_wp2_with fail
    go_ret
    have h9 := HB2.out
    rw [← HW.out] at h9
    exact ⟨ret_bool HR2.out, h9⟩
  have q0 : ((k : Int) == 1) = false := beq_eq_false_iff_ne.2 hk
  by_cases hk2 : k2 = 1
  · have q1 : ((k2 : Int) == 1) = true := beq_iff_eq.2 hk2
    have hr : false = R := by have h9 := HR.out; simpa [hk, hk2] using h9
    have HR2 := Lib.hid hr
    clear hr HR hk hk2
    go_enter Tryz.func23, Tryz.ntmps23
    go_wp2_with fail
    go_ret
    have h9 := HB2.out
    rw [← HW.out] at h9
    exact ⟨ret_bool HR2.out, h9⟩
  have q1 : ((k2 : Int) == 1) = false := beq_eq_false_iff_ne.2 hk2
  by_cases ha1 : Sp.sgn (k, t.data.toList) [40] = true
  · have hr : false = R := by have h9 := HR.out; simpa [hk, hk2, ha1] using h9
    have HR2 := Lib.hid hr
    clear hr HR
    go_enter Tryz.func23, Tryz.ntmps23
    go_wp2_with fail
    rw [HW.out]
    go_wp2_with (go_at_call 32; refine (ref3_sign _ _ _ _ _ _).mono ?_; rintro e wn ⟨rfl, hbn⟩; have hx9 := hx.out.on hbn; clear hx hbn a0 a1 a2 a3 b0 b1 b2 b3; have hx := Lib.hid hx9; obtain ⟨a0, a1, a2, a3, b0, b1, b2, b3⟩ := hx9.2.2; clear hx9)
    go_ret
    exact ⟨ret_bool HR2.out, hx.out.1⟩
  rw [Bool.not_eq_true] at ha1
  by_cases ha2 : Sp.sgn (k, t.data.toList) [47] = true
  · have hr : false = R := by have h9 := HR.out; simpa [hk, hk2, ha1, ha2] using h9
    have HR2 := Lib.hid hr
    clear hr HR
    go_enter Tryz.func23, Tryz.ntmps23
    go_wp2_with fail
    rw [HW.out]
    go_wp2_with (go_at_call 32; refine (ref3_sign _ _ _ _ _ _).mono ?_; rintro e wn ⟨rfl, hbn⟩; have hx9 := hx.out.on hbn; clear hx hbn a0 a1 a2 a3 b0 b1 b2 b3; have hx := Lib.hid hx9; obtain ⟨a0, a1, a2, a3, b0, b1, b2, b3⟩ := hx9.2.2; clear hx9)
    go_ret
    exact ⟨ret_bool HR2.out, hx.out.1⟩
  rw [Bool.not_eq_true] at ha2
  by_cases ha3 : Sp.sgn (k, t.data.toList) [46, 46] = true
  · have hr : false = R := by have h9 := HR.out; simpa [hk, hk2, ha1, ha2, ha3] using h9
    have HR2 := Lib.hid hr
    clear hr HR
    go_enter Tryz.func23, Tryz.ntmps23
    go_wp2_with fail
    rw [HW.out]
    go_wp2_with (go_at_call 32; refine (ref3_sign _ _ _ _ _ _).mono ?_; rintro e wn ⟨rfl, hbn⟩; have hx9 := hx.out.on hbn; clear hx hbn a0 a1 a2 a3 b0 b1 b2 b3; have hx := Lib.hid hx9; obtain ⟨a0, a1, a2, a3, b0, b1, b2, b3⟩ := hx9.2.2; clear hx9)
    go_ret
    exact ⟨ret_bool HR2.out, hx.out.1⟩
  rw [Bool.not_eq_true] at ha3
  by_cases ha4 : Sp.sgn (k, t.data.toList) [58] = true
  · have hr : false = R := by have h9 := HR.out; simpa [hk, hk2, ha1, ha2, ha3, ha4] using h9
    have HR2 := Lib.hid hr
    clear hr HR
    go_enter Tryz.func23, Tryz.ntmps23
    go_wp2_with fail
    rw [HW.out]
    go_wp2_with (go_at_call 32; refine (ref3_sign _ _ _ _ _ _).mono ?_; rintro e wn ⟨rfl, hbn⟩; have hx9 := hx.out.on hbn; clear hx hbn a0 a1 a2 a3 b0 b1 b2 b3; have hx := Lib.hid hx9; obtain ⟨a0, a1, a2, a3, b0, b1, b2, b3⟩ := hx9.2.2; clear hx9)
    go_ret
    exact ⟨ret_bool HR2.out, hx.out.1⟩
  rw [Bool.not_eq_true] at ha4
  by_cases hb1 : Sp.sgn (k2, t2.data.toList) [41] = true
  · have hr : false = R := by have h9 := HR.out; simpa [hk, hk2, ha1, ha2, ha3, ha4, hb1] using h9
    have HR2 := Lib.hid hr
    clear hr HR
    go_enter Tryz.func23, Tryz.ntmps23
    go_wp2_with fail
    rw [HW.out]
    go_wp2_with (go_at_call 32; refine (ref3_sign _ _ _ _ _ _).mono ?_; rintro e wn ⟨rfl, hbn⟩; have hx9 := hx.out.on hbn; clear hx hbn a0 a1 a2 a3 b0 b1 b2 b3; have hx := Lib.hid hx9; obtain ⟨a0, a1, a2, a3, b0, b1, b2, b3⟩ := hx9.2.2; clear hx9)
    go_ret
    exact ⟨ret_bool HR2.out, hx.out.1⟩
  rw [Bool.not_eq_true] at hb1
  by_cases hb2 : Sp.sgn (k2, t2.data.toList) [44] = true
  · have hr : false = R := by have h9 := HR.out; simpa [hk, hk2, ha1, ha2, ha3, ha4, hb1, hb2] using h9
    have HR2 := Lib.hid hr
    clear hr HR
    go_enter Tryz.func23, Tryz.ntmps23
    go_wp2_with fail
    rw [HW.out]
    go_wp2_with (go_at_call 32; refine (ref3_sign _ _ _ _ _ _).mono ?_; rintro e wn ⟨rfl, hbn⟩; have hx9 := hx.out.on hbn; clear hx hbn a0 a1 a2 a3 b0 b1 b2 b3; have hx := Lib.hid hx9; obtain ⟨a0, a1, a2, a3, b0, b1, b2, b3⟩ := hx9.2.2; clear hx9)
    go_ret
    exact ⟨ret_bool HR2.out, hx.out.1⟩
  rw [Bool.not_eq_true] at hb2
  by_cases hb3 : Sp.sgn (k2, t2.data.toList) [47] = true
  · have hr : false = R := by have h9 := HR.out; simpa [hk, hk2, ha1, ha2, ha3, ha4, hb1, hb2, hb3] using h9
    have HR2 := Lib.hid hr
    clear hr HR
    go_enter Tryz.func23, Tryz.ntmps23
    go_wp2_with fail
    rw [HW.out]
    go_wp2_with (go_at_call 32; refine (ref3_sign _ _ _ _ _ _).mono ?_; rintro e wn ⟨rfl, hbn⟩; have hx9 := hx.out.on hbn; clear hx hbn a0 a1 a2 a3 b0 b1 b2 b3; have hx := Lib.hid hx9; obtain ⟨a0, a1, a2, a3, b0, b1, b2, b3⟩ := hx9.2.2; clear hx9)
    go_ret
    exact ⟨ret_bool HR2.out, hx.out.1⟩
  rw [Bool.not_eq_true] at hb3
  by_cases hb4 : Sp.sgn (k2, t2.data.toList) [46, 46] = true
  · have hr : false = R := by have h9 := HR.out; simpa [hk, hk2, ha1, ha2, ha3, ha4, hb1, hb2, hb3, hb4] using h9
    have HR2 := Lib.hid hr
    clear hr HR
    go_enter Tryz.func23, Tryz.ntmps23
    go_wp2_with fail
    rw [HW.out]
    go_wp2_with (go_at_call 32; refine (ref3_sign _ _ _ _ _ _).mono ?_; rintro e wn ⟨rfl, hbn⟩; have hx9 := hx.out.on hbn; clear hx hbn a0 a1 a2 a3 b0 b1 b2 b3; have hx := Lib.hid hx9; obtain ⟨a0, a1, a2, a3, b0, b1, b2, b3⟩ := hx9.2.2; clear hx9)
    go_ret
    exact ⟨ret_bool HR2.out, hx.out.1⟩
  rw [Bool.not_eq_true] at hb4
  by_cases hb5 : Sp.sgn (k2, t2.data.toList) [58] = true
  · have hr : false = R := by have h9 := HR.out; simpa [hk, hk2, ha1, ha2, ha3, ha4, hb1, hb2, hb3, hb4, hb5] using h9
    have HR2 := Lib.hid hr
    clear hr HR
    go_enter Tryz.func23, Tryz.ntmps23
    go_wp2_with fail
    rw [HW.out]
    go_wp2_with (go_at_call 32; refine (ref3_sign _ _ _ _ _ _).mono ?_; rintro e wn ⟨rfl, hbn⟩; have hx9 := hx.out.on hbn; clear hx hbn a0 a1 a2 a3 b0 b1 b2 b3; have hx := Lib.hid hx9; obtain ⟨a0, a1, a2, a3, b0, b1, b2, b3⟩ := hx9.2.2; clear hx9)
    go_ret
    exact ⟨ret_bool HR2.out, hx.out.1⟩
  rw [Bool.not_eq_true] at hb5
  by_cases he1 : Sp.sgn (k, t.data.toList) [33] = true
  rotate_left
  · rw [Bool.not_eq_true] at he1
    have hr : true = R := by have h9 := HR.out; simpa [hk, hk2, ha1, ha2, ha3, ha4, hb1, hb2, hb3, hb4, hb5, he1] using h9
    have HR2 := Lib.hid hr
    clear hr HR
    go_enter Tryz.func23, Tryz.ntmps23
    go_wp2_with fail
    rw [HW.out]
    go_wp2_with (go_at_call 32; refine (ref3_sign _ _ _ _ _ _).mono ?_; rintro e wn ⟨rfl, hbn⟩; have hx9 := hx.out.on hbn; clear hx hbn a0 a1 a2 a3 b0 b1 b2 b3; have hx := Lib.hid hx9; obtain ⟨a0, a1, a2, a3, b0, b1, b2, b3⟩ := hx9.2.2; clear hx9)
    go_ret
    exact ⟨ret_bool HR2.out, hx.out.1⟩
  by_cases hf : k2 = 2
  · have q2 : ((k2 : Int) != 2) = false := by rw [bne_eq_false_iff_eq]; exact hf
    have hr : false = R := by have h9 := HR.out; simpa [hk, hk2, ha1, ha2, ha3, ha4, hb1, hb2, hb3, hb4, hb5, he1, hf] using h9
    have HR2 := Lib.hid hr
    clear hr HR hf
    go_enter Tryz.func23, Tryz.ntmps23
    go_wp2_with fail
    rw [HW.out]
    go_wp2_with (go_at_call 32; refine (ref3_sign _ _ _ _ _ _).mono ?_; rintro e wn ⟨rfl, hbn⟩; have hx9 := hx.out.on hbn; clear hx hbn a0 a1 a2 a3 b0 b1 b2 b3; have hx := Lib.hid hx9; obtain ⟨a0, a1, a2, a3, b0, b1, b2, b3⟩ := hx9.2.2; clear hx9)
    go_ret
    exact ⟨ret_bool HR2.out, hx.out.1⟩
  have q2 : ((k2 : Int) != 2) = true := by rw [bne_iff_ne]; exact hf
  have hfb : (k2 == 2) = false := beq_eq_false_iff_ne.2 hf
  by_cases he2 : Sp.sgn (k2, t2.data.toList) [40] = true
  · have hr : false = R := by have h9 := HR.out; simpa [hk, hk2, ha1, ha2, ha3, ha4, hb1, hb2, hb3, hb4, hb5, he1, hfb, he2] using h9
    have HR2 := Lib.hid hr
    clear hr HR
    go_enter Tryz.func23, Tryz.ntmps23
    go_wp2_with fail
    rw [HW.out]
    go_wp2_with (go_at_call 32; refine (ref3_sign _ _ _ _ _ _).mono ?_; rintro e wn ⟨rfl, hbn⟩; have hx9 := hx.out.on hbn; clear hx hbn a0 a1 a2 a3 b0 b1 b2 b3; have hx := Lib.hid hx9; obtain ⟨a0, a1, a2, a3, b0, b1, b2, b3⟩ := hx9.2.2; clear hx9)
    go_ret
    exact ⟨ret_bool HR2.out, hx.out.1⟩
  rw [Bool.not_eq_true] at he2
  by_cases he3 : Sp.sgn (k2, t2.data.toList) [33] = true
  · have hr : false = R := by have h9 := HR.out; simpa [hk, hk2, ha1, ha2, ha3, ha4, hb1, hb2, hb3, hb4, hb5, he1, hfb, he2, he3] using h9
    have HR2 := Lib.hid hr
    clear hr HR
    go_enter Tryz.func23, Tryz.ntmps23
    go_wp2_with fail
    rw [HW.out]
    go_wp2_with (go_at_call 32; refine (ref3_sign _ _ _ _ _ _).mono ?_; rintro e wn ⟨rfl, hbn⟩; have hx9 := hx.out.on hbn; clear hx hbn a0 a1 a2 a3 b0 b1 b2 b3; have hx := Lib.hid hx9; obtain ⟨a0, a1, a2, a3, b0, b1, b2, b3⟩ := hx9.2.2; clear hx9)
    go_ret
    exact ⟨ret_bool HR2.out, hx.out.1⟩
  rw [Bool.not_eq_true] at he3
  have hr : true = R := by have h9 := HR.out; simpa [hk, hk2, ha1, ha2, ha3, ha4, hb1, hb2, hb3, hb4, hb5, he1, hfb, he2, he3] using h9
  have HR2 := Lib.hid hr
  clear hr HR
  go_enter Tryz.func23, Tryz.ntmps23
  go_wp2_with fail
  rw [HW.out]
  go_wp2_with (go_at_call 32; refine (ref3_sign _ _ _ _ _ _).mono ?_; rintro e wn ⟨rfl, hbn⟩; have hx9 := hx.out.on hbn; clear hx hbn a0 a1 a2 a3 b0 b1 b2 b3; have hx := Lib.hid hx9; obtain ⟨a0, a1, a2, a3, b0, b1, b2, b3⟩ := hx9.2.2; clear hx9)
  go_ret
  exact ⟨ret_bool HR2.out, hx.out.1⟩
end Go.Proofs.YtjedoipbllcfdaaGreatDoor
