/-
  THE WALKS of reachref3.size, one a class of first bytes (written by wip/gen/size.py).
-/
import Derived.Test.YtdmpapoabeljfaaGreatDoorWa
import Derived.Test.YtdmpapoabeljfaaGreatDoorPa
namespace Go.Proofs.YtdmpapoabeljfaaGreatDoor
open Go.RowKit

set_option maxRecDepth 100000 in
set_option maxHeartbeats 1000000 in
theorem ref3_size_A (s : ByteArray) (n : Nat) (w : World) (h1 : n < s.size) (hs : s.size ≤ 4611686018427387904) (c1 : 0 ≤ (s[n]'h1).toNat) (c2 : (s[n]'h1).toNat ≤ 127)  :
    Calls Tryz.prog 83 #[.string s, .int .i64 n] w fun e w' => e = .returned (.tuple #[.int .i64 1, .bool false]) ∧ w = w' := by
  have q0 : decide (((s[n]'h1).toNat : Int) < 128) = true := by simp; omega
  have g0 : decide ((194 : Int) ≤ ((s[n]'h1).toNat : Int)) = false := by simp; omega
  have g1 : decide ((225 : Int) ≤ ((s[n]'h1).toNat : Int)) = false := by simp; omega
  have g2 : decide ((241 : Int) ≤ ((s[n]'h1).toNat : Int)) = false := by simp; omega
  have l0 : decide (((s[n]'h1).toNat : Int) ≤ 223) = true := by simp; omega
  have l1 : decide (((s[n]'h1).toNat : Int) ≤ 239) = true := by simp; omega
  have l2 : decide (((s[n]'h1).toNat : Int) ≤ 243) = true := by simp; omega
  have t0 : (((s[n]'h1).toNat : Int) == 224) = false := beq_eq_false_iff_ne.2 (by omega)
  have t1 : (((s[n]'h1).toNat : Int) == 237) = false := beq_eq_false_iff_ne.2 (by omega)
  have t2 : (((s[n]'h1).toNat : Int) == 240) = false := beq_eq_false_iff_ne.2 (by omega)
  have t3 : (((s[n]'h1).toNat : Int) == 244) = false := beq_eq_false_iff_ne.2 (by omega)
  have n0 : (((s[n]'h1).toNat : Int) != 237) = true := by rw [bne_iff_ne]; omega
  go_enter Tryz.func83, Tryz.ntmps83
  go_wp2_with (go_at_call 102; refine (ref3_within_lit s _ _ _ _ (by omega) (by omega) (by omega) (by omega)).mono ?_; rintro e w' ⟨rfl, rfl⟩)
  go_ret2
  exact ⟨rfl, rfl⟩

set_option maxRecDepth 100000 in
set_option maxHeartbeats 1000000 in
theorem ref3_size_B (s : ByteArray) (n : Nat) (w : World) (h1 : n < s.size) (hs : s.size ≤ 4611686018427387904) (c1 : 128 ≤ (s[n]'h1).toNat) (c2 : (s[n]'h1).toNat ≤ 193)  :
    Calls Tryz.prog 83 #[.string s, .int .i64 n] w fun e w' => e = .returned (.tuple #[.int .i64 1, .bool true]) ∧ w = w' := by
  have q0 : decide (((s[n]'h1).toNat : Int) < 128) = false := by simp; omega
  have g0 : decide ((194 : Int) ≤ ((s[n]'h1).toNat : Int)) = false := by simp; omega
  have g1 : decide ((225 : Int) ≤ ((s[n]'h1).toNat : Int)) = false := by simp; omega
  have g2 : decide ((241 : Int) ≤ ((s[n]'h1).toNat : Int)) = false := by simp; omega
  have l0 : decide (((s[n]'h1).toNat : Int) ≤ 223) = true := by simp; omega
  have l1 : decide (((s[n]'h1).toNat : Int) ≤ 239) = true := by simp; omega
  have l2 : decide (((s[n]'h1).toNat : Int) ≤ 243) = true := by simp; omega
  have t0 : (((s[n]'h1).toNat : Int) == 224) = false := beq_eq_false_iff_ne.2 (by omega)
  have t1 : (((s[n]'h1).toNat : Int) == 237) = false := beq_eq_false_iff_ne.2 (by omega)
  have t2 : (((s[n]'h1).toNat : Int) == 240) = false := beq_eq_false_iff_ne.2 (by omega)
  have t3 : (((s[n]'h1).toNat : Int) == 244) = false := beq_eq_false_iff_ne.2 (by omega)
  have n0 : (((s[n]'h1).toNat : Int) != 237) = true := by rw [bne_iff_ne]; omega
  go_enter Tryz.func83, Tryz.ntmps83
  go_wp2_with (go_at_call 102; refine (ref3_within_lit s _ _ _ _ (by omega) (by omega) (by omega) (by omega)).mono ?_; rintro e w' ⟨rfl, rfl⟩)
  go_ret2
  exact ⟨rfl, rfl⟩

set_option maxRecDepth 100000 in
set_option maxHeartbeats 1000000 in
theorem ref3_size_C0 (s : ByteArray) (n : Nat) (w : World) (h1 : n < s.size) (hs : s.size ≤ 4611686018427387904) (c1 : 194 ≤ (s[n]'h1).toNat) (c2 : (s[n]'h1).toNat ≤ 223) (e0 : Sp.wi s.data.toList (n + 1) 128 191 = false) :
    Calls Tryz.prog 83 #[.string s, .int .i64 n] w fun e w' => e = .returned (.tuple #[.int .i64 1, .bool true]) ∧ w = w' := by
  have q0 : decide (((s[n]'h1).toNat : Int) < 128) = false := by simp; omega
  have g0 : decide ((194 : Int) ≤ ((s[n]'h1).toNat : Int)) = true := by simp; omega
  have g1 : decide ((225 : Int) ≤ ((s[n]'h1).toNat : Int)) = false := by simp; omega
  have g2 : decide ((241 : Int) ≤ ((s[n]'h1).toNat : Int)) = false := by simp; omega
  have l0 : decide (((s[n]'h1).toNat : Int) ≤ 223) = true := by simp; omega
  have l1 : decide (((s[n]'h1).toNat : Int) ≤ 239) = true := by simp; omega
  have l2 : decide (((s[n]'h1).toNat : Int) ≤ 243) = true := by simp; omega
  have t0 : (((s[n]'h1).toNat : Int) == 224) = false := beq_eq_false_iff_ne.2 (by omega)
  have t1 : (((s[n]'h1).toNat : Int) == 237) = false := beq_eq_false_iff_ne.2 (by omega)
  have t2 : (((s[n]'h1).toNat : Int) == 240) = false := beq_eq_false_iff_ne.2 (by omega)
  have t3 : (((s[n]'h1).toNat : Int) == 244) = false := beq_eq_false_iff_ne.2 (by omega)
  have n0 : (((s[n]'h1).toNat : Int) != 237) = true := by rw [bne_iff_ne]; omega
  go_enter Tryz.func83, Tryz.ntmps83
  go_wp2_with (go_at_call 102; refine (ref3_within_lit s _ _ _ _ (by omega) (by omega) (by omega) (by omega)).mono ?_; rintro e w' ⟨rfl, rfl⟩)
  go_ret2
  exact ⟨rfl, rfl⟩

set_option maxRecDepth 100000 in
set_option maxHeartbeats 1000000 in
theorem ref3_size_C1 (s : ByteArray) (n : Nat) (w : World) (h1 : n < s.size) (hs : s.size ≤ 4611686018427387904) (c1 : 194 ≤ (s[n]'h1).toNat) (c2 : (s[n]'h1).toNat ≤ 223) (e0 : Sp.wi s.data.toList (n + 1) 128 191 = true) :
    Calls Tryz.prog 83 #[.string s, .int .i64 n] w fun e w' => e = .returned (.tuple #[.int .i64 2, .bool false]) ∧ w = w' := by
  have q0 : decide (((s[n]'h1).toNat : Int) < 128) = false := by simp; omega
  have g0 : decide ((194 : Int) ≤ ((s[n]'h1).toNat : Int)) = true := by simp; omega
  have g1 : decide ((225 : Int) ≤ ((s[n]'h1).toNat : Int)) = false := by simp; omega
  have g2 : decide ((241 : Int) ≤ ((s[n]'h1).toNat : Int)) = false := by simp; omega
  have l0 : decide (((s[n]'h1).toNat : Int) ≤ 223) = true := by simp; omega
  have l1 : decide (((s[n]'h1).toNat : Int) ≤ 239) = true := by simp; omega
  have l2 : decide (((s[n]'h1).toNat : Int) ≤ 243) = true := by simp; omega
  have t0 : (((s[n]'h1).toNat : Int) == 224) = false := beq_eq_false_iff_ne.2 (by omega)
  have t1 : (((s[n]'h1).toNat : Int) == 237) = false := beq_eq_false_iff_ne.2 (by omega)
  have t2 : (((s[n]'h1).toNat : Int) == 240) = false := beq_eq_false_iff_ne.2 (by omega)
  have t3 : (((s[n]'h1).toNat : Int) == 244) = false := beq_eq_false_iff_ne.2 (by omega)
  have n0 : (((s[n]'h1).toNat : Int) != 237) = true := by rw [bne_iff_ne]; omega
  go_enter Tryz.func83, Tryz.ntmps83
  go_wp2_with (go_at_call 102; refine (ref3_within_lit s _ _ _ _ (by omega) (by omega) (by omega) (by omega)).mono ?_; rintro e w' ⟨rfl, rfl⟩)
  go_ret2
  exact ⟨rfl, rfl⟩

set_option maxRecDepth 100000 in
set_option maxHeartbeats 1000000 in
theorem ref3_size_D0 (s : ByteArray) (n : Nat) (w : World) (h1 : n < s.size) (hs : s.size ≤ 4611686018427387904) (c1 : 224 ≤ (s[n]'h1).toNat) (c2 : (s[n]'h1).toNat ≤ 224) (e0 : Sp.wi s.data.toList (n + 1) 160 191 = false) :
    Calls Tryz.prog 83 #[.string s, .int .i64 n] w fun e w' => e = .returned (.tuple #[.int .i64 1, .bool true]) ∧ w = w' := by
  have q0 : decide (((s[n]'h1).toNat : Int) < 128) = false := by simp; omega
  have g0 : decide ((194 : Int) ≤ ((s[n]'h1).toNat : Int)) = true := by simp; omega
  have g1 : decide ((225 : Int) ≤ ((s[n]'h1).toNat : Int)) = false := by simp; omega
  have g2 : decide ((241 : Int) ≤ ((s[n]'h1).toNat : Int)) = false := by simp; omega
  have l0 : decide (((s[n]'h1).toNat : Int) ≤ 223) = false := by simp; omega
  have l1 : decide (((s[n]'h1).toNat : Int) ≤ 239) = true := by simp; omega
  have l2 : decide (((s[n]'h1).toNat : Int) ≤ 243) = true := by simp; omega
  have t0 : (((s[n]'h1).toNat : Int) == 224) = true := beq_iff_eq.2 (by omega)
  have t1 : (((s[n]'h1).toNat : Int) == 237) = false := beq_eq_false_iff_ne.2 (by omega)
  have t2 : (((s[n]'h1).toNat : Int) == 240) = false := beq_eq_false_iff_ne.2 (by omega)
  have t3 : (((s[n]'h1).toNat : Int) == 244) = false := beq_eq_false_iff_ne.2 (by omega)
  have n0 : (((s[n]'h1).toNat : Int) != 237) = true := by rw [bne_iff_ne]; omega
  go_enter Tryz.func83, Tryz.ntmps83
  go_wp2_with (go_at_call 102; refine (ref3_within_lit s _ _ _ _ (by omega) (by omega) (by omega) (by omega)).mono ?_; rintro e w' ⟨rfl, rfl⟩)
  go_ret2
  exact ⟨rfl, rfl⟩

set_option maxRecDepth 100000 in
set_option maxHeartbeats 1000000 in
theorem ref3_size_D1 (s : ByteArray) (n : Nat) (w : World) (h1 : n < s.size) (hs : s.size ≤ 4611686018427387904) (c1 : 224 ≤ (s[n]'h1).toNat) (c2 : (s[n]'h1).toNat ≤ 224) (e0 : Sp.wi s.data.toList (n + 1) 160 191 = true) (e1 : Sp.wi s.data.toList (n + 2) 128 191 = false) :
    Calls Tryz.prog 83 #[.string s, .int .i64 n] w fun e w' => e = .returned (.tuple #[.int .i64 1, .bool true]) ∧ w = w' := by
  have f1 : Sp.wi s.data.toList ((n : Int) + 2).toNat 128 191 = false := by rw [show ((n : Int) + 2).toNat = n + 2 from by omega]; exact e1
  have q0 : decide (((s[n]'h1).toNat : Int) < 128) = false := by simp; omega
  have g0 : decide ((194 : Int) ≤ ((s[n]'h1).toNat : Int)) = true := by simp; omega
  have g1 : decide ((225 : Int) ≤ ((s[n]'h1).toNat : Int)) = false := by simp; omega
  have g2 : decide ((241 : Int) ≤ ((s[n]'h1).toNat : Int)) = false := by simp; omega
  have l0 : decide (((s[n]'h1).toNat : Int) ≤ 223) = false := by simp; omega
  have l1 : decide (((s[n]'h1).toNat : Int) ≤ 239) = true := by simp; omega
  have l2 : decide (((s[n]'h1).toNat : Int) ≤ 243) = true := by simp; omega
  have t0 : (((s[n]'h1).toNat : Int) == 224) = true := beq_iff_eq.2 (by omega)
  have t1 : (((s[n]'h1).toNat : Int) == 237) = false := beq_eq_false_iff_ne.2 (by omega)
  have t2 : (((s[n]'h1).toNat : Int) == 240) = false := beq_eq_false_iff_ne.2 (by omega)
  have t3 : (((s[n]'h1).toNat : Int) == 244) = false := beq_eq_false_iff_ne.2 (by omega)
  have n0 : (((s[n]'h1).toNat : Int) != 237) = true := by rw [bne_iff_ne]; omega
  go_enter Tryz.func83, Tryz.ntmps83
  go_wp2_with (go_at_call 102; refine (ref3_within_lit s _ _ _ _ (by omega) (by omega) (by omega) (by omega)).mono ?_; rintro e w' ⟨rfl, rfl⟩)
  go_ret2
  exact ⟨rfl, rfl⟩

set_option maxRecDepth 100000 in
set_option maxHeartbeats 1000000 in
theorem ref3_size_D2 (s : ByteArray) (n : Nat) (w : World) (h1 : n < s.size) (hs : s.size ≤ 4611686018427387904) (c1 : 224 ≤ (s[n]'h1).toNat) (c2 : (s[n]'h1).toNat ≤ 224) (e0 : Sp.wi s.data.toList (n + 1) 160 191 = true) (e1 : Sp.wi s.data.toList (n + 2) 128 191 = true) :
    Calls Tryz.prog 83 #[.string s, .int .i64 n] w fun e w' => e = .returned (.tuple #[.int .i64 3, .bool false]) ∧ w = w' := by
  have f1 : Sp.wi s.data.toList ((n : Int) + 2).toNat 128 191 = true := by rw [show ((n : Int) + 2).toNat = n + 2 from by omega]; exact e1
  have q0 : decide (((s[n]'h1).toNat : Int) < 128) = false := by simp; omega
  have g0 : decide ((194 : Int) ≤ ((s[n]'h1).toNat : Int)) = true := by simp; omega
  have g1 : decide ((225 : Int) ≤ ((s[n]'h1).toNat : Int)) = false := by simp; omega
  have g2 : decide ((241 : Int) ≤ ((s[n]'h1).toNat : Int)) = false := by simp; omega
  have l0 : decide (((s[n]'h1).toNat : Int) ≤ 223) = false := by simp; omega
  have l1 : decide (((s[n]'h1).toNat : Int) ≤ 239) = true := by simp; omega
  have l2 : decide (((s[n]'h1).toNat : Int) ≤ 243) = true := by simp; omega
  have t0 : (((s[n]'h1).toNat : Int) == 224) = true := beq_iff_eq.2 (by omega)
  have t1 : (((s[n]'h1).toNat : Int) == 237) = false := beq_eq_false_iff_ne.2 (by omega)
  have t2 : (((s[n]'h1).toNat : Int) == 240) = false := beq_eq_false_iff_ne.2 (by omega)
  have t3 : (((s[n]'h1).toNat : Int) == 244) = false := beq_eq_false_iff_ne.2 (by omega)
  have n0 : (((s[n]'h1).toNat : Int) != 237) = true := by rw [bne_iff_ne]; omega
  go_enter Tryz.func83, Tryz.ntmps83
  go_wp2_with (go_at_call 102; refine (ref3_within_lit s _ _ _ _ (by omega) (by omega) (by omega) (by omega)).mono ?_; rintro e w' ⟨rfl, rfl⟩)
  go_ret2
  exact ⟨rfl, rfl⟩

set_option maxRecDepth 100000 in
set_option maxHeartbeats 1000000 in
theorem ref3_size_E0 (s : ByteArray) (n : Nat) (w : World) (h1 : n < s.size) (hs : s.size ≤ 4611686018427387904) (c1 : 225 ≤ (s[n]'h1).toNat) (c2 : (s[n]'h1).toNat ≤ 236) (e0 : Sp.wi s.data.toList (n + 1) 128 191 = false) :
    Calls Tryz.prog 83 #[.string s, .int .i64 n] w fun e w' => e = .returned (.tuple #[.int .i64 1, .bool true]) ∧ w = w' := by
  have q0 : decide (((s[n]'h1).toNat : Int) < 128) = false := by simp; omega
  have g0 : decide ((194 : Int) ≤ ((s[n]'h1).toNat : Int)) = true := by simp; omega
  have g1 : decide ((225 : Int) ≤ ((s[n]'h1).toNat : Int)) = true := by simp; omega
  have g2 : decide ((241 : Int) ≤ ((s[n]'h1).toNat : Int)) = false := by simp; omega
  have l0 : decide (((s[n]'h1).toNat : Int) ≤ 223) = false := by simp; omega
  have l1 : decide (((s[n]'h1).toNat : Int) ≤ 239) = true := by simp; omega
  have l2 : decide (((s[n]'h1).toNat : Int) ≤ 243) = true := by simp; omega
  have t0 : (((s[n]'h1).toNat : Int) == 224) = false := beq_eq_false_iff_ne.2 (by omega)
  have t1 : (((s[n]'h1).toNat : Int) == 237) = false := beq_eq_false_iff_ne.2 (by omega)
  have t2 : (((s[n]'h1).toNat : Int) == 240) = false := beq_eq_false_iff_ne.2 (by omega)
  have t3 : (((s[n]'h1).toNat : Int) == 244) = false := beq_eq_false_iff_ne.2 (by omega)
  have n0 : (((s[n]'h1).toNat : Int) != 237) = true := by rw [bne_iff_ne]; omega
  go_enter Tryz.func83, Tryz.ntmps83
  go_wp2_with (go_at_call 102; refine (ref3_within_lit s _ _ _ _ (by omega) (by omega) (by omega) (by omega)).mono ?_; rintro e w' ⟨rfl, rfl⟩)
  go_ret2
  exact ⟨rfl, rfl⟩

set_option maxRecDepth 100000 in
set_option maxHeartbeats 1000000 in
theorem ref3_size_E1 (s : ByteArray) (n : Nat) (w : World) (h1 : n < s.size) (hs : s.size ≤ 4611686018427387904) (c1 : 225 ≤ (s[n]'h1).toNat) (c2 : (s[n]'h1).toNat ≤ 236) (e0 : Sp.wi s.data.toList (n + 1) 128 191 = true) (e1 : Sp.wi s.data.toList (n + 2) 128 191 = false) :
    Calls Tryz.prog 83 #[.string s, .int .i64 n] w fun e w' => e = .returned (.tuple #[.int .i64 1, .bool true]) ∧ w = w' := by
  have f1 : Sp.wi s.data.toList ((n : Int) + 2).toNat 128 191 = false := by rw [show ((n : Int) + 2).toNat = n + 2 from by omega]; exact e1
  have q0 : decide (((s[n]'h1).toNat : Int) < 128) = false := by simp; omega
  have g0 : decide ((194 : Int) ≤ ((s[n]'h1).toNat : Int)) = true := by simp; omega
  have g1 : decide ((225 : Int) ≤ ((s[n]'h1).toNat : Int)) = true := by simp; omega
  have g2 : decide ((241 : Int) ≤ ((s[n]'h1).toNat : Int)) = false := by simp; omega
  have l0 : decide (((s[n]'h1).toNat : Int) ≤ 223) = false := by simp; omega
  have l1 : decide (((s[n]'h1).toNat : Int) ≤ 239) = true := by simp; omega
  have l2 : decide (((s[n]'h1).toNat : Int) ≤ 243) = true := by simp; omega
  have t0 : (((s[n]'h1).toNat : Int) == 224) = false := beq_eq_false_iff_ne.2 (by omega)
  have t1 : (((s[n]'h1).toNat : Int) == 237) = false := beq_eq_false_iff_ne.2 (by omega)
  have t2 : (((s[n]'h1).toNat : Int) == 240) = false := beq_eq_false_iff_ne.2 (by omega)
  have t3 : (((s[n]'h1).toNat : Int) == 244) = false := beq_eq_false_iff_ne.2 (by omega)
  have n0 : (((s[n]'h1).toNat : Int) != 237) = true := by rw [bne_iff_ne]; omega
  go_enter Tryz.func83, Tryz.ntmps83
  go_wp2_with (go_at_call 102; refine (ref3_within_lit s _ _ _ _ (by omega) (by omega) (by omega) (by omega)).mono ?_; rintro e w' ⟨rfl, rfl⟩)
  go_ret2
  exact ⟨rfl, rfl⟩

set_option maxRecDepth 100000 in
set_option maxHeartbeats 1000000 in
theorem ref3_size_E2 (s : ByteArray) (n : Nat) (w : World) (h1 : n < s.size) (hs : s.size ≤ 4611686018427387904) (c1 : 225 ≤ (s[n]'h1).toNat) (c2 : (s[n]'h1).toNat ≤ 236) (e0 : Sp.wi s.data.toList (n + 1) 128 191 = true) (e1 : Sp.wi s.data.toList (n + 2) 128 191 = true) :
    Calls Tryz.prog 83 #[.string s, .int .i64 n] w fun e w' => e = .returned (.tuple #[.int .i64 3, .bool false]) ∧ w = w' := by
  have f1 : Sp.wi s.data.toList ((n : Int) + 2).toNat 128 191 = true := by rw [show ((n : Int) + 2).toNat = n + 2 from by omega]; exact e1
  have q0 : decide (((s[n]'h1).toNat : Int) < 128) = false := by simp; omega
  have g0 : decide ((194 : Int) ≤ ((s[n]'h1).toNat : Int)) = true := by simp; omega
  have g1 : decide ((225 : Int) ≤ ((s[n]'h1).toNat : Int)) = true := by simp; omega
  have g2 : decide ((241 : Int) ≤ ((s[n]'h1).toNat : Int)) = false := by simp; omega
  have l0 : decide (((s[n]'h1).toNat : Int) ≤ 223) = false := by simp; omega
  have l1 : decide (((s[n]'h1).toNat : Int) ≤ 239) = true := by simp; omega
  have l2 : decide (((s[n]'h1).toNat : Int) ≤ 243) = true := by simp; omega
  have t0 : (((s[n]'h1).toNat : Int) == 224) = false := beq_eq_false_iff_ne.2 (by omega)
  have t1 : (((s[n]'h1).toNat : Int) == 237) = false := beq_eq_false_iff_ne.2 (by omega)
  have t2 : (((s[n]'h1).toNat : Int) == 240) = false := beq_eq_false_iff_ne.2 (by omega)
  have t3 : (((s[n]'h1).toNat : Int) == 244) = false := beq_eq_false_iff_ne.2 (by omega)
  have n0 : (((s[n]'h1).toNat : Int) != 237) = true := by rw [bne_iff_ne]; omega
  go_enter Tryz.func83, Tryz.ntmps83
  go_wp2_with (go_at_call 102; refine (ref3_within_lit s _ _ _ _ (by omega) (by omega) (by omega) (by omega)).mono ?_; rintro e w' ⟨rfl, rfl⟩)
  go_ret2
  exact ⟨rfl, rfl⟩

set_option maxRecDepth 100000 in
set_option maxHeartbeats 1000000 in
theorem ref3_size_F0 (s : ByteArray) (n : Nat) (w : World) (h1 : n < s.size) (hs : s.size ≤ 4611686018427387904) (c1 : 237 ≤ (s[n]'h1).toNat) (c2 : (s[n]'h1).toNat ≤ 237) (e0 : Sp.wi s.data.toList (n + 1) 128 159 = false) :
    Calls Tryz.prog 83 #[.string s, .int .i64 n] w fun e w' => e = .returned (.tuple #[.int .i64 1, .bool true]) ∧ w = w' := by
  have q0 : decide (((s[n]'h1).toNat : Int) < 128) = false := by simp; omega
  have g0 : decide ((194 : Int) ≤ ((s[n]'h1).toNat : Int)) = true := by simp; omega
  have g1 : decide ((225 : Int) ≤ ((s[n]'h1).toNat : Int)) = true := by simp; omega
  have g2 : decide ((241 : Int) ≤ ((s[n]'h1).toNat : Int)) = false := by simp; omega
  have l0 : decide (((s[n]'h1).toNat : Int) ≤ 223) = false := by simp; omega
  have l1 : decide (((s[n]'h1).toNat : Int) ≤ 239) = true := by simp; omega
  have l2 : decide (((s[n]'h1).toNat : Int) ≤ 243) = true := by simp; omega
  have t0 : (((s[n]'h1).toNat : Int) == 224) = false := beq_eq_false_iff_ne.2 (by omega)
  have t1 : (((s[n]'h1).toNat : Int) == 237) = true := beq_iff_eq.2 (by omega)
  have t2 : (((s[n]'h1).toNat : Int) == 240) = false := beq_eq_false_iff_ne.2 (by omega)
  have t3 : (((s[n]'h1).toNat : Int) == 244) = false := beq_eq_false_iff_ne.2 (by omega)
  have n0 : (((s[n]'h1).toNat : Int) != 237) = false := by rw [bne_eq_false_iff_eq]; omega
  go_enter Tryz.func83, Tryz.ntmps83
  go_wp2_with (go_at_call 102; refine (ref3_within_lit s _ _ _ _ (by omega) (by omega) (by omega) (by omega)).mono ?_; rintro e w' ⟨rfl, rfl⟩)
  go_ret2
  exact ⟨rfl, rfl⟩

set_option maxRecDepth 100000 in
set_option maxHeartbeats 1000000 in
theorem ref3_size_F1 (s : ByteArray) (n : Nat) (w : World) (h1 : n < s.size) (hs : s.size ≤ 4611686018427387904) (c1 : 237 ≤ (s[n]'h1).toNat) (c2 : (s[n]'h1).toNat ≤ 237) (e0 : Sp.wi s.data.toList (n + 1) 128 159 = true) (e1 : Sp.wi s.data.toList (n + 2) 128 191 = false) :
    Calls Tryz.prog 83 #[.string s, .int .i64 n] w fun e w' => e = .returned (.tuple #[.int .i64 1, .bool true]) ∧ w = w' := by
  have f1 : Sp.wi s.data.toList ((n : Int) + 2).toNat 128 191 = false := by rw [show ((n : Int) + 2).toNat = n + 2 from by omega]; exact e1
  have q0 : decide (((s[n]'h1).toNat : Int) < 128) = false := by simp; omega
  have g0 : decide ((194 : Int) ≤ ((s[n]'h1).toNat : Int)) = true := by simp; omega
  have g1 : decide ((225 : Int) ≤ ((s[n]'h1).toNat : Int)) = true := by simp; omega
  have g2 : decide ((241 : Int) ≤ ((s[n]'h1).toNat : Int)) = false := by simp; omega
  have l0 : decide (((s[n]'h1).toNat : Int) ≤ 223) = false := by simp; omega
  have l1 : decide (((s[n]'h1).toNat : Int) ≤ 239) = true := by simp; omega
  have l2 : decide (((s[n]'h1).toNat : Int) ≤ 243) = true := by simp; omega
  have t0 : (((s[n]'h1).toNat : Int) == 224) = false := beq_eq_false_iff_ne.2 (by omega)
  have t1 : (((s[n]'h1).toNat : Int) == 237) = true := beq_iff_eq.2 (by omega)
  have t2 : (((s[n]'h1).toNat : Int) == 240) = false := beq_eq_false_iff_ne.2 (by omega)
  have t3 : (((s[n]'h1).toNat : Int) == 244) = false := beq_eq_false_iff_ne.2 (by omega)
  have n0 : (((s[n]'h1).toNat : Int) != 237) = false := by rw [bne_eq_false_iff_eq]; omega
  go_enter Tryz.func83, Tryz.ntmps83
  go_wp2_with (go_at_call 102; refine (ref3_within_lit s _ _ _ _ (by omega) (by omega) (by omega) (by omega)).mono ?_; rintro e w' ⟨rfl, rfl⟩)
  go_ret2
  exact ⟨rfl, rfl⟩

set_option maxRecDepth 100000 in
set_option maxHeartbeats 1000000 in
theorem ref3_size_F2 (s : ByteArray) (n : Nat) (w : World) (h1 : n < s.size) (hs : s.size ≤ 4611686018427387904) (c1 : 237 ≤ (s[n]'h1).toNat) (c2 : (s[n]'h1).toNat ≤ 237) (e0 : Sp.wi s.data.toList (n + 1) 128 159 = true) (e1 : Sp.wi s.data.toList (n + 2) 128 191 = true) :
    Calls Tryz.prog 83 #[.string s, .int .i64 n] w fun e w' => e = .returned (.tuple #[.int .i64 3, .bool false]) ∧ w = w' := by
  have f1 : Sp.wi s.data.toList ((n : Int) + 2).toNat 128 191 = true := by rw [show ((n : Int) + 2).toNat = n + 2 from by omega]; exact e1
  have q0 : decide (((s[n]'h1).toNat : Int) < 128) = false := by simp; omega
  have g0 : decide ((194 : Int) ≤ ((s[n]'h1).toNat : Int)) = true := by simp; omega
  have g1 : decide ((225 : Int) ≤ ((s[n]'h1).toNat : Int)) = true := by simp; omega
  have g2 : decide ((241 : Int) ≤ ((s[n]'h1).toNat : Int)) = false := by simp; omega
  have l0 : decide (((s[n]'h1).toNat : Int) ≤ 223) = false := by simp; omega
  have l1 : decide (((s[n]'h1).toNat : Int) ≤ 239) = true := by simp; omega
  have l2 : decide (((s[n]'h1).toNat : Int) ≤ 243) = true := by simp; omega
  have t0 : (((s[n]'h1).toNat : Int) == 224) = false := beq_eq_false_iff_ne.2 (by omega)
  have t1 : (((s[n]'h1).toNat : Int) == 237) = true := beq_iff_eq.2 (by omega)
  have t2 : (((s[n]'h1).toNat : Int) == 240) = false := beq_eq_false_iff_ne.2 (by omega)
  have t3 : (((s[n]'h1).toNat : Int) == 244) = false := beq_eq_false_iff_ne.2 (by omega)
  have n0 : (((s[n]'h1).toNat : Int) != 237) = false := by rw [bne_eq_false_iff_eq]; omega
  go_enter Tryz.func83, Tryz.ntmps83
  go_wp2_with (go_at_call 102; refine (ref3_within_lit s _ _ _ _ (by omega) (by omega) (by omega) (by omega)).mono ?_; rintro e w' ⟨rfl, rfl⟩)
  go_ret2
  exact ⟨rfl, rfl⟩

set_option maxRecDepth 100000 in
set_option maxHeartbeats 1000000 in
theorem ref3_size_G0 (s : ByteArray) (n : Nat) (w : World) (h1 : n < s.size) (hs : s.size ≤ 4611686018427387904) (c1 : 238 ≤ (s[n]'h1).toNat) (c2 : (s[n]'h1).toNat ≤ 239) (e0 : Sp.wi s.data.toList (n + 1) 128 191 = false) :
    Calls Tryz.prog 83 #[.string s, .int .i64 n] w fun e w' => e = .returned (.tuple #[.int .i64 1, .bool true]) ∧ w = w' := by
  have q0 : decide (((s[n]'h1).toNat : Int) < 128) = false := by simp; omega
  have g0 : decide ((194 : Int) ≤ ((s[n]'h1).toNat : Int)) = true := by simp; omega
  have g1 : decide ((225 : Int) ≤ ((s[n]'h1).toNat : Int)) = true := by simp; omega
  have g2 : decide ((241 : Int) ≤ ((s[n]'h1).toNat : Int)) = false := by simp; omega
  have l0 : decide (((s[n]'h1).toNat : Int) ≤ 223) = false := by simp; omega
  have l1 : decide (((s[n]'h1).toNat : Int) ≤ 239) = true := by simp; omega
  have l2 : decide (((s[n]'h1).toNat : Int) ≤ 243) = true := by simp; omega
  have t0 : (((s[n]'h1).toNat : Int) == 224) = false := beq_eq_false_iff_ne.2 (by omega)
  have t1 : (((s[n]'h1).toNat : Int) == 237) = false := beq_eq_false_iff_ne.2 (by omega)
  have t2 : (((s[n]'h1).toNat : Int) == 240) = false := beq_eq_false_iff_ne.2 (by omega)
  have t3 : (((s[n]'h1).toNat : Int) == 244) = false := beq_eq_false_iff_ne.2 (by omega)
  have n0 : (((s[n]'h1).toNat : Int) != 237) = true := by rw [bne_iff_ne]; omega
  go_enter Tryz.func83, Tryz.ntmps83
  go_wp2_with (go_at_call 102; refine (ref3_within_lit s _ _ _ _ (by omega) (by omega) (by omega) (by omega)).mono ?_; rintro e w' ⟨rfl, rfl⟩)
  go_ret2
  exact ⟨rfl, rfl⟩

set_option maxRecDepth 100000 in
set_option maxHeartbeats 1000000 in
theorem ref3_size_G1 (s : ByteArray) (n : Nat) (w : World) (h1 : n < s.size) (hs : s.size ≤ 4611686018427387904) (c1 : 238 ≤ (s[n]'h1).toNat) (c2 : (s[n]'h1).toNat ≤ 239) (e0 : Sp.wi s.data.toList (n + 1) 128 191 = true) (e1 : Sp.wi s.data.toList (n + 2) 128 191 = false) :
    Calls Tryz.prog 83 #[.string s, .int .i64 n] w fun e w' => e = .returned (.tuple #[.int .i64 1, .bool true]) ∧ w = w' := by
  have f1 : Sp.wi s.data.toList ((n : Int) + 2).toNat 128 191 = false := by rw [show ((n : Int) + 2).toNat = n + 2 from by omega]; exact e1
  have q0 : decide (((s[n]'h1).toNat : Int) < 128) = false := by simp; omega
  have g0 : decide ((194 : Int) ≤ ((s[n]'h1).toNat : Int)) = true := by simp; omega
  have g1 : decide ((225 : Int) ≤ ((s[n]'h1).toNat : Int)) = true := by simp; omega
  have g2 : decide ((241 : Int) ≤ ((s[n]'h1).toNat : Int)) = false := by simp; omega
  have l0 : decide (((s[n]'h1).toNat : Int) ≤ 223) = false := by simp; omega
  have l1 : decide (((s[n]'h1).toNat : Int) ≤ 239) = true := by simp; omega
  have l2 : decide (((s[n]'h1).toNat : Int) ≤ 243) = true := by simp; omega
  have t0 : (((s[n]'h1).toNat : Int) == 224) = false := beq_eq_false_iff_ne.2 (by omega)
  have t1 : (((s[n]'h1).toNat : Int) == 237) = false := beq_eq_false_iff_ne.2 (by omega)
  have t2 : (((s[n]'h1).toNat : Int) == 240) = false := beq_eq_false_iff_ne.2 (by omega)
  have t3 : (((s[n]'h1).toNat : Int) == 244) = false := beq_eq_false_iff_ne.2 (by omega)
  have n0 : (((s[n]'h1).toNat : Int) != 237) = true := by rw [bne_iff_ne]; omega
  go_enter Tryz.func83, Tryz.ntmps83
  go_wp2_with (go_at_call 102; refine (ref3_within_lit s _ _ _ _ (by omega) (by omega) (by omega) (by omega)).mono ?_; rintro e w' ⟨rfl, rfl⟩)
  go_ret2
  exact ⟨rfl, rfl⟩

set_option maxRecDepth 100000 in
set_option maxHeartbeats 1000000 in
theorem ref3_size_G2 (s : ByteArray) (n : Nat) (w : World) (h1 : n < s.size) (hs : s.size ≤ 4611686018427387904) (c1 : 238 ≤ (s[n]'h1).toNat) (c2 : (s[n]'h1).toNat ≤ 239) (e0 : Sp.wi s.data.toList (n + 1) 128 191 = true) (e1 : Sp.wi s.data.toList (n + 2) 128 191 = true) :
    Calls Tryz.prog 83 #[.string s, .int .i64 n] w fun e w' => e = .returned (.tuple #[.int .i64 3, .bool false]) ∧ w = w' := by
  have f1 : Sp.wi s.data.toList ((n : Int) + 2).toNat 128 191 = true := by rw [show ((n : Int) + 2).toNat = n + 2 from by omega]; exact e1
  have q0 : decide (((s[n]'h1).toNat : Int) < 128) = false := by simp; omega
  have g0 : decide ((194 : Int) ≤ ((s[n]'h1).toNat : Int)) = true := by simp; omega
  have g1 : decide ((225 : Int) ≤ ((s[n]'h1).toNat : Int)) = true := by simp; omega
  have g2 : decide ((241 : Int) ≤ ((s[n]'h1).toNat : Int)) = false := by simp; omega
  have l0 : decide (((s[n]'h1).toNat : Int) ≤ 223) = false := by simp; omega
  have l1 : decide (((s[n]'h1).toNat : Int) ≤ 239) = true := by simp; omega
  have l2 : decide (((s[n]'h1).toNat : Int) ≤ 243) = true := by simp; omega
  have t0 : (((s[n]'h1).toNat : Int) == 224) = false := beq_eq_false_iff_ne.2 (by omega)
  have t1 : (((s[n]'h1).toNat : Int) == 237) = false := beq_eq_false_iff_ne.2 (by omega)
  have t2 : (((s[n]'h1).toNat : Int) == 240) = false := beq_eq_false_iff_ne.2 (by omega)
  have t3 : (((s[n]'h1).toNat : Int) == 244) = false := beq_eq_false_iff_ne.2 (by omega)
  have n0 : (((s[n]'h1).toNat : Int) != 237) = true := by rw [bne_iff_ne]; omega
  go_enter Tryz.func83, Tryz.ntmps83
  go_wp2_with (go_at_call 102; refine (ref3_within_lit s _ _ _ _ (by omega) (by omega) (by omega) (by omega)).mono ?_; rintro e w' ⟨rfl, rfl⟩)
  go_ret2
  exact ⟨rfl, rfl⟩

set_option maxRecDepth 100000 in
set_option maxHeartbeats 1000000 in
theorem ref3_size_H0 (s : ByteArray) (n : Nat) (w : World) (h1 : n < s.size) (hs : s.size ≤ 4611686018427387904) (c1 : 240 ≤ (s[n]'h1).toNat) (c2 : (s[n]'h1).toNat ≤ 240) (e0 : Sp.wi s.data.toList (n + 1) 144 191 = false) :
    Calls Tryz.prog 83 #[.string s, .int .i64 n] w fun e w' => e = .returned (.tuple #[.int .i64 1, .bool true]) ∧ w = w' := by
  have q0 : decide (((s[n]'h1).toNat : Int) < 128) = false := by simp; omega
  have g0 : decide ((194 : Int) ≤ ((s[n]'h1).toNat : Int)) = true := by simp; omega
  have g1 : decide ((225 : Int) ≤ ((s[n]'h1).toNat : Int)) = true := by simp; omega
  have g2 : decide ((241 : Int) ≤ ((s[n]'h1).toNat : Int)) = false := by simp; omega
  have l0 : decide (((s[n]'h1).toNat : Int) ≤ 223) = false := by simp; omega
  have l1 : decide (((s[n]'h1).toNat : Int) ≤ 239) = false := by simp; omega
  have l2 : decide (((s[n]'h1).toNat : Int) ≤ 243) = true := by simp; omega
  have t0 : (((s[n]'h1).toNat : Int) == 224) = false := beq_eq_false_iff_ne.2 (by omega)
  have t1 : (((s[n]'h1).toNat : Int) == 237) = false := beq_eq_false_iff_ne.2 (by omega)
  have t2 : (((s[n]'h1).toNat : Int) == 240) = true := beq_iff_eq.2 (by omega)
  have t3 : (((s[n]'h1).toNat : Int) == 244) = false := beq_eq_false_iff_ne.2 (by omega)
  have n0 : (((s[n]'h1).toNat : Int) != 237) = true := by rw [bne_iff_ne]; omega
  go_enter Tryz.func83, Tryz.ntmps83
  go_wp2_with (go_at_call 102; refine (ref3_within_lit s _ _ _ _ (by omega) (by omega) (by omega) (by omega)).mono ?_; rintro e w' ⟨rfl, rfl⟩)
  go_ret2
  exact ⟨rfl, rfl⟩

set_option maxRecDepth 100000 in
set_option maxHeartbeats 1000000 in
theorem ref3_size_H1 (s : ByteArray) (n : Nat) (w : World) (h1 : n < s.size) (hs : s.size ≤ 4611686018427387904) (c1 : 240 ≤ (s[n]'h1).toNat) (c2 : (s[n]'h1).toNat ≤ 240) (e0 : Sp.wi s.data.toList (n + 1) 144 191 = true) (e1 : Sp.wi s.data.toList (n + 2) 128 191 = false) :
    Calls Tryz.prog 83 #[.string s, .int .i64 n] w fun e w' => e = .returned (.tuple #[.int .i64 1, .bool true]) ∧ w = w' := by
  have f1 : Sp.wi s.data.toList ((n : Int) + 2).toNat 128 191 = false := by rw [show ((n : Int) + 2).toNat = n + 2 from by omega]; exact e1
  have q0 : decide (((s[n]'h1).toNat : Int) < 128) = false := by simp; omega
  have g0 : decide ((194 : Int) ≤ ((s[n]'h1).toNat : Int)) = true := by simp; omega
  have g1 : decide ((225 : Int) ≤ ((s[n]'h1).toNat : Int)) = true := by simp; omega
  have g2 : decide ((241 : Int) ≤ ((s[n]'h1).toNat : Int)) = false := by simp; omega
  have l0 : decide (((s[n]'h1).toNat : Int) ≤ 223) = false := by simp; omega
  have l1 : decide (((s[n]'h1).toNat : Int) ≤ 239) = false := by simp; omega
  have l2 : decide (((s[n]'h1).toNat : Int) ≤ 243) = true := by simp; omega
  have t0 : (((s[n]'h1).toNat : Int) == 224) = false := beq_eq_false_iff_ne.2 (by omega)
  have t1 : (((s[n]'h1).toNat : Int) == 237) = false := beq_eq_false_iff_ne.2 (by omega)
  have t2 : (((s[n]'h1).toNat : Int) == 240) = true := beq_iff_eq.2 (by omega)
  have t3 : (((s[n]'h1).toNat : Int) == 244) = false := beq_eq_false_iff_ne.2 (by omega)
  have n0 : (((s[n]'h1).toNat : Int) != 237) = true := by rw [bne_iff_ne]; omega
  go_enter Tryz.func83, Tryz.ntmps83
  go_wp2_with (go_at_call 102; refine (ref3_within_lit s _ _ _ _ (by omega) (by omega) (by omega) (by omega)).mono ?_; rintro e w' ⟨rfl, rfl⟩)
  go_ret2
  exact ⟨rfl, rfl⟩

set_option maxRecDepth 100000 in
set_option maxHeartbeats 1000000 in
theorem ref3_size_H2 (s : ByteArray) (n : Nat) (w : World) (h1 : n < s.size) (hs : s.size ≤ 4611686018427387904) (c1 : 240 ≤ (s[n]'h1).toNat) (c2 : (s[n]'h1).toNat ≤ 240) (e0 : Sp.wi s.data.toList (n + 1) 144 191 = true) (e1 : Sp.wi s.data.toList (n + 2) 128 191 = true) (e2 : Sp.wi s.data.toList (n + 3) 128 191 = false) :
    Calls Tryz.prog 83 #[.string s, .int .i64 n] w fun e w' => e = .returned (.tuple #[.int .i64 1, .bool true]) ∧ w = w' := by
  have f1 : Sp.wi s.data.toList ((n : Int) + 2).toNat 128 191 = true := by rw [show ((n : Int) + 2).toNat = n + 2 from by omega]; exact e1
  have f2 : Sp.wi s.data.toList ((n : Int) + 3).toNat 128 191 = false := by rw [show ((n : Int) + 3).toNat = n + 3 from by omega]; exact e2
  have q0 : decide (((s[n]'h1).toNat : Int) < 128) = false := by simp; omega
  have g0 : decide ((194 : Int) ≤ ((s[n]'h1).toNat : Int)) = true := by simp; omega
  have g1 : decide ((225 : Int) ≤ ((s[n]'h1).toNat : Int)) = true := by simp; omega
  have g2 : decide ((241 : Int) ≤ ((s[n]'h1).toNat : Int)) = false := by simp; omega
  have l0 : decide (((s[n]'h1).toNat : Int) ≤ 223) = false := by simp; omega
  have l1 : decide (((s[n]'h1).toNat : Int) ≤ 239) = false := by simp; omega
  have l2 : decide (((s[n]'h1).toNat : Int) ≤ 243) = true := by simp; omega
  have t0 : (((s[n]'h1).toNat : Int) == 224) = false := beq_eq_false_iff_ne.2 (by omega)
  have t1 : (((s[n]'h1).toNat : Int) == 237) = false := beq_eq_false_iff_ne.2 (by omega)
  have t2 : (((s[n]'h1).toNat : Int) == 240) = true := beq_iff_eq.2 (by omega)
  have t3 : (((s[n]'h1).toNat : Int) == 244) = false := beq_eq_false_iff_ne.2 (by omega)
  have n0 : (((s[n]'h1).toNat : Int) != 237) = true := by rw [bne_iff_ne]; omega
  go_enter Tryz.func83, Tryz.ntmps83
  go_wp2_with (go_at_call 102; refine (ref3_within_lit s _ _ _ _ (by omega) (by omega) (by omega) (by omega)).mono ?_; rintro e w' ⟨rfl, rfl⟩)
  go_ret2
  exact ⟨rfl, rfl⟩

set_option maxRecDepth 100000 in
set_option maxHeartbeats 1000000 in
theorem ref3_size_H3 (s : ByteArray) (n : Nat) (w : World) (h1 : n < s.size) (hs : s.size ≤ 4611686018427387904) (c1 : 240 ≤ (s[n]'h1).toNat) (c2 : (s[n]'h1).toNat ≤ 240) (e0 : Sp.wi s.data.toList (n + 1) 144 191 = true) (e1 : Sp.wi s.data.toList (n + 2) 128 191 = true) (e2 : Sp.wi s.data.toList (n + 3) 128 191 = true) :
    Calls Tryz.prog 83 #[.string s, .int .i64 n] w fun e w' => e = .returned (.tuple #[.int .i64 4, .bool false]) ∧ w = w' := by
  have f1 : Sp.wi s.data.toList ((n : Int) + 2).toNat 128 191 = true := by rw [show ((n : Int) + 2).toNat = n + 2 from by omega]; exact e1
  have f2 : Sp.wi s.data.toList ((n : Int) + 3).toNat 128 191 = true := by rw [show ((n : Int) + 3).toNat = n + 3 from by omega]; exact e2
  have q0 : decide (((s[n]'h1).toNat : Int) < 128) = false := by simp; omega
  have g0 : decide ((194 : Int) ≤ ((s[n]'h1).toNat : Int)) = true := by simp; omega
  have g1 : decide ((225 : Int) ≤ ((s[n]'h1).toNat : Int)) = true := by simp; omega
  have g2 : decide ((241 : Int) ≤ ((s[n]'h1).toNat : Int)) = false := by simp; omega
  have l0 : decide (((s[n]'h1).toNat : Int) ≤ 223) = false := by simp; omega
  have l1 : decide (((s[n]'h1).toNat : Int) ≤ 239) = false := by simp; omega
  have l2 : decide (((s[n]'h1).toNat : Int) ≤ 243) = true := by simp; omega
  have t0 : (((s[n]'h1).toNat : Int) == 224) = false := beq_eq_false_iff_ne.2 (by omega)
  have t1 : (((s[n]'h1).toNat : Int) == 237) = false := beq_eq_false_iff_ne.2 (by omega)
  have t2 : (((s[n]'h1).toNat : Int) == 240) = true := beq_iff_eq.2 (by omega)
  have t3 : (((s[n]'h1).toNat : Int) == 244) = false := beq_eq_false_iff_ne.2 (by omega)
  have n0 : (((s[n]'h1).toNat : Int) != 237) = true := by rw [bne_iff_ne]; omega
  go_enter Tryz.func83, Tryz.ntmps83
  go_wp2_with (go_at_call 102; refine (ref3_within_lit s _ _ _ _ (by omega) (by omega) (by omega) (by omega)).mono ?_; rintro e w' ⟨rfl, rfl⟩)
  go_ret2
  exact ⟨rfl, rfl⟩

set_option maxRecDepth 100000 in
set_option maxHeartbeats 1000000 in
theorem ref3_size_I0 (s : ByteArray) (n : Nat) (w : World) (h1 : n < s.size) (hs : s.size ≤ 4611686018427387904) (c1 : 241 ≤ (s[n]'h1).toNat) (c2 : (s[n]'h1).toNat ≤ 243) (e0 : Sp.wi s.data.toList (n + 1) 128 191 = false) :
    Calls Tryz.prog 83 #[.string s, .int .i64 n] w fun e w' => e = .returned (.tuple #[.int .i64 1, .bool true]) ∧ w = w' := by
  have q0 : decide (((s[n]'h1).toNat : Int) < 128) = false := by simp; omega
  have g0 : decide ((194 : Int) ≤ ((s[n]'h1).toNat : Int)) = true := by simp; omega
  have g1 : decide ((225 : Int) ≤ ((s[n]'h1).toNat : Int)) = true := by simp; omega
  have g2 : decide ((241 : Int) ≤ ((s[n]'h1).toNat : Int)) = true := by simp; omega
  have l0 : decide (((s[n]'h1).toNat : Int) ≤ 223) = false := by simp; omega
  have l1 : decide (((s[n]'h1).toNat : Int) ≤ 239) = false := by simp; omega
  have l2 : decide (((s[n]'h1).toNat : Int) ≤ 243) = true := by simp; omega
  have t0 : (((s[n]'h1).toNat : Int) == 224) = false := beq_eq_false_iff_ne.2 (by omega)
  have t1 : (((s[n]'h1).toNat : Int) == 237) = false := beq_eq_false_iff_ne.2 (by omega)
  have t2 : (((s[n]'h1).toNat : Int) == 240) = false := beq_eq_false_iff_ne.2 (by omega)
  have t3 : (((s[n]'h1).toNat : Int) == 244) = false := beq_eq_false_iff_ne.2 (by omega)
  have n0 : (((s[n]'h1).toNat : Int) != 237) = true := by rw [bne_iff_ne]; omega
  go_enter Tryz.func83, Tryz.ntmps83
  go_wp2_with (go_at_call 102; refine (ref3_within_lit s _ _ _ _ (by omega) (by omega) (by omega) (by omega)).mono ?_; rintro e w' ⟨rfl, rfl⟩)
  go_ret2
  exact ⟨rfl, rfl⟩

set_option maxRecDepth 100000 in
set_option maxHeartbeats 1000000 in
theorem ref3_size_I1 (s : ByteArray) (n : Nat) (w : World) (h1 : n < s.size) (hs : s.size ≤ 4611686018427387904) (c1 : 241 ≤ (s[n]'h1).toNat) (c2 : (s[n]'h1).toNat ≤ 243) (e0 : Sp.wi s.data.toList (n + 1) 128 191 = true) (e1 : Sp.wi s.data.toList (n + 2) 128 191 = false) :
    Calls Tryz.prog 83 #[.string s, .int .i64 n] w fun e w' => e = .returned (.tuple #[.int .i64 1, .bool true]) ∧ w = w' := by
  have f1 : Sp.wi s.data.toList ((n : Int) + 2).toNat 128 191 = false := by rw [show ((n : Int) + 2).toNat = n + 2 from by omega]; exact e1
  have q0 : decide (((s[n]'h1).toNat : Int) < 128) = false := by simp; omega
  have g0 : decide ((194 : Int) ≤ ((s[n]'h1).toNat : Int)) = true := by simp; omega
  have g1 : decide ((225 : Int) ≤ ((s[n]'h1).toNat : Int)) = true := by simp; omega
  have g2 : decide ((241 : Int) ≤ ((s[n]'h1).toNat : Int)) = true := by simp; omega
  have l0 : decide (((s[n]'h1).toNat : Int) ≤ 223) = false := by simp; omega
  have l1 : decide (((s[n]'h1).toNat : Int) ≤ 239) = false := by simp; omega
  have l2 : decide (((s[n]'h1).toNat : Int) ≤ 243) = true := by simp; omega
  have t0 : (((s[n]'h1).toNat : Int) == 224) = false := beq_eq_false_iff_ne.2 (by omega)
  have t1 : (((s[n]'h1).toNat : Int) == 237) = false := beq_eq_false_iff_ne.2 (by omega)
  have t2 : (((s[n]'h1).toNat : Int) == 240) = false := beq_eq_false_iff_ne.2 (by omega)
  have t3 : (((s[n]'h1).toNat : Int) == 244) = false := beq_eq_false_iff_ne.2 (by omega)
  have n0 : (((s[n]'h1).toNat : Int) != 237) = true := by rw [bne_iff_ne]; omega
  go_enter Tryz.func83, Tryz.ntmps83
  go_wp2_with (go_at_call 102; refine (ref3_within_lit s _ _ _ _ (by omega) (by omega) (by omega) (by omega)).mono ?_; rintro e w' ⟨rfl, rfl⟩)
  go_ret2
  exact ⟨rfl, rfl⟩

set_option maxRecDepth 100000 in
set_option maxHeartbeats 1000000 in
theorem ref3_size_I2 (s : ByteArray) (n : Nat) (w : World) (h1 : n < s.size) (hs : s.size ≤ 4611686018427387904) (c1 : 241 ≤ (s[n]'h1).toNat) (c2 : (s[n]'h1).toNat ≤ 243) (e0 : Sp.wi s.data.toList (n + 1) 128 191 = true) (e1 : Sp.wi s.data.toList (n + 2) 128 191 = true) (e2 : Sp.wi s.data.toList (n + 3) 128 191 = false) :
    Calls Tryz.prog 83 #[.string s, .int .i64 n] w fun e w' => e = .returned (.tuple #[.int .i64 1, .bool true]) ∧ w = w' := by
  have f1 : Sp.wi s.data.toList ((n : Int) + 2).toNat 128 191 = true := by rw [show ((n : Int) + 2).toNat = n + 2 from by omega]; exact e1
  have f2 : Sp.wi s.data.toList ((n : Int) + 3).toNat 128 191 = false := by rw [show ((n : Int) + 3).toNat = n + 3 from by omega]; exact e2
  have q0 : decide (((s[n]'h1).toNat : Int) < 128) = false := by simp; omega
  have g0 : decide ((194 : Int) ≤ ((s[n]'h1).toNat : Int)) = true := by simp; omega
  have g1 : decide ((225 : Int) ≤ ((s[n]'h1).toNat : Int)) = true := by simp; omega
  have g2 : decide ((241 : Int) ≤ ((s[n]'h1).toNat : Int)) = true := by simp; omega
  have l0 : decide (((s[n]'h1).toNat : Int) ≤ 223) = false := by simp; omega
  have l1 : decide (((s[n]'h1).toNat : Int) ≤ 239) = false := by simp; omega
  have l2 : decide (((s[n]'h1).toNat : Int) ≤ 243) = true := by simp; omega
  have t0 : (((s[n]'h1).toNat : Int) == 224) = false := beq_eq_false_iff_ne.2 (by omega)
  have t1 : (((s[n]'h1).toNat : Int) == 237) = false := beq_eq_false_iff_ne.2 (by omega)
  have t2 : (((s[n]'h1).toNat : Int) == 240) = false := beq_eq_false_iff_ne.2 (by omega)
  have t3 : (((s[n]'h1).toNat : Int) == 244) = false := beq_eq_false_iff_ne.2 (by omega)
  have n0 : (((s[n]'h1).toNat : Int) != 237) = true := by rw [bne_iff_ne]; omega
  go_enter Tryz.func83, Tryz.ntmps83
  go_wp2_with (go_at_call 102; refine (ref3_within_lit s _ _ _ _ (by omega) (by omega) (by omega) (by omega)).mono ?_; rintro e w' ⟨rfl, rfl⟩)
  go_ret2
  exact ⟨rfl, rfl⟩

set_option maxRecDepth 100000 in
set_option maxHeartbeats 1000000 in
theorem ref3_size_I3 (s : ByteArray) (n : Nat) (w : World) (h1 : n < s.size) (hs : s.size ≤ 4611686018427387904) (c1 : 241 ≤ (s[n]'h1).toNat) (c2 : (s[n]'h1).toNat ≤ 243) (e0 : Sp.wi s.data.toList (n + 1) 128 191 = true) (e1 : Sp.wi s.data.toList (n + 2) 128 191 = true) (e2 : Sp.wi s.data.toList (n + 3) 128 191 = true) :
    Calls Tryz.prog 83 #[.string s, .int .i64 n] w fun e w' => e = .returned (.tuple #[.int .i64 4, .bool false]) ∧ w = w' := by
  have f1 : Sp.wi s.data.toList ((n : Int) + 2).toNat 128 191 = true := by rw [show ((n : Int) + 2).toNat = n + 2 from by omega]; exact e1
  have f2 : Sp.wi s.data.toList ((n : Int) + 3).toNat 128 191 = true := by rw [show ((n : Int) + 3).toNat = n + 3 from by omega]; exact e2
  have q0 : decide (((s[n]'h1).toNat : Int) < 128) = false := by simp; omega
  have g0 : decide ((194 : Int) ≤ ((s[n]'h1).toNat : Int)) = true := by simp; omega
  have g1 : decide ((225 : Int) ≤ ((s[n]'h1).toNat : Int)) = true := by simp; omega
  have g2 : decide ((241 : Int) ≤ ((s[n]'h1).toNat : Int)) = true := by simp; omega
  have l0 : decide (((s[n]'h1).toNat : Int) ≤ 223) = false := by simp; omega
  have l1 : decide (((s[n]'h1).toNat : Int) ≤ 239) = false := by simp; omega
  have l2 : decide (((s[n]'h1).toNat : Int) ≤ 243) = true := by simp; omega
  have t0 : (((s[n]'h1).toNat : Int) == 224) = false := beq_eq_false_iff_ne.2 (by omega)
  have t1 : (((s[n]'h1).toNat : Int) == 237) = false := beq_eq_false_iff_ne.2 (by omega)
  have t2 : (((s[n]'h1).toNat : Int) == 240) = false := beq_eq_false_iff_ne.2 (by omega)
  have t3 : (((s[n]'h1).toNat : Int) == 244) = false := beq_eq_false_iff_ne.2 (by omega)
  have n0 : (((s[n]'h1).toNat : Int) != 237) = true := by rw [bne_iff_ne]; omega
  go_enter Tryz.func83, Tryz.ntmps83
  go_wp2_with (go_at_call 102; refine (ref3_within_lit s _ _ _ _ (by omega) (by omega) (by omega) (by omega)).mono ?_; rintro e w' ⟨rfl, rfl⟩)
  go_ret2
  exact ⟨rfl, rfl⟩

set_option maxRecDepth 100000 in
set_option maxHeartbeats 1000000 in
theorem ref3_size_J0 (s : ByteArray) (n : Nat) (w : World) (h1 : n < s.size) (hs : s.size ≤ 4611686018427387904) (c1 : 244 ≤ (s[n]'h1).toNat) (c2 : (s[n]'h1).toNat ≤ 244) (e0 : Sp.wi s.data.toList (n + 1) 128 143 = false) :
    Calls Tryz.prog 83 #[.string s, .int .i64 n] w fun e w' => e = .returned (.tuple #[.int .i64 1, .bool true]) ∧ w = w' := by
  have q0 : decide (((s[n]'h1).toNat : Int) < 128) = false := by simp; omega
  have g0 : decide ((194 : Int) ≤ ((s[n]'h1).toNat : Int)) = true := by simp; omega
  have g1 : decide ((225 : Int) ≤ ((s[n]'h1).toNat : Int)) = true := by simp; omega
  have g2 : decide ((241 : Int) ≤ ((s[n]'h1).toNat : Int)) = true := by simp; omega
  have l0 : decide (((s[n]'h1).toNat : Int) ≤ 223) = false := by simp; omega
  have l1 : decide (((s[n]'h1).toNat : Int) ≤ 239) = false := by simp; omega
  have l2 : decide (((s[n]'h1).toNat : Int) ≤ 243) = false := by simp; omega
  have t0 : (((s[n]'h1).toNat : Int) == 224) = false := beq_eq_false_iff_ne.2 (by omega)
  have t1 : (((s[n]'h1).toNat : Int) == 237) = false := beq_eq_false_iff_ne.2 (by omega)
  have t2 : (((s[n]'h1).toNat : Int) == 240) = false := beq_eq_false_iff_ne.2 (by omega)
  have t3 : (((s[n]'h1).toNat : Int) == 244) = true := beq_iff_eq.2 (by omega)
  have n0 : (((s[n]'h1).toNat : Int) != 237) = true := by rw [bne_iff_ne]; omega
  go_enter Tryz.func83, Tryz.ntmps83
  go_wp2_with (go_at_call 102; refine (ref3_within_lit s _ _ _ _ (by omega) (by omega) (by omega) (by omega)).mono ?_; rintro e w' ⟨rfl, rfl⟩)
  go_ret2
  exact ⟨rfl, rfl⟩

set_option maxRecDepth 100000 in
set_option maxHeartbeats 1000000 in
theorem ref3_size_J1 (s : ByteArray) (n : Nat) (w : World) (h1 : n < s.size) (hs : s.size ≤ 4611686018427387904) (c1 : 244 ≤ (s[n]'h1).toNat) (c2 : (s[n]'h1).toNat ≤ 244) (e0 : Sp.wi s.data.toList (n + 1) 128 143 = true) (e1 : Sp.wi s.data.toList (n + 2) 128 191 = false) :
    Calls Tryz.prog 83 #[.string s, .int .i64 n] w fun e w' => e = .returned (.tuple #[.int .i64 1, .bool true]) ∧ w = w' := by
  have f1 : Sp.wi s.data.toList ((n : Int) + 2).toNat 128 191 = false := by rw [show ((n : Int) + 2).toNat = n + 2 from by omega]; exact e1
  have q0 : decide (((s[n]'h1).toNat : Int) < 128) = false := by simp; omega
  have g0 : decide ((194 : Int) ≤ ((s[n]'h1).toNat : Int)) = true := by simp; omega
  have g1 : decide ((225 : Int) ≤ ((s[n]'h1).toNat : Int)) = true := by simp; omega
  have g2 : decide ((241 : Int) ≤ ((s[n]'h1).toNat : Int)) = true := by simp; omega
  have l0 : decide (((s[n]'h1).toNat : Int) ≤ 223) = false := by simp; omega
  have l1 : decide (((s[n]'h1).toNat : Int) ≤ 239) = false := by simp; omega
  have l2 : decide (((s[n]'h1).toNat : Int) ≤ 243) = false := by simp; omega
  have t0 : (((s[n]'h1).toNat : Int) == 224) = false := beq_eq_false_iff_ne.2 (by omega)
  have t1 : (((s[n]'h1).toNat : Int) == 237) = false := beq_eq_false_iff_ne.2 (by omega)
  have t2 : (((s[n]'h1).toNat : Int) == 240) = false := beq_eq_false_iff_ne.2 (by omega)
  have t3 : (((s[n]'h1).toNat : Int) == 244) = true := beq_iff_eq.2 (by omega)
  have n0 : (((s[n]'h1).toNat : Int) != 237) = true := by rw [bne_iff_ne]; omega
  go_enter Tryz.func83, Tryz.ntmps83
  go_wp2_with (go_at_call 102; refine (ref3_within_lit s _ _ _ _ (by omega) (by omega) (by omega) (by omega)).mono ?_; rintro e w' ⟨rfl, rfl⟩)
  go_ret2
  exact ⟨rfl, rfl⟩

set_option maxRecDepth 100000 in
set_option maxHeartbeats 1000000 in
theorem ref3_size_J2 (s : ByteArray) (n : Nat) (w : World) (h1 : n < s.size) (hs : s.size ≤ 4611686018427387904) (c1 : 244 ≤ (s[n]'h1).toNat) (c2 : (s[n]'h1).toNat ≤ 244) (e0 : Sp.wi s.data.toList (n + 1) 128 143 = true) (e1 : Sp.wi s.data.toList (n + 2) 128 191 = true) (e2 : Sp.wi s.data.toList (n + 3) 128 191 = false) :
    Calls Tryz.prog 83 #[.string s, .int .i64 n] w fun e w' => e = .returned (.tuple #[.int .i64 1, .bool true]) ∧ w = w' := by
  have f1 : Sp.wi s.data.toList ((n : Int) + 2).toNat 128 191 = true := by rw [show ((n : Int) + 2).toNat = n + 2 from by omega]; exact e1
  have f2 : Sp.wi s.data.toList ((n : Int) + 3).toNat 128 191 = false := by rw [show ((n : Int) + 3).toNat = n + 3 from by omega]; exact e2
  have q0 : decide (((s[n]'h1).toNat : Int) < 128) = false := by simp; omega
  have g0 : decide ((194 : Int) ≤ ((s[n]'h1).toNat : Int)) = true := by simp; omega
  have g1 : decide ((225 : Int) ≤ ((s[n]'h1).toNat : Int)) = true := by simp; omega
  have g2 : decide ((241 : Int) ≤ ((s[n]'h1).toNat : Int)) = true := by simp; omega
  have l0 : decide (((s[n]'h1).toNat : Int) ≤ 223) = false := by simp; omega
  have l1 : decide (((s[n]'h1).toNat : Int) ≤ 239) = false := by simp; omega
  have l2 : decide (((s[n]'h1).toNat : Int) ≤ 243) = false := by simp; omega
  have t0 : (((s[n]'h1).toNat : Int) == 224) = false := beq_eq_false_iff_ne.2 (by omega)
  have t1 : (((s[n]'h1).toNat : Int) == 237) = false := beq_eq_false_iff_ne.2 (by omega)
  have t2 : (((s[n]'h1).toNat : Int) == 240) = false := beq_eq_false_iff_ne.2 (by omega)
  have t3 : (((s[n]'h1).toNat : Int) == 244) = true := beq_iff_eq.2 (by omega)
  have n0 : (((s[n]'h1).toNat : Int) != 237) = true := by rw [bne_iff_ne]; omega
  go_enter Tryz.func83, Tryz.ntmps83
  go_wp2_with (go_at_call 102; refine (ref3_within_lit s _ _ _ _ (by omega) (by omega) (by omega) (by omega)).mono ?_; rintro e w' ⟨rfl, rfl⟩)
  go_ret2
  exact ⟨rfl, rfl⟩

set_option maxRecDepth 100000 in
set_option maxHeartbeats 1000000 in
theorem ref3_size_J3 (s : ByteArray) (n : Nat) (w : World) (h1 : n < s.size) (hs : s.size ≤ 4611686018427387904) (c1 : 244 ≤ (s[n]'h1).toNat) (c2 : (s[n]'h1).toNat ≤ 244) (e0 : Sp.wi s.data.toList (n + 1) 128 143 = true) (e1 : Sp.wi s.data.toList (n + 2) 128 191 = true) (e2 : Sp.wi s.data.toList (n + 3) 128 191 = true) :
    Calls Tryz.prog 83 #[.string s, .int .i64 n] w fun e w' => e = .returned (.tuple #[.int .i64 4, .bool false]) ∧ w = w' := by
  have f1 : Sp.wi s.data.toList ((n : Int) + 2).toNat 128 191 = true := by rw [show ((n : Int) + 2).toNat = n + 2 from by omega]; exact e1
  have f2 : Sp.wi s.data.toList ((n : Int) + 3).toNat 128 191 = true := by rw [show ((n : Int) + 3).toNat = n + 3 from by omega]; exact e2
  have q0 : decide (((s[n]'h1).toNat : Int) < 128) = false := by simp; omega
  have g0 : decide ((194 : Int) ≤ ((s[n]'h1).toNat : Int)) = true := by simp; omega
  have g1 : decide ((225 : Int) ≤ ((s[n]'h1).toNat : Int)) = true := by simp; omega
  have g2 : decide ((241 : Int) ≤ ((s[n]'h1).toNat : Int)) = true := by simp; omega
  have l0 : decide (((s[n]'h1).toNat : Int) ≤ 223) = false := by simp; omega
  have l1 : decide (((s[n]'h1).toNat : Int) ≤ 239) = false := by simp; omega
  have l2 : decide (((s[n]'h1).toNat : Int) ≤ 243) = false := by simp; omega
  have t0 : (((s[n]'h1).toNat : Int) == 224) = false := beq_eq_false_iff_ne.2 (by omega)
  have t1 : (((s[n]'h1).toNat : Int) == 237) = false := beq_eq_false_iff_ne.2 (by omega)
  have t2 : (((s[n]'h1).toNat : Int) == 240) = false := beq_eq_false_iff_ne.2 (by omega)
  have t3 : (((s[n]'h1).toNat : Int) == 244) = true := beq_iff_eq.2 (by omega)
  have n0 : (((s[n]'h1).toNat : Int) != 237) = true := by rw [bne_iff_ne]; omega
  go_enter Tryz.func83, Tryz.ntmps83
  go_wp2_with (go_at_call 102; refine (ref3_within_lit s _ _ _ _ (by omega) (by omega) (by omega) (by omega)).mono ?_; rintro e w' ⟨rfl, rfl⟩)
  go_ret2
  exact ⟨rfl, rfl⟩

set_option maxRecDepth 100000 in
set_option maxHeartbeats 1000000 in
theorem ref3_size_K (s : ByteArray) (n : Nat) (w : World) (h1 : n < s.size) (hs : s.size ≤ 4611686018427387904) (c1 : 245 ≤ (s[n]'h1).toNat) (c2 : (s[n]'h1).toNat ≤ 255)  :
    Calls Tryz.prog 83 #[.string s, .int .i64 n] w fun e w' => e = .returned (.tuple #[.int .i64 1, .bool true]) ∧ w = w' := by
  have q0 : decide (((s[n]'h1).toNat : Int) < 128) = false := by simp; omega
  have g0 : decide ((194 : Int) ≤ ((s[n]'h1).toNat : Int)) = true := by simp; omega
  have g1 : decide ((225 : Int) ≤ ((s[n]'h1).toNat : Int)) = true := by simp; omega
  have g2 : decide ((241 : Int) ≤ ((s[n]'h1).toNat : Int)) = true := by simp; omega
  have l0 : decide (((s[n]'h1).toNat : Int) ≤ 223) = false := by simp; omega
  have l1 : decide (((s[n]'h1).toNat : Int) ≤ 239) = false := by simp; omega
  have l2 : decide (((s[n]'h1).toNat : Int) ≤ 243) = false := by simp; omega
  have t0 : (((s[n]'h1).toNat : Int) == 224) = false := beq_eq_false_iff_ne.2 (by omega)
  have t1 : (((s[n]'h1).toNat : Int) == 237) = false := beq_eq_false_iff_ne.2 (by omega)
  have t2 : (((s[n]'h1).toNat : Int) == 240) = false := beq_eq_false_iff_ne.2 (by omega)
  have t3 : (((s[n]'h1).toNat : Int) == 244) = false := beq_eq_false_iff_ne.2 (by omega)
  have n0 : (((s[n]'h1).toNat : Int) != 237) = true := by rw [bne_iff_ne]; omega
  go_enter Tryz.func83, Tryz.ntmps83
  go_wp2_with (go_at_call 102; refine (ref3_within_lit s _ _ _ _ (by omega) (by omega) (by omega) (by omega)).mono ?_; rintro e w' ⟨rfl, rfl⟩)
  go_ret2
  exact ⟨rfl, rfl⟩

set_option maxHeartbeats 1000000 in
theorem ref3_size (s : ByteArray) (i : Int) (w : World) (h0 : 0 ≤ i) (h1 : i < s.size) (hs : s.size ≤ 4611686018427387904) :
    Calls Tryz.prog 83 #[.string s, .int .i64 i] w fun e w' => e = .returned (.tuple #[.int .i64 (Sp.dec (s.data.toList.drop i.toNat)).2, .bool (Sp.looseB (s.data.toList.drop i.toNat))]) ∧ w = w' := by
  obtain ⟨n, rfl⟩ := Int.eq_ofNat_of_zero_le h0
  have hn : n < s.size := by omega
  have hlt := (s[n]'hn).toNat_lt
  have hb := Sp.bt_idx s n hn
  rw [Int.toNat_natCast]
  have hne : s.data.toList.drop n ≠ [] := by
    intro h
    have := congrArg List.length h
    rw [List.length_drop, ← Lib.size_eq] at this
    simp only [List.length_nil] at this
    omega
  have fin : ∀ (k : Nat) (b : Bool), (Sp.dec (s.data.toList.drop n)).2 = k → Sp.looseB (s.data.toList.drop n) = b → Calls Tryz.prog 83 #[.string s, .int .i64 n] w (fun e w' => e = .returned (.tuple #[.int .i64 k, .bool b]) ∧ w = w') →
      Calls Tryz.prog 83 #[.string s, .int .i64 n] w fun e w' => e = .returned (.tuple #[.int .i64 (Sp.dec (s.data.toList.drop n)).2, .bool (Sp.looseB (s.data.toList.drop n))]) ∧ w = w' := by
    intro k b h2 h3 h
    rw [h2, h3]; exact h
  have hlen : n < s.data.toList.length := by rw [← Lib.size_eq]; exact hn
  rw [hb] at hlt
  by_cases k0 : (s[n]'hn).toNat ≤ 127
  · skip
    exact fin 1 false (Sp.size_A _ n hlen (by omega) (by omega) ).1 (Sp.size_A _ n hlen (by omega) (by omega) ).2 (ref3_size_A s n w hn hs (by omega) (by omega) )
  by_cases k1 : (s[n]'hn).toNat ≤ 193
  · skip
    exact fin 1 true (Sp.size_B _ n hlen (by omega) (by omega) ).1 (Sp.size_B _ n hlen (by omega) (by omega) ).2 (ref3_size_B s n w hn hs (by omega) (by omega) )
  by_cases k2 : (s[n]'hn).toNat ≤ 223
  · skip
    rcases Bool.eq_false_or_eq_true (Sp.wi s.data.toList (n + 1) 128 191) with e0 | e0
    · skip
      exact fin 2 false (Sp.size_C1 _ n hlen (by omega) (by omega) e0).1 (Sp.size_C1 _ n hlen (by omega) (by omega) e0).2 (ref3_size_C1 s n w hn hs (by omega) (by omega) e0)
    · skip
      exact fin 1 true (Sp.size_C0 _ n hlen (by omega) (by omega) e0).1 (Sp.size_C0 _ n hlen (by omega) (by omega) e0).2 (ref3_size_C0 s n w hn hs (by omega) (by omega) e0)
  by_cases k3 : (s[n]'hn).toNat ≤ 224
  · skip
    rcases Bool.eq_false_or_eq_true (Sp.wi s.data.toList (n + 1) 160 191) with e0 | e0
    · skip
      rcases Bool.eq_false_or_eq_true (Sp.wi s.data.toList (n + 2) 128 191) with e1 | e1
      · skip
        exact fin 3 false (Sp.size_D2 _ n hlen (by omega) (by omega) e0 e1).1 (Sp.size_D2 _ n hlen (by omega) (by omega) e0 e1).2 (ref3_size_D2 s n w hn hs (by omega) (by omega) e0 e1)
      · skip
        exact fin 1 true (Sp.size_D1 _ n hlen (by omega) (by omega) e0 e1).1 (Sp.size_D1 _ n hlen (by omega) (by omega) e0 e1).2 (ref3_size_D1 s n w hn hs (by omega) (by omega) e0 e1)
    · skip
      exact fin 1 true (Sp.size_D0 _ n hlen (by omega) (by omega) e0).1 (Sp.size_D0 _ n hlen (by omega) (by omega) e0).2 (ref3_size_D0 s n w hn hs (by omega) (by omega) e0)
  by_cases k4 : (s[n]'hn).toNat ≤ 236
  · skip
    rcases Bool.eq_false_or_eq_true (Sp.wi s.data.toList (n + 1) 128 191) with e0 | e0
    · skip
      rcases Bool.eq_false_or_eq_true (Sp.wi s.data.toList (n + 2) 128 191) with e1 | e1
      · skip
        exact fin 3 false (Sp.size_E2 _ n hlen (by omega) (by omega) e0 e1).1 (Sp.size_E2 _ n hlen (by omega) (by omega) e0 e1).2 (ref3_size_E2 s n w hn hs (by omega) (by omega) e0 e1)
      · skip
        exact fin 1 true (Sp.size_E1 _ n hlen (by omega) (by omega) e0 e1).1 (Sp.size_E1 _ n hlen (by omega) (by omega) e0 e1).2 (ref3_size_E1 s n w hn hs (by omega) (by omega) e0 e1)
    · skip
      exact fin 1 true (Sp.size_E0 _ n hlen (by omega) (by omega) e0).1 (Sp.size_E0 _ n hlen (by omega) (by omega) e0).2 (ref3_size_E0 s n w hn hs (by omega) (by omega) e0)
  by_cases k5 : (s[n]'hn).toNat ≤ 237
  · skip
    rcases Bool.eq_false_or_eq_true (Sp.wi s.data.toList (n + 1) 128 159) with e0 | e0
    · skip
      rcases Bool.eq_false_or_eq_true (Sp.wi s.data.toList (n + 2) 128 191) with e1 | e1
      · skip
        exact fin 3 false (Sp.size_F2 _ n hlen (by omega) (by omega) e0 e1).1 (Sp.size_F2 _ n hlen (by omega) (by omega) e0 e1).2 (ref3_size_F2 s n w hn hs (by omega) (by omega) e0 e1)
      · skip
        exact fin 1 true (Sp.size_F1 _ n hlen (by omega) (by omega) e0 e1).1 (Sp.size_F1 _ n hlen (by omega) (by omega) e0 e1).2 (ref3_size_F1 s n w hn hs (by omega) (by omega) e0 e1)
    · skip
      exact fin 1 true (Sp.size_F0 _ n hlen (by omega) (by omega) e0).1 (Sp.size_F0 _ n hlen (by omega) (by omega) e0).2 (ref3_size_F0 s n w hn hs (by omega) (by omega) e0)
  by_cases k6 : (s[n]'hn).toNat ≤ 239
  · skip
    rcases Bool.eq_false_or_eq_true (Sp.wi s.data.toList (n + 1) 128 191) with e0 | e0
    · skip
      rcases Bool.eq_false_or_eq_true (Sp.wi s.data.toList (n + 2) 128 191) with e1 | e1
      · skip
        exact fin 3 false (Sp.size_G2 _ n hlen (by omega) (by omega) e0 e1).1 (Sp.size_G2 _ n hlen (by omega) (by omega) e0 e1).2 (ref3_size_G2 s n w hn hs (by omega) (by omega) e0 e1)
      · skip
        exact fin 1 true (Sp.size_G1 _ n hlen (by omega) (by omega) e0 e1).1 (Sp.size_G1 _ n hlen (by omega) (by omega) e0 e1).2 (ref3_size_G1 s n w hn hs (by omega) (by omega) e0 e1)
    · skip
      exact fin 1 true (Sp.size_G0 _ n hlen (by omega) (by omega) e0).1 (Sp.size_G0 _ n hlen (by omega) (by omega) e0).2 (ref3_size_G0 s n w hn hs (by omega) (by omega) e0)
  by_cases k7 : (s[n]'hn).toNat ≤ 240
  · skip
    rcases Bool.eq_false_or_eq_true (Sp.wi s.data.toList (n + 1) 144 191) with e0 | e0
    · skip
      rcases Bool.eq_false_or_eq_true (Sp.wi s.data.toList (n + 2) 128 191) with e1 | e1
      · skip
        rcases Bool.eq_false_or_eq_true (Sp.wi s.data.toList (n + 3) 128 191) with e2 | e2
        · skip
          exact fin 4 false (Sp.size_H3 _ n hlen (by omega) (by omega) e0 e1 e2).1 (Sp.size_H3 _ n hlen (by omega) (by omega) e0 e1 e2).2 (ref3_size_H3 s n w hn hs (by omega) (by omega) e0 e1 e2)
        · skip
          exact fin 1 true (Sp.size_H2 _ n hlen (by omega) (by omega) e0 e1 e2).1 (Sp.size_H2 _ n hlen (by omega) (by omega) e0 e1 e2).2 (ref3_size_H2 s n w hn hs (by omega) (by omega) e0 e1 e2)
      · skip
        exact fin 1 true (Sp.size_H1 _ n hlen (by omega) (by omega) e0 e1).1 (Sp.size_H1 _ n hlen (by omega) (by omega) e0 e1).2 (ref3_size_H1 s n w hn hs (by omega) (by omega) e0 e1)
    · skip
      exact fin 1 true (Sp.size_H0 _ n hlen (by omega) (by omega) e0).1 (Sp.size_H0 _ n hlen (by omega) (by omega) e0).2 (ref3_size_H0 s n w hn hs (by omega) (by omega) e0)
  by_cases k8 : (s[n]'hn).toNat ≤ 243
  · skip
    rcases Bool.eq_false_or_eq_true (Sp.wi s.data.toList (n + 1) 128 191) with e0 | e0
    · skip
      rcases Bool.eq_false_or_eq_true (Sp.wi s.data.toList (n + 2) 128 191) with e1 | e1
      · skip
        rcases Bool.eq_false_or_eq_true (Sp.wi s.data.toList (n + 3) 128 191) with e2 | e2
        · skip
          exact fin 4 false (Sp.size_I3 _ n hlen (by omega) (by omega) e0 e1 e2).1 (Sp.size_I3 _ n hlen (by omega) (by omega) e0 e1 e2).2 (ref3_size_I3 s n w hn hs (by omega) (by omega) e0 e1 e2)
        · skip
          exact fin 1 true (Sp.size_I2 _ n hlen (by omega) (by omega) e0 e1 e2).1 (Sp.size_I2 _ n hlen (by omega) (by omega) e0 e1 e2).2 (ref3_size_I2 s n w hn hs (by omega) (by omega) e0 e1 e2)
      · skip
        exact fin 1 true (Sp.size_I1 _ n hlen (by omega) (by omega) e0 e1).1 (Sp.size_I1 _ n hlen (by omega) (by omega) e0 e1).2 (ref3_size_I1 s n w hn hs (by omega) (by omega) e0 e1)
    · skip
      exact fin 1 true (Sp.size_I0 _ n hlen (by omega) (by omega) e0).1 (Sp.size_I0 _ n hlen (by omega) (by omega) e0).2 (ref3_size_I0 s n w hn hs (by omega) (by omega) e0)
  by_cases k9 : (s[n]'hn).toNat ≤ 244
  · skip
    rcases Bool.eq_false_or_eq_true (Sp.wi s.data.toList (n + 1) 128 143) with e0 | e0
    · skip
      rcases Bool.eq_false_or_eq_true (Sp.wi s.data.toList (n + 2) 128 191) with e1 | e1
      · skip
        rcases Bool.eq_false_or_eq_true (Sp.wi s.data.toList (n + 3) 128 191) with e2 | e2
        · skip
          exact fin 4 false (Sp.size_J3 _ n hlen (by omega) (by omega) e0 e1 e2).1 (Sp.size_J3 _ n hlen (by omega) (by omega) e0 e1 e2).2 (ref3_size_J3 s n w hn hs (by omega) (by omega) e0 e1 e2)
        · skip
          exact fin 1 true (Sp.size_J2 _ n hlen (by omega) (by omega) e0 e1 e2).1 (Sp.size_J2 _ n hlen (by omega) (by omega) e0 e1 e2).2 (ref3_size_J2 s n w hn hs (by omega) (by omega) e0 e1 e2)
      · skip
        exact fin 1 true (Sp.size_J1 _ n hlen (by omega) (by omega) e0 e1).1 (Sp.size_J1 _ n hlen (by omega) (by omega) e0 e1).2 (ref3_size_J1 s n w hn hs (by omega) (by omega) e0 e1)
    · skip
      exact fin 1 true (Sp.size_J0 _ n hlen (by omega) (by omega) e0).1 (Sp.size_J0 _ n hlen (by omega) (by omega) e0).2 (ref3_size_J0 s n w hn hs (by omega) (by omega) e0)
  exact fin 1 true (Sp.size_K _ n hlen (by omega) (by omega) ).1 (Sp.size_K _ n hlen (by omega) (by omega) ).2 (ref3_size_K s n w hn hs (by omega) (by omega) )
end Go.Proofs.YtdmpapoabeljfaaGreatDoor
