/-
  PLAIN LEAN: the sizes of characters by classes of first bytes (written by wip/gen/size.py).
-/
import Derived.Test.YtjedoipbllcfdaaDoorSpR
set_option linter.unusedVariables false
set_option linter.unusedSimpArgs false
namespace Go.Proofs.YtjedoipbllcfdaaDoor
namespace Sp

set_option maxRecDepth 100000 in
set_option maxHeartbeats 1000000 in
theorem sz_A (n b0 b1 b2 b3 : Nat) (hn : 1 ≤ n) (c1 : 0 ≤ b0) (c2 : b0 ≤ 127) (h1 : b1 < 256) (h2 : b2 < 256) (h3 : b3 < 256)  :
    (Lib.decodeN n b0 b1 b2 b3).2 = 1 ∧ ((Lib.decodeN n b0 b1 b2 b3).1 == 65533 && (Lib.decodeN n b0 b1 b2 b3).2 == 1) = false := by
  unfold Lib.decodeN
  repeat' split
  all_goals first | (exfalso; omega) | exact ⟨rfl, rfl⟩ | (refine ⟨rfl, ?_⟩; simp; omega) | (refine ⟨rfl, ?_⟩; simp)

theorem size_A (l : List UInt8) (n : Nat) (hn : n < l.length) (c1 : 0 ≤ bt l n) (c2 : bt l n ≤ 127)  : (dec (l.drop n)).2 = 1 ∧ looseB (l.drop n) = false := by
  skip
  unfold looseB dec
  simp only [bt_drop, Nat.add_zero, List.length_drop]
  exact sz_A _ _ _ _ _ (by omega) c1 c2 (bt_lt _ _) (bt_lt _ _) (bt_lt _ _) 

set_option maxRecDepth 100000 in
set_option maxHeartbeats 1000000 in
theorem sz_B (n b0 b1 b2 b3 : Nat) (hn : 1 ≤ n) (c1 : 128 ≤ b0) (c2 : b0 ≤ 193) (h1 : b1 < 256) (h2 : b2 < 256) (h3 : b3 < 256)  :
    (Lib.decodeN n b0 b1 b2 b3).2 = 1 ∧ ((Lib.decodeN n b0 b1 b2 b3).1 == 65533 && (Lib.decodeN n b0 b1 b2 b3).2 == 1) = true := by
  unfold Lib.decodeN
  repeat' split
  all_goals first | (exfalso; omega) | exact ⟨rfl, rfl⟩ | (refine ⟨rfl, ?_⟩; simp; omega) | (refine ⟨rfl, ?_⟩; simp)

theorem size_B (l : List UInt8) (n : Nat) (hn : n < l.length) (c1 : 128 ≤ bt l n) (c2 : bt l n ≤ 193)  : (dec (l.drop n)).2 = 1 ∧ looseB (l.drop n) = true := by
  skip
  unfold looseB dec
  simp only [bt_drop, Nat.add_zero, List.length_drop]
  exact sz_B _ _ _ _ _ (by omega) c1 c2 (bt_lt _ _) (bt_lt _ _) (bt_lt _ _) 

set_option maxRecDepth 100000 in
set_option maxHeartbeats 1000000 in
theorem sz_C0 (n b0 b1 b2 b3 : Nat) (hn : 1 ≤ n) (c1 : 194 ≤ b0) (c2 : b0 ≤ 223) (h1 : b1 < 256) (h2 : b2 < 256) (h3 : b3 < 256) (e0 : decide (1 < n ∧ 128 ≤ b1 ∧ b1 ≤ 191) = false) :
    (Lib.decodeN n b0 b1 b2 b3).2 = 1 ∧ ((Lib.decodeN n b0 b1 b2 b3).1 == 65533 && (Lib.decodeN n b0 b1 b2 b3).2 == 1) = true := by
  simp only [decide_eq_true_eq, decide_eq_false_iff_not] at e0
  unfold Lib.decodeN
  repeat' split
  all_goals first | (exfalso; omega) | exact ⟨rfl, rfl⟩ | (refine ⟨rfl, ?_⟩; simp; omega) | (refine ⟨rfl, ?_⟩; simp)

theorem size_C0 (l : List UInt8) (n : Nat) (hn : n < l.length) (c1 : 194 ≤ bt l n) (c2 : bt l n ≤ 223) (e0 : wi l (n + 1) 128 191 = false) : (dec (l.drop n)).2 = 1 ∧ looseB (l.drop n) = true := by
  unfold wi at e0
  unfold looseB dec
  simp only [bt_drop, Nat.add_zero, List.length_drop]
  exact sz_C0 _ _ _ _ _ (by omega) c1 c2 (bt_lt _ _) (bt_lt _ _) (bt_lt _ _) (by rw [← e0]; congr 1; apply propext; omega)

set_option maxRecDepth 100000 in
set_option maxHeartbeats 1000000 in
theorem sz_C1 (n b0 b1 b2 b3 : Nat) (hn : 1 ≤ n) (c1 : 194 ≤ b0) (c2 : b0 ≤ 223) (h1 : b1 < 256) (h2 : b2 < 256) (h3 : b3 < 256) (e0 : decide (1 < n ∧ 128 ≤ b1 ∧ b1 ≤ 191) = true) :
    (Lib.decodeN n b0 b1 b2 b3).2 = 2 ∧ ((Lib.decodeN n b0 b1 b2 b3).1 == 65533 && (Lib.decodeN n b0 b1 b2 b3).2 == 1) = false := by
  simp only [decide_eq_true_eq, decide_eq_false_iff_not] at e0
  unfold Lib.decodeN
  repeat' split
  all_goals first | (exfalso; omega) | exact ⟨rfl, rfl⟩ | (refine ⟨rfl, ?_⟩; simp; omega) | (refine ⟨rfl, ?_⟩; simp)

theorem size_C1 (l : List UInt8) (n : Nat) (hn : n < l.length) (c1 : 194 ≤ bt l n) (c2 : bt l n ≤ 223) (e0 : wi l (n + 1) 128 191 = true) : (dec (l.drop n)).2 = 2 ∧ looseB (l.drop n) = false := by
  unfold wi at e0
  unfold looseB dec
  simp only [bt_drop, Nat.add_zero, List.length_drop]
  exact sz_C1 _ _ _ _ _ (by omega) c1 c2 (bt_lt _ _) (bt_lt _ _) (bt_lt _ _) (by rw [← e0]; congr 1; apply propext; omega)

set_option maxRecDepth 100000 in
set_option maxHeartbeats 1000000 in
theorem sz_D0 (n b0 b1 b2 b3 : Nat) (hn : 1 ≤ n) (c1 : 224 ≤ b0) (c2 : b0 ≤ 224) (h1 : b1 < 256) (h2 : b2 < 256) (h3 : b3 < 256) (e0 : decide (1 < n ∧ 160 ≤ b1 ∧ b1 ≤ 191) = false) :
    (Lib.decodeN n b0 b1 b2 b3).2 = 1 ∧ ((Lib.decodeN n b0 b1 b2 b3).1 == 65533 && (Lib.decodeN n b0 b1 b2 b3).2 == 1) = true := by
  simp only [decide_eq_true_eq, decide_eq_false_iff_not] at e0
  unfold Lib.decodeN
  repeat' split
  all_goals first | (exfalso; omega) | exact ⟨rfl, rfl⟩ | (refine ⟨rfl, ?_⟩; simp; omega) | (refine ⟨rfl, ?_⟩; simp)

theorem size_D0 (l : List UInt8) (n : Nat) (hn : n < l.length) (c1 : 224 ≤ bt l n) (c2 : bt l n ≤ 224) (e0 : wi l (n + 1) 160 191 = false) : (dec (l.drop n)).2 = 1 ∧ looseB (l.drop n) = true := by
  unfold wi at e0
  unfold looseB dec
  simp only [bt_drop, Nat.add_zero, List.length_drop]
  exact sz_D0 _ _ _ _ _ (by omega) c1 c2 (bt_lt _ _) (bt_lt _ _) (bt_lt _ _) (by rw [← e0]; congr 1; apply propext; omega)

set_option maxRecDepth 100000 in
set_option maxHeartbeats 1000000 in
theorem sz_D1 (n b0 b1 b2 b3 : Nat) (hn : 1 ≤ n) (c1 : 224 ≤ b0) (c2 : b0 ≤ 224) (h1 : b1 < 256) (h2 : b2 < 256) (h3 : b3 < 256) (e0 : decide (1 < n ∧ 160 ≤ b1 ∧ b1 ≤ 191) = true) (e1 : decide (2 < n ∧ 128 ≤ b2 ∧ b2 ≤ 191) = false) :
    (Lib.decodeN n b0 b1 b2 b3).2 = 1 ∧ ((Lib.decodeN n b0 b1 b2 b3).1 == 65533 && (Lib.decodeN n b0 b1 b2 b3).2 == 1) = true := by
  simp only [decide_eq_true_eq, decide_eq_false_iff_not] at e0 e1
  unfold Lib.decodeN
  repeat' split
  all_goals first | (exfalso; omega) | exact ⟨rfl, rfl⟩ | (refine ⟨rfl, ?_⟩; simp; omega) | (refine ⟨rfl, ?_⟩; simp)

theorem size_D1 (l : List UInt8) (n : Nat) (hn : n < l.length) (c1 : 224 ≤ bt l n) (c2 : bt l n ≤ 224) (e0 : wi l (n + 1) 160 191 = true) (e1 : wi l (n + 2) 128 191 = false) : (dec (l.drop n)).2 = 1 ∧ looseB (l.drop n) = true := by
  unfold wi at e0 e1
  unfold looseB dec
  simp only [bt_drop, Nat.add_zero, List.length_drop]
  exact sz_D1 _ _ _ _ _ (by omega) c1 c2 (bt_lt _ _) (bt_lt _ _) (bt_lt _ _) (by rw [← e0]; congr 1; apply propext; omega) (by rw [← e1]; congr 1; apply propext; omega)

set_option maxRecDepth 100000 in
set_option maxHeartbeats 1000000 in
theorem sz_D2 (n b0 b1 b2 b3 : Nat) (hn : 1 ≤ n) (c1 : 224 ≤ b0) (c2 : b0 ≤ 224) (h1 : b1 < 256) (h2 : b2 < 256) (h3 : b3 < 256) (e0 : decide (1 < n ∧ 160 ≤ b1 ∧ b1 ≤ 191) = true) (e1 : decide (2 < n ∧ 128 ≤ b2 ∧ b2 ≤ 191) = true) :
    (Lib.decodeN n b0 b1 b2 b3).2 = 3 ∧ ((Lib.decodeN n b0 b1 b2 b3).1 == 65533 && (Lib.decodeN n b0 b1 b2 b3).2 == 1) = false := by
  simp only [decide_eq_true_eq, decide_eq_false_iff_not] at e0 e1
  unfold Lib.decodeN
  repeat' split
  all_goals first | (exfalso; omega) | exact ⟨rfl, rfl⟩ | (refine ⟨rfl, ?_⟩; simp; omega) | (refine ⟨rfl, ?_⟩; simp)

theorem size_D2 (l : List UInt8) (n : Nat) (hn : n < l.length) (c1 : 224 ≤ bt l n) (c2 : bt l n ≤ 224) (e0 : wi l (n + 1) 160 191 = true) (e1 : wi l (n + 2) 128 191 = true) : (dec (l.drop n)).2 = 3 ∧ looseB (l.drop n) = false := by
  unfold wi at e0 e1
  unfold looseB dec
  simp only [bt_drop, Nat.add_zero, List.length_drop]
  exact sz_D2 _ _ _ _ _ (by omega) c1 c2 (bt_lt _ _) (bt_lt _ _) (bt_lt _ _) (by rw [← e0]; congr 1; apply propext; omega) (by rw [← e1]; congr 1; apply propext; omega)

set_option maxRecDepth 100000 in
set_option maxHeartbeats 1000000 in
theorem sz_E0 (n b0 b1 b2 b3 : Nat) (hn : 1 ≤ n) (c1 : 225 ≤ b0) (c2 : b0 ≤ 236) (h1 : b1 < 256) (h2 : b2 < 256) (h3 : b3 < 256) (e0 : decide (1 < n ∧ 128 ≤ b1 ∧ b1 ≤ 191) = false) :
    (Lib.decodeN n b0 b1 b2 b3).2 = 1 ∧ ((Lib.decodeN n b0 b1 b2 b3).1 == 65533 && (Lib.decodeN n b0 b1 b2 b3).2 == 1) = true := by
  simp only [decide_eq_true_eq, decide_eq_false_iff_not] at e0
  unfold Lib.decodeN
  repeat' split
  all_goals first | (exfalso; omega) | exact ⟨rfl, rfl⟩ | (refine ⟨rfl, ?_⟩; simp; omega) | (refine ⟨rfl, ?_⟩; simp)

theorem size_E0 (l : List UInt8) (n : Nat) (hn : n < l.length) (c1 : 225 ≤ bt l n) (c2 : bt l n ≤ 236) (e0 : wi l (n + 1) 128 191 = false) : (dec (l.drop n)).2 = 1 ∧ looseB (l.drop n) = true := by
  unfold wi at e0
  unfold looseB dec
  simp only [bt_drop, Nat.add_zero, List.length_drop]
  exact sz_E0 _ _ _ _ _ (by omega) c1 c2 (bt_lt _ _) (bt_lt _ _) (bt_lt _ _) (by rw [← e0]; congr 1; apply propext; omega)

set_option maxRecDepth 100000 in
set_option maxHeartbeats 1000000 in
theorem sz_E1 (n b0 b1 b2 b3 : Nat) (hn : 1 ≤ n) (c1 : 225 ≤ b0) (c2 : b0 ≤ 236) (h1 : b1 < 256) (h2 : b2 < 256) (h3 : b3 < 256) (e0 : decide (1 < n ∧ 128 ≤ b1 ∧ b1 ≤ 191) = true) (e1 : decide (2 < n ∧ 128 ≤ b2 ∧ b2 ≤ 191) = false) :
    (Lib.decodeN n b0 b1 b2 b3).2 = 1 ∧ ((Lib.decodeN n b0 b1 b2 b3).1 == 65533 && (Lib.decodeN n b0 b1 b2 b3).2 == 1) = true := by
  simp only [decide_eq_true_eq, decide_eq_false_iff_not] at e0 e1
  unfold Lib.decodeN
  repeat' split
  all_goals first | (exfalso; omega) | exact ⟨rfl, rfl⟩ | (refine ⟨rfl, ?_⟩; simp; omega) | (refine ⟨rfl, ?_⟩; simp)

theorem size_E1 (l : List UInt8) (n : Nat) (hn : n < l.length) (c1 : 225 ≤ bt l n) (c2 : bt l n ≤ 236) (e0 : wi l (n + 1) 128 191 = true) (e1 : wi l (n + 2) 128 191 = false) : (dec (l.drop n)).2 = 1 ∧ looseB (l.drop n) = true := by
  unfold wi at e0 e1
  unfold looseB dec
  simp only [bt_drop, Nat.add_zero, List.length_drop]
  exact sz_E1 _ _ _ _ _ (by omega) c1 c2 (bt_lt _ _) (bt_lt _ _) (bt_lt _ _) (by rw [← e0]; congr 1; apply propext; omega) (by rw [← e1]; congr 1; apply propext; omega)

set_option maxRecDepth 100000 in
set_option maxHeartbeats 1000000 in
theorem sz_E2 (n b0 b1 b2 b3 : Nat) (hn : 1 ≤ n) (c1 : 225 ≤ b0) (c2 : b0 ≤ 236) (h1 : b1 < 256) (h2 : b2 < 256) (h3 : b3 < 256) (e0 : decide (1 < n ∧ 128 ≤ b1 ∧ b1 ≤ 191) = true) (e1 : decide (2 < n ∧ 128 ≤ b2 ∧ b2 ≤ 191) = true) :
    (Lib.decodeN n b0 b1 b2 b3).2 = 3 ∧ ((Lib.decodeN n b0 b1 b2 b3).1 == 65533 && (Lib.decodeN n b0 b1 b2 b3).2 == 1) = false := by
  simp only [decide_eq_true_eq, decide_eq_false_iff_not] at e0 e1
  unfold Lib.decodeN
  repeat' split
  all_goals first | (exfalso; omega) | exact ⟨rfl, rfl⟩ | (refine ⟨rfl, ?_⟩; simp; omega) | (refine ⟨rfl, ?_⟩; simp)

theorem size_E2 (l : List UInt8) (n : Nat) (hn : n < l.length) (c1 : 225 ≤ bt l n) (c2 : bt l n ≤ 236) (e0 : wi l (n + 1) 128 191 = true) (e1 : wi l (n + 2) 128 191 = true) : (dec (l.drop n)).2 = 3 ∧ looseB (l.drop n) = false := by
  unfold wi at e0 e1
  unfold looseB dec
  simp only [bt_drop, Nat.add_zero, List.length_drop]
  exact sz_E2 _ _ _ _ _ (by omega) c1 c2 (bt_lt _ _) (bt_lt _ _) (bt_lt _ _) (by rw [← e0]; congr 1; apply propext; omega) (by rw [← e1]; congr 1; apply propext; omega)

set_option maxRecDepth 100000 in
set_option maxHeartbeats 1000000 in
theorem sz_F0 (n b0 b1 b2 b3 : Nat) (hn : 1 ≤ n) (c1 : 237 ≤ b0) (c2 : b0 ≤ 237) (h1 : b1 < 256) (h2 : b2 < 256) (h3 : b3 < 256) (e0 : decide (1 < n ∧ 128 ≤ b1 ∧ b1 ≤ 159) = false) :
    (Lib.decodeN n b0 b1 b2 b3).2 = 1 ∧ ((Lib.decodeN n b0 b1 b2 b3).1 == 65533 && (Lib.decodeN n b0 b1 b2 b3).2 == 1) = true := by
  simp only [decide_eq_true_eq, decide_eq_false_iff_not] at e0
  unfold Lib.decodeN
  repeat' split
  all_goals first | (exfalso; omega) | exact ⟨rfl, rfl⟩ | (refine ⟨rfl, ?_⟩; simp; omega) | (refine ⟨rfl, ?_⟩; simp)

theorem size_F0 (l : List UInt8) (n : Nat) (hn : n < l.length) (c1 : 237 ≤ bt l n) (c2 : bt l n ≤ 237) (e0 : wi l (n + 1) 128 159 = false) : (dec (l.drop n)).2 = 1 ∧ looseB (l.drop n) = true := by
  unfold wi at e0
  unfold looseB dec
  simp only [bt_drop, Nat.add_zero, List.length_drop]
  exact sz_F0 _ _ _ _ _ (by omega) c1 c2 (bt_lt _ _) (bt_lt _ _) (bt_lt _ _) (by rw [← e0]; congr 1; apply propext; omega)

set_option maxRecDepth 100000 in
set_option maxHeartbeats 1000000 in
theorem sz_F1 (n b0 b1 b2 b3 : Nat) (hn : 1 ≤ n) (c1 : 237 ≤ b0) (c2 : b0 ≤ 237) (h1 : b1 < 256) (h2 : b2 < 256) (h3 : b3 < 256) (e0 : decide (1 < n ∧ 128 ≤ b1 ∧ b1 ≤ 159) = true) (e1 : decide (2 < n ∧ 128 ≤ b2 ∧ b2 ≤ 191) = false) :
    (Lib.decodeN n b0 b1 b2 b3).2 = 1 ∧ ((Lib.decodeN n b0 b1 b2 b3).1 == 65533 && (Lib.decodeN n b0 b1 b2 b3).2 == 1) = true := by
  simp only [decide_eq_true_eq, decide_eq_false_iff_not] at e0 e1
  unfold Lib.decodeN
  repeat' split
  all_goals first | (exfalso; omega) | exact ⟨rfl, rfl⟩ | (refine ⟨rfl, ?_⟩; simp; omega) | (refine ⟨rfl, ?_⟩; simp)

theorem size_F1 (l : List UInt8) (n : Nat) (hn : n < l.length) (c1 : 237 ≤ bt l n) (c2 : bt l n ≤ 237) (e0 : wi l (n + 1) 128 159 = true) (e1 : wi l (n + 2) 128 191 = false) : (dec (l.drop n)).2 = 1 ∧ looseB (l.drop n) = true := by
  unfold wi at e0 e1
  unfold looseB dec
  simp only [bt_drop, Nat.add_zero, List.length_drop]
  exact sz_F1 _ _ _ _ _ (by omega) c1 c2 (bt_lt _ _) (bt_lt _ _) (bt_lt _ _) (by rw [← e0]; congr 1; apply propext; omega) (by rw [← e1]; congr 1; apply propext; omega)

set_option maxRecDepth 100000 in
set_option maxHeartbeats 1000000 in
theorem sz_F2 (n b0 b1 b2 b3 : Nat) (hn : 1 ≤ n) (c1 : 237 ≤ b0) (c2 : b0 ≤ 237) (h1 : b1 < 256) (h2 : b2 < 256) (h3 : b3 < 256) (e0 : decide (1 < n ∧ 128 ≤ b1 ∧ b1 ≤ 159) = true) (e1 : decide (2 < n ∧ 128 ≤ b2 ∧ b2 ≤ 191) = true) :
    (Lib.decodeN n b0 b1 b2 b3).2 = 3 ∧ ((Lib.decodeN n b0 b1 b2 b3).1 == 65533 && (Lib.decodeN n b0 b1 b2 b3).2 == 1) = false := by
  simp only [decide_eq_true_eq, decide_eq_false_iff_not] at e0 e1
  unfold Lib.decodeN
  repeat' split
  all_goals first | (exfalso; omega) | exact ⟨rfl, rfl⟩ | (refine ⟨rfl, ?_⟩; simp; omega) | (refine ⟨rfl, ?_⟩; simp)

theorem size_F2 (l : List UInt8) (n : Nat) (hn : n < l.length) (c1 : 237 ≤ bt l n) (c2 : bt l n ≤ 237) (e0 : wi l (n + 1) 128 159 = true) (e1 : wi l (n + 2) 128 191 = true) : (dec (l.drop n)).2 = 3 ∧ looseB (l.drop n) = false := by
  unfold wi at e0 e1
  unfold looseB dec
  simp only [bt_drop, Nat.add_zero, List.length_drop]
  exact sz_F2 _ _ _ _ _ (by omega) c1 c2 (bt_lt _ _) (bt_lt _ _) (bt_lt _ _) (by rw [← e0]; congr 1; apply propext; omega) (by rw [← e1]; congr 1; apply propext; omega)

set_option maxRecDepth 100000 in
set_option maxHeartbeats 1000000 in
theorem sz_G0 (n b0 b1 b2 b3 : Nat) (hn : 1 ≤ n) (c1 : 238 ≤ b0) (c2 : b0 ≤ 239) (h1 : b1 < 256) (h2 : b2 < 256) (h3 : b3 < 256) (e0 : decide (1 < n ∧ 128 ≤ b1 ∧ b1 ≤ 191) = false) :
    (Lib.decodeN n b0 b1 b2 b3).2 = 1 ∧ ((Lib.decodeN n b0 b1 b2 b3).1 == 65533 && (Lib.decodeN n b0 b1 b2 b3).2 == 1) = true := by
  simp only [decide_eq_true_eq, decide_eq_false_iff_not] at e0
  unfold Lib.decodeN
  repeat' split
  all_goals first | (exfalso; omega) | exact ⟨rfl, rfl⟩ | (refine ⟨rfl, ?_⟩; simp; omega) | (refine ⟨rfl, ?_⟩; simp)

theorem size_G0 (l : List UInt8) (n : Nat) (hn : n < l.length) (c1 : 238 ≤ bt l n) (c2 : bt l n ≤ 239) (e0 : wi l (n + 1) 128 191 = false) : (dec (l.drop n)).2 = 1 ∧ looseB (l.drop n) = true := by
  unfold wi at e0
  unfold looseB dec
  simp only [bt_drop, Nat.add_zero, List.length_drop]
  exact sz_G0 _ _ _ _ _ (by omega) c1 c2 (bt_lt _ _) (bt_lt _ _) (bt_lt _ _) (by rw [← e0]; congr 1; apply propext; omega)

set_option maxRecDepth 100000 in
set_option maxHeartbeats 1000000 in
theorem sz_G1 (n b0 b1 b2 b3 : Nat) (hn : 1 ≤ n) (c1 : 238 ≤ b0) (c2 : b0 ≤ 239) (h1 : b1 < 256) (h2 : b2 < 256) (h3 : b3 < 256) (e0 : decide (1 < n ∧ 128 ≤ b1 ∧ b1 ≤ 191) = true) (e1 : decide (2 < n ∧ 128 ≤ b2 ∧ b2 ≤ 191) = false) :
    (Lib.decodeN n b0 b1 b2 b3).2 = 1 ∧ ((Lib.decodeN n b0 b1 b2 b3).1 == 65533 && (Lib.decodeN n b0 b1 b2 b3).2 == 1) = true := by
  simp only [decide_eq_true_eq, decide_eq_false_iff_not] at e0 e1
  unfold Lib.decodeN
  repeat' split
  all_goals first | (exfalso; omega) | exact ⟨rfl, rfl⟩ | (refine ⟨rfl, ?_⟩; simp; omega) | (refine ⟨rfl, ?_⟩; simp)

theorem size_G1 (l : List UInt8) (n : Nat) (hn : n < l.length) (c1 : 238 ≤ bt l n) (c2 : bt l n ≤ 239) (e0 : wi l (n + 1) 128 191 = true) (e1 : wi l (n + 2) 128 191 = false) : (dec (l.drop n)).2 = 1 ∧ looseB (l.drop n) = true := by
  unfold wi at e0 e1
  unfold looseB dec
  simp only [bt_drop, Nat.add_zero, List.length_drop]
  exact sz_G1 _ _ _ _ _ (by omega) c1 c2 (bt_lt _ _) (bt_lt _ _) (bt_lt _ _) (by rw [← e0]; congr 1; apply propext; omega) (by rw [← e1]; congr 1; apply propext; omega)

set_option maxRecDepth 100000 in
set_option maxHeartbeats 1000000 in
theorem sz_G2 (n b0 b1 b2 b3 : Nat) (hn : 1 ≤ n) (c1 : 238 ≤ b0) (c2 : b0 ≤ 239) (h1 : b1 < 256) (h2 : b2 < 256) (h3 : b3 < 256) (e0 : decide (1 < n ∧ 128 ≤ b1 ∧ b1 ≤ 191) = true) (e1 : decide (2 < n ∧ 128 ≤ b2 ∧ b2 ≤ 191) = true) :
    (Lib.decodeN n b0 b1 b2 b3).2 = 3 ∧ ((Lib.decodeN n b0 b1 b2 b3).1 == 65533 && (Lib.decodeN n b0 b1 b2 b3).2 == 1) = false := by
  simp only [decide_eq_true_eq, decide_eq_false_iff_not] at e0 e1
  unfold Lib.decodeN
  repeat' split
  all_goals first | (exfalso; omega) | exact ⟨rfl, rfl⟩ | (refine ⟨rfl, ?_⟩; simp; omega) | (refine ⟨rfl, ?_⟩; simp)

theorem size_G2 (l : List UInt8) (n : Nat) (hn : n < l.length) (c1 : 238 ≤ bt l n) (c2 : bt l n ≤ 239) (e0 : wi l (n + 1) 128 191 = true) (e1 : wi l (n + 2) 128 191 = true) : (dec (l.drop n)).2 = 3 ∧ looseB (l.drop n) = false := by
  unfold wi at e0 e1
  unfold looseB dec
  simp only [bt_drop, Nat.add_zero, List.length_drop]
  exact sz_G2 _ _ _ _ _ (by omega) c1 c2 (bt_lt _ _) (bt_lt _ _) (bt_lt _ _) (by rw [← e0]; congr 1; apply propext; omega) (by rw [← e1]; congr 1; apply propext; omega)

set_option maxRecDepth 100000 in
set_option maxHeartbeats 1000000 in
theorem sz_H0 (n b0 b1 b2 b3 : Nat) (hn : 1 ≤ n) (c1 : 240 ≤ b0) (c2 : b0 ≤ 240) (h1 : b1 < 256) (h2 : b2 < 256) (h3 : b3 < 256) (e0 : decide (1 < n ∧ 144 ≤ b1 ∧ b1 ≤ 191) = false) :
    (Lib.decodeN n b0 b1 b2 b3).2 = 1 ∧ ((Lib.decodeN n b0 b1 b2 b3).1 == 65533 && (Lib.decodeN n b0 b1 b2 b3).2 == 1) = true := by
  simp only [decide_eq_true_eq, decide_eq_false_iff_not] at e0
  unfold Lib.decodeN
  repeat' split
  all_goals first | (exfalso; omega) | exact ⟨rfl, rfl⟩ | (refine ⟨rfl, ?_⟩; simp; omega) | (refine ⟨rfl, ?_⟩; simp)

theorem size_H0 (l : List UInt8) (n : Nat) (hn : n < l.length) (c1 : 240 ≤ bt l n) (c2 : bt l n ≤ 240) (e0 : wi l (n + 1) 144 191 = false) : (dec (l.drop n)).2 = 1 ∧ looseB (l.drop n) = true := by
  unfold wi at e0
  unfold looseB dec
  simp only [bt_drop, Nat.add_zero, List.length_drop]
  exact sz_H0 _ _ _ _ _ (by omega) c1 c2 (bt_lt _ _) (bt_lt _ _) (bt_lt _ _) (by rw [← e0]; congr 1; apply propext; omega)

set_option maxRecDepth 100000 in
set_option maxHeartbeats 1000000 in
theorem sz_H1 (n b0 b1 b2 b3 : Nat) (hn : 1 ≤ n) (c1 : 240 ≤ b0) (c2 : b0 ≤ 240) (h1 : b1 < 256) (h2 : b2 < 256) (h3 : b3 < 256) (e0 : decide (1 < n ∧ 144 ≤ b1 ∧ b1 ≤ 191) = true) (e1 : decide (2 < n ∧ 128 ≤ b2 ∧ b2 ≤ 191) = false) :
    (Lib.decodeN n b0 b1 b2 b3).2 = 1 ∧ ((Lib.decodeN n b0 b1 b2 b3).1 == 65533 && (Lib.decodeN n b0 b1 b2 b3).2 == 1) = true := by
  simp only [decide_eq_true_eq, decide_eq_false_iff_not] at e0 e1
  unfold Lib.decodeN
  repeat' split
  all_goals first | (exfalso; omega) | exact ⟨rfl, rfl⟩ | (refine ⟨rfl, ?_⟩; simp; omega) | (refine ⟨rfl, ?_⟩; simp)

theorem size_H1 (l : List UInt8) (n : Nat) (hn : n < l.length) (c1 : 240 ≤ bt l n) (c2 : bt l n ≤ 240) (e0 : wi l (n + 1) 144 191 = true) (e1 : wi l (n + 2) 128 191 = false) : (dec (l.drop n)).2 = 1 ∧ looseB (l.drop n) = true := by
  unfold wi at e0 e1
  unfold looseB dec
  simp only [bt_drop, Nat.add_zero, List.length_drop]
  exact sz_H1 _ _ _ _ _ (by omega) c1 c2 (bt_lt _ _) (bt_lt _ _) (bt_lt _ _) (by rw [← e0]; congr 1; apply propext; omega) (by rw [← e1]; congr 1; apply propext; omega)

set_option maxRecDepth 100000 in
set_option maxHeartbeats 1000000 in
theorem sz_H2 (n b0 b1 b2 b3 : Nat) (hn : 1 ≤ n) (c1 : 240 ≤ b0) (c2 : b0 ≤ 240) (h1 : b1 < 256) (h2 : b2 < 256) (h3 : b3 < 256) (e0 : decide (1 < n ∧ 144 ≤ b1 ∧ b1 ≤ 191) = true) (e1 : decide (2 < n ∧ 128 ≤ b2 ∧ b2 ≤ 191) = true) (e2 : decide (3 < n ∧ 128 ≤ b3 ∧ b3 ≤ 191) = false) :
    (Lib.decodeN n b0 b1 b2 b3).2 = 1 ∧ ((Lib.decodeN n b0 b1 b2 b3).1 == 65533 && (Lib.decodeN n b0 b1 b2 b3).2 == 1) = true := by
  simp only [decide_eq_true_eq, decide_eq_false_iff_not] at e0 e1 e2
  unfold Lib.decodeN
  repeat' split
  all_goals first | (exfalso; omega) | exact ⟨rfl, rfl⟩ | (refine ⟨rfl, ?_⟩; simp; omega) | (refine ⟨rfl, ?_⟩; simp)

theorem size_H2 (l : List UInt8) (n : Nat) (hn : n < l.length) (c1 : 240 ≤ bt l n) (c2 : bt l n ≤ 240) (e0 : wi l (n + 1) 144 191 = true) (e1 : wi l (n + 2) 128 191 = true) (e2 : wi l (n + 3) 128 191 = false) : (dec (l.drop n)).2 = 1 ∧ looseB (l.drop n) = true := by
  unfold wi at e0 e1 e2
  unfold looseB dec
  simp only [bt_drop, Nat.add_zero, List.length_drop]
  exact sz_H2 _ _ _ _ _ (by omega) c1 c2 (bt_lt _ _) (bt_lt _ _) (bt_lt _ _) (by rw [← e0]; congr 1; apply propext; omega) (by rw [← e1]; congr 1; apply propext; omega) (by rw [← e2]; congr 1; apply propext; omega)

set_option maxRecDepth 100000 in
set_option maxHeartbeats 1000000 in
theorem sz_H3 (n b0 b1 b2 b3 : Nat) (hn : 1 ≤ n) (c1 : 240 ≤ b0) (c2 : b0 ≤ 240) (h1 : b1 < 256) (h2 : b2 < 256) (h3 : b3 < 256) (e0 : decide (1 < n ∧ 144 ≤ b1 ∧ b1 ≤ 191) = true) (e1 : decide (2 < n ∧ 128 ≤ b2 ∧ b2 ≤ 191) = true) (e2 : decide (3 < n ∧ 128 ≤ b3 ∧ b3 ≤ 191) = true) :
    (Lib.decodeN n b0 b1 b2 b3).2 = 4 ∧ ((Lib.decodeN n b0 b1 b2 b3).1 == 65533 && (Lib.decodeN n b0 b1 b2 b3).2 == 1) = false := by
  simp only [decide_eq_true_eq, decide_eq_false_iff_not] at e0 e1 e2
  unfold Lib.decodeN
  repeat' split
  all_goals first | (exfalso; omega) | exact ⟨rfl, rfl⟩ | (refine ⟨rfl, ?_⟩; simp; omega) | (refine ⟨rfl, ?_⟩; simp)

theorem size_H3 (l : List UInt8) (n : Nat) (hn : n < l.length) (c1 : 240 ≤ bt l n) (c2 : bt l n ≤ 240) (e0 : wi l (n + 1) 144 191 = true) (e1 : wi l (n + 2) 128 191 = true) (e2 : wi l (n + 3) 128 191 = true) : (dec (l.drop n)).2 = 4 ∧ looseB (l.drop n) = false := by
  unfold wi at e0 e1 e2
  unfold looseB dec
  simp only [bt_drop, Nat.add_zero, List.length_drop]
  exact sz_H3 _ _ _ _ _ (by omega) c1 c2 (bt_lt _ _) (bt_lt _ _) (bt_lt _ _) (by rw [← e0]; congr 1; apply propext; omega) (by rw [← e1]; congr 1; apply propext; omega) (by rw [← e2]; congr 1; apply propext; omega)

set_option maxRecDepth 100000 in
set_option maxHeartbeats 1000000 in
theorem sz_I0 (n b0 b1 b2 b3 : Nat) (hn : 1 ≤ n) (c1 : 241 ≤ b0) (c2 : b0 ≤ 243) (h1 : b1 < 256) (h2 : b2 < 256) (h3 : b3 < 256) (e0 : decide (1 < n ∧ 128 ≤ b1 ∧ b1 ≤ 191) = false) :
    (Lib.decodeN n b0 b1 b2 b3).2 = 1 ∧ ((Lib.decodeN n b0 b1 b2 b3).1 == 65533 && (Lib.decodeN n b0 b1 b2 b3).2 == 1) = true := by
  simp only [decide_eq_true_eq, decide_eq_false_iff_not] at e0
  unfold Lib.decodeN
  repeat' split
  all_goals first | (exfalso; omega) | exact ⟨rfl, rfl⟩ | (refine ⟨rfl, ?_⟩; simp; omega) | (refine ⟨rfl, ?_⟩; simp)

theorem size_I0 (l : List UInt8) (n : Nat) (hn : n < l.length) (c1 : 241 ≤ bt l n) (c2 : bt l n ≤ 243) (e0 : wi l (n + 1) 128 191 = false) : (dec (l.drop n)).2 = 1 ∧ looseB (l.drop n) = true := by
  unfold wi at e0
  unfold looseB dec
  simp only [bt_drop, Nat.add_zero, List.length_drop]
  exact sz_I0 _ _ _ _ _ (by omega) c1 c2 (bt_lt _ _) (bt_lt _ _) (bt_lt _ _) (by rw [← e0]; congr 1; apply propext; omega)

set_option maxRecDepth 100000 in
set_option maxHeartbeats 1000000 in
theorem sz_I1 (n b0 b1 b2 b3 : Nat) (hn : 1 ≤ n) (c1 : 241 ≤ b0) (c2 : b0 ≤ 243) (h1 : b1 < 256) (h2 : b2 < 256) (h3 : b3 < 256) (e0 : decide (1 < n ∧ 128 ≤ b1 ∧ b1 ≤ 191) = true) (e1 : decide (2 < n ∧ 128 ≤ b2 ∧ b2 ≤ 191) = false) :
    (Lib.decodeN n b0 b1 b2 b3).2 = 1 ∧ ((Lib.decodeN n b0 b1 b2 b3).1 == 65533 && (Lib.decodeN n b0 b1 b2 b3).2 == 1) = true := by
  simp only [decide_eq_true_eq, decide_eq_false_iff_not] at e0 e1
  unfold Lib.decodeN
  repeat' split
  all_goals first | (exfalso; omega) | exact ⟨rfl, rfl⟩ | (refine ⟨rfl, ?_⟩; simp; omega) | (refine ⟨rfl, ?_⟩; simp)

theorem size_I1 (l : List UInt8) (n : Nat) (hn : n < l.length) (c1 : 241 ≤ bt l n) (c2 : bt l n ≤ 243) (e0 : wi l (n + 1) 128 191 = true) (e1 : wi l (n + 2) 128 191 = false) : (dec (l.drop n)).2 = 1 ∧ looseB (l.drop n) = true := by
  unfold wi at e0 e1
  unfold looseB dec
  simp only [bt_drop, Nat.add_zero, List.length_drop]
  exact sz_I1 _ _ _ _ _ (by omega) c1 c2 (bt_lt _ _) (bt_lt _ _) (bt_lt _ _) (by rw [← e0]; congr 1; apply propext; omega) (by rw [← e1]; congr 1; apply propext; omega)

set_option maxRecDepth 100000 in
set_option maxHeartbeats 1000000 in
theorem sz_I2 (n b0 b1 b2 b3 : Nat) (hn : 1 ≤ n) (c1 : 241 ≤ b0) (c2 : b0 ≤ 243) (h1 : b1 < 256) (h2 : b2 < 256) (h3 : b3 < 256) (e0 : decide (1 < n ∧ 128 ≤ b1 ∧ b1 ≤ 191) = true) (e1 : decide (2 < n ∧ 128 ≤ b2 ∧ b2 ≤ 191) = true) (e2 : decide (3 < n ∧ 128 ≤ b3 ∧ b3 ≤ 191) = false) :
    (Lib.decodeN n b0 b1 b2 b3).2 = 1 ∧ ((Lib.decodeN n b0 b1 b2 b3).1 == 65533 && (Lib.decodeN n b0 b1 b2 b3).2 == 1) = true := by
  simp only [decide_eq_true_eq, decide_eq_false_iff_not] at e0 e1 e2
  unfold Lib.decodeN
  repeat' split
  all_goals first | (exfalso; omega) | exact ⟨rfl, rfl⟩ | (refine ⟨rfl, ?_⟩; simp; omega) | (refine ⟨rfl, ?_⟩; simp)

theorem size_I2 (l : List UInt8) (n : Nat) (hn : n < l.length) (c1 : 241 ≤ bt l n) (c2 : bt l n ≤ 243) (e0 : wi l (n + 1) 128 191 = true) (e1 : wi l (n + 2) 128 191 = true) (e2 : wi l (n + 3) 128 191 = false) : (dec (l.drop n)).2 = 1 ∧ looseB (l.drop n) = true := by
  unfold wi at e0 e1 e2
  unfold looseB dec
  simp only [bt_drop, Nat.add_zero, List.length_drop]
  exact sz_I2 _ _ _ _ _ (by omega) c1 c2 (bt_lt _ _) (bt_lt _ _) (bt_lt _ _) (by rw [← e0]; congr 1; apply propext; omega) (by rw [← e1]; congr 1; apply propext; omega) (by rw [← e2]; congr 1; apply propext; omega)

set_option maxRecDepth 100000 in
set_option maxHeartbeats 1000000 in
theorem sz_I3 (n b0 b1 b2 b3 : Nat) (hn : 1 ≤ n) (c1 : 241 ≤ b0) (c2 : b0 ≤ 243) (h1 : b1 < 256) (h2 : b2 < 256) (h3 : b3 < 256) (e0 : decide (1 < n ∧ 128 ≤ b1 ∧ b1 ≤ 191) = true) (e1 : decide (2 < n ∧ 128 ≤ b2 ∧ b2 ≤ 191) = true) (e2 : decide (3 < n ∧ 128 ≤ b3 ∧ b3 ≤ 191) = true) :
    (Lib.decodeN n b0 b1 b2 b3).2 = 4 ∧ ((Lib.decodeN n b0 b1 b2 b3).1 == 65533 && (Lib.decodeN n b0 b1 b2 b3).2 == 1) = false := by
  simp only [decide_eq_true_eq, decide_eq_false_iff_not] at e0 e1 e2
  unfold Lib.decodeN
  repeat' split
  all_goals first | (exfalso; omega) | exact ⟨rfl, rfl⟩ | (refine ⟨rfl, ?_⟩; simp; omega) | (refine ⟨rfl, ?_⟩; simp)

theorem size_I3 (l : List UInt8) (n : Nat) (hn : n < l.length) (c1 : 241 ≤ bt l n) (c2 : bt l n ≤ 243) (e0 : wi l (n + 1) 128 191 = true) (e1 : wi l (n + 2) 128 191 = true) (e2 : wi l (n + 3) 128 191 = true) : (dec (l.drop n)).2 = 4 ∧ looseB (l.drop n) = false := by
  unfold wi at e0 e1 e2
  unfold looseB dec
  simp only [bt_drop, Nat.add_zero, List.length_drop]
  exact sz_I3 _ _ _ _ _ (by omega) c1 c2 (bt_lt _ _) (bt_lt _ _) (bt_lt _ _) (by rw [← e0]; congr 1; apply propext; omega) (by rw [← e1]; congr 1; apply propext; omega) (by rw [← e2]; congr 1; apply propext; omega)

set_option maxRecDepth 100000 in
set_option maxHeartbeats 1000000 in
theorem sz_J0 (n b0 b1 b2 b3 : Nat) (hn : 1 ≤ n) (c1 : 244 ≤ b0) (c2 : b0 ≤ 244) (h1 : b1 < 256) (h2 : b2 < 256) (h3 : b3 < 256) (e0 : decide (1 < n ∧ 128 ≤ b1 ∧ b1 ≤ 143) = false) :
    (Lib.decodeN n b0 b1 b2 b3).2 = 1 ∧ ((Lib.decodeN n b0 b1 b2 b3).1 == 65533 && (Lib.decodeN n b0 b1 b2 b3).2 == 1) = true := by
  simp only [decide_eq_true_eq, decide_eq_false_iff_not] at e0
  unfold Lib.decodeN
  repeat' split
  all_goals first | (exfalso; omega) | exact ⟨rfl, rfl⟩ | (refine ⟨rfl, ?_⟩; simp; omega) | (refine ⟨rfl, ?_⟩; simp)

theorem size_J0 (l : List UInt8) (n : Nat) (hn : n < l.length) (c1 : 244 ≤ bt l n) (c2 : bt l n ≤ 244) (e0 : wi l (n + 1) 128 143 = false) : (dec (l.drop n)).2 = 1 ∧ looseB (l.drop n) = true := by
  unfold wi at e0
  unfold looseB dec
  simp only [bt_drop, Nat.add_zero, List.length_drop]
  exact sz_J0 _ _ _ _ _ (by omega) c1 c2 (bt_lt _ _) (bt_lt _ _) (bt_lt _ _) (by rw [← e0]; congr 1; apply propext; omega)

set_option maxRecDepth 100000 in
set_option maxHeartbeats 1000000 in
theorem sz_J1 (n b0 b1 b2 b3 : Nat) (hn : 1 ≤ n) (c1 : 244 ≤ b0) (c2 : b0 ≤ 244) (h1 : b1 < 256) (h2 : b2 < 256) (h3 : b3 < 256) (e0 : decide (1 < n ∧ 128 ≤ b1 ∧ b1 ≤ 143) = true) (e1 : decide (2 < n ∧ 128 ≤ b2 ∧ b2 ≤ 191) = false) :
    (Lib.decodeN n b0 b1 b2 b3).2 = 1 ∧ ((Lib.decodeN n b0 b1 b2 b3).1 == 65533 && (Lib.decodeN n b0 b1 b2 b3).2 == 1) = true := by
  simp only [decide_eq_true_eq, decide_eq_false_iff_not] at e0 e1
  unfold Lib.decodeN
  repeat' split
  all_goals first | (exfalso; omega) | exact ⟨rfl, rfl⟩ | (refine ⟨rfl, ?_⟩; simp; omega) | (refine ⟨rfl, ?_⟩; simp)

theorem size_J1 (l : List UInt8) (n : Nat) (hn : n < l.length) (c1 : 244 ≤ bt l n) (c2 : bt l n ≤ 244) (e0 : wi l (n + 1) 128 143 = true) (e1 : wi l (n + 2) 128 191 = false) : (dec (l.drop n)).2 = 1 ∧ looseB (l.drop n) = true := by
  unfold wi at e0 e1
  unfold looseB dec
  simp only [bt_drop, Nat.add_zero, List.length_drop]
  exact sz_J1 _ _ _ _ _ (by omega) c1 c2 (bt_lt _ _) (bt_lt _ _) (bt_lt _ _) (by rw [← e0]; congr 1; apply propext; omega) (by rw [← e1]; congr 1; apply propext; omega)

set_option maxRecDepth 100000 in
set_option maxHeartbeats 1000000 in
theorem sz_J2 (n b0 b1 b2 b3 : Nat) (hn : 1 ≤ n) (c1 : 244 ≤ b0) (c2 : b0 ≤ 244) (h1 : b1 < 256) (h2 : b2 < 256) (h3 : b3 < 256) (e0 : decide (1 < n ∧ 128 ≤ b1 ∧ b1 ≤ 143) = true) (e1 : decide (2 < n ∧ 128 ≤ b2 ∧ b2 ≤ 191) = true) (e2 : decide (3 < n ∧ 128 ≤ b3 ∧ b3 ≤ 191) = false) :
    (Lib.decodeN n b0 b1 b2 b3).2 = 1 ∧ ((Lib.decodeN n b0 b1 b2 b3).1 == 65533 && (Lib.decodeN n b0 b1 b2 b3).2 == 1) = true := by
  simp only [decide_eq_true_eq, decide_eq_false_iff_not] at e0 e1 e2
  unfold Lib.decodeN
  repeat' split
  all_goals first | (exfalso; omega) | exact ⟨rfl, rfl⟩ | (refine ⟨rfl, ?_⟩; simp; omega) | (refine ⟨rfl, ?_⟩; simp)

theorem size_J2 (l : List UInt8) (n : Nat) (hn : n < l.length) (c1 : 244 ≤ bt l n) (c2 : bt l n ≤ 244) (e0 : wi l (n + 1) 128 143 = true) (e1 : wi l (n + 2) 128 191 = true) (e2 : wi l (n + 3) 128 191 = false) : (dec (l.drop n)).2 = 1 ∧ looseB (l.drop n) = true := by
  unfold wi at e0 e1 e2
  unfold looseB dec
  simp only [bt_drop, Nat.add_zero, List.length_drop]
  exact sz_J2 _ _ _ _ _ (by omega) c1 c2 (bt_lt _ _) (bt_lt _ _) (bt_lt _ _) (by rw [← e0]; congr 1; apply propext; omega) (by rw [← e1]; congr 1; apply propext; omega) (by rw [← e2]; congr 1; apply propext; omega)

set_option maxRecDepth 100000 in
set_option maxHeartbeats 1000000 in
theorem sz_J3 (n b0 b1 b2 b3 : Nat) (hn : 1 ≤ n) (c1 : 244 ≤ b0) (c2 : b0 ≤ 244) (h1 : b1 < 256) (h2 : b2 < 256) (h3 : b3 < 256) (e0 : decide (1 < n ∧ 128 ≤ b1 ∧ b1 ≤ 143) = true) (e1 : decide (2 < n ∧ 128 ≤ b2 ∧ b2 ≤ 191) = true) (e2 : decide (3 < n ∧ 128 ≤ b3 ∧ b3 ≤ 191) = true) :
    (Lib.decodeN n b0 b1 b2 b3).2 = 4 ∧ ((Lib.decodeN n b0 b1 b2 b3).1 == 65533 && (Lib.decodeN n b0 b1 b2 b3).2 == 1) = false := by
  simp only [decide_eq_true_eq, decide_eq_false_iff_not] at e0 e1 e2
  unfold Lib.decodeN
  repeat' split
  all_goals first | (exfalso; omega) | exact ⟨rfl, rfl⟩ | (refine ⟨rfl, ?_⟩; simp; omega) | (refine ⟨rfl, ?_⟩; simp)

theorem size_J3 (l : List UInt8) (n : Nat) (hn : n < l.length) (c1 : 244 ≤ bt l n) (c2 : bt l n ≤ 244) (e0 : wi l (n + 1) 128 143 = true) (e1 : wi l (n + 2) 128 191 = true) (e2 : wi l (n + 3) 128 191 = true) : (dec (l.drop n)).2 = 4 ∧ looseB (l.drop n) = false := by
  unfold wi at e0 e1 e2
  unfold looseB dec
  simp only [bt_drop, Nat.add_zero, List.length_drop]
  exact sz_J3 _ _ _ _ _ (by omega) c1 c2 (bt_lt _ _) (bt_lt _ _) (bt_lt _ _) (by rw [← e0]; congr 1; apply propext; omega) (by rw [← e1]; congr 1; apply propext; omega) (by rw [← e2]; congr 1; apply propext; omega)

set_option maxRecDepth 100000 in
set_option maxHeartbeats 1000000 in
theorem sz_K (n b0 b1 b2 b3 : Nat) (hn : 1 ≤ n) (c1 : 245 ≤ b0) (c2 : b0 ≤ 255) (h1 : b1 < 256) (h2 : b2 < 256) (h3 : b3 < 256)  :
    (Lib.decodeN n b0 b1 b2 b3).2 = 1 ∧ ((Lib.decodeN n b0 b1 b2 b3).1 == 65533 && (Lib.decodeN n b0 b1 b2 b3).2 == 1) = true := by
  unfold Lib.decodeN
  repeat' split
  all_goals first | (exfalso; omega) | exact ⟨rfl, rfl⟩ | (refine ⟨rfl, ?_⟩; simp; omega) | (refine ⟨rfl, ?_⟩; simp)

theorem size_K (l : List UInt8) (n : Nat) (hn : n < l.length) (c1 : 245 ≤ bt l n) (c2 : bt l n ≤ 255)  : (dec (l.drop n)).2 = 1 ∧ looseB (l.drop n) = true := by
  skip
  unfold looseB dec
  simp only [bt_drop, Nat.add_zero, List.length_drop]
  exact sz_K _ _ _ _ _ (by omega) c1 c2 (bt_lt _ _) (bt_lt _ _) (bt_lt _ _) 

end Sp
end Go.Proofs.YtjedoipbllcfdaaDoor
