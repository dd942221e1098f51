/-
  WALKS: how the reference writes numbers, signs and tests (chapter 5).
-/
import Derived.Test.YtdmpapoabeljfaaGreatDoorKg
import Derived.Test.YtdmpapoabeljfaaGreatDoorKf
import Derived.Test.YtdmpapoabeljfaaGreatDoorFg
set_option linter.unusedVariables false
set_option linter.unusedSimpArgs false
set_option maxRecDepth 100000
set_option maxHeartbeats 1000000
namespace Go.Proofs.YtdmpapoabeljfaaGreatDoor
open Go.RowKit

theorem ref5_signOf (op : Int) (w : World) : Calls Tryz.prog 47 #[.int .i64 op] w fun e w' => e = .returned (.string (bs (Sp.signS op))) ∧ w = w' := by
  by_cases h1 : op = 1
  · subst h1; go_enter Tryz.func47, Tryz.ntmps47; go_wp2; go_ret; exact ⟨rfl, rfl⟩
  by_cases h2 : op = 2
  · subst h2; go_enter Tryz.func47, Tryz.ntmps47; go_wp2; go_ret; exact ⟨rfl, rfl⟩
  by_cases h3 : op = 3
  · subst h3; go_enter Tryz.func47, Tryz.ntmps47; go_wp2; go_ret; exact ⟨rfl, rfl⟩
  by_cases h4 : op = 4
  · subst h4; go_enter Tryz.func47, Tryz.ntmps47; go_wp2; go_ret; exact ⟨rfl, rfl⟩
  by_cases h5 : op = 5
  · subst h5; go_enter Tryz.func47, Tryz.ntmps47; go_wp2; go_ret; exact ⟨rfl, rfl⟩
  by_cases h6 : op = 6
  · subst h6; go_enter Tryz.func47, Tryz.ntmps47; go_wp2; go_ret; exact ⟨rfl, rfl⟩
  have HE := Lib.hid (show Sp.signS op = [] by unfold Sp.signS; rw [if_neg h1, if_neg h2, if_neg h3, if_neg h4, if_neg h5, if_neg h6])
  have e1 : (op == 1) = false := beq_eq_false_iff_ne.2 h1
  have e2 : (op == 2) = false := beq_eq_false_iff_ne.2 h2
  have e3 : (op == 3) = false := beq_eq_false_iff_ne.2 h3
  have e4 : (op == 4) = false := beq_eq_false_iff_ne.2 h4
  have e5 : (op == 5) = false := beq_eq_false_iff_ne.2 h5
  have e6 : (op == 6) = false := beq_eq_false_iff_ne.2 h6
  clear h1 h2 h3 h4 h5 h6
  go_enter Tryz.func47, Tryz.ntmps47
  go_wp2
  go_ret
  exact ⟨by rw [HE.out]; rfl, rfl⟩

theorem ref5_fitting (v : Int) (w : World) : Calls Tryz.prog 48 #[.int .i64 v] w fun e w' => e = .returned (.bool (Sp.fitB v)) ∧ w = w' := by
  by_cases h1 : 0 ≤ v
  · have p1 : decide (v ≥ 0) = true := decide_eq_true h1
    have p2 : decide (0 ≤ v) = true := decide_eq_true h1
    by_cases h2 : v ≤ 4294967295
    · have p3 : decide (v ≤ 4294967295) = true := decide_eq_true h2
      have HE := Lib.hid (show Sp.fitB v = true by unfold Sp.fitB; rw [p2, p3]; rfl)
      clear h1 h2
      go_enter Tryz.func48, Tryz.ntmps48
      go_wp2
      go_ret
      exact ⟨by rw [HE.out]; rfl, rfl⟩
    · have p3 : decide (v ≤ 4294967295) = false := decide_eq_false h2
      have HE := Lib.hid (show Sp.fitB v = false by unfold Sp.fitB; rw [p2, p3]; rfl)
      clear h1 h2
      go_enter Tryz.func48, Tryz.ntmps48
      go_wp2
      go_ret
      exact ⟨by rw [HE.out]; rfl, rfl⟩
  · have p1 : decide (v ≥ 0) = false := decide_eq_false h1
    have p2 : decide (0 ≤ v) = false := decide_eq_false h1
    have HE := Lib.hid (show Sp.fitB v = false by unfold Sp.fitB; rw [p2]; rfl)
    clear h1
    go_enter Tryz.func48, Tryz.ntmps48
    go_wp2
    go_ret
    exact ⟨by rw [HE.out]; rfl, rfl⟩

theorem small_at (M : Nat) (h : M < 10) : (⟨#[48, 49, 50, 51, 52, 53, 54, 55, 56, 57, 97, 98, 99, 100, 101, 102]⟩ : ByteArray).extract M (M + 1) = bs [UInt8.ofNat (48 + M)] := by
  rcases (show M = 0 ∨ M = 1 ∨ M = 2 ∨ M = 3 ∨ M = 4 ∨ M = 5 ∨ M = 6 ∨ M = 7 ∨ M = 8 ∨ M = 9 by omega) with rfl | rfl | rfl | rfl | rfl | rfl | rfl | rfl | rfl | rfl <;> kernel_rfl
/-- A number, decimal: it reads alone. -/
theorem ref3_plain : ∀ (u : Nat), u ≤ 4294967295 → ∀ (w : World),
    Calls Tryz.prog 119 #[.int .i64 (u : Nat)] w fun e w' => e = .returned (.string (bs (Lib.decDigits u))) ∧ ∃ k, w' = w.drewN k := by
  intro u
  induction u using Nat.strongRecOn with
  | ind u ih =>
  intro hu w
  by_cases hlt : u < 10
  · have HD := Lib.hid (Lib.decDigits_one hlt)
    clear ih hu
    rcases (show u = 0 ∨ u = 1 ∨ u = 2 ∨ u = 3 ∨ u = 4 ∨ u = 5 ∨ u = 6 ∨ u = 7 ∨ u = 8 ∨ u = 9 by omega) with rfl | rfl | rfl | rfl | rfl | rfl | rfl | rfl | rfl | rfl
    all_goals
      go_enter Tryz.func119, Tryz.ntmps119
      go_wp2_with fail
      go_ret
      exact ⟨by rw [HD.out]; rfl, 0, rfl⟩
  · have HI := Lib.hid (ih (u / 10) (by omega) (by omega))
    have HD := Lib.hid (Sp.dec_step u hlt)
    have hl : (Lib.decDigits (u / 10)).length ≤ 20 := by
      have h10 : (10 : Nat) ^ (9 + 1) = 10000000000 := by decide
      have := Sp.dec_length 9 (u / 10) (by omega)
      omega
    generalize Lib.decDigits (u / 10) = X at *
    have hr : u % 10 < 10 := Nat.mod_lt _ (by omega)
    have q1 : decide ((u : Int) < 10) = false := decide_eq_false (by omega)
    have q2 : decide (u < 10) = false := decide_eq_false hlt
    obtain ⟨D, hD⟩ : ∃ D : Int, ((u / 10 : Nat) : Int) = D := ⟨_, rfl⟩
    obtain ⟨M, hM⟩ : ∃ M : Nat, u % 10 = M := ⟨_, rfl⟩
    have y0 : (u : Int).tdiv 10 = D := by rw [← hD, Int.tdiv_eq_ediv_of_nonneg (by omega)]; omega
    have y0m : (u : Int).tmod 10 = (M : Int) := by rw [← hM, Int.tmod_eq_emod_of_nonneg (by omega)]; omega
    have y1 : IntKind.i64.wrap D = D := by rw [← hD, IntKind.wrap_i64]; omega
    have y2 : IntKind.i64.wrap (M : Int) = (M : Int) := by rw [← hM, IntKind.wrap_i64]; omega
    have y3 : IntKind.i64.wrap ((M : Int) + 1) = (M : Int) + 1 := by rw [← hM, IntKind.wrap_i64]; omega
    have mI : (0 : Int) ≤ (M : Int) := by omega
    have mU : (M : Int) < 10 := by omega
    rw [hD] at HI
    rw [hM] at HD
    have he : (⟨#[48, 49, 50, 51, 52, 53, 54, 55, 56, 57, 97, 98, 99, 100, 101, 102]⟩ : ByteArray).extract M (M + 1) = bs [UInt8.ofNat (48 + M)] := small_at M (by omega)
    generalize UInt8.ofNat (48 + M) = ch at HD he
    have hs : ∀ W : World, (Op.stringOp .add (bs X) (bs [ch])).run Tryz.prog W = .ok (.string (bs (X ++ [ch]))) W := fun W => radd X _ (by simp only [List.length_cons, List.length_nil]; omega) W
    clear hl hu hD hM
    go_enter Tryz.func119, Tryz.ntmps119
    go_wp2_with fail
    clear ih hr
    go_quiet ((go_at_call 119; ((with_reducible exact Calls.quiet_of (HI.out _)))))
    go_wp2_with fail
    go_ret
    exact ⟨by rw [HD.out]; rfl, _, rfl⟩

def GivesQ (v : Value) (w : World) (e : Ending) (w' : World) : Prop := e = .returned v ∧ ∃ k, w' = w.drewN k
theorem plain_at (u : Nat) (hu : u ≤ 4294967295) (x : Int) (hx : (u : Int) = x) : ∃ X, Lib.decDigits u = X ∧ X.length ≤ 20 ∧ ∀ W : World, Calls Tryz.prog 119 #[.int .i64 x] W (GivesQ (.string (bs X)) W) := by
  subst hx
  refine ⟨_, rfl, ?_, fun W => ref3_plain u hu W⟩
  have h10 : (10 : Nat) ^ (9 + 1) = 10000000000 := by decide
  have := Sp.dec_length 9 u (by omega)
  omega
/-- A number, in either form. -/
theorem ref3_Number (v : Int) (b : Bool) (w : World) (h : Sp.fitB v = true) :
    Calls Tryz.prog 103 #[.int .i64 v, .bool b] w (GivesQ (.tuple #[.string (bs (Sp.numS v b)), .int .i64 0]) w) := by
  unfold Sp.fitB at h
  rw [Bool.and_eq_true, decide_eq_true_eq, decide_eq_true_eq] at h
  obtain ⟨v0, v1⟩ := h
  obtain ⟨u, hu⟩ : ∃ u : Nat, (u : Int) = v := ⟨v.toNat, by omega⟩
  have hun : v.toNat = u := by omega
  have p1 : decide (v < 0) = false := decide_eq_false (by omega)
  have p2 : decide (v > 4294967295) = false := decide_eq_false (by omega)
  have p3 : decide (4294967295 < v) = false := decide_eq_false (by omega)
  cases b with
  | false =>
    obtain ⟨X, hX, hl, hC⟩ := plain_at u (by omega) v hu
    have HE := Lib.hid (show Sp.numS v false = X by unfold Sp.numS; rw [hun]; exact hX)
    have HC := Lib.hid hC
    clear hX hC hun hu
    go_enter Tryz.func103, Tryz.ntmps103
    go_wp2_with fail
    refine (HC.out _).mono ?_
    rintro e w1 ⟨rfl, k1, rfl⟩
    go_wp2_with fail
    go_ret2
    exact ⟨by rw [HE.out]; rfl, _, rfl⟩
  | true =>
    obtain ⟨X1, hX1, hl1, hC1⟩ := plain_at (u / 16777216) (by omega) (v / 16777216) (by omega)
    obtain ⟨X2, hX2, hl2, hC2⟩ := plain_at (u / 65536 % 256) (by omega) (v / 65536 % 256) (by omega)
    obtain ⟨X3, hX3, hl3, hC3⟩ := plain_at (u / 256 % 256) (by omega) (v / 256 % 256) (by omega)
    obtain ⟨X4, hX4, hl4, hC4⟩ := plain_at (u % 256) (by omega) (v % 256) (by omega)
    have HE := Lib.hid (show Sp.numS v true = X1 ++ 46 :: (X2 ++ 46 :: (X3 ++ 46 :: X4)) by unfold Sp.numS Sp.dotV; rw [hun, ← hX1, ← hX2, ← hX3, ← hX4]; rfl)
    have HC1 := Lib.hid hC1
    have HC2 := Lib.hid hC2
    have HC3 := Lib.hid hC3
    have HC4 := Lib.hid hC4
    have r1 : ∀ W : World, (Op.stringOp .add (bs X1) (⟨#[46]⟩ : ByteArray)).run Tryz.prog W = .ok (.string (bs (X1 ++ [46]))) W := fun W => radd X1 [46] (by simp only [List.length_cons, List.length_nil]; omega) W
    have r2 : ∀ W : World, (Op.stringOp .add (bs (X1 ++ [46])) (bs X2)).run Tryz.prog W = .ok (.string (bs (X1 ++ 46 :: X2))) W := fun W => (radd (X1 ++ [46]) X2 (by simp only [List.length_append, List.length_cons, List.length_nil]; omega) W).trans (by simp)
    have r3 : ∀ W : World, (Op.stringOp .add (bs (X1 ++ 46 :: X2)) (⟨#[46]⟩ : ByteArray)).run Tryz.prog W = .ok (.string (bs (X1 ++ 46 :: (X2 ++ [46])))) W := fun W => (radd (X1 ++ 46 :: X2) [46] (by simp only [List.length_append, List.length_cons, List.length_nil]; omega) W).trans (by simp)
    have r4 : ∀ W : World, (Op.stringOp .add (bs (X1 ++ 46 :: (X2 ++ [46]))) (bs X3)).run Tryz.prog W = .ok (.string (bs (X1 ++ 46 :: (X2 ++ 46 :: X3)))) W := fun W => (radd (X1 ++ 46 :: (X2 ++ [46])) X3 (by simp only [List.length_append, List.length_cons, List.length_nil]; omega) W).trans (by simp)
    have r5 : ∀ W : World, (Op.stringOp .add (bs (X1 ++ 46 :: (X2 ++ 46 :: X3))) (⟨#[46]⟩ : ByteArray)).run Tryz.prog W = .ok (.string (bs (X1 ++ 46 :: (X2 ++ 46 :: (X3 ++ [46]))))) W := fun W => (radd (X1 ++ 46 :: (X2 ++ 46 :: X3)) [46] (by simp only [List.length_append, List.length_cons, List.length_nil]; omega) W).trans (by simp)
    have r6 : ∀ W : World, (Op.stringOp .add (bs (X1 ++ 46 :: (X2 ++ 46 :: (X3 ++ [46])))) (bs X4)).run Tryz.prog W = .ok (.string (bs (X1 ++ 46 :: (X2 ++ 46 :: (X3 ++ 46 :: X4))))) W := fun W => (radd (X1 ++ 46 :: (X2 ++ 46 :: (X3 ++ [46]))) X4 (by simp only [List.length_append, List.length_cons, List.length_nil]; omega) W).trans (by simp)
    clear hX1 hX2 hX3 hX4 hC1 hC2 hC3 hC4 hun hu hl1 hl2 hl3 hl4
    have v65 : (0 : Int) ≤ v / 65536 := by omega
    have v25 : (0 : Int) ≤ v / 256 := by omega
    go_enter Tryz.func103, Tryz.ntmps103
    go_wp2_with fail
    refine (HC1.out _).mono ?_
    rintro e w1 ⟨rfl, k1, rfl⟩
    go_wp2_with fail
    refine (HC2.out _).mono ?_
    rintro e w2 ⟨rfl, k2, rfl⟩
    go_wp2_with fail
    refine (HC3.out _).mono ?_
    rintro e w3 ⟨rfl, k3, rfl⟩
    go_wp2_with fail
    refine (HC4.out _).mono ?_
    rintro e w4 ⟨rfl, k4, rfl⟩
    go_wp2_with fail
    go_ret2
    exact ⟨by rw [HE.out]; rfl, _, rfl⟩
/-- W10. -/
theorem ref5_number (v : Int) (b : Bool) (w : World) (h : Sp.fitB v = true) :
    Calls Tryz.prog 84 #[.int .i64 v, .bool b] w (GivesQ (.string (bs (Sp.numS v (b || Sp.bigB v)))) w) := by
  have HC := Lib.hid (ref3_Number v (b || Sp.bigB v) w h)
  generalize Sp.numS v (b || Sp.bigB v) = R at HC ⊢
  clear h
  cases b with
  | true =>
    rw [Bool.true_or] at HC
    go_enter Tryz.func84, Tryz.ntmps84
    go_wp2_with fail
    refine HC.out.mono ?_
    rintro e w1 ⟨rfl, k1, rfl⟩
    go_wp2_with fail
    go_ret
    exact ⟨by rfl, _, rfl⟩
  | false =>
    rw [Bool.false_or] at HC
    have hb : Sp.bigB v = true ∧ 65536 ≤ v ∨ Sp.bigB v = false ∧ ¬ 65536 ≤ v := by
      unfold Sp.bigB
      by_cases h : 65536 ≤ v
      · exact Or.inl ⟨decide_eq_true h, h⟩
      · exact Or.inr ⟨decide_eq_false h, h⟩
    rcases hb with ⟨b1, b2⟩ | ⟨b1, b2⟩ <;> rw [b1] at HC <;> clear b1
    · have q1 : decide (v ≥ 65536) = true := decide_eq_true b2
      have q2 : decide (65536 ≤ v) = true := decide_eq_true b2
      clear b2
      go_enter Tryz.func84, Tryz.ntmps84
      go_wp2_with fail
      refine HC.out.mono ?_
      rintro e w1 ⟨rfl, k1, rfl⟩
      go_wp2_with fail
      go_ret
      exact ⟨by rfl, _, rfl⟩
    · have q1 : decide (v ≥ 65536) = false := decide_eq_false b2
      have q2 : decide (65536 ≤ v) = false := decide_eq_false b2
      clear b2
      go_enter Tryz.func84, Tryz.ntmps84
      go_wp2_with fail
      refine HC.out.mono ?_
      rintro e w1 ⟨rfl, k1, rfl⟩
      go_wp2_with fail
      go_ret
      exact ⟨by rfl, _, rfl⟩
end Go.Proofs.YtdmpapoabeljfaaGreatDoor
