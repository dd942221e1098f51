/-
  PLAIN LEAN, no program in sight: a number written with decimals, plain or as four parts, is the number; two of them are two tokens.
-/
import Derived.Test.YtjedoipbllcfdaaDoorPb
import Derived.Lib.ItoaNum
import Derived.Lib.ItoaMem
set_option linter.unusedVariables false
set_option linter.unusedSimpArgs false
set_option maxHeartbeats 1000000
namespace Go.Proofs.YtjedoipbllcfdaaDoor
namespace Sp
open Go.Lib (decDigits)

def Dig (c : UInt8) : Prop := 48 ≤ c.toNat ∧ c.toNat ≤ 57
theorem dig_of (k : Nat) (h : k < 10) : (UInt8.ofNat (48 + k)).toNat = 48 + k := by
  rw [UInt8.toNat_ofNat']
  omega
theorem Dig.hexv {c : UInt8} (h : Dig c) : hexv c = c.toNat - 48 := by unfold Dig at h; unfold Sp.hexv; rw [if_pos h]
theorem dec_step (u : Nat) (h : ¬ u < 10) : decDigits u = decDigits (u / 10) ++ [UInt8.ofNat (48 + u % 10)] := by rw [decDigits, dif_neg h]
theorem dec_dig (u : Nat) : ∀ c ∈ decDigits u, Dig c := by
  induction u using Nat.strongRecOn with
  | _ u ih =>
    by_cases h : u < 10
    · rw [Go.Lib.decDigits_one h]
      intro c hc
      rw [List.mem_singleton.1 hc]
      unfold Dig
      rw [dig_of u h]
      omega
    · rw [dec_step u h]
      intro c hc
      rcases List.mem_append.1 hc with hc | hc
      · exact ih (u / 10) (by omega) c hc
      · rw [List.mem_singleton.1 hc]
        unfold Dig
        rw [dig_of (u % 10) (by omega)]
        omega
theorem dec_ne (u : Nat) : decDigits u ≠ [] := by
  by_cases h : u < 10
  · rw [Go.Lib.decDigits_one h]; simp
  · rw [dec_step u h]; simp
theorem dec_val (u : Nat) : digitsV 10 0 (decDigits u) = u := by
  induction u using Nat.strongRecOn with
  | _ u ih =>
    have hx : ∀ k, k < 10 → hexv (UInt8.ofNat (48 + k)) = k := by
      intro k hk
      have hd : Dig (UInt8.ofNat (48 + k)) := by unfold Dig; rw [dig_of k hk]; omega
      rw [hd.hexv, dig_of k hk]
      omega
    by_cases h : u < 10
    · rw [Go.Lib.decDigits_one h]
      simp only [digitsV]
      rw [hx u h]
      omega
    · rw [dec_step u h, digitsV_append, ih (u / 10) (by omega)]
      simp only [digitsV]
      rw [hx (u % 10) (by omega)]
      omega
theorem dec_head (u : Nat) (h1 : 1 ≤ u) : (decDigits u).head? ≠ some 48 := by
  induction u using Nat.strongRecOn with
  | _ u ih =>
    by_cases h : u < 10
    · rw [Go.Lib.decDigits_one h]
      intro e
      injection e with e
      have := congrArg UInt8.toNat e
      rw [dig_of u h] at this
      have h48 : (48 : UInt8).toNat = 48 := rfl
      omega
    · rw [dec_step u h]
      have := ih (u / 10) (by omega) (by omega)
      cases hd : decDigits (u / 10) with
      | nil => exact absurd hd (dec_ne _)
      | cons c r => rw [hd] at this; exact this
theorem dec_length (k u : Nat) : u < 10 ^ (k + 1) → (decDigits u).length ≤ k + 1 := by
  induction k generalizing u with
  | zero => intro h; rw [Go.Lib.decDigits_one (by simpa using h)]; simp
  | succ k ih =>
    intro h
    by_cases h0 : u < 10
    · rw [Go.Lib.decDigits_one h0]; simp
    · rw [dec_step u h0, List.length_append, List.length_singleton]
      have := ih (u / 10) (by rw [Nat.pow_succ] at h; omega)
      omega
theorem dec_one (u : Nat) (h : 1 < (decDigits u).length) : 10 ≤ u := by
  rcases Nat.lt_or_ge u 10 with h0 | h0
  · rw [Go.Lib.decDigits_one h0] at h; simp at h
  · exact h0
theorem decV_dec (top u : Nat) (h : u ≤ top) (h10 : u < 10 ^ 10) : decV top (decDigits u) = some u := by
  unfold decV
  have hl := dec_length 9 u h10
  have hn : (decDigits u).length ≠ 0 := fun e => dec_ne u (List.length_eq_zero_iff.1 e)
  have ha : (decDigits u).all (fun c => decide (48 ≤ c.toNat ∧ c.toNat ≤ 57)) = true := List.all_eq_true.2 (fun c hc => decide_eq_true (dec_dig u c hc))
  rw [if_neg, dec_val, if_neg (by omega)]
  rintro (e | e | e | ⟨e1, e2⟩)
  · exact hn e
  · omega
  · rw [ha] at e; cases e
  · exact dec_head u (by have := dec_one u e1; omega) e2
theorem dec_no46 (u : Nat) : ∀ c ∈ decDigits u, c ≠ 46 := by
  intro c hc e
  have := dec_dig u c hc
  subst e
  exact absurd this (by unfold Dig; decide)
theorem numV_dec (u : Nat) (h : u ≤ 4294967295) : numV (decDigits u) = some u := by
  unfold numV
  have ha : (decDigits u).all (fun x => decide (x ≠ 46)) = true := List.all_eq_true.2 (fun c hc => decide_eq_true (dec_no46 u c hc))
  have h2 : ∀ x, (x = 120 ∨ x = 98) → ¬ (decDigits u).take 2 = [48, x] := by
    intro x hx e
    have hm : x ∈ decDigits u := List.mem_of_mem_take (i := 2) (by rw [e]; simp)
    have := dec_dig u x hm
    rcases hx with rfl | rfl
    · exact absurd this (by unfold Dig; decide)
    · exact absurd this (by unfold Dig; decide)
  rw [if_neg (by rw [ha]; simp), if_neg (h2 120 (Or.inl rfl)), if_neg (h2 98 (Or.inr rfl)), decV_dec _ u h (by omega)]

/-- The four parts, a dot between. -/
def dotV (u : Nat) : List UInt8 := decDigits (u / 16777216) ++ 46 :: (decDigits (u / 65536 % 256) ++ 46 :: (decDigits (u / 256 % 256) ++ 46 :: decDigits (u % 256)))
theorem tw46 (u : Nat) (r : List UInt8) : (decDigits u ++ 46 :: r).takeWhile (fun x => decide (x ≠ 46)) = decDigits u := by
  rw [takeWhile_all _ _ (fun c hc => decide_eq_true (dec_no46 u c hc)), List.takeWhile_cons]
  simp
theorem quad_step (k n u : Nat) (r : List UInt8) (h : u ≤ 255) : quadF (k + 1) n (decDigits u ++ 46 :: r) = quadF k (256 * n + u) r := by
  rw [quadF, if_neg (by simp), tw46, decV_dec 255 u h (by omega)]
  simp only []
  congr 1
  rw [← List.drop_drop, List.drop_left]
  rfl
theorem numV_dot (u : Nat) (h : u ≤ 4294967295) : numV (dotV u) = some u := by
  have ha : (dotV u).all (fun x => decide (x ≠ 46)) = false := by unfold dotV; simp
  unfold numV
  rw [if_pos ha]
  unfold dotV
  rw [quad_step _ _ _ _ (by omega), quad_step _ _ _ _ (by omega), quad_step _ _ _ _ (by omega), quadF, decV_dec 255 _ (by omega) (by omega)]
  simp only [Option.some.injEq]
  omega

theorem numRun_dig : ∀ (d l : List UInt8), (∀ c ∈ d, Dig c) → numRun (d ++ l) = d.length + numRun l
  | [], l, _ => by simp
  | c :: d, l, h => by
    have hc := h c (by simp)
    have hw : wordB c = true := by
      unfold wordB digitB
      rw [decide_eq_true (p := 48 ≤ c.toNat ∧ c.toNat ≤ 57) hc, Bool.or_true]
    rw [List.cons_append, numRun, hw, Bool.true_or, if_pos rfl, numRun_dig d l (fun x hx => h x (by simp [hx])), List.length_cons]
    omega
theorem class_dig {c : UInt8} (h : Dig c) : classB c = 6 := by
  unfold Dig at h
  unfold classB
  have h1 : blankB c = false := by unfold blankB; exact decide_eq_false (by omega)
  have h2 : letterB c = false := by unfold letterB; exact decide_eq_false (by omega)
  have h3 : digitB c = true := by unfold digitB; exact decide_eq_true (by omega)
  rw [h1, h2, h3, if_neg (by simp), if_neg (by omega), if_neg (by omega), if_neg (by omega), if_neg (by omega), if_neg (by simp), if_pos rfl]
theorem class_dec (u : Nat) (r : List UInt8) : classV (decDigits u ++ r) = 6 := by
  cases hd : decDigits u with
  | nil => exact absurd hd (dec_ne _)
  | cons c d => exact class_dig (dec_dig u c (by rw [hd]; simp))
theorem numRun_dot (u : Nat) (r : List UInt8) : numRun (46 :: (decDigits u ++ r)) = 1 + (decDigits u).length + numRun r := by
  rw [numRun, class_dec, numRun_dig _ _ (dec_dig u)]
  simp
  omega
theorem numRun_dec (u : Nat) (l : List UInt8) (h : numRun l = 0) : numRun (decDigits u ++ l) = (decDigits u).length := by
  rw [numRun_dig _ _ (dec_dig u), h]
  rfl
theorem numRun_dotV (u : Nat) (l : List UInt8) (h : numRun l = 0) : numRun (dotV u ++ l) = (dotV u).length := by
  unfold dotV
  simp only [List.append_assoc, List.cons_append]
  rw [numRun_dig _ _ (dec_dig _), numRun_dot, numRun_dot, numRun_dot, h]
  simp
  omega

theorem piece_num {a l : List UInt8} {u : Nat} (hc : classV a = 6) (hr : numRun (a ++ l) = a.length) (hn : numV a = some u) : pieceV (a ++ l) = (4, a.length, 0, 0) := by
  have hcl : classV (a ++ l) = 6 := by
    cases a with
    | nil => cases hc
    | cons c r => exact hc
  unfold pieceV
  rw [if_neg (by omega), if_pos hcl, hr, List.take_left, hn]
theorem run_num {a l : List UInt8} {u : Nat} (hc : classV a = 6) (hr : numRun (a ++ l) = a.length) (hn : numV a = some u) (line col : Nat) (op : Bool) (acc : List Tok) :
    runV (a ++ l) line col op acc = runV l line (col + chars a) true (acc ++ [(4, a, line, col)]) := by
  have hp := piece_num hc hr hn
  cases a with
  | nil => cases hc
  | cons c r =>
    have hpa : PieceAt c := by
      have : classB c = 6 := hc
      unfold PieceAt
      omega
    rw [List.cons_append] at hp ⊢
    rw [runV_tok _ _ _ _ _ hpa hp]
    have e1 : (c :: (r ++ l)).drop (c :: r).length = l := by rw [← List.cons_append, List.drop_left]
    have e2 : (c :: (r ++ l)).take (c :: r).length = c :: r := by rw [← List.cons_append, List.take_left]
    rw [e1, e2]
theorem scan_two (u : Nat) (h : u ≤ 4294967295) (hl : (decDigits u).length + 1 + (dotV u).length ≤ 16384) :
    ∃ col col', scanV (decDigits u ++ 32 :: dotV u) = ([(4, decDigits u, 1, 1), (4, dotV u, 1, col), (1, [10], 1, col')], 0, 0, 0) := by
  have h0 : numRun (32 :: dotV u) = 0 := by
    rw [numRun, if_neg]
    simp
    decide
  rw [scanV_run _ (by rw [List.length_append, List.length_cons]; omega)]
  have c1 : classV (decDigits u) = 6 := by have := class_dec u []; rw [List.append_nil] at this; exact this
  have c2 : classV (dotV u) = 6 := by unfold dotV; exact class_dec _ _
  have r2 : numRun (dotV u ++ []) = (dotV u).length := numRun_dotV u [] rfl
  rw [run_num c1 (numRun_dec u _ h0) (numV_dec u h), runV_blank _ _ _ _ _ (by decide)]
  have e : dotV u = dotV u ++ [] := (List.append_nil _).symm
  refine ⟨1 + chars (decDigits u) + 1, 1 + chars (decDigits u) + 1 + chars (dotV u), ?_⟩
  conv => lhs; rw [e]
  rw [run_num c2 r2 (numV_dot u h), runV_nil]
  rfl
end Sp
end Go.Proofs.YtjedoipbllcfdaaDoor
