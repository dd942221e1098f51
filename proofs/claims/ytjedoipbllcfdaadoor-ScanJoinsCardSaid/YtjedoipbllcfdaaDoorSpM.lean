/-
  PLAIN LEAN, no program in sight: the tokens of two texts with a newline between.
-/
import Derived.Test.YtjedoipbllcfdaaDoorSpL
set_option linter.unusedVariables false
set_option linter.unusedSimpArgs false
namespace Go.Proofs.YtjedoipbllcfdaaDoor
namespace Sp
theorem scanV_code (l : List UInt8) : ((scanV l).2.1 = 0 → (scanV l).2.2 = (0, 0)) ∧ ((scanV l).2.1 ≠ 0 → (scanV l).1 = []) := by
  by_cases h : 16384 < l.length
  · unfold scanV
    rw [if_pos h]
    exact ⟨fun h => absurd h (by decide), fun _ => rfl⟩
  · rw [scanV_run l h]
    exact runV_code _ l 1 1 false [] (Nat.le_refl _)
theorem scan_join (a b : List UInt8) (h : a.length + b.length + 1 ≤ 16384) :
    ((scanV a).2.1 ≠ 0 → scanV (a ++ 10 :: b) = scanV a) ∧
    ((scanV a).2.1 = 0 → (scanV b).2.1 ≠ 0 → scanV (a ++ 10 :: b) = ([], (scanV b).2.1, (scanV b).2.2.1 + (nlV a + 1), (scanV b).2.2.2)) ∧
    ((scanV a).2.1 = 0 → (scanV b).2.1 = 0 → scanV (a ++ 10 :: b) = ((scanV a).1 ++ (scanV b).1.map (downT (nlV a + 1)), 0, 0, 0)) := by
  have hc := scanV_code a
  rw [scanV_run a (by omega)] at hc ⊢
  rw [scanV_run b (by omega), scanV_run (a ++ 10 :: b) (by rw [List.length_append, List.length_cons]; omega), runV_join b _ a 1 1 false [] (Nat.le_refl _)]
  obtain ⟨ts, c, n, m, hr⟩ : ∃ ts c n m, runV a 1 1 false [] = (ts, c, n, m) := ⟨_, _, _, _, rfl⟩
  rw [hr] at hc ⊢
  simp only [] at hc ⊢
  by_cases h0 : c = 0
  · subst h0
    rw [joinV_ok]
    have hd := runV_down ts (nlV a + 1) _ b 1 1 false [] (Nat.le_refl _)
    rw [List.map_nil, List.append_nil] at hd
    have e : 1 + nlV a + 1 = 1 + (nlV a + 1) := by omega
    rw [e, hd]
    unfold downR
    refine ⟨fun h => absurd rfl h, fun _ hb => ?_, fun _ hb => ?_⟩
    · rw [if_pos hb]
    · rw [if_neg (by rw [hb]; simp)]
  · refine ⟨fun _ => ?_, fun h => absurd h h0, fun h => absurd h h0⟩
    unfold joinV
    rw [if_pos h0]
/-- Lines and lengths are no more than the bytes. -/
theorem runV_bound : ∀ (m : Nat) (a : List UInt8) (line col : Nat) (op : Bool) (acc : List Tok), a.length ≤ m →
    (runV a line col op acc).1.length ≤ acc.length + a.length + 1 ∧ (runV a line col op acc).2.2.1 ≤ line + a.length ∧ ∀ t ∈ (runV a line col op acc).1, t ∈ acc ∨ t.2.2.1 ≤ line + a.length := by
  intro m
  have hE : ∀ (op : Bool) (acc : List Tok) (line col : Nat), (endT op acc line col).length ≤ acc.length + 1 ∧ ∀ t ∈ endT op acc line col, t ∈ acc ∨ t.2.2.1 ≤ line := by
    intro op acc line col
    unfold endT
    cases op with
    | true =>
      refine ⟨by simp, fun t ht => ?_⟩
      simp only [if_true, List.mem_append, List.mem_singleton] at ht
      rcases ht with ht | rfl
      · exact Or.inl ht
      · exact Or.inr (Nat.le_refl _)
    | false => exact ⟨by simp, fun t ht => Or.inl (by simpa using ht)⟩
  have hnil : ∀ (line col : Nat) (op : Bool) (acc : List Tok), (runV [] line col op acc).1.length ≤ acc.length + ([] : List UInt8).length + 1 ∧ (runV [] line col op acc).2.2.1 ≤ line + ([] : List UInt8).length ∧ ∀ t ∈ (runV [] line col op acc).1, t ∈ acc ∨ t.2.2.1 ≤ line + ([] : List UInt8).length := by
    intro line col op acc
    rw [runV_nil]
    obtain ⟨h1, h2⟩ := hE op acc line col
    exact ⟨by simpa using h1, by simp, by simpa using h2⟩
  induction m with
  | zero =>
    intro a line col op acc hm
    have : a = [] := List.length_eq_zero_iff.1 (by omega)
    subst this
    exact hnil _ _ _ _
  | succ m ih =>
    intro a line col op acc hm
    match a with
    | [] => exact hnil _ _ _ _
    | c :: r =>
      simp only [List.length_cons] at hm ⊢
      rcases run_cases c with h | h | h | h
      · rw [runV_nl _ _ _ _ _ h]
        obtain ⟨h1, h2⟩ := hE op acc line col
        obtain ⟨g1, g2, g3⟩ := ih r (line + 1) 1 false (endT op acc line col) (by omega)
        refine ⟨by omega, by omega, fun t ht => ?_⟩
        rcases g3 t ht with h' | h'
        · rcases h2 t h' with h'' | h''
          · exact Or.inl h''
          · exact Or.inr (by omega)
        · exact Or.inr (by omega)
      · rw [runV_blank _ _ _ _ _ h]
        obtain ⟨g1, g2, g3⟩ := ih r line (col + 1) op acc (by omega)
        exact ⟨by omega, by omega, fun t ht => (g3 t ht).imp id (fun h => by omega)⟩
      · have hpos := comV_pos (c := c) r (by omega)
        rw [runV_hash _ _ _ _ _ h]
        obtain ⟨g1, g2, g3⟩ := ih ((c :: r).drop (comV (c :: r))) line (col + chars ((c :: r).take (comV (c :: r)))) op acc (by rw [List.length_drop, List.length_cons]; omega)
        rw [List.length_drop, List.length_cons] at g1 g2 g3
        exact ⟨by omega, by omega, fun t ht => (g3 t ht).imp id (fun h => by omega)⟩
      · obtain ⟨k, n, off, code, hp⟩ : ∃ k n off code, pieceV (c :: r) = (k, n, off, code) := ⟨_, _, _, _, rfl⟩
        have hsz := pieceV_size hp (by simp)
        by_cases h0 : code = 0
        · subst h0
          have hs := hsz.1 rfl
          have hl := hs.2.1.le
          rw [runV_tok _ _ _ _ _ h hp]
          obtain ⟨g1, g2, g3⟩ := ih ((c :: r).drop n) line (col + chars ((c :: r).take n)) true (acc ++ [(k, (c :: r).take n, line, col)]) (by rw [List.length_drop, List.length_cons]; omega)
          rw [List.length_drop, List.length_cons] at g1 g2 g3
          rw [List.length_append, List.length_singleton] at g1
          rw [List.length_cons] at hl
          refine ⟨by omega, by omega, fun t ht => ?_⟩
          rcases g3 t ht with h' | h'
          · rcases List.mem_append.1 h' with h'' | h''
            · exact Or.inl h''
            · rw [List.mem_singleton] at h''
              subst h''
              exact Or.inr (by show line ≤ _; omega)
          · exact Or.inr (by omega)
        · rw [runV_err _ _ _ _ _ h hp h0]
          exact ⟨by simp, by simp, fun t ht => by cases ht⟩
theorem scanV_bound (a : List UInt8) (h : a.length ≤ 16384) : (scanV a).1.length ≤ a.length + 1 ∧ (scanV a).2.2.1 ≤ a.length + 1 ∧ ∀ t ∈ (scanV a).1, t.2.2.1 ≤ a.length + 1 := by
  rw [scanV_run a (by omega)]
  obtain ⟨h1, h2, h3⟩ := runV_bound _ a 1 1 false [] (Nat.le_refl _)
  refine ⟨by simpa using h1, by omega, fun t ht => ?_⟩
  rcases h3 t ht with h | h
  · cases h
  · omega
theorem scan_head_a : scanV [97] = ([(2, [97], 1, 1), (1, [10], 1, 2)], 0, 0, 0) := by decide
end Sp
end Go.Proofs.YtjedoipbllcfdaaDoor
