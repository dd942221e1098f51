/-
  PLAIN LEAN, no program in sight: a quoted text is one token without control characters.
-/
import Derived.Test.YtdmpapoabeljfaaGreatDoorPb
set_option linter.unusedVariables false
set_option linter.unusedSimpArgs false
set_option maxHeartbeats 1000000
namespace Go.Proofs.YtdmpapoabeljfaaGreatDoor
namespace Sp

def Clean (l : List UInt8) : Prop := ∀ c ∈ l, 32 ≤ c.toNat ∧ c.toNat ≠ 127
theorem Clean.append {a b : List UInt8} (h : Clean a) (h2 : Clean b) : Clean (a ++ b) := by
  intro c hc
  rcases List.mem_append.1 hc with h' | h'
  · exact h c h'
  · exact h2 c h'
theorem enc_clean (n : Nat) (h : 32 ≤ n) (h2 : n ≠ 127) : Clean (Lib.encodeRune (n : Int)) := by
  intro c hc
  unfold Lib.encodeRune at hc
  obtain ⟨z, hz, rfl⟩ := List.mem_map.1 hc
  have key : 32 ≤ z ∧ z ≠ 127 ∧ z < 256 := by
    unfold Lib.encodeRuneZ at hz
    split at hz
    · rw [List.mem_singleton] at hz; omega
    split at hz
    · simp only [List.mem_cons, List.not_mem_nil, or_false] at hz; omega
    split at hz
    · simp only [List.mem_cons, List.not_mem_nil, or_false] at hz; omega
    split at hz
    · simp only [List.mem_cons, List.not_mem_nil, or_false] at hz; omega
    · simp only [List.mem_cons, List.not_mem_nil, or_false] at hz; omega
  rw [show z.toNat.toUInt8 = UInt8.ofNat z.toNat from rfl, UInt8.toNat_ofNat']
  omega
theorem hexd_clean (n : Nat) (h : n < 16) : 32 ≤ (hexd n).toNat ∧ (hexd n).toNat ≠ 127 := by
  rw [hexd_nat n h]
  split <;> omega
theorem hexF_clean : ∀ k n, Clean (hexF k n)
  | 0, n => by
    intro c hc
    unfold hexF at hc
    rw [List.mem_singleton] at hc
    subst hc
    exact hexd_clean _ (by omega)
  | k + 1, n => by
    unfold hexF
    split
    · intro c hc
      rw [List.mem_singleton] at hc
      subst hc
      exact hexd_clean _ (by omega)
    · refine (hexF_clean k (n / 16)).append ?_
      intro c hc
      rw [List.mem_singleton] at hc
      subst hc
      exact hexd_clean _ (by omega)
theorem byName_clean (n : Nat) (h : n < 256) : Clean (byNameV n) := by
  intro c hc
  unfold byNameV at hc
  simp only [List.mem_cons, List.not_mem_nil, or_false] at hc
  rcases hc with rfl | rfl | rfl | rfl
  · decide
  · decide
  · exact hexd_clean _ (by omega)
  · exact hexd_clean _ (by omega)
theorem write_clean (n : Nat) : Clean (writeV n) := by
  have two : ∀ a b : UInt8, 32 ≤ a.toNat ∧ a.toNat ≠ 127 → 32 ≤ b.toNat ∧ b.toNat ≠ 127 → Clean [a, b] := by
    intro a b ha hb c hc
    simp only [List.mem_cons, List.not_mem_nil, or_false] at hc
    rcases hc with rfl | rfl
    · exact ha
    · exact hb
  unfold writeV
  split
  · exact two _ _ (by decide) (by decide)
  split
  · exact two _ _ (by decide) (by decide)
  split
  · exact two _ _ (by decide) (by decide)
  split
  · exact two _ _ (by decide) (by decide)
  split
  · exact two _ _ (by decide) (by decide)
  split
  · rename_i h
    exact byName_clean n (by omega)
  split
  · refine Clean.append (Clean.append ?_ (hexF_clean 5 n)) ?_
    · intro c hc
      simp only [List.mem_cons, List.not_mem_nil, or_false] at hc
      rcases hc with rfl | rfl | rfl <;> decide
    · intro c hc
      simp only [List.mem_cons, List.not_mem_nil, or_false] at hc
      subst hc
      decide
  · rename_i h _
    exact enc_clean n (by omega) (by omega)
theorem body_clean : ∀ (f : Nat) (l : List UInt8), Clean (bodyF f l)
  | 0, _ => fun c hc => by cases hc
  | f + 1, [] => fun c hc => by cases hc
  | f + 1, c :: r => by
    rw [bodyF]
    refine Clean.append ?_ (body_clean f _)
    unfold pieceQ
    split
    · exact byName_clean _ (bt_lt _ _)
    · exact write_clean _
theorem quote_clean (l : List UInt8) : Clean ([34] ++ bodyV l ++ [34]) := by
  have h34 : Clean [34] := by
    intro c hc
    rw [List.mem_singleton] at hc
    subst hc
    decide
  exact (h34.append (body_clean _ _)).append h34

/-- What Unquote reads wholly is what speak says of it. -/
theorem unquote_speak {q l : List UInt8} (h : unquoteV q = (l, 0, 0)) (hq : q.length ≤ 16384) : speakV false q = (0, l, q.length) ∧ l.length ≤ 256 ∧ q.head? = some 34 := by
  unfold unquoteV at h
  rw [if_neg (by omega)] at h
  split at h
  · simp at h
  rename_i hh
  have hh' : q.head? = some 34 := by simpa using hh
  simp only [] at h
  split at h
  · rename_i hne
    simp only [Prod.mk.injEq] at h
    exact absurd h.2.1 hne
  rename_i h0
  split at h
  · simp at h
  rename_i hp
  split at h
  · simp at h
  rename_i hl
  simp only [Prod.mk.injEq] at h
  have hcl : classV q = 8 := by
    match q, hh' with
    | c :: r, hh' =>
      injection hh' with e
      subst e
      rfl
  obtain ⟨c, b, p, hs⟩ : ∃ c b p, speakV false q = (c, b, p) := ⟨_, _, _, rfl⟩
  have hbd := (speakV_bd hcl hs).1.le
  rw [hs] at h h0 hp hl
  simp only [] at h h0 hp hl
  refine ⟨?_, by rw [← h.1]; omega, hh'⟩
  rw [hs]
  have e1 : c = 0 := by omega
  have e2 : p = q.length := by omega
  rw [e1, e2, h.1]

/-- A text that is wholly a quoted one without control characters: one token. -/
theorem scan_one_quote {q l : List UInt8} (h : unquoteV q = (l, 0, 0)) (hq : q.length ≤ 16384) (hc : Clean q) : ∃ col, scanV q = ([(6, q, 1, 1), (1, [10], 1, col)], 0, 0, 0) := by
  obtain ⟨hs, hl, hh⟩ := unquote_speak h hq
  have hno : NoNl q := fun c hcq e => by
    have := hc c hcq
    rw [e] at this
    exact absurd this.1 (by decide)
  rw [← speakV_lines q hno] at hs
  match q, hh, hs, hq, hno with
  | c :: r, hh, hs, hq, hno =>
    injection hh with e
    subst e
    have hcl : classV (34 :: r) = 8 := rfl
    have hp : pieceV (34 :: r) = (6, (34 :: r).length, 0, 0) := by
      unfold pieceV
      rw [hcl, if_neg (by omega), if_neg (by omega), if_neg (by omega), if_pos rfl, hs]
      simp only []
      rw [if_neg (by omega), if_neg (by omega)]
    rw [scanV_run _ (by omega), runV_tok r 1 1 false [] (by unfold PieceAt; decide) hp, List.take_length, List.drop_length, runV_nil]
    exact ⟨_, rfl⟩
end Sp
end Go.Proofs.YtdmpapoabeljfaaGreatDoor
