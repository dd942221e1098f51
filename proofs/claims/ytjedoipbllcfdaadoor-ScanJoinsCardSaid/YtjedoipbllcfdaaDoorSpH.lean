/-
  PLAIN LEAN, no program in sight: where a quoted text ends.
-/
import Derived.Test.YtjedoipbllcfdaaDoorSpF
set_option linter.unusedVariables false
set_option linter.unusedSimpArgs false
namespace Go.Proofs.YtjedoipbllcfdaaDoor
namespace Sp
theorem speakF_le (lines : Bool) : ∀ (f : Nat) (l : List UInt8) (i : Nat) (said : List UInt8) (c p : Nat) (b : List UInt8), speakF lines f l i said = (c, b, p) → c ≤ 34 ∧ p ≤ i + l.length ∧ b.length ≤ said.length + l.length := by
  intro f
  induction f with
  | zero =>
    intro l i said c p b h
    simp only [speakF] at h
    injection h with h1 h2; injection h2 with h2 h3; subst h1; subst h2; subst h3
    simp
  | succ f ih =>
    intro l i said c p b h
    cases l with
    | nil =>
      rw [speakF_nil] at h
      injection h with h1 h2; injection h2 with h2 h3; subst h1; subst h2; subst h3
      simp
    | cons x r =>
      have fin : ∀ (c' p' : Nat) (b' : List UInt8), (c', b', p') = (c, b, p) → c' ≤ 34 → p' ≤ i + (x :: r).length → b'.length ≤ said.length + (x :: r).length → c ≤ 34 ∧ p ≤ i + (x :: r).length ∧ b.length ≤ said.length + (x :: r).length := by
        intro c' p' b' e h1 h2 h3
        injection e with e1 e2; injection e2 with e2 e3; subst e1; subst e2; subst e3
        exact ⟨h1, h2, h3⟩
      simp only [speakF] at h
      split at h
      · exact fin _ _ _ h (by omega) (by simp) (by omega)
      split at h
      · split at h
        · exact fin _ _ _ h (by omega) (by omega) (by simp)
        · rename_i k b' hE
          have hk := escV_len hE
          have := ih _ _ _ _ _ _ h
          rw [List.length_drop, List.length_append] at this
          omega
      split at h
      · exact fin _ _ _ h (by omega) (by omega) (by simp)
      split at h
      · exact fin _ _ _ h (by omega) (by omega) (by simp)
      · have hk := dec_len (x :: r) (by simp)
        have := ih _ _ _ _ _ _ h
        rw [List.length_drop, List.length_append, List.length_take] at this
        omega
theorem speakV_le {lines : Bool} {l : List UInt8} {c p : Nat} {b : List UInt8} (h : speakV lines l = (c, b, p)) : c ≤ 34 ∧ p ≤ l.length + 1 ∧ b.length ≤ l.length := by
  have := speakF_le lines _ _ _ _ _ _ _ h
  rw [List.length_drop] at this
  simp at this
  omega
end Sp
end Go.Proofs.YtjedoipbllcfdaaDoor
