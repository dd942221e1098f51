/-
  PLAIN LEAN, no program in sight: the digits of a character that is written by its number.
-/
import Derived.Test.YtjedoipbllcfdaaDoorSpD
set_option linter.unusedVariables false
set_option linter.unusedSimpArgs false
namespace Go.Proofs.YtjedoipbllcfdaaDoor
namespace Sp
def digF : Nat → Nat → List UInt8
  | 0, _ => []
  | k + 1, n => hexd (n / 16 ^ k % 16) :: digF k n
theorem digF_snoc : ∀ (k n : Nat), digF (k + 1) n = digF k (n / 16) ++ [hexd (n % 16)]
  | 0, n => by simp [digF]
  | k + 1, n => by
    have ih := digF_snoc k n
    show hexd (n / 16 ^ (k + 1) % 16) :: digF (k + 1) n = (hexd (n / 16 / 16 ^ k % 16) :: digF k (n / 16)) ++ [hexd (n % 16)]
    rw [ih, Nat.div_div_eq_div_mul, Nat.pow_succ, Nat.mul_comm (16 ^ k) 16]
    rfl
theorem hexF_dig : ∀ (m k n : Nat), k ≤ m → n < 16 ^ (k + 1) → (k = 0 ∨ 16 ^ k ≤ n) → hexF m n = digF (k + 1) n
  | 0, k, n, hk, h1, h2 => by
    obtain rfl : k = 0 := by omega
    simp [hexF, digF]
  | m + 1, k, n, hk, h1, h2 => by
    rcases k with _ | k
    · simp at h1
      simp only [hexF]
      rw [if_pos h1]
      simp [digF, Nat.mod_eq_of_lt h1]
    · have h3 : 16 ^ (k + 1) ≤ n := by
        rcases h2 with h2 | h2
        · omega
        · exact h2
      have h4 : 16 ≤ n := by
        have : 16 ^ 1 ≤ 16 ^ (k + 1) := Nat.pow_le_pow_right (by omega) (by omega)
        omega
      simp only [hexF]
      rw [if_neg (by omega), hexF_dig m k (n / 16) (by omega) (by rw [Nat.div_lt_iff_lt_mul (by omega), ← Nat.pow_succ]; exact h1) (Or.inr (by rw [Nat.le_div_iff_mul_le (by omega), ← Nat.pow_succ]; exact h3)), ← digF_snoc]
theorem digF_len (k n : Nat) : (digF k n).length = k := by
  induction k with
  | zero => rfl
  | succ k ih => simp [digF, ih]
def HEX : ByteArray := ⟨#[48, 49, 50, 51, 52, 53, 54, 55, 56, 57, 97, 98, 99, 100, 101, 102]⟩
theorem hex_fin : ∀ n : Fin 16, HEX[n.1]'(show n.1 < 16 from n.2) = hexd n.1 := by decide
theorem hex_at (n : Nat) (h : n < 16) (h2 : n < HEX.size) : HEX[n]'h2 = hexd n := hex_fin ⟨n, h⟩
end Sp
end Go.Proofs.YtjedoipbllcfdaaDoor
