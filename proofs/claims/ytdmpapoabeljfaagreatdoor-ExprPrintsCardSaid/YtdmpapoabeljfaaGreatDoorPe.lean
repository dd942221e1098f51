/-
  PLAIN LEAN, no program in sight: a number written with decimals, plain or as four parts, is the number; two of them are two tokens.
-/
import Derived.Test.YtdmpapoabeljfaaGreatDoorPb
import Derived.Lib.ItoaNum
import Derived.Lib.ItoaMem
set_option linter.unusedVariables false
set_option linter.unusedSimpArgs false
set_option maxHeartbeats 1000000
namespace Go.Proofs.YtdmpapoabeljfaaGreatDoor
namespace Sp
open Go.Lib (decDigits)

def Dig (c : UInt8) : Prop := 48 ≤ c.toNat ∧ c.toNat ≤ 57
theorem Dig.hexv {c : UInt8} (h : Dig c) : hexv c = c.toNat - 48 := by unfold Dig at h; unfold Sp.hexv; rw [if_pos h]
theorem dec_step (u : Nat) (h : ¬ u < 10) : decDigits u = decDigits (u / 10) ++ [UInt8.ofNat (48 + u % 10)] := by rw [decDigits, dif_neg h]
theorem dec_length (k u : Nat) : u < 10 ^ (k + 1) → (decDigits u).length ≤ k + 1 := by
  induction k generalizing u with
  | zero => intro h; rw [Go.Lib.decDigits_one (by simpa using h)]; simp
  | succ k ih =>
    intro h
    by_cases h0 : u < 10
    · rw [Go.Lib.decDigits_one h0]; simp
    · rw [dec_step u h0, List.length_append, List.length_singleton]
      have := ih (u / 10) (by rw [Nat.pow_succ] at h; omega)
      omega
/-- The four parts, a dot between. -/
def dotV (u : Nat) : List UInt8 := decDigits (u / 16777216) ++ 46 :: (decDigits (u / 65536 % 256) ++ 46 :: (decDigits (u / 256 % 256) ++ 46 :: decDigits (u % 256)))
end Sp
end Go.Proofs.YtdmpapoabeljfaaGreatDoor
