/-
  PLAIN LEAN, no program in sight: the reference's own forms (chapter 3) beside the lists' ones.
-/
import Derived.Test.YtjedoipbllcfdaaDoorSpC
set_option linter.unusedVariables false
set_option linter.unusedSimpArgs false
namespace Go.Proofs.YtjedoipbllcfdaaDoor
namespace Sp

theorem bt_idx (s : ByteArray) (n : Nat) (h : n < s.size) : (s[n]'h).toNat = bt s.data.toList n := by
  have h2 : n < s.data.toList.length := by rw [← Lib.size_eq]; exact h
  rw [bt_get _ _ h2]
  simp
  rfl
theorem get_idx (s : ByteArray) (n : Nat) (h : n < s.size) (h2 : n < s.data.toList.length) : s[n]'h = s.data.toList[n]'h2 := by
  simp
  rfl
/-- Is there a byte at i, from lo to hi? -/
def wi (l : List UInt8) (i lo hi : Nat) : Bool := decide (i < l.length ∧ lo ≤ bt l i ∧ bt l i ≤ hi)
theorem wi_iff (s : ByteArray) (i lo hi : Nat) : wi s.data.toList i lo hi = true ↔ i < s.size ∧ lo ≤ bt s.data.toList i ∧ bt s.data.toList i ≤ hi := by
  unfold wi
  rw [decide_eq_true_iff, Lib.size_eq]
def hexZ (c : UInt8) : Int := if hexv c < 16 then hexv c else -1
theorem hexZ_eq (c : UInt8) : hexZ c = if 48 ≤ c.toNat ∧ c.toNat ≤ 57 then (c.toNat : Int) - 48 else if 97 ≤ c.toNat ∧ c.toNat ≤ 102 then (c.toNat : Int) - 97 + 10 else if 65 ≤ c.toNat ∧ c.toNat ≤ 70 then (c.toNat : Int) - 65 + 10 else -1 := by
  unfold hexZ hexv
  split
  · rw [if_pos (by omega)]; omega
  · split
    · rw [if_pos (by omega)]; omega
    · split
      · rw [if_pos (by omega)]; omega
      · rw [if_neg (by omega)]
theorem hexZ_dig (c : UInt8) (h1 : 48 ≤ c.toNat) (h2 : c.toNat ≤ 57) : hexZ c = (c.toNat : Int) - 48 := by rw [hexZ_eq, if_pos ⟨h1, h2⟩]

end Sp
end Go.Proofs.YtjedoipbllcfdaaDoor
