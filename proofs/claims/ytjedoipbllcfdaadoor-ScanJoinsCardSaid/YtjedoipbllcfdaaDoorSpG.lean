/-
  PLAIN LEAN, no program in sight: the library's own words (index, cut, a beginning) at chapter 3's constants.
-/
import Derived.Test.YtjedoipbllcfdaaDoorSpF
import Derived.Lib.IndexMore
import Derived.Lib.IndexBytes
import Derived.Lib.Small
set_option linter.unusedVariables false
set_option linter.unusedSimpArgs false
namespace Go.Proofs.YtjedoipbllcfdaaDoor
namespace Sp

theorem indexByte_tw (c : UInt8) : ∀ l : List UInt8, Lib.indexByte l c = if l.all (fun x => decide (x ≠ c)) = true then -1 else ((l.takeWhile (fun x => decide (x ≠ c))).length : Int)
  | [] => rfl
  | b :: l => by
    rw [Lib.indexByte, List.all_cons, List.takeWhile_cons]
    by_cases h : b = c
    · subst h
      rw [if_pos (by simp), if_neg (by simp), if_neg (by simp)]
      rfl
    · have h1 : (b == c) = false := beq_eq_false_iff_ne.2 h
      have h2 : decide (b ≠ c) = true := decide_eq_true h
      rw [h1, if_neg (by decide), h2, Bool.true_and, if_pos rfl, indexByte_tw c l]
      by_cases ha : l.all (fun x => decide (x ≠ c)) = true
      · rw [if_pos ha, if_pos ha, if_pos (by decide)]
      · rw [if_neg ha, if_neg ha, if_neg (by rw [beq_iff_eq]; omega)]
        simp
theorem cut_one (l : List UInt8) (c : UInt8) : Lib.cut l [c] = if l.all (fun x => decide (x ≠ c)) = true then (l, [], false) else (l.takeWhile (fun x => decide (x ≠ c)), l.drop ((l.takeWhile (fun x => decide (x ≠ c))).length + 1), true) := by
  unfold Lib.cut
  rw [Lib.index_one, indexByte_tw]
  by_cases ha : l.all (fun x => decide (x ≠ c)) = true
  · rw [if_pos ha, if_pos ha, if_neg (by decide)]
  · rw [if_neg ha, if_neg ha, if_pos (by omega)]
    have e : l.take (l.takeWhile (fun x => decide (x ≠ c))).length = l.takeWhile (fun x => decide (x ≠ c)) := by
      have h := List.takeWhile_append_dropWhile (p := fun x => decide (x ≠ c)) (l := l)
      have h2 : (l.takeWhile (fun x => decide (x ≠ c)) ++ l.dropWhile (fun x => decide (x ≠ c))).take (l.takeWhile (fun x => decide (x ≠ c))).length = l.takeWhile (fun x => decide (x ≠ c)) := List.take_left
      rw [h] at h2
      exact h2
    simp only [Int.toNat_natCast, e, List.length_singleton]
theorem hasP3 (l : List UInt8) (a b c : UInt8) : Lib.hasPrefix l [a, b, c] = decide (3 ≤ l.length ∧ bt l 0 = a.toNat ∧ bt l 1 = b.toNat ∧ bt l 2 = c.toNat) := by
  unfold Lib.hasPrefix
  rcases l with _ | ⟨x, _ | ⟨y, _ | ⟨z, r⟩⟩⟩
  · simp [List.isPrefixOf]
  · simp [List.isPrefixOf]
  · simp [List.isPrefixOf]
  · have e0 : bt (x :: y :: z :: r) 0 = x.toNat := rfl
    have e1 : bt (x :: y :: z :: r) 1 = y.toNat := rfl
    have e2 : bt (x :: y :: z :: r) 2 = z.toNat := rfl
    rw [e0, e1, e2, Bool.eq_iff_iff, decide_eq_true_iff]
    simp only [List.isPrefixOf, Bool.and_true, Bool.and_eq_true, beq_iff_eq, List.length_cons]
    constructor
    · rintro ⟨rfl, rfl, rfl⟩; exact ⟨by omega, rfl, rfl, rfl⟩
    · rintro ⟨_, h1, h2, h3⟩
      exact ⟨UInt8.toNat_inj.1 h1.symm, UInt8.toNat_inj.1 h2.symm, UInt8.toNat_inj.1 h3.symm⟩
theorem valid_rune (v : Nat) : Lib.validRune (v : Int) = validRune v := by
  unfold Lib.validRune validRune
  rw [Bool.eq_iff_iff, decide_eq_true_iff, decide_eq_true_iff]
  omega
theorem basedV_lt {base most : Nat} {l : List UInt8} {v : Nat} (hb : 1 ≤ base) (h : basedV base most l = some v) : v < base ^ most ∧ l.length ≤ most := by
  unfold basedV at h
  split at h
  · cases h
  · rename_i hn
    injection h with h
    subst h
    have hl : l.length ≤ most := by
      rcases Nat.lt_or_ge most l.length with h1 | h1
      · exact absurd (Or.inr (Or.inl h1)) hn
      · exact h1
    refine ⟨digitsV_lt base hb l ?_ most hl, hl⟩
    rcases ha : l.all (fun c => decide (hexv c < base)) with _ | _
    · exact absurd (Or.inr (Or.inr ha)) hn
    · rfl
end Sp
end Go.Proofs.YtjedoipbllcfdaaDoor
