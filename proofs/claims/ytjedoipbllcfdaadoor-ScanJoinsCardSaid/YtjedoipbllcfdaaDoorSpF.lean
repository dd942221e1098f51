/-
  PLAIN LEAN, no program in sight: the step of a quoted text (chapter 3).
-/
import Derived.Test.YtjedoipbllcfdaaDoorSpE
set_option linter.unusedVariables false
set_option linter.unusedSimpArgs false
namespace Go.Proofs.YtjedoipbllcfdaaDoor
namespace Sp

theorem escV_len {l : List UInt8} {k : Nat} {b : List UInt8} (h : escV l = some (k, b)) : 2 ≤ k ∧ k ≤ l.length ∧ b.length ≤ k := by
  rw [escV_eq] at h
  have hx : ∀ (x : Option (Nat × List UInt8)), x = some (k, b) → (x = none ∨ (∃ y : UInt8, x = some (2, [y])) ∧ 2 ≤ l.length ∨ (∃ y : UInt8, x = some (4, [y])) ∧ 4 ≤ l.length ∨ ∃ k' v', brO l = some (k', v') ∧ x = some (k', Lib.encodeRune (v' : Nat))) → 2 ≤ k ∧ k ≤ l.length ∧ b.length ≤ k := by
    rintro x hx (h | ⟨⟨y, h⟩, hl⟩ | ⟨⟨y, h⟩, hl⟩ | ⟨k', v', hO, h⟩)
    · rw [h] at hx; cases hx
    · rw [h] at hx; injection hx with hx; injection hx with h1 h2; subst h1; subst h2; simp; omega
    · rw [h] at hx; injection hx with hx; injection hx with h1 h2; subst h1; subst h2; simp; omega
    · rw [h] at hx; injection hx with hx; injection hx with h1 h2; subst h1; subst h2
      have hk := brO_k hO
      have hs := brO_some hO
      have hb := bracedV_some hs.2
      rw [List.length_drop] at hb
      have he := Lib.runeCells_le (v' : Nat)
      rw [Lib.runeCells_length] at he
      omega
  refine hx _ h ?_
  by_cases hl : l.length < 2
  · rw [if_pos hl]; exact Or.inl rfl
  rw [if_neg hl]
  by_cases c1 : bt l 1 = 34
  · rw [if_pos c1]; exact Or.inr (Or.inl ⟨⟨_, rfl⟩, by omega⟩)
  rw [if_neg c1]
  by_cases c2 : bt l 1 = 92
  · rw [if_pos c2]; exact Or.inr (Or.inl ⟨⟨_, rfl⟩, by omega⟩)
  rw [if_neg c2]
  by_cases c3 : bt l 1 = 110
  · rw [if_pos c3]; exact Or.inr (Or.inl ⟨⟨_, rfl⟩, by omega⟩)
  rw [if_neg c3]
  by_cases c4 : bt l 1 = 114
  · rw [if_pos c4]; exact Or.inr (Or.inl ⟨⟨_, rfl⟩, by omega⟩)
  rw [if_neg c4]
  by_cases c5 : bt l 1 = 116
  · rw [if_pos c5]; exact Or.inr (Or.inl ⟨⟨_, rfl⟩, by omega⟩)
  rw [if_neg c5]
  by_cases c6 : bt l 1 = 120
  · rw [if_pos c6]
    by_cases c7 : 3 < l.length ∧ hexv (l.getD 2 0) < 16 ∧ hexv (l.getD 3 0) < 16
    · rw [if_pos c7]; exact Or.inr (Or.inr (Or.inl ⟨⟨_, rfl⟩, by omega⟩))
    · rw [if_neg c7]; exact Or.inl rfl
  rw [if_neg c6]
  by_cases c8 : bt l 1 = 117
  · rw [if_pos c8]
    rcases hO : brO l with _ | ⟨k', v'⟩
    · exact Or.inl rfl
    · exact Or.inr (Or.inr (Or.inr ⟨k', v', rfl, rfl⟩))
  · rw [if_neg c8]; exact Or.inl rfl

theorem speakF_nil (lines : Bool) (f i : Nat) (said : List UInt8) : speakF lines f [] i said = (32, [], i) := by cases f <;> rfl
theorem speakF_quote (lines : Bool) (f : Nat) (c : UInt8) (r : List UInt8) (i : Nat) (said : List UInt8) (h : c.toNat = 34) : speakF lines (f + 1) (c :: r) i said = (0, said, i + 1) := by
  have hc : c = 34 := UInt8.toNat_inj.1 h
  simp only [speakF]
  rw [if_pos hc]
theorem speakF_esc (lines : Bool) (f : Nat) (c : UInt8) (r : List UInt8) (i : Nat) (said : List UInt8) (h : c.toNat = 92) :
    speakF lines (f + 1) (c :: r) i said = match escV (c :: r) with | none => (34, [], i) | some (k, b) => speakF lines f ((c :: r).drop k) (i + k) (said ++ b) := by
  have hc : c = 92 := UInt8.toNat_inj.1 h
  simp only [speakF]
  rw [if_neg (by rw [hc]; decide), if_pos hc]
  cases escV (c :: r) <;> rfl
theorem speakF_nl (f : Nat) (c : UInt8) (r : List UInt8) (i : Nat) (said : List UInt8) (h : c.toNat = 10) : speakF true (f + 1) (c :: r) i said = (32, [], i) := by
  have hc : c = 10 := UInt8.toNat_inj.1 h
  simp only [speakF]
  rw [if_neg (by rw [hc]; decide), if_neg (by rw [hc]; decide), if_pos ⟨hc, trivial⟩]
theorem u8_ne {c : UInt8} {n : Nat} (hn : n < 256) (h : c.toNat ≠ n) : c ≠ UInt8.ofNat n := by
  intro e
  apply h
  rw [e, UInt8.toNat_ofNat']
  omega
theorem speakF_bad (lines : Bool) (f : Nat) (c : UInt8) (r : List UInt8) (i : Nat) (said : List UInt8) (h1 : c.toNat ≠ 34) (h2 : c.toNat ≠ 92) (h3 : lines = true → c.toNat ≠ 10) (h : c.toNat < 32 ∨ c.toNat = 127 ∨ looseB (c :: r) = true) :
    speakF lines (f + 1) (c :: r) i said = (33, [], i) := by
  simp only [speakF]
  rw [if_neg (show ¬ c = 34 from u8_ne (n := 34) (by omega) h1), if_neg (show ¬ c = 92 from u8_ne (n := 92) (by omega) h2), if_neg (by rintro ⟨a, b⟩; exact h3 b (by rw [a]; rfl)), if_pos h]
theorem speakF_char (lines : Bool) (f : Nat) (c : UInt8) (r : List UInt8) (i : Nat) (said : List UInt8) (h1 : c.toNat ≠ 34) (h2 : c.toNat ≠ 92) (h : ¬ (c.toNat < 32 ∨ c.toNat = 127 ∨ looseB (c :: r) = true)) :
    speakF lines (f + 1) (c :: r) i said = speakF lines f ((c :: r).drop (dec (c :: r)).2) (i + (dec (c :: r)).2) (said ++ (c :: r).take (dec (c :: r)).2) := by
  simp only [speakF]
  rw [if_neg (show ¬ c = 34 from u8_ne (n := 34) (by omega) h1), if_neg (show ¬ c = 92 from u8_ne (n := 92) (by omega) h2), if_neg (by rintro ⟨a, b⟩; apply h; rw [a]; left; decide), if_neg h]

theorem drop_cons (s : ByteArray) (j : Nat) (h : j < s.size) : s.data.toList.drop j = (s[j]'h) :: s.data.toList.drop (j + 1) := by
  have h2 : j < s.data.toList.length := by rw [← Lib.size_eq]; exact h
  rw [List.drop_eq_getElem_cons h2, get_idx s j h h2]
theorem append_extract (acc : List UInt8) (s : ByteArray) (a b : Nat) : (⟨acc.toArray⟩ : ByteArray) ++ s.extract a b = ⟨(acc ++ (s.data.toList.drop a).take (b - a)).toArray⟩ := by
  rw [Lib.extract_eq]
  apply ByteArray.ext
  rw [ByteArray.data_append]
  simp
theorem append_lists (x y : List UInt8) : (⟨x.toArray⟩ : ByteArray) ++ ⟨y.toArray⟩ = ⟨(x ++ y).toArray⟩ := by
  apply ByteArray.ext
  rw [ByteArray.data_append]
  simp
end Sp
end Go.Proofs.YtjedoipbllcfdaaDoor
