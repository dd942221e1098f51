/-
  PLAIN LEAN, no program in sight: characters of a text, places where one begins, counting them.
-/
import Derived.Test.YtjedoipbllcfdaaDoorSpC
import Derived.Test.YtjedoipbllcfdaaDoorSpF
set_option linter.unusedVariables false
set_option linter.unusedSimpArgs false
namespace Go.Proofs.YtjedoipbllcfdaaDoor
namespace Sp

theorem charsF_nil (f : Nat) : charsF f [] = 0 := by cases f <;> rfl
theorem charsF_enough : ∀ (f g : Nat) (l : List UInt8), l.length ≤ f → l.length ≤ g → charsF f l = charsF g l
  | 0, g, l, hf, hg => by
    have : l = [] := List.length_eq_zero_iff.1 (by omega)
    subst this
    rw [charsF_nil, charsF_nil]
  | f + 1, 0, l, hf, hg => by
    have : l = [] := List.length_eq_zero_iff.1 (by omega)
    subst this
    rw [charsF_nil, charsF_nil]
  | f + 1, g + 1, [], hf, hg => by rw [charsF_nil, charsF_nil]
  | f + 1, g + 1, c :: r, hf, hg => by
    simp only [charsF]
    have h1 := dec_pos (c :: r) (by simp)
    have h2 : ((c :: r).drop (dec (c :: r)).2).length ≤ r.length := by rw [List.length_drop, List.length_cons]; omega
    simp only [List.length_cons] at hf hg
    rw [charsF_enough f g _ (by omega) (by omega)]
theorem chars_nil : chars [] = 0 := rfl
theorem chars_step (l : List UInt8) (hl : l ≠ []) : chars l = chars (l.drop (dec l).2) + 1 := by
  match l, hl with
  | c :: r, _ =>
    have h1 := dec_pos (c :: r) (by simp)
    unfold chars
    simp only [List.length_cons, charsF]
    rw [charsF_enough r.length _ _ (by rw [List.length_drop, List.length_cons]; omega) (Nat.le_refl _)]

/-- Place i of l is one where a character begins, or the end. -/
inductive Bd : List UInt8 → Nat → Prop
  | zero (l : List UInt8) : Bd l 0
  | step (l : List UInt8) (i : Nat) (h : l ≠ []) (hb : Bd (l.drop (dec l).2) i) : Bd l ((dec l).2 + i)

theorem Bd.le {l : List UInt8} {i : Nat} (h : Bd l i) : i ≤ l.length := by
  induction h with
  | zero l => omega
  | step l i h hb ih =>
    have := dec_len l h
    rw [List.length_drop] at ih
    omega
theorem Bd.inv {l : List UInt8} {i : Nat} (h : Bd l i) (hi : 0 < i) : l ≠ [] ∧ ∃ j, i = (dec l).2 + j ∧ Bd (l.drop (dec l).2) j := by
  cases h with
  | zero => omega
  | step _ j hne hb => exact ⟨hne, j, rfl, hb⟩
theorem Bd.trans {l : List UInt8} {i j : Nat} (h : Bd l i) (h2 : Bd (l.drop i) j) : Bd l (i + j) := by
  induction h with
  | zero l => simpa using h2
  | step l i h hb ih =>
    rw [Nat.add_assoc]
    refine Bd.step l (i + j) h (ih ?_)
    rw [List.drop_drop]
    exact h2
theorem Bd.all : ∀ (n : Nat) (l : List UInt8), l.length ≤ n → Bd l l.length
  | 0, l, h => by
    have : l = [] := List.length_eq_zero_iff.1 (by omega)
    subst this
    exact Bd.zero _
  | n + 1, [], h => Bd.zero _
  | n + 1, c :: r, h => by
    have h1 := dec_pos (c :: r) (by simp)
    have h2 := dec_len (c :: r) (by simp)
    have h3 := Bd.all n ((c :: r).drop (dec (c :: r)).2) (by rw [List.length_drop]; omega)
    have h4 := Bd.step (c :: r) _ (by simp) h3
    rw [List.length_drop] at h4
    have e : (dec (c :: r)).2 + ((c :: r).length - (dec (c :: r)).2) = (c :: r).length := by omega
    rw [e] at h4
    exact h4
theorem Bd.full (l : List UInt8) : Bd l l.length := Bd.all _ l (Nat.le_refl _)
theorem Bd.ascii : ∀ (n : Nat) (l : List UInt8), n ≤ l.length → (∀ k, k < n → bt l k < 128) → Bd l n
  | 0, l, _, _ => Bd.zero l
  | n + 1, [], h, _ => by simp at h
  | n + 1, c :: r, h, ha => by
    have h0 := ha 0 (by omega)
    rw [bt_cons0] at h0
    have hd := dec_ascii c r h0
    have h1 : Bd ((c :: r).drop (dec (c :: r)).2) n := by
      rw [hd]
      refine Bd.ascii n _ (by simpa using h) (fun k hk => ?_)
      rw [bt_drop]
      exact ha _ (by omega)
    have := Bd.step (c :: r) n (by simp) h1
    rw [hd] at this
    rw [Nat.add_comm]
    exact this
/-- Counting goes on behind a place. -/
theorem chars_take_add {l : List UInt8} {i : Nat} (h : Bd l i) : ∀ j, chars (l.take (i + j)) = chars (l.take i) + chars ((l.drop i).take j) := by
  induction h with
  | zero l => intro j; simp [chars_nil]
  | step l i h hb ih =>
    intro j
    have h1 := dec_pos l h
    have hl : 0 < l.length := List.length_pos_iff.2 h
    have key : ∀ m, chars (l.take ((dec l).2 + m)) = chars ((l.drop (dec l).2).take m) + 1 := by
      intro m
      have hne : l.take ((dec l).2 + m) ≠ [] := by
        intro e
        have := congrArg List.length e
        rw [List.length_take, List.length_nil] at this
        omega
      rw [chars_step _ hne, dec_take l h _ (by omega), List.drop_take]
      congr 3
      omega
    rw [Nat.add_assoc, key, key, ih j, List.drop_drop]
    omega
theorem chars_ascii : ∀ (n : Nat) (l : List UInt8), n ≤ l.length → (∀ k, k < n → bt l k < 128) → chars (l.take n) = n
  | 0, l, _, _ => by simp [chars_nil]
  | n + 1, [], h, _ => by simp at h
  | n + 1, c :: r, h, ha => by
    have h0 := ha 0 (by omega)
    rw [bt_cons0] at h0
    have hd := dec_ascii c (r.take n) h0
    rw [List.take_succ_cons, chars_step _ (by simp), hd]
    simp only [List.drop_succ_cons, List.drop_zero]
    rw [chars_ascii n r (by simpa using h) (fun k hk => by
      have := ha (k + 1) (by omega)
      have e := bt_drop (c :: r) 1 k
      rw [Nat.add_comm 1 k] at e
      rw [← e] at this
      simpa using this)]
theorem chars_le : ∀ (n : Nat) (l : List UInt8), l.length ≤ n → chars l ≤ l.length
  | 0, l, h => by
    have : l = [] := List.length_eq_zero_iff.1 (by omega)
    subst this
    exact Nat.le_refl _
  | n + 1, [], _ => Nat.le_refl _
  | n + 1, c :: r, h => by
    have h1 := dec_pos (c :: r) (by simp)
    have h2 := dec_len (c :: r) (by simp)
    rw [chars_step _ (by simp)]
    have := chars_le n ((c :: r).drop (dec (c :: r)).2) (by rw [List.length_drop]; omega)
    rw [List.length_drop] at this
    omega
theorem chars_le_len (l : List UInt8) (n : Nat) : chars (l.take n) ≤ n := by
  have := chars_le _ (l.take n) (Nat.le_refl _)
  rw [List.length_take] at this
  omega
/-- A character's places are the same in front of what is no continuation byte. -/
theorem Bd.append {a : List UInt8} {i : Nat} (h : Bd a i) (b : List UInt8) (hb : bt b 0 / 64 ≠ 2) : Bd (a ++ b) i := by
  induction h with
  | zero l => exact Bd.zero _
  | step l i h hh ih =>
    have hd := dec_append l b h hb
    have hlen := dec_len l h
    have h2 : Bd ((l ++ b).drop (dec (l ++ b)).2) i := by
      rw [hd, List.drop_append_of_le_length hlen]
      exact ih
    have := Bd.step (l ++ b) i (by simp [h]) h2
    rw [hd] at this
    exact this
theorem chars_append {a : List UInt8} (b : List UInt8) (hb : bt b 0 / 64 ≠ 2) : chars (a ++ b) = chars a + chars b := by
  have h := chars_take_add ((Bd.full a).append b hb) b.length
  rw [show a.length + b.length = (a ++ b).length by simp, List.take_length, List.take_left', List.drop_left', List.take_length] at h
  · exact h
  · rfl
  · rfl
end Sp
end Go.Proofs.YtjedoipbllcfdaaDoor
