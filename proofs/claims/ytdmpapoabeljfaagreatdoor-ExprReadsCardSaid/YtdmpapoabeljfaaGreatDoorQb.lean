/-
  Plain laws: how tokens are written (no program in sight; chapter 3).
-/
import Derived.Test.YtdmpapoabeljfaaGreatDoorQa
set_option linter.unusedVariables false
set_option linter.unusedSimpArgs false
set_option maxRecDepth 100000
set_option maxHeartbeats 2000000
namespace Go.Proofs.YtdmpapoabeljfaaGreatDoor
namespace Sp

/-- A token's kind and text. -/
abbrev Pt := Int × List UInt8
def sgn (t : Pt) (s : List UInt8) : Bool := t.1 == 7 && t.2 == s
/-- Does a space stand between? -/
def spacedV (a b : Pt) : Bool :=
  if a.1 = 1 ∨ b.1 = 1 then false
  else if sgn a [40] || sgn a [47] || sgn a [46, 46] || sgn a [58] then false
  else if sgn b [41] || sgn b [44] || sgn b [47] || sgn b [46, 46] || sgn b [58] then false
  else !(sgn a [33] && (b.1 == 2 || sgn b [40] || sgn b [33]))
/-- Is it wholly what it says? -/
def okT (t : Pt) : Bool :=
  if t.1 = 1 then t.2 == [10] else !t.2.isEmpty && (pieceV t.2).2.2.2 == 0 && ((pieceV t.2).1 : Int) == t.1 && (pieceV t.2).2.1 == t.2.length
def validV (last : Pt) : List Pt → Bool
  | [] => last.1 == 1
  | t :: r => okT t && !(t.1 == 1 && last.1 == 1) && validV t r
def textV (last : Pt) : List Pt → List UInt8
  | [] => []
  | t :: r => (if spacedV last t then [32] else []) ++ t.2 ++ textV t r
def p0 : Pt := (1, [])
/-- P3.2. -/
def printV (ts : List Pt) : List UInt8 × Nat :=
  if 16384 < ts.length then ([], 2) else if validV p0 ts = false then ([], 35) else if 16384 < (textV p0 ts).length then ([], 2) else (textV p0 ts, 0)
theorem textV_snoc (t : Pt) : ∀ (ts : List Pt) (last : Pt), textV last (ts ++ [t]) = textV last ts ++ ((if spacedV ((ts.getLast?).getD last) t then [32] else []) ++ t.2)
  | [], last => by cases h : spacedV last t <;> simp [textV, h]
  | x :: r, last => by
    rw [List.cons_append, textV, textV, textV_snoc t r x]
    have : (x :: r).getLast?.getD last = r.getLast?.getD x := by
      cases r with
      | nil => rfl
      | cons y r => simp [List.getLast?_cons]
    rw [this]
    simp only [List.append_assoc]
theorem textV_append : ∀ (a b : List Pt) (last : Pt), textV last (a ++ b) = textV last a ++ textV ((a.getLast?).getD last) b
  | [], b, last => by simp [textV]
  | x :: r, b, last => by
    rw [List.cons_append, textV, textV, textV_append r b x]
    have : (x :: r).getLast?.getD last = r.getLast?.getD x := by
      cases r with
      | nil => rfl
      | cons y r => simp [List.getLast?_cons]
    rw [this]
    simp only [List.append_assoc]
theorem validV_append : ∀ (a b : List Pt) (last : Pt), validV last (a ++ b) = true → ∀ t ∈ a, okT t = true
  | [], b, last, _ => by simp
  | x :: r, b, last, h => by
    rw [List.cons_append, validV, Bool.and_eq_true, Bool.and_eq_true] at h
    intro t ht
    rcases List.mem_cons.1 ht with rfl | ht
    · exact h.1.1
    · exact validV_append r b x h.2 t ht
theorem escV_size {l : List UInt8} {k : Nat} {b : List UInt8} (h : escV l = some (k, b)) : k ≤ 10 ∧ 1 ≤ b.length := by
  have one : ∀ {k' : Nat} {b' : List UInt8}, k' ≤ 10 → 1 ≤ b'.length → some (k', b') = some (k, b) → k ≤ 10 ∧ 1 ≤ b.length := by
    intro k' b' h1 h2 h
    injection h with h
    injection h with h3 h4
    subst h3 h4
    exact ⟨h1, h2⟩
  unfold escV at h
  split at h
  · rename_i c r
    split at h; · exact one (by omega) (by simp) h
    split at h; · exact one (by omega) (by simp) h
    split at h; · exact one (by omega) (by simp) h
    split at h; · exact one (by omega) (by simp) h
    split at h; · exact one (by omega) (by simp) h
    split at h
    · split at h
      · split at h
        · exact one (by omega) (by simp) h
        · cases h
      · cases h
    · split at h
      · split at h
        · split at h
          · split at h
            · rename_i d t hd kk v hv
              refine one ?_ ?_ h
              · unfold bracedV at hv
                split at hv
                · cases hv
                · split at hv
                  · cases hv
                  · rename_i v' hb
                    split at hv
                    · injection hv with hv
                      injection hv with h5 h6
                      unfold basedV at hb
                      split at hb
                      · cases hb
                      · omega
                    · cases hv
              · rw [Lib.encodeRune, List.length_map]
                exact (Lib.encodeRuneZ_length _).1
            · cases h
          · cases h
        · cases h
      · cases h
  · cases h

theorem speakF_len (lines : Bool) : ∀ (f : Nat) (l : List UInt8) (i : Nat) (said b : List UInt8) (p : Nat), speakF lines f l i said = (0, b, p) → said.length ≤ b.length ∧ p + 10 * said.length ≤ i + 10 * b.length + 1 := by
  intro f
  induction f with
  | zero => intro l i said b p h; simp [speakF] at h
  | succ f ih =>
    intro l i said b p h
    match l, h with
    | [], h => simp [speakF] at h
    | c :: r, h =>
      rw [speakF] at h
      split at h
      · injection h with h1 h
        injection h with h2 h3
        subst h2 h3
        omega
      split at h
      · split at h
        · simp at h
        · rename_i k b' he
          have h1 := ih _ _ _ _ _ h
          have h2 := escV_size he
          rw [List.length_append] at h1
          omega
      split at h
      · simp at h
      split at h
      · simp at h
      · have h1 := ih _ _ _ _ _ h
        have h2 := dec_len (c :: r) (by simp)
        have h3 := dec_pos (c :: r) (by simp)
        rw [List.length_append, List.length_take] at h1
        omega

theorem signV_le (l : List UInt8) : signV l ≤ 2 := by
  match l with
  | [] => simp [signV]
  | [a] =>
    simp only [signV]
    rw [if_neg (by simp)]
    split <;> omega
  | a :: b :: r =>
    simp only [signV]
    split
    · omega
    · split <;> omega
theorem decV_len {top : Nat} {l : List UInt8} {v : Nat} (h : decV top l = some v) : l.length ≤ 10 := by
  unfold decV at h
  split at h
  · cases h
  · omega
theorem quadF_len : ∀ (k n : Nat) (l : List UInt8) (v : Nat), quadF k n l = some v → l.length ≤ 10 + 11 * k
  | 0, n, l, v, h => by
    unfold quadF at h
    split at h
    · cases h
    · rename_i v' h'
      have := decV_len h'
      omega
  | k + 1, n, l, v, h => by
    unfold quadF at h
    split at h
    · cases h
    · split at h
      · cases h
      · rename_i v' h'
        have h1 := decV_len h'
        have h2 := quadF_len k _ _ _ h
        rw [List.length_drop] at h2
        omega
theorem numV_len {l : List UInt8} {v : Nat} (h : numV l = some v) : l.length ≤ 60 := by
  unfold numV at h
  split at h
  · have := quadF_len _ _ _ _ h
    omega
  split at h
  · unfold basedV at h
    split at h
    · cases h
    · rw [List.length_drop] at *
      omega
  split at h
  · unfold basedV at h
    split at h
    · cases h
    · rw [List.length_drop] at *
      omega
  · have := decV_len h
    omega
theorem pieceV_short {l : List UInt8} {k n off : Nat} (h : pieceV l = (k, n, off, 0)) (hn : n = l.length) : l.length ≤ 4000 := by
  unfold pieceV at h
  split at h
  · simp only [] at h
    split at h
    · simp at h
    split at h
    · split at h
      · simp at h
      · injection h with h1 h
        injection h with h2 h
        omega
    · injection h with h1 h
      injection h with h2 h
      omega
  split at h
  · split at h
    · simp at h
    · rename_i v hv
      injection h with h1 h
      injection h with h2 h
      have := numV_len hv
      rw [List.length_take] at this
      omega
  split at h
  · simp only [] at h
    split at h
    · rename_i hp
      injection h with h1 h
      injection h with h2 h
      unfold patV at hp
      simp only [Bool.and_eq_true, decide_eq_true_eq] at hp
      have := hp.2
      rw [List.length_take, List.length_drop] at this
      omega
    · simp at h
  split at h
  · simp only [] at h
    split at h
    · rename_i h0
      injection h with h1 h
      injection h with h2 h
      injection h with h3 h4
      exact absurd h4 h0
    split at h
    · simp at h
    · rename_i h0 h256
      injection h with h1 h
      injection h with h2 h
      obtain ⟨c, b, p, hs⟩ : ∃ c b p, speakV true l = (c, b, p) := ⟨_, _, _, rfl⟩
      rw [hs] at h0 h256 h2
      simp only [Classical.not_not] at h0 h256 h2
      subst h0
      have := speakF_len true _ _ _ _ _ _ hs
      simp only [List.length_nil] at this
      omega
  split at h
  · simp at h
  · injection h with h1 h
    injection h with h2 h
    have := signV_le l
    omega
theorem okT_short {t : Pt} (h : okT t = true) : t.2.length ≤ 4000 := by
  unfold okT at h
  split at h
  · rw [beq_iff_eq] at h
    rw [h]
    simp
  · simp only [Bool.and_eq_true, beq_iff_eq] at h
    exact pieceV_short (k := (pieceV t.2).1) (n := (pieceV t.2).2.1) (off := (pieceV t.2).2.2.1) (by rw [← h.1.1.2]) h.2
end Sp
end Go.Proofs.YtdmpapoabeljfaaGreatDoor
