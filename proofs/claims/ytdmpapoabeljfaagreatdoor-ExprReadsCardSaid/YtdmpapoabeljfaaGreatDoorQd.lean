/-
  Plain laws: what is written of tokens is read as the same tokens, and what is read can be written (no program in sight; chapter 3).
-/
import Derived.Test.YtdmpapoabeljfaaGreatDoorQc
set_option linter.unusedVariables false
set_option linter.unusedSimpArgs false
set_option maxRecDepth 100000
set_option maxHeartbeats 2000000
namespace Go.Proofs.YtdmpapoabeljfaaGreatDoor
namespace Sp

theorem signV_glue {t x : List UInt8} (h : signV t = t.length) (ht : t ≠ []) (hx : ∀ c, x.head? = some c → c ≠ 61 ∧ c ≠ 62) : signV (t ++ x) = t.length := by
  match t, h, ht with
  | [a], h, _ =>
    simp only [signV] at h
    by_cases h1 : (a == 40 || a == 41 || a == 33 || a == 61 || a == 60 || a == 62 || a == 38 || a == 124 || a == 44 || a == 58 || a == 47) = true
    · match x, hx with
      | [], _ =>
        simp only [List.append_nil, signV]
        rw [if_neg (by simp), if_pos h1]
        rfl
      | b :: x, hx =>
        have hb := hx b rfl
        have h61 : (b == 61) = false := beq_eq_false_iff_ne.2 hb.1
        have h62 : (b == 62) = false := beq_eq_false_iff_ne.2 hb.2
        have h46 : (a == 46) = false := by
          rw [beq_eq_false_iff_ne]
          rintro rfl
          revert h1
          decide
        show signV (a :: b :: x) = _
        simp only [signV, h61, h62, h46, Bool.and_false, Bool.false_and, Bool.or_false, Bool.false_eq_true, if_false]
        rw [if_pos h1]
        rfl
    · rw [if_neg (by simp), if_neg h1] at h
      simp at h
  | a :: b :: r, h, _ =>
    have h2 := signV_le (a :: b :: r)
    rw [h] at h2
    simp only [List.length_cons] at h2
    have : r = [] := List.length_eq_zero_iff.1 (by omega)
    subst this
    simp only [signV] at h
    by_cases h2 : ((a == 33 && b == 61) || (a == 60 && b == 61) || (a == 62 && b == 61) || (a == 46 && b == 46) || (a == 45 && b == 62)) = true
    · show signV (a :: b :: x) = 2
      simp only [signV]
      rw [if_pos h2]
    · rw [if_neg h2] at h
      split at h <;> simp at h

/-- A token with something behind it that stops it. -/
theorem pieceV_glue {t x : List UInt8} {k off : Nat} (h : pieceV t = (k, t.length, off, 0)) (ht : t ≠ []) (hx : Stop x) : pieceV (t ++ x) = (k, t.length, off, 0) := by
  have hcl := classV_app t x ht
  have hpos : 1 ≤ t.length := by
    cases t with
    | nil => exact absurd rfl ht
    | cons _ _ => simp
  obtain ⟨hw0, hn0, hdot0, hs0⟩ := hx
  unfold pieceV at h ⊢
  rw [hcl]
  by_cases h5 : classV t = 5
  · rw [if_pos h5] at h ⊢
    simp only [] at h ⊢
    rw [wordRun_glue t x hw0]
    split at h
    · simp at h
    rename_i h24
    rw [if_neg h24]
    split at h
    · rename_i hdot
      split at h
      · simp at h
      rename_i hm24
      injection h with e1 h
      injection h with e2 h
      have hlt : wordRun t + 1 ≤ t.length := by omega
      have hd1 : (t ++ x).drop (wordRun t) = t.drop (wordRun t) ++ x := List.drop_append_of_le_length (by omega)
      have hd2 : (t ++ x).drop (wordRun t + 1) = t.drop (wordRun t + 1) ++ x := List.drop_append_of_le_length (by omega)
      have hne1 : t.drop (wordRun t) ≠ [] := by
        intro e
        rw [e] at hdot
        simp at hdot
      have hne2 : t.drop (wordRun t + 1) ≠ [] := by
        intro e
        rw [e] at hdot
        have := hdot.2
        simp [classV] at this
      have hh : (t.drop (wordRun t) ++ x).head? = (t.drop (wordRun t)).head? := by
        cases hq : t.drop (wordRun t) with
        | nil => exact absurd hq hne1
        | cons y ys => rfl
      rw [hd1, hd2, hh, classV_app _ _ hne2, if_pos hdot, wordRun_glue _ x hw0, if_neg hm24, e1, e2]
      exact congrArg _ (congrArg _ h)
    · rename_i hdot
      injection h with e1 h
      injection h with e2 h
      have hd1 : (t ++ x).drop (wordRun t) = x := by rw [e2, List.drop_left]
      have hd2 : (t ++ x).drop (wordRun t + 1) = x.drop 1 := by rw [← List.drop_drop, hd1]
      rw [hd1, hd2, if_neg (by rintro ⟨p, q⟩; exact hdot0 p q), e1, e2]
      exact congrArg _ (congrArg _ h)
  rw [if_neg h5] at h ⊢
  by_cases h6 : classV t = 6
  · rw [if_pos h6] at h ⊢
    split at h
    · simp at h
    rename_i v hv
    injection h with e1 h
    injection h with e2 h
    rw [numRun_glue x hn0 t e2, List.take_left]
    rw [e2, List.take_length] at hv
    rw [hv]
    show (4, t.length, 0, 0) = _
    rw [e1]
    exact congrArg _ (congrArg _ h)
  rw [if_neg h6] at h ⊢
  by_cases h7 : classV t = 7
  · rw [if_pos h7] at h ⊢
    simp only [] at h ⊢
    split at h
    · rename_i hp
      injection h with e1 h
      injection h with e2 h
      have hd : (t ++ x).drop 1 = t.drop 1 ++ x := List.drop_append_of_le_length hpos
      rw [hd, wordRun_glue _ x hw0, List.take_append_of_le_length (by have := wordRun_le (t.drop 1); omega), if_pos hp, e1, e2]
      exact congrArg _ (congrArg _ h)
    · simp at h
  rw [if_neg h7] at h ⊢
  by_cases h8 : classV t = 8
  · rw [if_pos h8] at h ⊢
    simp only [] at h ⊢
    obtain ⟨c, b, p, hs⟩ : ∃ c b p, speakV true t = (c, b, p) := ⟨_, _, _, rfl⟩
    rw [hs] at h
    simp only [] at h
    split at h
    · rename_i hc
      injection h with e1 h
      injection h with e2 h
      injection h with e3 h
      exact absurd h hc
    rename_i hc
    simp only [Classical.not_not] at hc
    subst hc
    split at h
    · simp at h
    rename_i h256
    injection h with e1 h
    injection h with e2 h
    subst e2
    have := (speakV_loc ht hs x).1
    rw [List.take_length] at this
    rw [this]
    simp only []
    rw [if_neg (by simp), if_neg h256, e1]
    exact congrArg _ (congrArg _ h)
  rw [if_neg h8] at h ⊢
  split at h
  · simp at h
  rename_i hs
  injection h with e1 h
  injection h with e2 h
  rw [signV_glue e2 ht hs0, if_neg (by omega), e1]
  exact congrArg _ (congrArg _ h)

theorem stop_of (c : UInt8) (r : List UInt8) (h1 : wordB c = false) (h2 : c ≠ 46) (h3 : c ≠ 61 ∧ c ≠ 62) : Stop (c :: r) := by
  refine ⟨?_, ?_, ?_, ?_⟩
  · unfold wordRun
    rw [List.takeWhile_cons, if_neg (by rw [h1]; simp)]
    rfl
  · rw [numRun, if_neg]
    rw [h1, Bool.false_or, beq_eq_false_iff_ne.2 h2]
    simp
  · intro h
    injection h with h
    exact absurd h h2
  · intro d hd
    injection hd with hd
    subst hd
    exact h3
theorem stop_dots (r : List UInt8) : Stop (46 :: 46 :: r) := by
  refine ⟨rfl, ?_, ?_, ?_⟩
  · rw [numRun, if_neg]
    show ¬ (wordB 46 || ((46 : UInt8) == 46 && classV (46 :: r) == 6)) = true
    rw [show classV (46 :: r) = 0 from rfl]
    decide
  · intro _
    show classV (46 :: r) ≠ 5
    rw [show classV (46 :: r) = 0 from rfl]
    decide
  · intro d hd
    injection hd with hd
    subst hd
    decide

theorem piece_open (a : UInt8) (x : List UInt8) (h : a = 40 ∨ a = 47 ∨ a = 58 ∨ (a = 33 ∧ x.head? ≠ some 61)) : pieceV (a :: x) = (7, 1, 0, 0) := by
  have hs : signV (a :: x) = 1 := by
    rcases h with rfl | rfl | rfl | ⟨rfl, h⟩
    · cases x <;> simp [signV]
    · cases x <;> simp [signV]
    · cases x <;> simp [signV]
    · cases x with
      | nil => simp [signV]
      | cons b x =>
        have : b ≠ 61 := by
          rintro rfl
          exact h rfl
        simp [signV, this]
  have hc : classV (a :: x) = 0 := by
    show classB a = 0
    rcases h with rfl | rfl | rfl | ⟨rfl, h⟩ <;> decide
  unfold pieceV
  rw [hc, hs]
  simp
theorem piece_dots (x : List UInt8) : pieceV (46 :: 46 :: x) = (7, 2, 0, 0) := by
  unfold pieceV
  rw [show classV (46 :: 46 :: x) = 0 from rfl, show signV (46 :: 46 :: x) = 2 by simp [signV]]
  simp

theorem pieceV_at {c : UInt8} {r : List UInt8} {k n off : Nat} (h : pieceV (c :: r) = (k, n, off, 0)) : PieceAt c := by
  rcases run_cases c with h3 | h2 | h4 | hp
  · exfalso
    have hc : c.toNat = 10 := by
      unfold classB at h3
      split at h3
      · omega
      · split at h3
        · assumption
        · repeat (split at h3 <;> try omega)
    have : c = 10 := UInt8.toNat_inj.1 hc
    subst this
    unfold pieceV at h
    rw [show classV (10 :: r) = 3 from rfl, show signV (10 :: r) = 0 by cases r <;> simp [signV]] at h
    simp at h
  · exfalso
    have hb : c = 32 ∨ c = 9 ∨ c = 13 := by
      unfold classB at h2
      split at h2
      · rename_i hb
        simp only [blankB, decide_eq_true_eq] at hb
        rcases hb with hb | hb | hb
        · exact Or.inl (UInt8.toNat_inj.1 hb)
        · exact Or.inr (Or.inl (UInt8.toNat_inj.1 hb))
        · exact Or.inr (Or.inr (UInt8.toNat_inj.1 hb))
      · repeat (split at h2 <;> try omega)
    unfold pieceV at h
    rw [show classV (c :: r) = 2 from h2, show signV (c :: r) = 0 by rcases hb with rfl | rfl | rfl <;> cases r <;> simp [signV]] at h
    simp at h
  · exfalso
    have hc : c.toNat = 35 := by
      unfold classB at h4
      split at h4
      · omega
      · split at h4
        · omega
        · split at h4
          · assumption
          · repeat (split at h4 <;> try omega)
    have : c = 35 := UInt8.toNat_inj.1 hc
    subst this
    unfold pieceV at h
    rw [show classV (35 :: r) = 4 from rfl, show signV (35 :: r) = 0 by cases r <;> simp [signV]] at h
    simp at h
  · exact hp

def ptOf (t : Tok) : Pt := ((t.1 : Int), t.2.1)

theorem okT_piece {t : Pt} (h : okT t = true) (h1 : t.1 ≠ 1) : t.2 ≠ [] ∧ ∃ k off, pieceV t.2 = (k, t.2.length, off, 0) ∧ (k : Int) = t.1 := by
  unfold okT at h
  rw [if_neg h1] at h
  simp only [Bool.and_eq_true, beq_iff_eq, Bool.not_eq_true', List.isEmpty_eq_false_iff] at h
  refine ⟨h.1.1.1, (pieceV t.2).1, (pieceV t.2).2.2.1, ?_, h.1.2⟩
  rw [← h.1.1.2]
  conv => rhs; rw [h.1.1.2]
  rw [← h.2]
  rw [show (0 : Nat) = (pieceV t.2).2.2.2 from h.1.1.2.symm]

theorem sgn_iff {t : Pt} {s : List UInt8} : sgn t s = true ↔ t.1 = 7 ∧ t.2 = s := by
  unfold sgn
  rw [Bool.and_eq_true, beq_iff_eq, beq_iff_eq]

/-- What stands behind a token that was written lets it be read. -/
theorem piece_written {t u : Pt} {r : List Pt} (ht : okT t = true) (h1 : t.1 ≠ 1) (hu : okT u = true) :
    ∃ k off, pieceV (t.2 ++ textV t (u :: r)) = (k, t.2.length, off, 0) ∧ (k : Int) = t.1 := by
  obtain ⟨hne, k, off, hp, hk⟩ := okT_piece ht h1
  have glue : Stop (textV t (u :: r)) → ∃ k off, pieceV (t.2 ++ textV t (u :: r)) = (k, t.2.length, off, 0) ∧ (k : Int) = t.1 := fun h => ⟨k, off, pieceV_glue hp hne h, hk⟩
  unfold textV at glue ⊢
  by_cases hs : spacedV t u = true
  · rw [if_pos hs] at glue ⊢
    exact glue (stop_of 32 _ (by decide) (by decide) (by decide))
  rw [if_neg hs, List.nil_append] at glue ⊢
  have opn : ∀ (a : UInt8), t.2 = [a] → t.1 = 7 → (a = 40 ∨ a = 47 ∨ a = 58 ∨ (a = 33 ∧ (u.2 ++ textV u r).head? ≠ some 61)) → ∃ k off, pieceV (t.2 ++ (u.2 ++ textV u r)) = (k, t.2.length, off, 0) ∧ (k : Int) = t.1 := by
    intro a h7 h8 ha
    rw [h7]
    exact ⟨7, 0, piece_open a _ ha, by rw [h8]; rfl⟩
  unfold spacedV at hs
  by_cases c1 : t.1 = 1 ∨ u.1 = 1
  · rcases c1 with c1 | c1
    · exact absurd c1 h1
    · have hu2 : u.2 = [10] := by
        unfold okT at hu
        rw [if_pos c1, beq_iff_eq] at hu
        exact hu
      rw [hu2] at glue ⊢
      exact glue (stop_of 10 _ (by decide) (by decide) (by decide))
  rw [if_neg c1] at hs
  by_cases c2 : (sgn t [40] || sgn t [47] || sgn t [46, 46] || sgn t [58]) = true
  · simp only [Bool.or_eq_true, sgn_iff] at c2
    rcases c2 with ((c2 | c2) | c2) | c2
    · exact opn 40 c2.2 c2.1 (by simp)
    · exact opn 47 c2.2 c2.1 (by simp)
    · rw [c2.2]
      exact ⟨7, 0, piece_dots _, by rw [c2.1]; rfl⟩
    · exact opn 58 c2.2 c2.1 (by simp)
  rw [if_neg c2] at hs
  by_cases c3 : (sgn u [41] || sgn u [44] || sgn u [47] || sgn u [46, 46] || sgn u [58]) = true
  · simp only [Bool.or_eq_true, sgn_iff] at c3
    rcases c3 with (((c3 | c3) | c3) | c3) | c3
    · rw [c3.2] at glue ⊢; exact glue (stop_of 41 _ (by decide) (by decide) (by decide))
    · rw [c3.2] at glue ⊢; exact glue (stop_of 44 _ (by decide) (by decide) (by decide))
    · rw [c3.2] at glue ⊢; exact glue (stop_of 47 _ (by decide) (by decide) (by decide))
    · rw [c3.2] at glue ⊢; exact glue (stop_dots _)
    · rw [c3.2] at glue ⊢; exact glue (stop_of 58 _ (by decide) (by decide) (by decide))
  rw [if_neg c3] at hs
  simp only [Bool.not_eq_true, Bool.not_eq_false', Bool.and_eq_true, Bool.or_eq_true, sgn_iff, beq_iff_eq] at hs
  refine opn 33 hs.1.2 hs.1.1 (Or.inr (Or.inr (Or.inr ⟨rfl, ?_⟩)))
  rcases hs.2 with (h | h) | h
  · obtain ⟨hne2, k2, off2, hp2, hk2⟩ := okT_piece hu (by omega)
    have : k2 = 2 := by omega
    subst this
    match hq : u.2, hne2 with
    | c :: r', _ =>
      intro e
      injection e with e
      subst e
      rw [hq] at hp2
      unfold pieceV at hp2
      rw [show classV (61 :: r') = 0 from rfl] at hp2
      simp only [show ¬ (0 : Nat) = 5 by decide, show ¬ (0 : Nat) = 6 by decide, show ¬ (0 : Nat) = 7 by decide, show ¬ (0 : Nat) = 8 by decide, if_false] at hp2
      split at hp2
      · simp at hp2
      · simp at hp2
  · rw [h.2]
    simp
  · rw [h.2]
    simp

/-- What is written is read as the same tokens. -/
theorem runV_text : ∀ (ts : List Pt) (last : Pt) (line col : Nat) (acc : List Tok), validV last ts = true →
    ∃ ts', runV (textV last ts) line col (last.1 != 1) acc = (acc ++ ts', 0, 0, 0) ∧ ts'.map ptOf = ts := by
  intro ts
  induction ts with
  | nil =>
    intro last line col acc h
    simp only [validV, beq_iff_eq] at h
    refine ⟨[], ?_, rfl⟩
    rw [textV, runV_nil, h]
    simp [endT]
  | cons t r ih =>
    intro last line col acc h
    rw [validV, Bool.and_eq_true, Bool.and_eq_true] at h
    obtain ⟨⟨hok, hend⟩, hr⟩ := h
    -- past the blank
    have hbl : ∃ col', runV (textV last (t :: r)) line col (last.1 != 1) acc = runV (t.2 ++ textV t r) line col' (last.1 != 1) acc := by
      rw [textV]
      by_cases hs : spacedV last t = true
      · rw [if_pos hs]
        exact ⟨col + 1, runV_blank _ _ _ _ _ (by decide)⟩
      · rw [if_neg hs]
        exact ⟨col, rfl⟩
    obtain ⟨col', hbl⟩ := hbl
    rw [hbl]
    by_cases h1 : t.1 = 1
    · have ht2 : t.2 = [10] := by
        unfold okT at hok
        rw [if_pos h1, beq_iff_eq] at hok
        exact hok
      have hl : (last.1 != 1) = true := by
        rw [bne_iff_ne]
        intro e
        rw [h1, e] at hend
        simp at hend
      obtain ⟨ts', e1, e2⟩ := ih t (line + 1) 1 (acc ++ [(1, [10], line, col')]) hr
      refine ⟨(1, [10], line, col') :: ts', ?_, ?_⟩
      · rw [ht2, List.singleton_append, runV_nl _ _ _ _ _ (by decide), hl]
        have : (t.1 != 1) = false := by rw [h1]; rfl
        rw [this] at e1
        simp only [endT, if_true]
        rw [e1, List.append_assoc, List.singleton_append]
      · rw [List.map_cons, e2]
        congr 1
        exact Prod.ext h1.symm ht2.symm
    · match r, hr, ih with
      | [], hr, _ =>
        simp only [validV, beq_iff_eq] at hr
        exact absurd hr h1
      | u :: r, hr, ih =>
        have hu : okT u = true := by
          rw [validV, Bool.and_eq_true, Bool.and_eq_true] at hr
          exact hr.1.1
        obtain ⟨k, off, hp, hk⟩ := piece_written (r := r) hok h1 hu
        have hne := (okT_piece hok h1).1
        obtain ⟨c, q, hq⟩ : ∃ c q, t.2 = c :: q := by
          cases hh : t.2 with
          | nil => exact absurd hh hne
          | cons c q => exact ⟨c, q, rfl⟩
        have hlist : t.2 ++ textV t (u :: r) = c :: (q ++ textV t (u :: r)) := by rw [hq, List.cons_append]
        have hp' := hp
        rw [hlist] at hp'
        have hrun := runV_tok (q ++ textV t (u :: r)) line col' (last.1 != 1) acc (pieceV_at hp') hp'
        rw [← hlist, List.drop_left, List.take_left] at hrun
        have hop : (t.1 != 1) = true := by rw [bne_iff_ne]; exact h1
        obtain ⟨ts', e1, e2⟩ := ih t line (col' + chars t.2) (acc ++ [(k, t.2, line, col')]) hr
        rw [hop] at e1
        refine ⟨(k, t.2, line, col') :: ts', ?_, ?_⟩
        · rw [hrun, e1, List.append_assoc, List.singleton_append]
        · rw [List.map_cons, e2]
          congr 1
          exact Prod.ext hk rfl

theorem scan_text {ts : List Pt} (h : validV p0 ts = true) (hl : (textV p0 ts).length ≤ 16384) : ∃ ts', scanV (textV p0 ts) = (ts', 0, 0, 0) ∧ ts'.map ptOf = ts := by
  obtain ⟨ts', e1, e2⟩ := runV_text ts p0 1 1 [] h
  refine ⟨ts', ?_, e2⟩
  rw [scanV_run _ (by omega)]
  rw [List.nil_append] at e1
  exact e1

/-- The same without the end. -/
def okL (last : Pt) : List Pt → Bool
  | [] => true
  | t :: r => okT t && !(t.1 == 1 && last.1 == 1) && okL t r
def lastP (last : Pt) (ts : List Pt) : Pt := ts.getLast?.getD last
theorem lastP_cons (last t : Pt) (r : List Pt) : lastP last (t :: r) = lastP t r := by
  unfold lastP
  cases r with
  | nil => rfl
  | cons y r => simp [List.getLast?_cons]
theorem validV_okL : ∀ (ts : List Pt) (last : Pt), validV last ts = (okL last ts && (lastP last ts).1 == 1)
  | [], last => by simp [validV, okL, lastP]
  | t :: r, last => by rw [validV, okL, lastP_cons, validV_okL r t]; simp only [Bool.and_assoc]
theorem okL_snoc (t : Pt) : ∀ (ts : List Pt) (last : Pt), okL last (ts ++ [t]) = (okL last ts && (okT t && !(t.1 == 1 && (lastP last ts).1 == 1)))
  | [], last => by simp [okL, lastP]
  | x :: r, last => by rw [List.cons_append, okL, okL, lastP_cons, okL_snoc t r x]; simp only [Bool.and_assoc]
theorem lastP_snoc (last t : Pt) (ts : List Pt) : lastP last (ts ++ [t]) = t := by simp [lastP]

/-- How much tokens take at most. -/
def massV (ts : List Pt) : Nat := (ts.map fun t => t.2.length + 1).sum
theorem massV_snoc (ts : List Pt) (t : Pt) : massV (ts ++ [t]) = massV ts + (t.2.length + 1) := by
  unfold massV
  rw [List.map_append, List.sum_append]
  simp
theorem textV_mass : ∀ (ts : List Pt) (last : Pt), (textV last ts).length ≤ massV ts
  | [], _ => by simp [textV]
  | t :: r, last => by
    have ih := textV_mass r t
    rw [textV, List.length_append, List.length_append]
    have e : massV (t :: r) = t.2.length + 1 + massV r := by simp [massV]
    have : (if spacedV last t = true then [(32 : UInt8)] else []).length ≤ 1 := by split <;> simp
    omega

/-- What is read can be written. -/
theorem runV_valid : ∀ (m : Nat) (a : List UInt8) (line col : Nat) (op : Bool) (acc : List Tok), a.length ≤ m → okL p0 (acc.map ptOf) = true → op = ((lastP p0 (acc.map ptOf)).1 != 1) → (runV a line col op acc).2.1 = 0 →
    validV p0 ((runV a line col op acc).1.map ptOf) = true ∧ massV ((runV a line col op acc).1.map ptOf) ≤ massV (acc.map ptOf) + 2 * a.length + 2 := by
  have hE : ∀ (line col : Nat) (op : Bool) (acc : List Tok), okL p0 (acc.map ptOf) = true → op = ((lastP p0 (acc.map ptOf)).1 != 1) →
      okL p0 ((endT op acc line col).map ptOf) = true ∧ (lastP p0 ((endT op acc line col).map ptOf)).1 = 1 ∧ massV ((endT op acc line col).map ptOf) ≤ massV (acc.map ptOf) + 2 := by
    intro line col op acc h1 h2
    unfold endT
    cases op with
    | true =>
      rw [if_pos rfl, List.map_append, List.map_singleton]
      refine ⟨?_, by rw [lastP_snoc]; rfl, ?_⟩
      · rw [okL_snoc, h1]
        have := h2.symm
        rw [bne_iff_ne] at this
        have h3 : ((lastP p0 (acc.map ptOf)).1 == 1) = false := beq_eq_false_iff_ne.2 this
        rw [h3]
        rfl
      · rw [massV_snoc]
        exact Nat.le_refl _
    | false =>
      rw [if_neg (by simp)]
      refine ⟨h1, ?_, by omega⟩
      have := h2.symm
      rw [bne_eq_false_iff_eq] at this
      exact this
  intro m
  induction m with
  | zero =>
    intro a line col op acc hm h1 h2 h3
    have : a = [] := List.length_eq_zero_iff.1 (by omega)
    subst this
    rw [runV_nil]
    obtain ⟨e1, e2, e3⟩ := hE line col op acc h1 h2
    refine ⟨by rw [validV_okL, e1, e2]; rfl, e3⟩
  | succ m ih =>
    intro a line col op acc hm h1 h2 h3
    match a with
    | [] =>
      rw [runV_nil]
      obtain ⟨e1, e2, e3⟩ := hE line col op acc h1 h2
      refine ⟨by rw [validV_okL, e1, e2]; rfl, e3⟩
    | c :: r =>
      simp only [List.length_cons] at hm
      rcases run_cases c with h | h | h | h
      · rw [runV_nl _ _ _ _ _ h] at h3 ⊢
        obtain ⟨e1, e2, e3⟩ := hE line col op acc h1 h2
        have := ih r _ _ _ _ (by omega) e1 (by rw [e2]; rfl) h3
        refine ⟨this.1, ?_⟩
        rw [List.length_cons]
        omega
      · rw [runV_blank _ _ _ _ _ h] at h3 ⊢
        have := ih r _ _ _ _ (by omega) h1 h2 h3
        refine ⟨this.1, ?_⟩
        rw [List.length_cons]
        omega
      · have hpos := comV_pos (c := c) r (by omega)
        rw [runV_hash _ _ _ _ _ h] at h3 ⊢
        have := ih _ _ _ _ _ (by rw [List.length_drop, List.length_cons]; omega) h1 h2 h3
        refine ⟨this.1, ?_⟩
        have h5 := this.2
        rw [List.length_drop] at h5
        omega
      · obtain ⟨k, n, off, code, hp⟩ : ∃ k n off code, pieceV (c :: r) = (k, n, off, code) := ⟨_, _, _, _, rfl⟩
        have hsz := pieceV_size hp (by simp)
        by_cases h0 : code = 0
        · subst h0
          have hs := hsz.1 rfl
          have hle := hs.2.1.le
          rw [runV_tok _ _ _ _ _ h hp] at h3 ⊢
          have hk1 : ((k : Int) == 1) = false := beq_eq_false_iff_ne.2 (by omega)
          have hok : okT (ptOf (k, (c :: r).take n, line, col)) = true := by
            have ht := pieceV_take hp
            unfold okT ptOf
            simp only []
            rw [if_neg (by omega), ht]
            have hne : (c :: r).take n ≠ [] := by
              intro e
              have := congrArg List.length e
              rw [List.length_take, List.length_nil] at this
              omega
            have hlen : ((c :: r).take n).length = n := by rw [List.length_take]; omega
            simp [hlen]
            omega
          have hokL : okL p0 ((acc ++ [(k, (c :: r).take n, line, col)]).map ptOf) = true := by
            rw [List.map_append, List.map_singleton, okL_snoc, h1, hok]
            show (true && (true && !(((k : Int) == 1) && _))) = true
            rw [hk1]
            rfl
          have := ih _ _ _ _ _ (by rw [List.length_drop, List.length_cons]; omega) hokL (by
            rw [List.map_append, List.map_singleton, lastP_snoc]
            show true = ((k : Int) != 1)
            rw [bne, hk1]
            rfl) h3
          refine ⟨this.1, ?_⟩
          have h5 := this.2
          rw [List.map_append, List.map_singleton, massV_snoc, List.length_drop] at h5
          have h6 : (ptOf (k, (c :: r).take n, line, col)).2.length = n := by
            show ((c :: r).take n).length = n
            rw [List.length_take]
            omega
          rw [h6] at h5
          omega
        · rw [runV_err _ _ _ _ _ h hp h0] at h3
          exact absurd h3 h0

theorem scan_valid {l : List UInt8} {ts : List Tok} (h : scanV l = (ts, 0, 0, 0)) : validV p0 (ts.map ptOf) = true ∧ (textV p0 (ts.map ptOf)).length ≤ 2 * l.length + 2 ∧ l.length ≤ 16384 ∧ ts.length ≤ l.length + 1 := by
  have hle : l.length ≤ 16384 := by
    rcases Nat.lt_or_ge 16384 l.length with h' | h'
    · unfold scanV at h
      rw [if_pos h'] at h
      simp at h
    · exact h'
  have hb := (scanV_bound l hle).1
  rw [h] at hb
  rw [scanV_run _ (by omega)] at h
  have hv := runV_valid l.length l 1 1 false [] (Nat.le_refl _) rfl rfl (by rw [h])
  rw [h] at hv
  have := textV_mass (ts.map ptOf) p0
  have h2 := hv.2
  simp only [massV, List.map_nil, List.sum_nil] at h2
  exact ⟨hv.1, by unfold massV at this; omega, hle, hb⟩
end Sp
end Go.Proofs.YtdmpapoabeljfaaGreatDoor
