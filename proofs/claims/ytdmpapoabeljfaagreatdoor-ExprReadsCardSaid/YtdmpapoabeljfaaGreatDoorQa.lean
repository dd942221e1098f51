/-
  Plain laws: a text is cut line by line (no program in sight; chapter 3).
-/
import Derived.Test.YtdmpapoabeljfaaGreatDoorPd
set_option linter.unusedVariables false
set_option linter.unusedSimpArgs false
set_option maxRecDepth 100000
set_option maxHeartbeats 2000000
namespace Go.Proofs.YtdmpapoabeljfaaGreatDoor
namespace Sp
theorem runV_line : ∀ (m : Nat) (a : List UInt8) (line col : Nat) (op : Bool) (acc : List Tok), a.length ≤ m → NoNl a → (runV a line col op acc).2.1 ≠ 0 → (runV a line col op acc).2.2.1 = line := by
  intro m
  induction m with
  | zero =>
    intro a line col op acc hm _ h
    have : a = [] := List.length_eq_zero_iff.1 (by omega)
    subst this
    rw [runV_nil] at h
    exact absurd rfl h
  | succ m ih =>
    intro a line col op acc hm hn hne
    match a with
    | [] => rw [runV_nil] at hne; exact absurd rfl hne
    | c :: r =>
      simp only [List.length_cons] at hm
      rcases run_cases c with h | h | h | h
      · exfalso
        have h10 : c ≠ 10 := hn.head
        apply h10
        unfold classB at h
        split at h
        · omega
        · split at h
          · rename_i h2
            exact UInt8.toNat_inj.1 h2
          · repeat (split at h <;> try omega)
      · rw [runV_blank _ _ _ _ _ h] at hne ⊢
        exact ih _ _ _ _ _ (by omega) hn.tail hne
      · have hpos := comV_pos (c := c) r (by omega)
        rw [runV_hash _ _ _ _ _ h] at hne ⊢
        exact ih _ _ _ _ _ (by rw [List.length_drop, List.length_cons]; omega) (hn.drop _) hne
      · obtain ⟨k, n, off, code, hp⟩ : ∃ k n off code, pieceV (c :: r) = (k, n, off, code) := ⟨_, _, _, _, rfl⟩
        have hsz := pieceV_size hp (by simp)
        by_cases h0 : code = 0
        · subst h0
          have hs := hsz.1 rfl
          rw [runV_tok _ _ _ _ _ h hp] at hne ⊢
          exact ih _ _ _ _ _ (by rw [List.length_drop, List.length_cons]; omega) (hn.drop _) hne
        · rw [runV_err _ _ _ _ _ h hp h0]

theorem tw_all {p : UInt8 → Bool} : ∀ (l : List UInt8), (∀ x ∈ l, p x = true) → l.takeWhile p = l
  | [], _ => rfl
  | c :: r, h => by rw [List.takeWhile_cons, if_pos (h c List.mem_cons_self), tw_all r (fun x hx => h x (List.mem_cons_of_mem _ hx))]
theorem classB_bl {c : UInt8} (h : classB c = 2) : c.toNat < 128 := by
  unfold classB at h
  split at h
  · rename_i hb
    simp [blankB] at hb
    omega
  · repeat (split at h <;> try omega)

/-- What the reference's cut has come to at the place i of a line. -/
structure CutAt (l : List UInt8) (no i : Nat) (acc : List Tok) (R : List Tok × Nat × Nat × Nat) : Prop where
  le : i ≤ l.length
  bd : Bd l i
  len : acc.length ≤ i
  run : runV (l.drop i) no (chars (l.take i) + 1) (acc.length != 0) acc = R
section
variable {l : List UInt8} {no i : Nat} {acc : List Tok} {R : List Tok × Nat × Nat × Nat}
theorem CutAt.start (l : List UInt8) (no : Nat) : CutAt l no 0 [] (runV l no 1 false []) := ⟨by omega, Bd.zero _, by simp, by simp [chars_nil]⟩
theorem CutAt.blank (h : CutAt l no i acc R) {c : UInt8} {r : List UInt8} (hd : l.drop i = c :: r) (hc : classB c = 2) : CutAt l no (i + 1) acc R := by
  have hlt : i + 1 ≤ l.length := by
    have := congrArg List.length hd
    rw [List.length_drop, List.length_cons] at this
    omega
  have hone : ∀ k, k < 1 → bt (l.drop i) k < 128 := by
    intro k hk
    obtain rfl : k = 0 := by omega
    rw [hd]
    exact classB_bl hc
  have hl1 : 1 ≤ (l.drop i).length := by rw [List.length_drop]; omega
  refine ⟨hlt, h.bd.trans (Bd.ascii 1 _ hl1 hone), by have := h.len; omega, ?_⟩
  have hr := h.run
  rw [hd, runV_blank _ _ _ _ _ hc] at hr
  rw [chars_take_add h.bd, chars_ascii 1 _ hl1 hone, ← hr, show l.drop (i + 1) = r by rw [← List.drop_drop, hd]; rfl]
theorem CutAt.tok (h : CutAt l no i acc R) {c : UInt8} {r : List UInt8} (hd : l.drop i = c :: r) (hc : PieceAt c) {k n off : Nat} (hp : pieceV (l.drop i) = (k, n, off, 0)) :
    CutAt l no (i + n) (acc ++ [(k, (l.drop i).take n, no, chars (l.take i) + 1)]) R := by
  have hsz := (pieceV_size hp (by rw [hd]; simp)).1 rfl
  have hr := h.run
  rw [hd] at hp hr
  rw [runV_tok _ _ _ _ _ hc hp, ← hd] at hr
  have hb : Bd (l.drop i) n := hsz.2.1
  have hle := hb.le
  rw [List.length_drop] at hle
  refine ⟨by have := h.le; omega, h.bd.trans hb, by rw [List.length_append, List.length_singleton]; have := h.len; omega, ?_⟩
  rw [← hr, chars_take_add h.bd, List.drop_drop]
  congr 1
  · omega
  · simp
theorem CutAt.err (h : CutAt l no i acc R) {c : UInt8} {r : List UInt8} (hd : l.drop i = c :: r) (hc : PieceAt c) {k n off code : Nat} (hp : pieceV (l.drop i) = (k, n, off, code)) (h0 : code ≠ 0) :
    R = ([], code, no, chars (l.take (i + off)) + 1) ∧ Bd l (i + off) ∧ i + off ≤ l.length := by
  have hsz := (pieceV_size hp (by rw [hd]; simp)).2 h0
  have hr := h.run
  rw [hd] at hp hr
  rw [runV_err _ _ _ _ _ hc hp h0, ← hd] at hr
  have hb : Bd l (i + off) := h.bd.trans hsz.1
  refine ⟨?_, hb, hb.le⟩
  rw [← hr, chars_take_add h.bd]
  congr 3
  omega
theorem CutAt.fin (h : CutAt l no i acc R) (hi : l.drop i = []) : R = (endT (acc.length != 0) acc no (chars l + 1), 0, 0, 0) := by
  have hr := h.run
  rw [hi, runV_nil] at hr
  have : l.take i = l := List.take_of_length_le (List.drop_eq_nil_iff.1 hi)
  rw [← hr, this]
theorem CutAt.hash (h : CutAt l no i acc R) {c : UInt8} {r : List UInt8} (hd : l.drop i = c :: r) (hc : classB c = 4) (hn : NoNl l) : R = (endT (acc.length != 0) acc no (chars l + 1), 0, 0, 0) := by
  have hr := h.run
  have hcom : comV (c :: r) = (c :: r).length := by
    unfold comV
    have hn2 : NoNl (c :: r) := by rw [← hd]; exact hn.drop _
    rw [tw_all _ (fun x hx => by simpa using hn2 x hx)]
  rw [hd, runV_hash _ _ _ _ _ hc, hcom, List.drop_length, List.take_length, runV_nil, ← hd] at hr
  rw [← hr]
  congr 2
  have := chars_take_add h.bd (l.length - i)
  rw [show i + (l.length - i) = l.length by have := h.le; omega, List.take_length, show (l.drop i).take (l.length - i) = l.drop i by rw [List.take_of_length_le]; rw [List.length_drop]; omega] at this
  omega
end

theorem chars_one (l : List UInt8) (hl : l ≠ []) : chars (l.take (dec l).2) = 1 := by
  have h1 := dec_pos l hl
  have h2 := dec_len l hl
  have hne2 : l.take (dec l).2 ≠ [] := by
    intro e
    have := congrArg List.length e
    rw [List.length_take, List.length_nil] at this
    omega
  rw [chars_step _ hne2, dec_take l hl _ (Nat.le_refl _), List.drop_eq_nil_of_le (by rw [List.length_take]; omega), chars_nil]

theorem downT_0 (t : Tok) : downT 0 t = t := rfl
theorem map_down_0 (l : List Tok) : l.map (downT 0) = l := by
  rw [show downT 0 = id from funext downT_0, List.map_id]

/-- One line of a text, cut by itself. -/
theorem scan_line {s : List UInt8} {fr i no : Nat} {acc : List Tok} {R : List Tok × Nat × Nat × Nat} (h : runV (s.drop fr) no 1 false acc = R) (hf : fr ≤ i) (hno : NoNl ((s.drop fr).take (i - fr)))
    {ts : List Tok} {c n m : Nat} (ha : runV ((s.drop fr).take (i - fr)) no 1 false [] = (ts, c, n, m)) :
    (i = s.length → (c ≠ 0 → R = ([], c, no, m)) ∧ (c = 0 → R = (acc ++ ts, 0, 0, 0))) ∧
    (s[i]? = some 10 → (c ≠ 0 → R = ([], c, no, m)) ∧ (c = 0 → runV (s.drop (i + 1)) (no + 1) 1 false (acc ++ ts) = R)) := by
  obtain ⟨a, hA⟩ : ∃ a, (s.drop fr).take (i - fr) = a := ⟨_, rfl⟩
  rw [hA] at hno ha
  have hd := runV_down acc 0 a.length a no 1 false [] (Nat.le_refl _)
  have hl := runV_line a.length a no 1 false [] (Nat.le_refl _) hno
  have hc := runV_code a.length a no 1 false [] (Nat.le_refl _)
  rw [ha] at hd hl hc
  simp only [List.map_nil, List.append_nil, Nat.add_zero, downR, map_down_0] at hd hl hc
  constructor
  · intro hi
    have e : a = s.drop fr := by
      rw [← hA, List.take_of_length_le]
      rw [List.length_drop]
      omega
    rw [← e, hd] at h
    constructor
    · intro h0
      rw [if_pos h0, hl h0] at h
      exact h.symm
    · intro h0
      rw [if_neg (by omega)] at h
      exact h.symm
  · intro hi
    have hlt : i < s.length := (List.getElem?_eq_some_iff.1 hi).1
    have e : s.drop fr = a ++ 10 :: s.drop (i + 1) := by
      have h1 := (List.take_append_drop (i - fr) (s.drop fr)).symm
      rw [hA, List.drop_drop, show fr + (i - fr) = i by omega, List.drop_eq_getElem_cons hlt] at h1
      rw [h1, show s[i]'hlt = 10 from (List.getElem?_eq_some_iff.1 hi).2]
    rw [e, runV_join _ a.length _ _ _ _ _ (Nat.le_refl _), nlV_none hno, Nat.add_zero, hd] at h
    constructor
    · intro h0
      rw [if_pos h0, joinV, if_pos h0, hl h0] at h
      exact h.symm
    · intro h0
      rw [if_neg (by omega), joinV_ok] at h
      exact h
end Sp
end Go.Proofs.YtdmpapoabeljfaaGreatDoor
