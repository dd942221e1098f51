/-
  Plain laws: a token's text by itself, and with another text behind it (no program in sight; chapter 3).
-/
import Derived.Test.YtdmpapoabeljfaaGreatDoorQb
set_option linter.unusedVariables false
set_option linter.unusedSimpArgs false
set_option maxRecDepth 100000
set_option maxHeartbeats 2000000
namespace Go.Proofs.YtdmpapoabeljfaaGreatDoor
namespace Sp

theorem wordRun_take : ∀ (l : List UInt8) (j : Nat), wordRun (l.take j) = min (wordRun l) j
  | [], j => by simp [wordRun]
  | c :: r, 0 => by simp [wordRun]
  | c :: r, j + 1 => by
    rw [List.take_succ_cons]
    by_cases h : wordB c = true
    · rw [wordRun_pos h, wordRun_pos h, wordRun_take r j]
      omega
    · have h0 : ∀ x : List UInt8, wordRun (c :: x) = 0 := fun x => by
        unfold wordRun
        rw [List.takeWhile_cons, if_neg h]
        rfl
      rw [h0, h0]
      omega
theorem wordRun_glue (t x : List UInt8) (hx : wordRun x = 0) : wordRun (t ++ x) = wordRun t := by
  induction t with
  | nil => rw [List.nil_append, hx]; rfl
  | cons c t ih =>
    rw [List.cons_append]
    by_cases h : wordB c = true
    · rw [wordRun_pos h, wordRun_pos h, ih]
    · unfold wordRun
      rw [List.takeWhile_cons, if_neg h, List.takeWhile_cons, if_neg h]
theorem classV_app (a b : List UInt8) (ha : a ≠ []) : classV (a ++ b) = classV a := classV_nl a b ha
theorem classV_take (l : List UInt8) {n : Nat} (hn : 1 ≤ n) : classV (l.take n) = classV l := by
  match l, n, hn with
  | [], n, _ => simp
  | c :: r, n + 1, _ => rfl
theorem numRun_take : ∀ l : List UInt8, numRun (l.take (numRun l)) = numRun l
  | [] => rfl
  | c :: r => by
    have ih := numRun_take r
    by_cases h : (wordB c || (c == 46 && classV r == 6)) = true
    · have e : numRun (c :: r) = numRun r + 1 := by rw [numRun, if_pos h]
      have h' : (wordB c || (c == 46 && classV (r.take (numRun r)) == 6)) = true := by
        by_cases h6 : classV r = 6
        · obtain ⟨d, r', rfl, hd⟩ := classV_at h6 (by decide)
          have hw : wordB d = true := by
            unfold wordB
            rw [classB_6 hd]
            simp
          rw [classV_take _ (by rw [numRun_pos hw]; omega)]
          exact h
        · have : (classV r == 6) = false := by rw [beq_eq_false_iff_ne]; exact h6
          rw [this, Bool.and_false, Bool.or_false] at h
          rw [h, Bool.true_or]
      rw [e, List.take_succ_cons, numRun, if_pos h', ih]
    · have e : numRun (c :: r) = 0 := by rw [numRun, if_neg h]
      rw [e]
      rfl
/-- What may stand behind a token with no blank between. -/
def Stop (x : List UInt8) : Prop := wordRun x = 0 ∧ numRun x = 0 ∧ (x.head? = some 46 → classV (x.drop 1) ≠ 5) ∧ ∀ c, x.head? = some c → c ≠ 61 ∧ c ≠ 62
theorem numRun_glue (x : List UInt8) (h0 : numRun x = 0) : ∀ t : List UInt8, numRun t = t.length → numRun (t ++ x) = t.length
  | [], _ => by rw [List.nil_append, h0]; rfl
  | c :: r, h => by
    by_cases hc : (wordB c || (c == 46 && classV r == 6)) = true
    · rw [numRun, if_pos hc, List.length_cons] at h
      have ih := numRun_glue x h0 r (by omega)
      have hc' : (wordB c || (c == 46 && classV (r ++ x) == 6)) = true := by
        by_cases hr : r = []
        · subst hr
          have : (classV [] == 6) = false := rfl
          rw [this, Bool.and_false, Bool.or_false] at hc
          rw [hc, Bool.true_or]
        · rw [classV_app _ _ hr]
          exact hc
      rw [List.cons_append, numRun, if_pos hc', ih, List.length_cons]
    · rw [numRun, if_neg hc, List.length_cons] at h
      omega

theorem tw_split (l : List UInt8) (h : ¬ l.all (fun x => decide (x ≠ 125)) = true) : ∃ r, l = l.takeWhile (fun x => decide (x ≠ 125)) ++ 125 :: r := by
  induction l with
  | nil => exact absurd rfl h
  | cons c l ih =>
    by_cases hc : c = 125
    · subst hc
      exact ⟨l, by simp⟩
    · have : ¬ l.all (fun x => decide (x ≠ 125)) = true := by
        intro h2
        apply h
        rw [List.all_cons, h2]
        simpa using hc
      obtain ⟨r, hr⟩ := ih this
      refine ⟨r, ?_⟩
      rw [List.takeWhile_cons, if_pos (by simpa using hc), List.cons_append, ← hr]

theorem escV_ext {l : List UInt8} {k : Nat} {b : List UInt8} (h : escV l = some (k, b)) : 1 ≤ k ∧ k ≤ l.length ∧ ∀ y, escV (l.take k ++ y) = some (k, b) := by
  match l, h with
  | [], h => simp [escV] at h
  | [_], h => simp [escV] at h
  | a :: c :: r, h =>
    have h0 := h
    unfold escV at h
    simp only [] at h
    have two : ∀ {b' : List UInt8}, some (2, b') = some (k, b) → (∀ r', escV (a :: c :: r') = some (2, b')) → 1 ≤ k ∧ k ≤ (a :: c :: r).length ∧ ∀ y, escV ((a :: c :: r).take k ++ y) = some (k, b) := by
      intro b' h2 h3
      injection h2 with h2
      injection h2 with h4 h5
      subst h4 h5
      exact ⟨by omega, by simp, fun y => h3 y⟩
    split at h
    · rename_i hc; exact two h (fun r' => by subst hc; simp [escV])
    split at h
    · rename_i hc; exact two h (fun r' => by subst hc; simp [escV])
    split at h
    · rename_i hc; exact two h (fun r' => by subst hc; simp [escV])
    split at h
    · rename_i hc; exact two h (fun r' => by subst hc; simp [escV])
    split at h
    · rename_i hc; exact two h (fun r' => by subst hc; simp [escV])
    split at h
    · rename_i hc
      subst hc
      match r, h, h0 with
      | [], h, _ => simp at h
      | [_], h, _ => simp at h
      | p :: q :: r, h, h0 =>
        simp only [] at h
        split at h
        · rename_i hpq
          injection h with h
          injection h with h4 h5
          subst h4 h5
          refine ⟨by omega, by simp, fun y => ?_⟩
          show escV (a :: 120 :: p :: q :: y) = _
          simp [escV, hpq]
        · cases h
    split at h
    · rename_i hc
      subst hc
      match r, h, h0 with
      | [], h, _ => simp at h
      | d :: t, h, h0 =>
        simp only [] at h
        split at h
        · rename_i hd
          subst hd
          split at h
          · rename_i kk v hv
            injection h with h
            injection h with h4 h5
            subst h4 h5
            have hv0 := hv
            unfold bracedV at hv
            split at hv
            · cases hv
            · rename_i hall
              obtain ⟨r', hr'⟩ := tw_split t hall
              obtain ⟨ds, hds⟩ : ∃ ds, t.takeWhile (fun x => decide (x ≠ 125)) = ds := ⟨_, rfl⟩
              rw [hds] at hr' hv
              have hno : ∀ c ∈ ds, c ≠ 125 := by
                intro c hc
                rw [← hds] at hc
                have := List.all_eq_true.1 (List.all_takeWhile (l := t) (p := fun x => decide (x ≠ 125))) c hc
                simpa using this
              have hb : ∀ y, bracedV (ds ++ 125 :: y) = bracedV t := by
                intro y
                rw [hr']
                unfold bracedV
                rw [all_stop, all_stop, takeWhile_stop ds y hno, takeWhile_stop ds r' hno]
              split at hv
              · cases hv
              · rename_i vv hbb
                split at hv
                · injection hv with hv
                  injection hv with h6 h7
                  have hkk : kk = ds.length + 4 := h6.symm
                  subst hkk
                  have hlen : t.length = ds.length + 1 + r'.length := by rw [hr', List.length_append, List.length_cons]; omega
                  refine ⟨by omega, by rw [List.length_cons, List.length_cons, List.length_cons]; omega, fun y => ?_⟩
                  have e : (a :: 117 :: 123 :: t).take (ds.length + 4) ++ y = a :: 117 :: 123 :: (ds ++ 125 :: y) := by
                    rw [show ds.length + 4 = (ds.length + 1) + 1 + 1 + 1 by omega, List.take_succ_cons, List.take_succ_cons, List.take_succ_cons, hr']
                    rw [show ds ++ 125 :: r' = (ds ++ [125]) ++ r' by simp, List.take_append_of_le_length (by simp), List.take_of_length_le (by simp)]
                    simp
                  rw [e]
                  simp only [escV]
                  rw [hb y, hv0]
                  simp
                · cases hv
          · cases h
        · cases h
    · cases h

theorem speakF_loc (lines : Bool) (x : List UInt8) : ∀ (f g : Nat) (l : List UInt8) (i : Nat) (said b : List UInt8) (p : Nat), speakF lines f l i said = (0, b, p) → l.length ≤ f → f ≤ g →
    i < p ∧ p - i ≤ l.length ∧ speakF lines g (l.take (p - i) ++ x) i said = (0, b, p) := by
  intro f
  induction f with
  | zero => intro g l i said b p h; simp [speakF] at h
  | succ f ih =>
    intro g l i said b p h hlf hfg
    obtain ⟨g, rfl⟩ : ∃ g', g = g' + 1 := ⟨g - 1, by omega⟩
    match l, h, hlf with
    | [], h, _ => simp [speakF] at h
    | c :: r, h, hlf =>
      have hb := speakF_bd lines (f + 1) (c :: r) i said 0 p b hlf h
      have hip := hb.2.2 rfl
      have hple : p - i ≤ (c :: r).length := hb.2.1.le
      refine ⟨hip, hple, ?_⟩
      obtain ⟨m, hm⟩ : ∃ m, p - i = m + 1 := ⟨p - i - 1, by omega⟩
      have hhead : (c :: r).take (p - i) ++ x = c :: (r.take m ++ x) := by rw [hm, List.take_succ_cons, List.cons_append]
      rw [speakF] at h
      -- a piece of k bytes, then on
      have on : ∀ (k : Nat) (b' : List UInt8), 1 ≤ k → k ≤ (c :: r).length → speakF lines f ((c :: r).drop k) (i + k) (said ++ b') = (0, b, p) →
          (c :: r).take (p - i) ++ x = (c :: r).take k ++ (((c :: r).drop k).take (p - (i + k)) ++ x) ∧ speakF lines g (((c :: r).drop k).take (p - (i + k)) ++ x) (i + k) (said ++ b') = (0, b, p) := by
        intro k b' hk hkl h2
        have h3 := ih g _ _ _ _ _ h2 (by rw [List.length_drop]; simp only [List.length_cons] at hlf ⊢; omega) (by omega)
        refine ⟨?_, h3.2.2⟩
        rw [← List.append_assoc]
        congr 1
        rw [show p - i = k + (p - (i + k)) by omega, List.take_add]
      by_cases h34 : c = 34
      · rw [if_pos h34] at h
        injection h with h1 h
        injection h with h2 h3
        rw [hhead, speakF, if_pos h34, h2, h3]
      rw [if_neg h34] at h
      by_cases h92 : c = 92
      · rw [if_pos h92] at h
        split at h
        · simp at h
        · rename_i k b' he
          obtain ⟨hk1, hkl, hext⟩ := escV_ext he
          obtain ⟨e1, e2⟩ := on k b' hk1 hkl h
          have he2 := hext (((c :: r).drop k).take (p - (i + k)) ++ x)
          rw [← e1, hhead] at he2
          have hd : (c :: (r.take m ++ x)).drop k = ((c :: r).drop k).take (p - (i + k)) ++ x := by
            rw [← hhead, e1, List.drop_append_of_le_length (by rw [List.length_take]; omega), List.drop_eq_nil_of_le (by rw [List.length_take]; omega), List.nil_append]
          rw [hhead, speakF, if_neg h34, if_pos h92, he2]
          simp only []
          rw [hd]
          exact e2
      rw [if_neg h92] at h
      by_cases h10 : c = 10 ∧ lines = true
      · rw [if_pos h10] at h
        simp at h
      rw [if_neg h10] at h
      by_cases h32 : c.toNat < 32 ∨ c.toNat = 127 ∨ looseB (c :: r) = true
      · rw [if_pos h32] at h
        simp at h
      rw [if_neg h32] at h
      have hl : looseB (c :: r) = false := by
        cases hh : looseB (c :: r) with
        | false => rfl
        | true => exact absurd (Or.inr (Or.inr hh)) h32
      have hdl := dec_len (c :: r) (by simp)
      have hdp := dec_pos (c :: r) (by simp)
      obtain ⟨e1, e2⟩ := on _ _ hdp hdl h
      have hdec := dec_ext (c :: r) (((c :: r).drop (dec (c :: r)).2).take (p - (i + (dec (c :: r)).2)) ++ x) (by simp) hl
      rw [← e1, hhead] at hdec
      have hl2 : looseB (c :: (r.take m ++ x)) = false := by
        unfold looseB at hl ⊢
        rw [hdec]
        exact hl
      have hd : (c :: (r.take m ++ x)).drop (dec (c :: r)).2 = ((c :: r).drop (dec (c :: r)).2).take (p - (i + (dec (c :: r)).2)) ++ x := by
        rw [← hhead, e1, List.drop_append_of_le_length (by rw [List.length_take]; omega), List.drop_eq_nil_of_le (by rw [List.length_take]; omega), List.nil_append]
      have ht : (c :: (r.take m ++ x)).take (dec (c :: r)).2 = (c :: r).take (dec (c :: r)).2 := by
        rw [← hhead, e1, List.take_append_of_le_length (by rw [List.length_take]; omega), List.take_of_length_le (by rw [List.length_take]; omega)]
      rw [hhead, speakF, if_neg h34, if_neg h92, if_neg h10, if_neg (by rw [hl2]; rintro (h | h | h); exact h32 (Or.inl h); exact h32 (Or.inr (Or.inl h)); cases h), hdec, hd, ht]
      exact e2

theorem speakV_loc {lines : Bool} {l b : List UInt8} {p : Nat} (hl : l ≠ []) (h : speakV lines l = (0, b, p)) (x : List UInt8) : speakV lines (l.take p ++ x) = (0, b, p) ∧ 2 ≤ p ∧ p ≤ l.length := by
  unfold speakV at h ⊢
  have h1 := speakF_loc lines x l.length (max l.length (l.take p ++ x).length) (l.drop 1) 1 [] b p h (by rw [List.length_drop]; omega) (by omega)
  have hlen := h1.2.1
  rw [List.length_drop] at hlen
  have hpos : 1 ≤ l.length := by
    cases l with
    | nil => exact absurd rfl hl
    | cons _ _ => simp
  refine ⟨?_, by omega, by omega⟩
  have e : (l.take p ++ x).drop 1 = (l.drop 1).take (p - 1) ++ x := by
    rw [List.drop_append_of_le_length (by rw [List.length_take]; omega), List.drop_take]
  rw [e]
  rw [speakF_enough _ (max l.length (l.take p ++ x).length) lines _ _ _ (by rw [← e, List.length_drop]; omega) (by rw [← e, List.length_drop]; omega)]
  exact h1.2.2

theorem signV_take (l : List UInt8) : signV (l.take (signV l)) = signV l := by
  match l with
  | [] => rfl
  | [a] =>
    have h : signV [a] = 0 ∨ signV [a] = 1 := by
      simp only [signV]
      split
      · rename_i h; simp at h
      · split
        · exact Or.inr rfl
        · exact Or.inl rfl
    rcases h with h | h
    · rw [h]; rfl
    · rw [h, List.take_of_length_le (by simp), h]
  | a :: b :: r =>
    by_cases h2 : ((a == 33 && b == 61) || (a == 60 && b == 61) || (a == 62 && b == 61) || (a == 46 && b == 46) || (a == 45 && b == 62)) = true
    · have : ∀ r, signV (a :: b :: r) = 2 := fun r => by simp only [signV]; rw [if_pos h2]
      rw [this r]
      exact this []
    · by_cases h1 : (a == 40 || a == 41 || a == 33 || a == 61 || a == 60 || a == 62 || a == 38 || a == 124 || a == 44 || a == 58 || a == 47) = true
      · have e : signV (a :: b :: r) = 1 := by simp only [signV]; rw [if_neg h2, if_pos h1]
        rw [e]
        show signV [a] = 1
        simp only [signV]
        rw [if_neg (by simp), if_pos h1]
      · have e : signV (a :: b :: r) = 0 := by simp only [signV]; rw [if_neg h2, if_neg h1]
        rw [e]
        rfl

/-- A token's text is a token by itself. -/
theorem pieceV_take {l : List UInt8} {k n off : Nat} (h : pieceV l = (k, n, off, 0)) : pieceV (l.take n) = (k, n, off, 0) := by
  by_cases hl : l = []
  · subst hl
    simp at h ⊢
    exact h
  have hn := ((pieceV_size h hl).1 rfl).1
  have hle := ((pieceV_size h hl).1 rfl).2.1.le
  have hcl := classV_take l hn
  have h0 := h
  unfold pieceV at h ⊢
  rw [hcl]
  by_cases h5 : classV l = 5
  · rw [if_pos h5] at h ⊢
    simp only [] at h ⊢
    split at h
    · simp at h
    rename_i h24
    split at h
    · rename_i hdot
      split at h
      · simp at h
      rename_i hm24
      injection h with e1 h
      injection h with e2 h
      have hw : wordRun (l.take n) = wordRun l := by rw [wordRun_take]; omega
      have hm1 : 1 ≤ wordRun (l.drop (wordRun l + 1)) := by
        obtain ⟨d, r', hd, hc⟩ := classV_at hdot.2 (by decide)
        rw [hd, wordRun_pos (by unfold wordB; rw [classB_5 hc]; rfl)]
        omega
      rw [hw, if_neg h24]
      have hd1 : (l.take n).drop (wordRun l) = (l.drop (wordRun l)).take (n - wordRun l) := by rw [List.drop_take]
      have hd2 : (l.take n).drop (wordRun l + 1) = (l.drop (wordRun l + 1)).take (n - (wordRun l + 1)) := by rw [List.drop_take]
      have hh : ((l.take n).drop (wordRun l)).head? = (l.drop (wordRun l)).head? := by
        rw [hd1]
        cases l.drop (wordRun l) with
        | nil => simp
        | cons y ys => rw [show n - wordRun l = (n - wordRun l - 1) + 1 by omega]; rfl
      rw [hh, hd2, classV_take _ (by omega), if_pos hdot, wordRun_take, show min (wordRun (l.drop (wordRun l + 1))) (n - (wordRun l + 1)) = wordRun (l.drop (wordRun l + 1)) by omega, if_neg hm24, e1, e2]
      exact congrArg _ (congrArg _ h)
    · injection h with e1 h
      injection h with e2 h
      have hw : wordRun (l.take n) = n := by rw [wordRun_take]; omega
      rw [hw, if_neg (by omega), if_neg (by rw [List.drop_eq_nil_of_le (by rw [List.length_take]; omega)]; simp), e1]
      exact congrArg _ (congrArg _ h)
  rw [if_neg h5] at h ⊢
  by_cases h6 : classV l = 6
  · rw [if_pos h6] at h ⊢
    split at h
    · simp at h
    rename_i v hv
    injection h with e1 h
    injection h with e2 h
    rw [← e2, numRun_take, List.take_of_length_le (by rw [List.length_take]; omega), hv]
    show (4, numRun l, 0, 0) = _
    rw [e1]
    exact congrArg _ (congrArg _ h)
  rw [if_neg h6] at h ⊢
  by_cases h7 : classV l = 7
  · rw [if_pos h7] at h ⊢
    simp only [] at h ⊢
    split at h
    · rename_i hp
      injection h with e1 h
      injection h with e2 h
      have hd : (l.take n).drop 1 = (l.drop 1).take (n - 1) := by rw [List.drop_take]
      have hw : wordRun ((l.take n).drop 1) = wordRun (l.drop 1) := by rw [hd, wordRun_take]; omega
      rw [hw, hd, List.take_take, show min (1 + wordRun (l.drop 1) - 1) (n - 1) = 1 + wordRun (l.drop 1) - 1 by omega, if_pos hp, e1, e2]
      exact congrArg _ (congrArg _ h)
    · simp at h
  rw [if_neg h7] at h ⊢
  by_cases h8 : classV l = 8
  · rw [if_pos h8] at h ⊢
    simp only [] at h ⊢
    obtain ⟨c, b, p, hs⟩ : ∃ c b p, speakV true l = (c, b, p) := ⟨_, _, _, rfl⟩
    rw [hs] at h
    simp only [] at h
    split at h
    · rename_i hc
      injection h with e1 h
      injection h with e2 h
      injection h with e3 h
      exact absurd h hc
    rename_i hc
    simp only [Classical.not_not] at hc
    subst hc
    split at h
    · simp at h
    rename_i h256
    injection h with e1 h
    injection h with e2 h
    subst e2
    have := (speakV_loc hl hs []).1
    rw [List.append_nil] at this
    rw [this]
    simp only []
    rw [if_neg (by simp), if_neg h256, e1]
    exact congrArg _ (congrArg _ h)
  rw [if_neg h8] at h ⊢
  split at h
  · simp at h
  rename_i hs
  injection h with e1 h
  injection h with e2 h
  rw [← e2, signV_take, if_neg hs, e1]
  exact congrArg _ (congrArg _ h)
end Sp
end Go.Proofs.YtdmpapoabeljfaaGreatDoor
