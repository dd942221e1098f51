/-
  Texts joined: SpJ SpK SpL SpM.
-/
import Derived.Test.YthjenkbgiomibaaGreatDoorPa

/-
  PLAIN LEAN, no program in sight: characters of a text, places where one begins, counting them.
-/
set_option linter.unusedVariables false
set_option linter.unusedSimpArgs false
namespace Go.Proofs.YthjenkbgiomibaaGreatDoor
namespace Sp

theorem charsF_nil (f : Nat) : charsF f [] = 0 := by cases f <;> rfl
theorem charsF_enough : ∀ (f g : Nat) (l : List UInt8), l.length ≤ f → l.length ≤ g → charsF f l = charsF g l
  | 0, g, l, hf, hg => by
    have : l = [] := List.length_eq_zero_iff.1 (by omega)
    subst this
    rw [charsF_nil, charsF_nil]
  | f + 1, 0, l, hf, hg => by
    have : l = [] := List.length_eq_zero_iff.1 (by omega)
    subst this
    rw [charsF_nil, charsF_nil]
  | f + 1, g + 1, [], hf, hg => by rw [charsF_nil, charsF_nil]
  | f + 1, g + 1, c :: r, hf, hg => by
    simp only [charsF]
    have h1 := dec_pos (c :: r) (by simp)
    have h2 : ((c :: r).drop (dec (c :: r)).2).length ≤ r.length := by rw [List.length_drop, List.length_cons]; omega
    simp only [List.length_cons] at hf hg
    rw [charsF_enough f g _ (by omega) (by omega)]
theorem chars_nil : chars [] = 0 := rfl
theorem chars_step (l : List UInt8) (hl : l ≠ []) : chars l = chars (l.drop (dec l).2) + 1 := by
  match l, hl with
  | c :: r, _ =>
    have h1 := dec_pos (c :: r) (by simp)
    unfold chars
    simp only [List.length_cons, charsF]
    rw [charsF_enough r.length _ _ (by rw [List.length_drop, List.length_cons]; omega) (Nat.le_refl _)]

/-- Place i of l is one where a character begins, or the end. -/
inductive Bd : List UInt8 → Nat → Prop
  | zero (l : List UInt8) : Bd l 0
  | step (l : List UInt8) (i : Nat) (h : l ≠ []) (hb : Bd (l.drop (dec l).2) i) : Bd l ((dec l).2 + i)

theorem Bd.le {l : List UInt8} {i : Nat} (h : Bd l i) : i ≤ l.length := by
  induction h with
  | zero l => omega
  | step l i h hb ih =>
    have := dec_len l h
    rw [List.length_drop] at ih
    omega
theorem Bd.inv {l : List UInt8} {i : Nat} (h : Bd l i) (hi : 0 < i) : l ≠ [] ∧ ∃ j, i = (dec l).2 + j ∧ Bd (l.drop (dec l).2) j := by
  cases h with
  | zero => omega
  | step _ j hne hb => exact ⟨hne, j, rfl, hb⟩
theorem Bd.trans {l : List UInt8} {i j : Nat} (h : Bd l i) (h2 : Bd (l.drop i) j) : Bd l (i + j) := by
  induction h with
  | zero l => simpa using h2
  | step l i h hb ih =>
    rw [Nat.add_assoc]
    refine Bd.step l (i + j) h (ih ?_)
    rw [List.drop_drop]
    exact h2
theorem Bd.all : ∀ (n : Nat) (l : List UInt8), l.length ≤ n → Bd l l.length
  | 0, l, h => by
    have : l = [] := List.length_eq_zero_iff.1 (by omega)
    subst this
    exact Bd.zero _
  | n + 1, [], h => Bd.zero _
  | n + 1, c :: r, h => by
    have h1 := dec_pos (c :: r) (by simp)
    have h2 := dec_len (c :: r) (by simp)
    have h3 := Bd.all n ((c :: r).drop (dec (c :: r)).2) (by rw [List.length_drop]; omega)
    have h4 := Bd.step (c :: r) _ (by simp) h3
    rw [List.length_drop] at h4
    have e : (dec (c :: r)).2 + ((c :: r).length - (dec (c :: r)).2) = (c :: r).length := by omega
    rw [e] at h4
    exact h4
theorem Bd.full (l : List UInt8) : Bd l l.length := Bd.all _ l (Nat.le_refl _)
theorem Bd.ascii : ∀ (n : Nat) (l : List UInt8), n ≤ l.length → (∀ k, k < n → bt l k < 128) → Bd l n
  | 0, l, _, _ => Bd.zero l
  | n + 1, [], h, _ => by simp at h
  | n + 1, c :: r, h, ha => by
    have h0 := ha 0 (by omega)
    rw [bt_cons0] at h0
    have hd := dec_ascii c r h0
    have h1 : Bd ((c :: r).drop (dec (c :: r)).2) n := by
      rw [hd]
      refine Bd.ascii n _ (by simpa using h) (fun k hk => ?_)
      rw [bt_drop]
      exact ha _ (by omega)
    have := Bd.step (c :: r) n (by simp) h1
    rw [hd] at this
    rw [Nat.add_comm]
    exact this
/-- Counting goes on behind a place. -/
theorem chars_take_add {l : List UInt8} {i : Nat} (h : Bd l i) : ∀ j, chars (l.take (i + j)) = chars (l.take i) + chars ((l.drop i).take j) := by
  induction h with
  | zero l => intro j; simp [chars_nil]
  | step l i h hb ih =>
    intro j
    have h1 := dec_pos l h
    have hl : 0 < l.length := List.length_pos_iff.2 h
    have key : ∀ m, chars (l.take ((dec l).2 + m)) = chars ((l.drop (dec l).2).take m) + 1 := by
      intro m
      have hne : l.take ((dec l).2 + m) ≠ [] := by
        intro e
        have := congrArg List.length e
        rw [List.length_take, List.length_nil] at this
        omega
      rw [chars_step _ hne, dec_take l h _ (by omega), List.drop_take]
      congr 3
      omega
    rw [Nat.add_assoc, key, key, ih j, List.drop_drop]
    omega
theorem chars_ascii : ∀ (n : Nat) (l : List UInt8), n ≤ l.length → (∀ k, k < n → bt l k < 128) → chars (l.take n) = n
  | 0, l, _, _ => by simp [chars_nil]
  | n + 1, [], h, _ => by simp at h
  | n + 1, c :: r, h, ha => by
    have h0 := ha 0 (by omega)
    rw [bt_cons0] at h0
    have hd := dec_ascii c (r.take n) h0
    rw [List.take_succ_cons, chars_step _ (by simp), hd]
    simp only [List.drop_succ_cons, List.drop_zero]
    rw [chars_ascii n r (by simpa using h) (fun k hk => by
      have := ha (k + 1) (by omega)
      have e := bt_drop (c :: r) 1 k
      rw [Nat.add_comm 1 k] at e
      rw [← e] at this
      simpa using this)]
theorem chars_le : ∀ (n : Nat) (l : List UInt8), l.length ≤ n → chars l ≤ l.length
  | 0, l, h => by
    have : l = [] := List.length_eq_zero_iff.1 (by omega)
    subst this
    exact Nat.le_refl _
  | n + 1, [], _ => Nat.le_refl _
  | n + 1, c :: r, h => by
    have h1 := dec_pos (c :: r) (by simp)
    have h2 := dec_len (c :: r) (by simp)
    rw [chars_step _ (by simp)]
    have := chars_le n ((c :: r).drop (dec (c :: r)).2) (by rw [List.length_drop]; omega)
    rw [List.length_drop] at this
    omega
theorem chars_le_len (l : List UInt8) (n : Nat) : chars (l.take n) ≤ n := by
  have := chars_le _ (l.take n) (Nat.le_refl _)
  rw [List.length_take] at this
  omega
/-- A character's places are the same in front of what is no continuation byte. -/
theorem Bd.append {a : List UInt8} {i : Nat} (h : Bd a i) (b : List UInt8) (hb : bt b 0 / 64 ≠ 2) : Bd (a ++ b) i := by
  induction h with
  | zero l => exact Bd.zero _
  | step l i h hh ih =>
    have hd := dec_append l b h hb
    have hlen := dec_len l h
    have h2 : Bd ((l ++ b).drop (dec (l ++ b)).2) i := by
      rw [hd, List.drop_append_of_le_length hlen]
      exact ih
    have := Bd.step (l ++ b) i (by simp [h]) h2
    rw [hd] at this
    exact this
theorem chars_append {a : List UInt8} (b : List UInt8) (hb : bt b 0 / 64 ≠ 2) : chars (a ++ b) = chars a + chars b := by
  have h := chars_take_add ((Bd.full a).append b hb) b.length
  rw [show a.length + b.length = (a ++ b).length by simp, List.take_length, List.take_left', List.drop_left', List.take_length] at h
  · exact h
  · rfl
  · rfl
end Sp
end Go.Proofs.YthjenkbgiomibaaGreatDoor

/-
  PLAIN LEAN, no program in sight: a token and the line that it stands on; its size; what lies behind the line's end does not count.
-/
set_option linter.unusedVariables false
set_option linter.unusedSimpArgs false
namespace Go.Proofs.YthjenkbgiomibaaGreatDoor
namespace Sp

/-- No newline in it. -/
def NoNl (l : List UInt8) : Prop := ∀ c ∈ l, c ≠ 10
theorem NoNl.tail {c : UInt8} {r : List UInt8} (h : NoNl (c :: r)) : NoNl r := fun x hx => h x (List.mem_cons_of_mem _ hx)
theorem NoNl.head {c : UInt8} {r : List UInt8} (h : NoNl (c :: r)) : c ≠ 10 := h c List.mem_cons_self
theorem NoNl.drop {l : List UInt8} (h : NoNl l) (k : Nat) : NoNl (l.drop k) := fun x hx => h x (List.mem_of_mem_drop hx)
theorem NoNl.take {l : List UInt8} (h : NoNl l) (k : Nat) : NoNl (l.take k) := fun x hx => h x (List.mem_of_mem_take hx)

theorem takeWhile_stops {p : UInt8 → Bool} {x : UInt8} (hx : p x = false) : ∀ (a b : List UInt8), (a ++ x :: b).takeWhile p = a.takeWhile p
  | [], b => by rw [List.nil_append, List.takeWhile_cons, hx]; rfl
  | c :: r, b => by
    rw [List.cons_append, List.takeWhile_cons, List.takeWhile_cons]
    by_cases h : p c = true
    · rw [if_pos h, if_pos h, takeWhile_stops hx r b]
    · rw [if_neg h, if_neg h]
theorem takeWhile_le (p : UInt8 → Bool) : ∀ l : List UInt8, (l.takeWhile p).length ≤ l.length
  | [] => by simp
  | c :: r => by
    rw [List.takeWhile_cons]
    by_cases h : p c = true
    · rw [if_pos h, List.length_cons, List.length_cons]; have := takeWhile_le p r; omega
    · rw [if_neg h]; simp
theorem takeWhile_bt (p : UInt8 → Bool) : ∀ (l : List UInt8) (k : Nat), k < (l.takeWhile p).length → p (l.getD k 0) = true
  | [], k, h => by simp at h
  | c :: r, k, h => by
    rw [List.takeWhile_cons] at h
    by_cases hc : p c = true
    · rw [if_pos hc, List.length_cons] at h
      cases k with
      | zero => exact hc
      | succ k => exact takeWhile_bt p r k (by omega)
    · rw [if_neg hc] at h
      simp at h
theorem wordRun_le (l : List UInt8) : wordRun l ≤ l.length := takeWhile_le _ l
theorem wordB_10 : wordB 10 = false := by decide
theorem wordB_lt {c : UInt8} (h : wordB c = true) : c.toNat < 128 := by
  unfold wordB letterB digitB at h
  simp only [Bool.or_eq_true, decide_eq_true_eq] at h
  omega
theorem wordRun_nl (a b : List UInt8) : wordRun (a ++ 10 :: b) = wordRun a := by
  unfold wordRun
  rw [takeWhile_stops wordB_10]
theorem wordRun_ascii (l : List UInt8) (k : Nat) (h : k < wordRun l) : bt l k < 128 := wordB_lt (takeWhile_bt wordB l k h)
theorem numRun_le : ∀ l : List UInt8, numRun l ≤ l.length
  | [] => by simp [numRun]
  | c :: r => by
    unfold numRun
    have := numRun_le r
    split <;> simp <;> omega
theorem numRun_ascii : ∀ (l : List UInt8) (k : Nat), k < numRun l → bt l k < 128
  | [], k, h => by simp [numRun] at h
  | c :: r, k, h => by
    unfold numRun at h
    split at h
    · rename_i hc
      cases k with
      | zero =>
        rw [bt_cons0]
        rw [Bool.or_eq_true, Bool.and_eq_true, beq_iff_eq] at hc
        rcases hc with hc | hc
        · exact wordB_lt hc
        · rw [hc.1]; decide
      | succ k => exact numRun_ascii r k (by omega)
    · omega
theorem classV_nl (a b : List UInt8) (ha : a ≠ []) : classV (a ++ b) = classV a := by
  match a, ha with
  | c :: r, _ => rfl
theorem numRun_nl : ∀ (a b : List UInt8), numRun (a ++ 10 :: b) = numRun a
  | [], b => by
    show numRun (10 :: b) = 0
    unfold numRun
    rw [if_neg]
    rw [wordB_10]
    simp
  | c :: r, b => by
    show numRun (c :: (r ++ 10 :: b)) = _
    have ih := numRun_nl r b
    have hcl : (classV (r ++ 10 :: b) == 6) = (classV r == 6) := by
      cases r with
      | nil => rfl
      | cons d r => rfl
    unfold numRun
    rw [hcl, ih]
theorem signV_nl (c : UInt8) (a b : List UInt8) : signV (c :: a ++ 10 :: b) = signV (c :: a) := by
  cases a with
  | nil =>
    show signV (c :: 10 :: b) = _
    unfold signV
    have e1 : ((10 : UInt8) == 61) = false := by decide
    have e2 : ((10 : UInt8) == 46) = false := by decide
    have e3 : ((10 : UInt8) == 62) = false := by decide
    simp only [e1, e2, e3, Bool.and_false, Bool.or_false]
  | cons d a => rfl

theorem bracedV_nl (t b : List UInt8) (h : NoNl t) : bracedV (t ++ 10 :: b) = bracedV t := by
  by_cases ha : t.all (fun x => decide (x ≠ 125)) = true
  · have hR : bracedV t = none := by unfold bracedV; rw [if_pos ha]
    rw [hR]
    unfold bracedV
    by_cases hb : (t ++ 10 :: b).all (fun x => decide (x ≠ 125)) = true
    · rw [if_pos hb]
    · rw [if_neg hb]
      have htw : (t ++ 10 :: b).takeWhile (fun x => decide (x ≠ 125)) = t ++ (10 :: b).takeWhile (fun x => decide (x ≠ 125)) := takeWhile_all t _ (fun c hc => List.all_eq_true.1 ha c hc)
      have hbas : basedV 16 6 ((t ++ 10 :: b).takeWhile (fun x => decide (x ≠ 125))) = none := by
        unfold basedV
        rw [if_pos]
        refine Or.inr (Or.inr ?_)
        rw [List.all_eq_false]
        refine ⟨10, ?_, by decide⟩
        rw [htw, List.takeWhile_cons, if_pos (by decide)]
        simp
      rw [hbas]
  · have hb : ¬ (t ++ 10 :: b).all (fun x => decide (x ≠ 125)) = true := by
      intro hb
      apply ha
      rw [List.all_append, Bool.and_eq_true] at hb
      exact hb.1
    have htw : (t ++ 10 :: b).takeWhile (fun x => decide (x ≠ 125)) = t.takeWhile (fun x => decide (x ≠ 125)) := by
      clear hb h
      induction t with
      | nil => simp at ha
      | cons c r ih =>
        rw [List.cons_append, List.takeWhile_cons, List.takeWhile_cons]
        by_cases hc : decide (c ≠ 125) = true
        · rw [if_pos hc, if_pos hc, ih]
          intro hr
          apply ha
          rw [List.all_cons, hc, hr]
          rfl
        · rw [if_neg hc, if_neg hc]
    unfold bracedV
    rw [if_neg hb, if_neg ha, htw]

theorem escX_nl (b : List UInt8) : ∀ r : List UInt8, (match r ++ 10 :: b with
        | a :: b :: _ => if hexv a < 16 ∧ hexv b < 16 then some (4, [(16 * hexv a + hexv b).toUInt8]) else none
        | _ => (none : Option (Nat × List UInt8))) = (match r with
        | a :: b :: _ => if hexv a < 16 ∧ hexv b < 16 then some (4, [(16 * hexv a + hexv b).toUInt8]) else none
        | _ => none) := by
  have h10 : ¬ hexv 10 < 16 := by decide
  intro r
  match r with
  | [] =>
    match b with
    | [] => rfl
    | x :: b => show (if hexv 10 < 16 ∧ _ then _ else _) = _; rw [if_neg (fun h => h10 h.1)]
  | [e] => show (if _ ∧ hexv 10 < 16 then _ else _) = _; rw [if_neg (fun h => h10 h.2)]
  | e :: f :: r => rfl
theorem escU_nl (b : List UInt8) : ∀ r : List UInt8, NoNl r → (match r ++ 10 :: b with
        | d :: t => if d = 123 then (match bracedV t with | some (k, v) => some (k, Lib.encodeRune (v : Nat)) | none => none) else none
        | [] => (none : Option (Nat × List UInt8))) = (match r with
        | d :: t => if d = 123 then (match bracedV t with | some (k, v) => some (k, Lib.encodeRune (v : Nat)) | none => none) else none
        | [] => none) := by
  intro r
  cases r with
  | nil => intro _; show (if (10 : UInt8) = 123 then _ else _) = _; rw [if_neg (by decide)]
  | cons e t =>
    intro h
    show (if e = 123 then (match bracedV (t ++ 10 :: b) with | some (k, v) => some (k, Lib.encodeRune (v : Nat)) | none => none) else none) = _
    rw [bracedV_nl t b h.tail]
theorem escV_nl (c : UInt8) (r b : List UInt8) (h : NoNl r) : escV (c :: r ++ 10 :: b) = escV (c :: r) := by
  cases r with
  | nil =>
    show escV (c :: 10 :: b) = none
    unfold escV
    simp
  | cons d r =>
    have hx := escX_nl b r
    have hu := escU_nl b r h.tail
    show escV (c :: d :: (r ++ 10 :: b)) = _
    unfold escV
    simp only []
    by_cases e1 : d = 34
    · rw [if_pos e1, if_pos e1]
    rw [if_neg e1, if_neg e1]
    by_cases e2 : d = 92
    · rw [if_pos e2, if_pos e2]
    rw [if_neg e2, if_neg e2]
    by_cases e3 : d = 110
    · rw [if_pos e3, if_pos e3]
    rw [if_neg e3, if_neg e3]
    by_cases e4 : d = 114
    · rw [if_pos e4, if_pos e4]
    rw [if_neg e4, if_neg e4]
    by_cases e5 : d = 116
    · rw [if_pos e5, if_pos e5]
    rw [if_neg e5, if_neg e5]
    by_cases e6 : d = 120
    · rw [if_pos e6, if_pos e6]; exact hx
    rw [if_neg e6, if_neg e6]
    by_cases e7 : d = 117
    · rw [if_pos e7, if_pos e7]; exact hu
    rw [if_neg e7, if_neg e7]

theorem looseB_append (a b : List UInt8) (ha : a ≠ []) (hb : bt b 0 / 64 ≠ 2) : looseB (a ++ b) = looseB a := by
  unfold looseB
  rw [dec_append a b ha hb]
theorem take_le_append (a b : List UInt8) (n : Nat) (h : n ≤ a.length) : (a ++ b).take n = a.take n := by rw [List.take_append_of_le_length h]

theorem speakF_nlcut (b : List UInt8) : ∀ (f : Nat) (a : List UInt8) (i : Nat) (said : List UInt8) (g : Nat), a.length ≤ f → a.length + 1 + b.length ≤ g → NoNl a → speakF true g (a ++ 10 :: b) i said = speakF true f a i said := by
  intro f
  induction f with
  | zero =>
    intro a i said g hf hg hn
    have : a = [] := List.length_eq_zero_iff.1 (by omega)
    subst this
    obtain ⟨g, rfl⟩ : ∃ g', g = g' + 1 := ⟨g - 1, by omega⟩
    rw [List.nil_append, speakF_nl _ _ _ _ _ (by decide), speakF_nil]
  | succ f ih =>
    intro a i said g hf hg hn
    match a, hn with
    | [], hn =>
      obtain ⟨g, rfl⟩ : ∃ g', g = g' + 1 := ⟨g - 1, by omega⟩
      rw [List.nil_append, speakF_nl _ _ _ _ _ (by decide), speakF_nil]
    | c :: r, hn =>
        obtain ⟨g, rfl⟩ : ∃ g', g = g' + 1 := ⟨g - 1, by omega⟩
        simp only [List.length_cons] at hf hg
        have hb10 : bt (10 :: b) 0 / 64 ≠ 2 := by rw [bt_cons0]; decide
        by_cases h1 : c.toNat = 34
        · rw [List.cons_append, speakF_quote _ _ _ _ _ _ h1, speakF_quote _ _ _ _ _ _ h1]
        by_cases h2 : c.toNat = 92
        · rw [List.cons_append, speakF_esc _ _ _ _ _ _ h2, speakF_esc _ _ _ _ _ _ h2]
          have he := escV_nl c r b hn.tail
          rw [List.cons_append] at he
          rw [he]
          cases hE : escV (c :: r) with
          | none => rfl
          | some kb =>
            obtain ⟨k, bb⟩ := kb
            have hl := escV_len hE
            simp only []
            rw [← List.cons_append, List.drop_append_of_le_length hl.2.1]
            simp only [List.length_cons] at hl
            exact ih _ _ _ _ (by rw [List.length_drop, List.length_cons]; omega) (by rw [List.length_drop, List.length_cons]; omega) (hn.drop k)
        have h3 : c.toNat ≠ 10 := fun e => hn.head (UInt8.toNat_inj.1 e)
        have hd := dec_append (c :: r) (10 :: b) (by simp) hb10
        have hlo := looseB_append (c :: r) (10 :: b) (by simp) hb10
        by_cases h4 : c.toNat < 32 ∨ c.toNat = 127 ∨ looseB (c :: r) = true
        · rw [speakF_bad _ _ _ _ _ _ h1 h2 (fun _ => h3) h4, List.cons_append, speakF_bad _ _ _ _ _ _ h1 h2 (fun _ => h3) (by rw [← List.cons_append, hlo]; exact h4)]
        · have h5 : ¬ (c = 10 ∧ true = true) := fun h => hn.head h.1
          have hstep : ∀ (f : Nat) (r : List UInt8), ¬ (c.toNat < 32 ∨ c.toNat = 127 ∨ looseB (c :: r) = true) → speakF true (f + 1) (c :: r) i said = speakF true f ((c :: r).drop (dec (c :: r)).2) (i + (dec (c :: r)).2) (said ++ (c :: r).take (dec (c :: r)).2) := fun f r h => speakF_char true f c r i said h1 h2 h
          rw [hstep f r h4, List.cons_append, hstep g (r ++ 10 :: b) (by rw [← List.cons_append, hlo]; exact h4), ← List.cons_append, hd]
          have hl := dec_len (c :: r) (by simp)
          have hp := dec_pos (c :: r) (by simp)
          rw [List.drop_append_of_le_length hl, take_le_append _ _ _ hl]
          exact ih _ _ _ _ (by rw [List.length_drop, List.length_cons]; omega) (by rw [List.length_drop, List.length_cons]; omega) (hn.drop _)

/-- Where no newline stands the two ways of reading are one. -/
theorem speakF_lines : ∀ (f : Nat) (a : List UInt8) (i : Nat) (said : List UInt8), NoNl a → speakF true f a i said = speakF false f a i said := by
  intro f
  induction f with
  | zero => intro a i said _; rfl
  | succ f ih =>
    intro a i said hn
    match a, hn with
    | [], _ => rw [speakF_nil, speakF_nil]
    | c :: r, hn =>
      by_cases h1 : c.toNat = 34
      · rw [speakF_quote _ _ _ _ _ _ h1, speakF_quote _ _ _ _ _ _ h1]
      by_cases h2 : c.toNat = 92
      · rw [speakF_esc _ _ _ _ _ _ h2, speakF_esc _ _ _ _ _ _ h2]
        cases hE : escV (c :: r) with
        | none => rfl
        | some kb =>
          obtain ⟨k, bb⟩ := kb
          exact ih _ _ _ (hn.drop k)
      have h3 : c.toNat ≠ 10 := fun e => hn.head (UInt8.toNat_inj.1 e)
      by_cases h4 : c.toNat < 32 ∨ c.toNat = 127 ∨ looseB (c :: r) = true
      · rw [speakF_bad _ _ _ _ _ _ h1 h2 (fun _ => h3) h4, speakF_bad _ _ _ _ _ _ h1 h2 (fun _ => h3) h4]
      · rw [speakF_char _ _ _ _ _ _ h1 h2 h4, speakF_char _ _ _ _ _ _ h1 h2 h4]
        exact ih _ _ _ (hn.drop _)
theorem speakV_lines (a : List UInt8) (hn : NoNl a) : speakV true a = speakV false a := by
  unfold speakV
  exact speakF_lines _ _ _ _ (hn.drop 1)
theorem speakF_enough : ∀ (f g : Nat) (lines : Bool) (a : List UInt8) (i : Nat) (said : List UInt8), a.length ≤ f → a.length ≤ g → speakF lines f a i said = speakF lines g a i said := by
  intro f
  induction f with
  | zero =>
    intro g lines a i said hf hg
    have : a = [] := List.length_eq_zero_iff.1 (by omega)
    subst this
    rw [speakF_nil, speakF_nil]
  | succ f ih =>
    intro g lines a i said hf hg
    match a with
    | [] => rw [speakF_nil, speakF_nil]
    | c :: r =>
      match g, hg with
      | g + 1, hg =>
        simp only [List.length_cons] at hf hg
        simp only [speakF]
        split
        · rfl
        split
        · cases hE : escV (c :: r) with
          | none => rfl
          | some kb =>
            obtain ⟨k, bb⟩ := kb
            have hl := escV_len hE
            exact ih _ _ _ _ _ (by rw [List.length_drop, List.length_cons]; omega) (by rw [List.length_drop, List.length_cons]; omega)
        split
        · rfl
        split
        · rfl
        have hp := dec_pos (c :: r) (by simp)
        exact ih _ _ _ _ _ (by rw [List.length_drop, List.length_cons]; omega) (by rw [List.length_drop, List.length_cons]; omega)
theorem speakV_nl (a b : List UInt8) (ha : a ≠ []) (hn : NoNl a) : speakV true (a ++ 10 :: b) = speakV true a := by
  unfold speakV
  have hl : 0 < a.length := List.length_pos_iff.2 ha
  rw [List.drop_append_of_le_length (by omega)]
  exact speakF_nlcut b _ _ _ _ _ (by rw [List.length_drop]; omega) (by rw [List.length_drop, List.length_append, List.length_cons]; omega) (hn.drop 1)

/-- What lies behind the line's end does not count. -/
theorem pieceV_nl (a b : List UInt8) (ha : a ≠ []) (hn : NoNl a) : pieceV (a ++ 10 :: b) = pieceV a := by
  have h1 := classV_nl a (10 :: b) ha
  have h2 := wordRun_nl a b
  have h3 := wordRun_le a
  have h4 := numRun_nl a b
  have h5 := numRun_le a
  have hl : 0 < a.length := List.length_pos_iff.2 ha
  have hhd : ∀ n, n ≤ a.length → (((a ++ 10 :: b).drop n).head? = some 46 ↔ (a.drop n).head? = some 46) := by
    intro n hn'
    rw [List.drop_append_of_le_length hn']
    cases hd : a.drop n with
    | nil => simp
    | cons c r => simp
  have hnl : ∀ n, (a.drop n).head? = some 46 → n + 1 ≤ a.length := by
    intro n h
    rcases Nat.lt_or_ge n a.length with h' | h'
    · exact h'
    · rw [List.drop_eq_nil_of_le h'] at h; cases h
  have hcl : ∀ n, (a.drop n).head? = some 46 → (classV ((a ++ 10 :: b).drop (n + 1)) = 5 ↔ classV (a.drop (n + 1)) = 5) := by
    intro n h
    rw [List.drop_append_of_le_length (hnl n h)]
    cases hd : a.drop (n + 1) with
    | nil => simp [classV]; decide
    | cons c r => simp [classV]
  have hport : (((a ++ 10 :: b).drop (wordRun a)).head? = some 46 ∧ classV ((a ++ 10 :: b).drop (wordRun a + 1)) = 5) ↔ ((a.drop (wordRun a)).head? = some 46 ∧ classV (a.drop (wordRun a + 1)) = 5) := by
    constructor
    · rintro ⟨p, q⟩
      have p' := (hhd _ h3).1 p
      exact ⟨p', (hcl _ p').1 q⟩
    · rintro ⟨p, q⟩
      exact ⟨(hhd _ h3).2 p, (hcl _ p).2 q⟩
  unfold pieceV
  rw [h1, h2, h4, take_le_append _ _ _ h5, speakV_nl a b ha hn]
  by_cases c5 : classV a = 5
  · rw [if_pos c5, if_pos c5]
    simp only []
    by_cases h24 : 24 < wordRun a
    · rw [if_pos h24, if_pos h24]
    rw [if_neg h24, if_neg h24]
    by_cases hp : (a.drop (wordRun a)).head? = some 46 ∧ classV (a.drop (wordRun a + 1)) = 5
    · rw [if_pos hp, if_pos (hport.2 hp), List.drop_append_of_le_length (hnl _ hp.1), wordRun_nl]
    · rw [if_neg hp, if_neg (fun h => hp (hport.1 h))]
  rw [if_neg c5, if_neg c5]
  by_cases c6 : classV a = 6
  · rw [if_pos c6, if_pos c6]
  rw [if_neg c6, if_neg c6]
  by_cases c7 : classV a = 7
  · rw [if_pos c7, if_pos c7]
    simp only []
    rw [List.drop_append_of_le_length (show 1 ≤ a.length by omega), wordRun_nl]
    have hw := wordRun_le (a.drop 1)
    rw [take_le_append _ _ _ (by omega)]
  rw [if_neg c7, if_neg c7]
  by_cases c8 : classV a = 8
  · rw [if_pos c8, if_pos c8]
  rw [if_neg c8, if_neg c8]
  have hs : signV (a ++ 10 :: b) = signV a := by
    match a, ha with
    | c :: r, _ => exact signV_nl c r b
  rw [hs]

theorem classB_5 {c : UInt8} (h : classB c = 5) : letterB c = true := by
  unfold classB at h
  repeat' split at h
  all_goals first | contradiction | assumption | skip
theorem classB_6 {c : UInt8} (h : classB c = 6) : digitB c = true := by
  unfold classB at h
  repeat' split at h
  all_goals first | contradiction | assumption | skip
theorem classB_7 {c : UInt8} (h : classB c = 7) : c.toNat = 37 := by
  unfold classB at h
  repeat' split at h
  all_goals first | contradiction | assumption | skip
theorem classB_8 {c : UInt8} (h : classB c = 8) : c.toNat = 34 := by
  unfold classB at h
  repeat' split at h
  all_goals first | contradiction | assumption | skip
theorem classV_at {l : List UInt8} {k : Nat} (h : classV l = k) (hk : k ≠ 1) : ∃ c r, l = c :: r ∧ classB c = k := by
  match l, h with
  | [], h => exact absurd h.symm hk
  | c :: r, h => exact ⟨c, r, rfl, h⟩
theorem wordRun_pos {c : UInt8} {r : List UInt8} (h : wordB c = true) : wordRun (c :: r) = wordRun r + 1 := by
  unfold wordRun
  rw [List.takeWhile_cons, if_pos h, List.length_cons]
theorem numRun_pos {c : UInt8} {r : List UInt8} (h : wordB c = true) : numRun (c :: r) = numRun r + 1 := by
  rw [numRun, h, Bool.true_or, if_pos rfl]

theorem tw_stop (p : UInt8 → Bool) : ∀ t : List UInt8, (t.takeWhile p).length < t.length → p (t.getD (t.takeWhile p).length 0) = false
  | [], h => by simp at h
  | y :: t, h => by
    rw [List.takeWhile_cons] at h ⊢
    by_cases hy : p y = true
    · rw [if_pos hy] at h ⊢
      simp only [List.length_cons] at h ⊢
      exact tw_stop p t (by omega)
    · rw [if_neg hy]
      simpa using hy
/-- All bytes of an escape are below 128. -/
theorem escV_ascii {c : UInt8} {r : List UInt8} (hc : c.toNat < 128) {k : Nat} {b : List UInt8} (h : escV (c :: r) = some (k, b)) : ∀ j, j < k → bt (c :: r) j < 128 := by
  have hx : ∀ x : UInt8, hexv x < 16 → x.toNat < 128 := by
    intro x hx
    unfold hexv at hx
    split at hx
    · omega
    split at hx
    · omega
    split at hx
    · omega
    · omega
  match r, h with
  | [], h => simp [escV] at h
  | d :: r, h =>
    have two : ∀ {y : UInt8}, d = y → y.toNat < 128 → k = 2 → ∀ j, j < k → bt (c :: d :: r) j < 128 := by
      intro y hy hy2 hk j hj
      subst hk
      match j, hj with
      | 0, _ => exact hc
      | 1, _ => show d.toNat < 128; rw [hy]; exact hy2
    unfold escV at h
    simp only [] at h
    split at h
    · rename_i e; injection h with h; injection h with h _; exact two e (by decide) h.symm
    split at h
    · rename_i e; injection h with h; injection h with h _; exact two e (by decide) h.symm
    split at h
    · rename_i e; injection h with h; injection h with h _; exact two e (by decide) h.symm
    split at h
    · rename_i e; injection h with h; injection h with h _; exact two e (by decide) h.symm
    split at h
    · rename_i e; injection h with h; injection h with h _; exact two e (by decide) h.symm
    split at h
    · rename_i e
      split at h
      · rename_i x y t
        split at h
        · rename_i hxy
          injection h with h; injection h with h _
          subst h
          intro j hj
          match j, hj with
          | 0, _ => exact hc
          | 1, _ => show d.toNat < 128; rw [e]; decide
          | 2, _ => exact hx _ hxy.1
          | 3, _ => exact hx _ hxy.2
        · cases h
      · cases h
    split at h
    · rename_i e
      split at h
      · rename_i x t
        split at h
        · rename_i h123
          cases hB : bracedV t with
          | none => rw [hB] at h; cases h
          | some kv =>
            obtain ⟨k', v⟩ := kv
            rw [hB] at h
            injection h with h; injection h with h _
            subst h
            unfold bracedV at hB
            split at hB
            · cases hB
            rename_i hall
            cases hbas : basedV 16 6 (t.takeWhile (fun x => decide (x ≠ 125))) with
            | none => rw [hbas] at hB; cases hB
            | some v' =>
              rw [hbas] at hB
              simp only [] at hB
              split at hB
              · injection hB with hB; injection hB with hk hv
                unfold basedV at hbas
                split at hbas
                · cases hbas
                rename_i hno
                have hall2 : (t.takeWhile (fun x => decide (x ≠ 125))).all (fun c => decide (hexv c < 16)) = true := by
                  by_cases hq : (t.takeWhile (fun x => decide (x ≠ 125))).all (fun c => decide (hexv c < 16)) = true
                  · exact hq
                  · exact absurd (Or.inr (Or.inr (by simpa using hq))) hno
                intro j hj
                match j, hj with
                | 0, _ => exact hc
                | 1, _ => show d.toNat < 128; rw [e]; decide
                | 2, _ => show x.toNat < 128; rw [h123]; decide
                | j + 3, hj =>
                  show bt t j < 128
                  rcases Nat.lt_or_ge j (t.takeWhile (fun x => decide (x ≠ 125))).length with hjl | hjl
                  · have hm : bt (t.takeWhile (fun x => decide (x ≠ 125))) j = ((t.takeWhile (fun x => decide (x ≠ 125)))[j]'hjl).toNat := bt_get _ _ hjl
                    have h9 := List.all_eq_true.1 hall2 _ (List.getElem_mem hjl)
                    obtain ⟨rest, hrest⟩ := List.takeWhile_prefix (p := fun x : UInt8 => decide (x ≠ 125)) (l := t)
                    have h10 : bt (t.takeWhile (fun x => decide (x ≠ 125)) ++ rest) j = bt (t.takeWhile (fun x => decide (x ≠ 125))) j := by
                      rw [bt_append, if_pos hjl]
                    rw [hrest] at h10
                    rw [h10, hm]
                    exact hx _ (by simpa using h9)
                  · have hlt := tw_lt (fun x => decide (x ≠ 125)) t hall
                    have hj' : j = (t.takeWhile (fun x => decide (x ≠ 125))).length := by omega
                    have hs := tw_stop (fun x => decide (x ≠ 125)) t hlt
                    rw [← hj'] at hs
                    have : t.getD j 0 = 125 := by simpa using hs
                    unfold bt
                    rw [this]
                    decide
              · cases hB
        · cases h
      · cases h
    · cases h
end Sp
end Go.Proofs.YthjenkbgiomibaaGreatDoor

/-
  PLAIN LEAN, no program in sight: the machine of Scan: its steps, two texts with a newline between, lines further down.
-/
set_option linter.unusedVariables false
set_option linter.unusedSimpArgs false
namespace Go.Proofs.YthjenkbgiomibaaGreatDoor
namespace Sp

/-- Where a quoted text ends, or errs, a character begins. -/
theorem speakF_bd (lines : Bool) : ∀ (f : Nat) (l : List UInt8) (i : Nat) (said : List UInt8) (c p : Nat) (b : List UInt8), l.length ≤ f → speakF lines f l i said = (c, b, p) → i ≤ p ∧ Bd l (p - i) ∧ (c = 0 → i < p) := by
  intro f
  induction f with
  | zero =>
    intro l i said c p b hf h
    have : l = [] := List.length_eq_zero_iff.1 (by omega)
    subst this
    rw [speakF_nil] at h
    injection h with h1 h
    injection h with h2 h3
    subst h3
    rw [Nat.sub_self]
    exact ⟨Nat.le_refl _, Bd.zero _, by omega⟩
  | succ f ih =>
    intro l i said c p b hf h
    match l, hf, h with
    | [], _, h =>
      rw [speakF_nil] at h
      injection h with h1 h
      injection h with h2 h3
      subst h3
      rw [Nat.sub_self]
      exact ⟨Nat.le_refl _, Bd.zero _, by omega⟩
    | x :: r, hf, h =>
      simp only [List.length_cons] at hf
      have stop : ∀ {c' : Nat}, c' ≠ 0 → (c', ([] : List UInt8), i) = (c, b, p) → i ≤ p ∧ Bd (x :: r) (p - i) ∧ (c = 0 → i < p) := by
        intro c' hc' h
        injection h with h1 h
        injection h with h2 h3
        subst h3
        rw [Nat.sub_self]
        exact ⟨Nat.le_refl _, Bd.zero _, by omega⟩
      by_cases h1 : x.toNat = 34
      · rw [speakF_quote _ _ _ _ _ _ h1] at h
        injection h with _ h
        injection h with _ h3
        subst h3
        refine ⟨by omega, ?_, by omega⟩
        rw [show i + 1 - i = 1 by omega]
        exact Bd.ascii 1 _ (by simp) (fun k hk => by
          have : k = 0 := by omega
          subst this
          rw [bt_cons0]; omega)
      by_cases h2 : x.toNat = 92
      · rw [speakF_esc _ _ _ _ _ _ h2] at h
        cases hE : escV (x :: r) with
        | none => rw [hE] at h; exact stop (by omega) h
        | some kb =>
          obtain ⟨k, bb⟩ := kb
          rw [hE] at h
          simp only [] at h
          have hl := escV_len hE
          have ha := escV_ascii (by omega) hE
          obtain ⟨g1, g2, g3⟩ := ih _ _ _ _ _ _ (by rw [List.length_drop, List.length_cons]; omega) h
          refine ⟨by omega, ?_, fun _ => by omega⟩
          rw [show p - i = k + (p - (i + k)) by omega]
          exact (Bd.ascii k _ hl.2.1 ha).trans g2
      by_cases h3 : x.toNat = 10 ∧ lines = true
      · have hl := h3.2
        subst hl
        rw [speakF_nl _ _ _ _ _ h3.1] at h
        exact stop (by omega) h
      by_cases h4 : x.toNat < 32 ∨ x.toNat = 127 ∨ looseB (x :: r) = true
      · rw [speakF_bad _ _ _ _ _ _ h1 h2 (fun hl e => h3 ⟨e, hl⟩) h4] at h
        exact stop (by omega) h
      · rw [speakF_char _ _ _ _ _ _ h1 h2 h4] at h
        have hp := dec_pos (x :: r) (by simp)
        obtain ⟨g1, g2, g3⟩ := ih _ _ _ _ _ _ (by rw [List.length_drop, List.length_cons]; omega) h
        refine ⟨by omega, ?_, fun _ => by omega⟩
        rw [show p - i = (dec (x :: r)).2 + (p - (i + (dec (x :: r)).2)) by omega]
        exact Bd.step _ _ (by simp) g2
theorem speakV_bd {lines : Bool} {l : List UInt8} {c p : Nat} {b : List UInt8} (hl : classV l = 8) (h : speakV lines l = (c, b, p)) : Bd l p ∧ 1 ≤ p := by
  obtain ⟨x, r, rfl, hx⟩ := classV_at hl (by omega)
  have h34 := classB_8 hx
  unfold speakV at h
  obtain ⟨g1, g2, _⟩ := speakF_bd lines _ _ _ _ _ _ _ (by rw [List.length_drop]; omega) h
  refine ⟨?_, g1⟩
  have : Bd (x :: r) 1 := Bd.ascii 1 _ (by simp) (fun k hk => by
    have : k = 0 := by omega
    subst this
    rw [bt_cons0]; omega)
  have := this.trans g2
  rw [show 1 + (p - 1) = p by omega] at this
  exact this

/-- A token's size; the places of its end and of an error. -/
theorem pieceV_size {l : List UInt8} {k n off c : Nat} (h : pieceV l = (k, n, off, c)) (hl : l ≠ []) :
    (c = 0 → 1 ≤ n ∧ Bd l n ∧ 2 ≤ k ∧ k ≤ 7 ∧ off = 0) ∧ (c ≠ 0 → Bd l off ∧ n = 0 ∧ k = 0) := by
  have bad : ∀ {c' : Nat}, c' ≠ 0 → (0, 0, 0, c') = (k, n, off, c) → (c = 0 → 1 ≤ n ∧ Bd l n ∧ 2 ≤ k ∧ k ≤ 7 ∧ off = 0) ∧ (c ≠ 0 → Bd l off ∧ n = 0 ∧ k = 0) := by
    intro c' hc' h
    simp only [Prod.mk.injEq] at h
    obtain ⟨rfl, rfl, rfl, rfl⟩ := h
    exact ⟨fun h => absurd h hc', fun _ => ⟨Bd.zero _, rfl, rfl⟩⟩
  have good : ∀ {k' n' : Nat}, 2 ≤ k' → k' ≤ 7 → 1 ≤ n' → Bd l n' → (k', n', 0, 0) = (k, n, off, c) → (c = 0 → 1 ≤ n ∧ Bd l n ∧ 2 ≤ k ∧ k ≤ 7 ∧ off = 0) ∧ (c ≠ 0 → Bd l off ∧ n = 0 ∧ k = 0) := by
    intro k' n' h1 h2 h3 h4 h
    simp only [Prod.mk.injEq] at h
    obtain ⟨rfl, rfl, rfl, rfl⟩ := h
    exact ⟨fun _ => ⟨h3, h4, h1, h2, rfl⟩, fun h => absurd rfl h⟩
  unfold pieceV at h
  split at h
  · rename_i c5
    obtain ⟨x, r, rfl, hx⟩ := classV_at c5 (by omega)
    have hw : wordB x = true := by unfold wordB; rw [classB_5 hx]; rfl
    have hpos := wordRun_pos (r := r) hw
    have hbd := Bd.ascii _ (x :: r) (wordRun_le _) (wordRun_ascii _)
    simp only [] at h
    split at h
    · exact bad (by omega) h
    split at h
    · rename_i hport
      split at h
      · exact bad (by omega) h
      · refine good (by omega) (by omega) (by omega) ?_ h
        obtain ⟨y, s, hy, hcy⟩ := classV_at hport.2 (by omega)
        have hdot : ((x :: r).drop (wordRun (x :: r))) = 46 :: (y :: s) := by
          have h46 := hport.1
          cases hd : (x :: r).drop (wordRun (x :: r)) with
          | nil => rw [hd] at h46; cases h46
          | cons z t =>
            rw [hd] at h46
            injection h46 with e
            subst e
            have : (x :: r).drop (wordRun (x :: r) + 1) = t := by rw [← List.drop_drop, hd]; rfl
            rw [this] at hy
            rw [hy]
        have b1 : Bd (46 :: y :: s) 1 := Bd.ascii 1 _ (by simp) (fun k hk => by
          have : k = 0 := by omega
          subst this
          rw [bt_cons0]; decide)
        have b2 := hbd.trans (by rw [hdot]; exact b1)
        refine b2.trans ?_
        exact Bd.ascii _ _ (wordRun_le _) (wordRun_ascii _)
    · exact good (by omega) (by omega) (by omega) hbd h
  split at h
  · rename_i _ c6
    obtain ⟨x, r, rfl, hx⟩ := classV_at c6 (by omega)
    have hw : wordB x = true := by unfold wordB; rw [classB_6 hx, Bool.or_true]
    have hpos := numRun_pos (r := r) hw
    split at h
    · exact bad (by omega) h
    · exact good (by omega) (by omega) (by omega) (Bd.ascii _ _ (numRun_le _) (numRun_ascii _)) h
  split at h
  · rename_i _ _ c7
    obtain ⟨x, r, rfl, hx⟩ := classV_at c7 (by omega)
    have h37 := classB_7 hx
    simp only [] at h
    split at h
    · refine good (by omega) (by omega) (by omega) ?_ h
      have b1 : Bd (x :: r) 1 := Bd.ascii 1 _ (by simp) (fun k hk => by
        have : k = 0 := by omega
        subst this
        rw [bt_cons0]; omega)
      exact b1.trans (Bd.ascii _ _ (wordRun_le _) (wordRun_ascii _))
    · exact bad (by omega) h
  split at h
  · rename_i _ _ _ c8
    obtain ⟨cc, b, p, hsp⟩ : ∃ cc b p, speakV true l = (cc, b, p) := ⟨_, _, _, rfl⟩
    have hb := speakV_bd c8 hsp
    rw [hsp] at h
    simp only [] at h
    split at h
    · rename_i hne
      simp only [Prod.mk.injEq] at h
      obtain ⟨rfl, rfl, rfl, rfl⟩ := h
      exact ⟨fun h => absurd h hne, fun _ => ⟨hb.1, rfl, rfl⟩⟩
    split at h
    · exact bad (by omega) h
    · exact good (by omega) (by omega) hb.2 hb.1 h
  split at h
  · exact bad (by omega) h
  · rename_i hs
    match l, hl with
    | a :: r, _ =>
      have hsz : (signV (a :: r) = 1 ∧ a.toNat < 128) ∨ (signV (a :: r) = 2 ∧ a.toNat < 128 ∧ ∃ b t, r = b :: t ∧ b.toNat < 128) := by
        revert hs
        clear h good bad
        unfold signV
        cases r with
        | nil =>
          simp only []
          intro hs
          left
          split at hs
          · rename_i hf; cases hf
          split at hs
          · rename_i _ h1
            refine ⟨by simp [h1], ?_⟩
            simp only [Bool.or_eq_true, beq_iff_eq] at h1
            rcases h1 with ((((((((((h | h) | h) | h) | h) | h) | h) | h) | h) | h) | h) <;> (subst h; decide)
          · exact absurd rfl hs
        | cons b t =>
          simp only []
          intro hs
          split at hs
          · rename_i h2
            right
            refine ⟨by simp [h2], ?_⟩
            simp only [Bool.or_eq_true, Bool.and_eq_true, beq_iff_eq] at h2
            rcases h2 with ((((⟨h, h'⟩ | ⟨h, h'⟩) | ⟨h, h'⟩) | ⟨h, h'⟩) | ⟨h, h'⟩) <;> (subst h; subst h'; exact ⟨by decide, _, _, rfl, by decide⟩)
          split at hs
          · rename_i h0 h1
            left
            refine ⟨by simp [h0, h1], ?_⟩
            simp only [Bool.or_eq_true, beq_iff_eq] at h1
            rcases h1 with ((((((((((h | h) | h) | h) | h) | h) | h) | h) | h) | h) | h) <;> (subst h; decide)
          · exact absurd rfl hs
      rcases hsz with ⟨h1, h2⟩ | ⟨h1, h2, b, t, rfl, h3⟩
      · rw [h1] at h
        refine good (by omega) (by omega) (by omega) (Bd.ascii 1 _ (by simp) (fun k hk => ?_)) h
        have : k = 0 := by omega
        subst this
        exact h2
      · rw [h1] at h
        refine good (by omega) (by omega) (by omega) (Bd.ascii 2 _ (by simp) (fun k hk => ?_)) h
        match k, hk with
        | 0, _ => exact h2
        | 1, _ => exact h3

/-- The end of a line that has tokens. -/
def endT (op : Bool) (acc : List Tok) (line col : Nat) : List Tok := if op then acc ++ [(1, [10], line, col)] else acc

theorem runF_enough : ∀ (f g : Nat) (l : List UInt8) (line col : Nat) (op : Bool) (acc : List Tok), l.length < f → l.length < g → runF f l line col op acc = runF g l line col op acc := by
  intro f
  induction f with
  | zero => intro g l line col op acc hf hg; omega
  | succ f ih =>
    intro g l line col op acc hf hg
    obtain ⟨g, rfl⟩ : ∃ g', g = g' + 1 := ⟨g - 1, by omega⟩
    match l with
    | [] => rfl
    | c :: r =>
      simp only [List.length_cons] at hf hg
      simp only [runF]
      split
      · exact ih _ _ _ _ _ _ (by omega) (by omega)
      split
      · exact ih _ _ _ _ _ _ (by omega) (by omega)
      split
      · rename_i h1 _ _
        have hk : 1 ≤ ((c :: r).takeWhile (fun x => decide (x ≠ 10))).length := by
          have : c ≠ 10 := by
            rintro rfl
            exact h1 rfl
          rw [List.takeWhile_cons, if_pos (by simpa using this), List.length_cons]
          omega
        exact ih _ _ _ _ _ _ (by rw [List.length_drop, List.length_cons]; omega) (by rw [List.length_drop, List.length_cons]; omega)
      obtain ⟨k, n, off, code, hp⟩ : ∃ k n off code, pieceV (c :: r) = (k, n, off, code) := ⟨_, _, _, _, rfl⟩
      have hsz := pieceV_size hp (by simp)
      rw [hp]
      simp only []
      by_cases h0 : code = 0
      · rw [if_neg (by omega), if_neg (by omega)]
        have := (hsz.1 h0).1
        exact ih _ _ _ _ _ _ (by rw [List.length_drop, List.length_cons]; omega) (by rw [List.length_drop, List.length_cons]; omega)
      · rw [if_pos h0, if_pos h0]

/-- The machine from one place on. -/
def runV (l : List UInt8) (line col : Nat) (op : Bool) (acc : List Tok) : List Tok × Nat × Nat × Nat := runF (l.length + 1) l line col op acc
theorem runF_eq {f : Nat} {l : List UInt8} (h : l.length < f) (line col : Nat) (op : Bool) (acc : List Tok) : runF f l line col op acc = runV l line col op acc := runF_enough _ _ _ _ _ _ _ h (by omega)

theorem runV_nil (line col : Nat) (op : Bool) (acc : List Tok) : runV [] line col op acc = (endT op acc line col, 0, 0, 0) := rfl
theorem runV_nl {c : UInt8} (r : List UInt8) (line col : Nat) (op : Bool) (acc : List Tok) (h : classB c = 3) : runV (c :: r) line col op acc = runV r (line + 1) 1 false (endT op acc line col) := by
  unfold runV
  simp only [List.length_cons]
  rw [runF, if_pos h]
  rfl
theorem runV_blank {c : UInt8} (r : List UInt8) (line col : Nat) (op : Bool) (acc : List Tok) (h : classB c = 2) : runV (c :: r) line col op acc = runV r line (col + 1) op acc := by
  unfold runV
  simp only [List.length_cons]
  rw [runF, if_neg (by omega), if_pos h]
/-- A comment's length. -/
def comV (l : List UInt8) : Nat := (l.takeWhile (fun x => decide (x ≠ 10))).length
theorem classB_10 : classB 10 = 3 := by decide
theorem comV_pos {c : UInt8} (r : List UInt8) (h : classB c ≠ 3) : comV (c :: r) = comV r + 1 := by
  unfold comV
  have : c ≠ 10 := by
    rintro rfl
    exact h rfl
  rw [List.takeWhile_cons, if_pos (by simpa using this), List.length_cons]
theorem comV_le (l : List UInt8) : comV l ≤ l.length := takeWhile_le _ l
theorem runV_hash {c : UInt8} (r : List UInt8) (line col : Nat) (op : Bool) (acc : List Tok) (h : classB c = 4) :
    runV (c :: r) line col op acc = runV ((c :: r).drop (comV (c :: r))) line (col + chars ((c :: r).take (comV (c :: r)))) op acc := by
  unfold runV
  simp only [List.length_cons]
  rw [runF, if_neg (by omega), if_neg (by omega), if_pos h]
  simp only []
  have := comV_pos (c := c) r (by omega)
  exact runF_enough _ _ _ _ _ _ _ (by rw [List.length_drop, List.length_cons]; show r.length + 1 - comV (c :: r) < _; omega) (by show List.length (List.drop (comV (c :: r)) (c :: r)) < _; omega)
def PieceAt (c : UInt8) : Prop := classB c ≠ 2 ∧ classB c ≠ 3 ∧ classB c ≠ 4
theorem runV_err {c : UInt8} (r : List UInt8) (line col : Nat) (op : Bool) (acc : List Tok) (hc : PieceAt c) {k n off code : Nat} (hp : pieceV (c :: r) = (k, n, off, code)) (h : code ≠ 0) :
    runV (c :: r) line col op acc = ([], code, line, col + chars ((c :: r).take off)) := by
  unfold runV
  simp only [List.length_cons]
  rw [runF, if_neg hc.2.1, if_neg hc.1, if_neg hc.2.2, hp]
  simp only []
  rw [if_pos h]
theorem runV_tok {c : UInt8} (r : List UInt8) (line col : Nat) (op : Bool) (acc : List Tok) (hc : PieceAt c) {k n off : Nat} (hp : pieceV (c :: r) = (k, n, off, 0)) :
    runV (c :: r) line col op acc = runV ((c :: r).drop n) line (col + chars ((c :: r).take n)) true (acc ++ [(k, (c :: r).take n, line, col)]) := by
  have hsz := ((pieceV_size hp (by simp)).1 rfl).1
  unfold runV
  simp only [List.length_cons]
  rw [runF, if_neg hc.2.1, if_neg hc.1, if_neg hc.2.2, hp]
  simp only []
  rw [if_neg (by omega)]
  exact runF_enough _ _ _ _ _ _ _ (by rw [List.length_drop, List.length_cons]; omega) (by omega)

/-- Induction along the machine. -/
theorem run_cases (c : UInt8) : classB c = 3 ∨ classB c = 2 ∨ classB c = 4 ∨ PieceAt c := by
  unfold PieceAt
  omega

/-- How many newlines there are. -/
def nlV (l : List UInt8) : Nat := (l.filter (· == 10)).length
theorem nlV_nil : nlV [] = 0 := rfl
theorem nlV_append (a b : List UInt8) : nlV (a ++ b) = nlV a + nlV b := by unfold nlV; rw [List.filter_append, List.length_append]
theorem nlV_cons_no {c : UInt8} (r : List UInt8) (h : c ≠ 10) : nlV (c :: r) = nlV r := by unfold nlV; rw [List.filter_cons, if_neg (by simpa using h)]
theorem nlV_cons_10 (r : List UInt8) : nlV (10 :: r) = nlV r + 1 := by unfold nlV; rw [List.filter_cons, if_pos (by decide), List.length_cons]
theorem nlV_none {l : List UInt8} (h : NoNl l) : nlV l = 0 := by
  unfold nlV
  rw [List.length_eq_zero_iff, List.filter_eq_nil_iff]
  intro x hx
  simpa using h x hx
theorem nlV_drop {l : List UInt8} {k : Nat} (h : NoNl (l.take k)) : nlV (l.drop k) = nlV l := by
  have h1 := nlV_append (l.take k) (l.drop k)
  rw [List.take_append_drop, nlV_none h] at h1
  omega

/-- The first line of a text. -/
def line1 (l : List UInt8) : List UInt8 := l.takeWhile (fun x => decide (x ≠ 10))
theorem line1_no (l : List UInt8) : NoNl (line1 l) := by
  unfold line1
  induction l with
  | nil => intro x hx; simp at hx
  | cons c r ih =>
    intro x hx
    rw [List.takeWhile_cons] at hx
    by_cases h : decide (c ≠ 10) = true
    · rw [if_pos h] at hx
      rcases List.mem_cons.1 hx with rfl | hx
      · simpa using h
      · exact ih x hx
    · rw [if_neg h] at hx
      simp at hx
theorem line1_cut (l : List UInt8) : l = line1 l ∨ ∃ b, l = line1 l ++ 10 :: b := by
  unfold line1
  induction l with
  | nil => left; rfl
  | cons c r ih =>
    rw [List.takeWhile_cons]
    by_cases h : decide (c ≠ 10) = true
    · rw [if_pos h]
      rcases ih with h' | ⟨b, h'⟩
      · left; rw [← h']
      · right; exact ⟨b, by rw [List.cons_append, ← h']⟩
    · rw [if_neg h]
      right
      refine ⟨r, ?_⟩
      have : c = 10 := by simpa using h
      rw [this]; rfl
theorem line1_ne {c : UInt8} (r : List UInt8) (h : c ≠ 10) : line1 (c :: r) ≠ [] := by
  unfold line1
  rw [List.takeWhile_cons, if_pos (by simpa using h)]
  simp
theorem pieceV_line1 {c : UInt8} (r : List UInt8) (h : c ≠ 10) : pieceV (c :: r) = pieceV (line1 (c :: r)) := by
  have hne := line1_ne r h
  rcases line1_cut (c :: r) with h1 | ⟨b, h1⟩
  · rw [← h1]
  · obtain ⟨x, hx⟩ : ∃ x, line1 (c :: r) = x := ⟨_, rfl⟩
    have hno := line1_no (c :: r)
    rw [hx] at h1 hne hno ⊢
    rw [h1]
    exact pieceV_nl x b hne hno
theorem line1_append (a b : List UInt8) : line1 (a ++ 10 :: b) = line1 a := takeWhile_stops (by decide) a b
theorem pieceV_any {c : UInt8} (r b : List UInt8) (h : c ≠ 10) : pieceV (c :: r ++ 10 :: b) = pieceV (c :: r) := by
  rw [pieceV_line1 r h, ← line1_append (c :: r) b, List.cons_append]
  exact pieceV_line1 _ h
theorem line1_take (l : List UInt8) {k : Nat} (h : k ≤ (line1 l).length) : l.take k = (line1 l).take k := by
  rcases line1_cut l with h1 | ⟨b, h1⟩
  · rw [← h1]
  · obtain ⟨x, hx⟩ : ∃ x, line1 l = x := ⟨_, rfl⟩
    rw [hx] at h h1 ⊢
    rw [h1, take_le_append _ _ _ h]
theorem piece_noNl {c : UInt8} {r : List UInt8} (h : c ≠ 10) {k n off code : Nat} (hp : pieceV (c :: r) = (k, n, off, code)) : n ≤ (line1 (c :: r)).length ∧ off ≤ (line1 (c :: r)).length := by
  have hne := line1_ne r h
  rw [pieceV_line1 r h] at hp
  have hsz := pieceV_size hp hne
  by_cases h0 : code = 0
  · have := hsz.1 h0
    exact ⟨this.2.1.le, by omega⟩
  · have := hsz.2 h0
    exact ⟨by omega, this.1.le⟩
theorem PieceAt.ne {c : UInt8} (h : PieceAt c) : c ≠ 10 := by
  rintro rfl
  exact h.2.1 rfl

/-- Two texts with a newline between. -/
def joinV (r : List Tok × Nat × Nat × Nat) (b : List UInt8) (line : Nat) : List Tok × Nat × Nat × Nat := if r.2.1 ≠ 0 then r else runV b line 1 false r.1
theorem joinV_ok (t : List Tok) (x y : Nat) (b : List UInt8) (line : Nat) : joinV (t, 0, x, y) b line = runV b line 1 false t := by
  unfold joinV; rw [if_neg (by simp)]
theorem runV_join (b : List UInt8) : ∀ (m : Nat) (a : List UInt8) (line col : Nat) (op : Bool) (acc : List Tok), a.length ≤ m → runV (a ++ 10 :: b) line col op acc = joinV (runV a line col op acc) b (line + nlV a + 1) := by
  intro m
  induction m with
  | zero =>
    intro a line col op acc hm
    have : a = [] := List.length_eq_zero_iff.1 (by omega)
    subst this
    rw [List.nil_append, runV_nl _ _ _ _ _ classB_10, runV_nil, joinV_ok, nlV_nil]
  | succ m ih =>
    intro a line col op acc hm
    match a with
    | [] => rw [List.nil_append, runV_nl _ _ _ _ _ classB_10, runV_nil, joinV_ok, nlV_nil]
    | c :: r =>
      simp only [List.length_cons] at hm
      rcases run_cases c with h | h | h | h
      · have h10 : c = 10 := by
          unfold classB at h
          repeat' split at h
          all_goals first | contradiction | exact UInt8.toNat_inj.1 ‹_› | skip
        subst h10
        rw [List.cons_append, runV_nl _ _ _ _ _ h, runV_nl _ _ _ _ _ h, ih _ _ _ _ _ (by omega), nlV_cons_10]
        congr 1
        omega
      · have hne : c ≠ 10 := by rintro rfl; rw [classB_10] at h; omega
        rw [List.cons_append, runV_blank _ _ _ _ _ h, runV_blank _ _ _ _ _ h, ih _ _ _ _ _ (by omega), nlV_cons_no _ hne]
      · have hne : c ≠ 10 := by rintro rfl; rw [classB_10] at h; omega
        have hcom : comV (c :: r ++ 10 :: b) = comV (c :: r) := congrArg List.length (line1_append (c :: r) b)
        have hle := comV_le (c :: r)
        have hpos := comV_pos (c := c) r (by omega)
        have hno : NoNl ((c :: r).take (comV (c :: r))) := by
          have := line1_take (c :: r) (k := comV (c :: r)) (Nat.le_refl _)
          rw [this]
          exact (line1_no _).take _
        rw [runV_hash _ _ _ _ _ h, List.cons_append, runV_hash _ _ _ _ _ h, ← List.cons_append, hcom, take_le_append _ _ _ hle, List.drop_append_of_le_length hle, ih _ _ _ _ _ (by rw [List.length_drop, List.length_cons]; omega), nlV_drop hno]
      · have hne := h.ne
        obtain ⟨k, n, off, code, hp⟩ : ∃ k n off code, pieceV (c :: r) = (k, n, off, code) := ⟨_, _, _, _, rfl⟩
        have hp2 : pieceV (c :: (r ++ 10 :: b)) = (k, n, off, code) := (pieceV_any r b hne).trans hp
        have hsz := pieceV_size hp (by simp)
        have hno := piece_noNl hne hp
        by_cases h0 : code = 0
        · subst h0
          have hs := hsz.1 rfl
          have hl := hs.2.1.le
          have hno2 : NoNl ((c :: r).take n) := by rw [line1_take _ hno.1]; exact (line1_no _).take _
          rw [runV_tok _ _ _ _ _ h hp, List.cons_append, runV_tok _ _ _ _ _ h hp2, ← List.cons_append, take_le_append _ _ _ hl, List.drop_append_of_le_length hl, ih _ _ _ _ _ (by rw [List.length_drop, List.length_cons]; omega), nlV_drop hno2]
        · have hl := (hsz.2 h0).1.le
          rw [runV_err _ _ _ _ _ h hp h0, List.cons_append, runV_err _ _ _ _ _ h hp2 h0, ← List.cons_append, take_le_append _ _ _ hl]
          unfold joinV
          rw [if_pos h0]

/-- What was gathered ahead stays ahead; lines further down. -/
def downT (d : Nat) (t : Tok) : Tok := (t.1, t.2.1, t.2.2.1 + d, t.2.2.2)
def downR (pre : List Tok) (d : Nat) (r : List Tok × Nat × Nat × Nat) : List Tok × Nat × Nat × Nat := if r.2.1 ≠ 0 then ([], r.2.1, r.2.2.1 + d, r.2.2.2) else (pre ++ r.1.map (downT d), 0, 0, 0)
theorem endT_down (op : Bool) (pre acc : List Tok) (d line col : Nat) : endT op (pre ++ acc.map (downT d)) (line + d) col = pre ++ (endT op acc line col).map (downT d) := by
  unfold endT
  cases op with
  | true => simp [downT]
  | false => rfl
theorem runV_down (pre : List Tok) (d : Nat) : ∀ (m : Nat) (a : List UInt8) (line col : Nat) (op : Bool) (acc : List Tok), a.length ≤ m → runV a (line + d) col op (pre ++ acc.map (downT d)) = downR pre d (runV a line col op acc) := by
  intro m
  have hnil : ∀ (line col : Nat) (op : Bool) (acc : List Tok), runV [] (line + d) col op (pre ++ acc.map (downT d)) = downR pre d (runV [] line col op acc) := by
    intro line col op acc
    rw [runV_nil, runV_nil, endT_down]
    unfold downR
    rw [if_neg (by simp)]
  induction m with
  | zero =>
    intro a line col op acc hm
    have : a = [] := List.length_eq_zero_iff.1 (by omega)
    subst this
    exact hnil _ _ _ _
  | succ m ih =>
    intro a line col op acc hm
    match a with
    | [] => exact hnil _ _ _ _
    | c :: r =>
      simp only [List.length_cons] at hm
      rcases run_cases c with h | h | h | h
      · rw [runV_nl _ _ _ _ _ h, runV_nl _ _ _ _ _ h, endT_down, ← ih _ _ _ _ _ (by omega)]
        congr 1
        omega
      · rw [runV_blank _ _ _ _ _ h, runV_blank _ _ _ _ _ h, ← ih _ _ _ _ _ (by omega)]
      · have hpos := comV_pos (c := c) r (by omega)
        rw [runV_hash _ _ _ _ _ h, runV_hash _ _ _ _ _ h, ← ih _ _ _ _ _ (by rw [List.length_drop, List.length_cons]; omega)]
      · obtain ⟨k, n, off, code, hp⟩ : ∃ k n off code, pieceV (c :: r) = (k, n, off, code) := ⟨_, _, _, _, rfl⟩
        have hsz := pieceV_size hp (by simp)
        by_cases h0 : code = 0
        · subst h0
          have hs := hsz.1 rfl
          rw [runV_tok _ _ _ _ _ h hp, runV_tok _ _ _ _ _ h hp, ← ih _ _ _ _ _ (by rw [List.length_drop, List.length_cons]; omega)]
          congr 1
          simp [downT]
        · rw [runV_err _ _ _ _ _ h hp h0, runV_err _ _ _ _ _ h hp h0]
          unfold downR
          rw [if_pos h0]
theorem runV_code : ∀ (m : Nat) (a : List UInt8) (line col : Nat) (op : Bool) (acc : List Tok), a.length ≤ m → ((runV a line col op acc).2.1 = 0 → (runV a line col op acc).2.2 = (0, 0)) ∧ ((runV a line col op acc).2.1 ≠ 0 → (runV a line col op acc).1 = []) := by
  intro m
  induction m with
  | zero =>
    intro a line col op acc hm
    have : a = [] := List.length_eq_zero_iff.1 (by omega)
    subst this
    rw [runV_nil]
    exact ⟨fun _ => rfl, fun h => absurd rfl h⟩
  | succ m ih =>
    intro a line col op acc hm
    match a with
    | [] => rw [runV_nil]; exact ⟨fun _ => rfl, fun h => absurd rfl h⟩
    | c :: r =>
      simp only [List.length_cons] at hm
      rcases run_cases c with h | h | h | h
      · rw [runV_nl _ _ _ _ _ h]; exact ih _ _ _ _ _ (by omega)
      · rw [runV_blank _ _ _ _ _ h]; exact ih _ _ _ _ _ (by omega)
      · have hpos := comV_pos (c := c) r (by omega)
        rw [runV_hash _ _ _ _ _ h]; exact ih _ _ _ _ _ (by rw [List.length_drop, List.length_cons]; omega)
      · obtain ⟨k, n, off, code, hp⟩ : ∃ k n off code, pieceV (c :: r) = (k, n, off, code) := ⟨_, _, _, _, rfl⟩
        have hsz := pieceV_size hp (by simp)
        by_cases h0 : code = 0
        · subst h0
          have hs := hsz.1 rfl
          rw [runV_tok _ _ _ _ _ h hp]; exact ih _ _ _ _ _ (by rw [List.length_drop, List.length_cons]; omega)
        · rw [runV_err _ _ _ _ _ h hp h0]
          exact ⟨fun h => absurd h h0, fun _ => rfl⟩
theorem scanV_run (l : List UInt8) (h : ¬ 16384 < l.length) : scanV l = runV l 1 1 false [] := by unfold scanV; rw [if_neg h]; rfl
end Sp
end Go.Proofs.YthjenkbgiomibaaGreatDoor

/-
  PLAIN LEAN, no program in sight: the tokens of two texts with a newline between.
-/
set_option linter.unusedVariables false
set_option linter.unusedSimpArgs false
namespace Go.Proofs.YthjenkbgiomibaaGreatDoor
namespace Sp
theorem scanV_code (l : List UInt8) : ((scanV l).2.1 = 0 → (scanV l).2.2 = (0, 0)) ∧ ((scanV l).2.1 ≠ 0 → (scanV l).1 = []) := by
  by_cases h : 16384 < l.length
  · unfold scanV
    rw [if_pos h]
    exact ⟨fun h => absurd h (by decide), fun _ => rfl⟩
  · rw [scanV_run l h]
    exact runV_code _ l 1 1 false [] (Nat.le_refl _)
theorem scan_join (a b : List UInt8) (h : a.length + b.length + 1 ≤ 16384) :
    ((scanV a).2.1 ≠ 0 → scanV (a ++ 10 :: b) = scanV a) ∧
    ((scanV a).2.1 = 0 → (scanV b).2.1 ≠ 0 → scanV (a ++ 10 :: b) = ([], (scanV b).2.1, (scanV b).2.2.1 + (nlV a + 1), (scanV b).2.2.2)) ∧
    ((scanV a).2.1 = 0 → (scanV b).2.1 = 0 → scanV (a ++ 10 :: b) = ((scanV a).1 ++ (scanV b).1.map (downT (nlV a + 1)), 0, 0, 0)) := by
  have hc := scanV_code a
  rw [scanV_run a (by omega)] at hc ⊢
  rw [scanV_run b (by omega), scanV_run (a ++ 10 :: b) (by rw [List.length_append, List.length_cons]; omega), runV_join b _ a 1 1 false [] (Nat.le_refl _)]
  obtain ⟨ts, c, n, m, hr⟩ : ∃ ts c n m, runV a 1 1 false [] = (ts, c, n, m) := ⟨_, _, _, _, rfl⟩
  rw [hr] at hc ⊢
  simp only [] at hc ⊢
  by_cases h0 : c = 0
  · subst h0
    rw [joinV_ok]
    have hd := runV_down ts (nlV a + 1) _ b 1 1 false [] (Nat.le_refl _)
    rw [List.map_nil, List.append_nil] at hd
    have e : 1 + nlV a + 1 = 1 + (nlV a + 1) := by omega
    rw [e, hd]
    unfold downR
    refine ⟨fun h => absurd rfl h, fun _ hb => ?_, fun _ hb => ?_⟩
    · rw [if_pos hb]
    · rw [if_neg (by rw [hb]; simp)]
  · refine ⟨fun _ => ?_, fun h => absurd h h0, fun h => absurd h h0⟩
    unfold joinV
    rw [if_pos h0]
/-- Lines and lengths are no more than the bytes. -/
theorem runV_bound : ∀ (m : Nat) (a : List UInt8) (line col : Nat) (op : Bool) (acc : List Tok), a.length ≤ m →
    (runV a line col op acc).1.length ≤ acc.length + a.length + 1 ∧ (runV a line col op acc).2.2.1 ≤ line + a.length ∧ ∀ t ∈ (runV a line col op acc).1, t ∈ acc ∨ t.2.2.1 ≤ line + a.length := by
  intro m
  have hE : ∀ (op : Bool) (acc : List Tok) (line col : Nat), (endT op acc line col).length ≤ acc.length + 1 ∧ ∀ t ∈ endT op acc line col, t ∈ acc ∨ t.2.2.1 ≤ line := by
    intro op acc line col
    unfold endT
    cases op with
    | true =>
      refine ⟨by simp, fun t ht => ?_⟩
      simp only [if_true, List.mem_append, List.mem_singleton] at ht
      rcases ht with ht | rfl
      · exact Or.inl ht
      · exact Or.inr (Nat.le_refl _)
    | false => exact ⟨by simp, fun t ht => Or.inl (by simpa using ht)⟩
  have hnil : ∀ (line col : Nat) (op : Bool) (acc : List Tok), (runV [] line col op acc).1.length ≤ acc.length + ([] : List UInt8).length + 1 ∧ (runV [] line col op acc).2.2.1 ≤ line + ([] : List UInt8).length ∧ ∀ t ∈ (runV [] line col op acc).1, t ∈ acc ∨ t.2.2.1 ≤ line + ([] : List UInt8).length := by
    intro line col op acc
    rw [runV_nil]
    obtain ⟨h1, h2⟩ := hE op acc line col
    exact ⟨by simpa using h1, by simp, by simpa using h2⟩
  induction m with
  | zero =>
    intro a line col op acc hm
    have : a = [] := List.length_eq_zero_iff.1 (by omega)
    subst this
    exact hnil _ _ _ _
  | succ m ih =>
    intro a line col op acc hm
    match a with
    | [] => exact hnil _ _ _ _
    | c :: r =>
      simp only [List.length_cons] at hm ⊢
      rcases run_cases c with h | h | h | h
      · rw [runV_nl _ _ _ _ _ h]
        obtain ⟨h1, h2⟩ := hE op acc line col
        obtain ⟨g1, g2, g3⟩ := ih r (line + 1) 1 false (endT op acc line col) (by omega)
        refine ⟨by omega, by omega, fun t ht => ?_⟩
        rcases g3 t ht with h' | h'
        · rcases h2 t h' with h'' | h''
          · exact Or.inl h''
          · exact Or.inr (by omega)
        · exact Or.inr (by omega)
      · rw [runV_blank _ _ _ _ _ h]
        obtain ⟨g1, g2, g3⟩ := ih r line (col + 1) op acc (by omega)
        exact ⟨by omega, by omega, fun t ht => (g3 t ht).imp id (fun h => by omega)⟩
      · have hpos := comV_pos (c := c) r (by omega)
        rw [runV_hash _ _ _ _ _ h]
        obtain ⟨g1, g2, g3⟩ := ih ((c :: r).drop (comV (c :: r))) line (col + chars ((c :: r).take (comV (c :: r)))) op acc (by rw [List.length_drop, List.length_cons]; omega)
        rw [List.length_drop, List.length_cons] at g1 g2 g3
        exact ⟨by omega, by omega, fun t ht => (g3 t ht).imp id (fun h => by omega)⟩
      · obtain ⟨k, n, off, code, hp⟩ : ∃ k n off code, pieceV (c :: r) = (k, n, off, code) := ⟨_, _, _, _, rfl⟩
        have hsz := pieceV_size hp (by simp)
        by_cases h0 : code = 0
        · subst h0
          have hs := hsz.1 rfl
          have hl := hs.2.1.le
          rw [runV_tok _ _ _ _ _ h hp]
          obtain ⟨g1, g2, g3⟩ := ih ((c :: r).drop n) line (col + chars ((c :: r).take n)) true (acc ++ [(k, (c :: r).take n, line, col)]) (by rw [List.length_drop, List.length_cons]; omega)
          rw [List.length_drop, List.length_cons] at g1 g2 g3
          rw [List.length_append, List.length_singleton] at g1
          rw [List.length_cons] at hl
          refine ⟨by omega, by omega, fun t ht => ?_⟩
          rcases g3 t ht with h' | h'
          · rcases List.mem_append.1 h' with h'' | h''
            · exact Or.inl h''
            · rw [List.mem_singleton] at h''
              subst h''
              exact Or.inr (by show line ≤ _; omega)
          · exact Or.inr (by omega)
        · rw [runV_err _ _ _ _ _ h hp h0]
          exact ⟨by simp, by simp, fun t ht => by cases ht⟩
theorem scanV_bound (a : List UInt8) (h : a.length ≤ 16384) : (scanV a).1.length ≤ a.length + 1 ∧ (scanV a).2.2.1 ≤ a.length + 1 ∧ ∀ t ∈ (scanV a).1, t.2.2.1 ≤ a.length + 1 := by
  rw [scanV_run a (by omega)]
  obtain ⟨h1, h2, h3⟩ := runV_bound _ a 1 1 false [] (Nat.le_refl _)
  refine ⟨by simpa using h1, by omega, fun t ht => ?_⟩
  rcases h3 t ht with h | h
  · cases h
  · omega
theorem scan_head_a : scanV [97] = ([(2, [97], 1, 1), (1, [10], 1, 2)], 0, 0, 0) := by decide
end Sp
end Go.Proofs.YthjenkbgiomibaaGreatDoor
