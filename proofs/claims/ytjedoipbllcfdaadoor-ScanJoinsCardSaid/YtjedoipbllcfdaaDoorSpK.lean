/-
  PLAIN LEAN, no program in sight: a token and the line that it stands on; its size; what lies behind the line's end does not count.
-/
import Derived.Test.YtjedoipbllcfdaaDoorSpJ
import Derived.Test.YtjedoipbllcfdaaDoorSpE
import Derived.Test.YtjedoipbllcfdaaDoorSpH
set_option linter.unusedVariables false
set_option linter.unusedSimpArgs false
namespace Go.Proofs.YtjedoipbllcfdaaDoor
namespace Sp

/-- No newline in it. -/
def NoNl (l : List UInt8) : Prop := ∀ c ∈ l, c ≠ 10
theorem NoNl.tail {c : UInt8} {r : List UInt8} (h : NoNl (c :: r)) : NoNl r := fun x hx => h x (List.mem_cons_of_mem _ hx)
theorem NoNl.head {c : UInt8} {r : List UInt8} (h : NoNl (c :: r)) : c ≠ 10 := h c List.mem_cons_self
theorem NoNl.drop {l : List UInt8} (h : NoNl l) (k : Nat) : NoNl (l.drop k) := fun x hx => h x (List.mem_of_mem_drop hx)
theorem NoNl.take {l : List UInt8} (h : NoNl l) (k : Nat) : NoNl (l.take k) := fun x hx => h x (List.mem_of_mem_take hx)

theorem takeWhile_stop {p : UInt8 → Bool} {x : UInt8} (hx : p x = false) : ∀ (a b : List UInt8), (a ++ x :: b).takeWhile p = a.takeWhile p
  | [], b => by rw [List.nil_append, List.takeWhile_cons, hx]; rfl
  | c :: r, b => by
    rw [List.cons_append, List.takeWhile_cons, List.takeWhile_cons]
    by_cases h : p c = true
    · rw [if_pos h, if_pos h, takeWhile_stop hx r b]
    · rw [if_neg h, if_neg h]
theorem takeWhile_le (p : UInt8 → Bool) : ∀ l : List UInt8, (l.takeWhile p).length ≤ l.length
  | [] => by simp
  | c :: r => by
    rw [List.takeWhile_cons]
    by_cases h : p c = true
    · rw [if_pos h, List.length_cons, List.length_cons]; have := takeWhile_le p r; omega
    · rw [if_neg h]; simp
theorem takeWhile_bt (p : UInt8 → Bool) : ∀ (l : List UInt8) (k : Nat), k < (l.takeWhile p).length → p (l.getD k 0) = true
  | [], k, h => by simp at h
  | c :: r, k, h => by
    rw [List.takeWhile_cons] at h
    by_cases hc : p c = true
    · rw [if_pos hc, List.length_cons] at h
      cases k with
      | zero => exact hc
      | succ k => exact takeWhile_bt p r k (by omega)
    · rw [if_neg hc] at h
      simp at h
theorem wordRun_le (l : List UInt8) : wordRun l ≤ l.length := takeWhile_le _ l
theorem wordB_10 : wordB 10 = false := by decide
theorem wordB_lt {c : UInt8} (h : wordB c = true) : c.toNat < 128 := by
  unfold wordB letterB digitB at h
  simp only [Bool.or_eq_true, decide_eq_true_eq] at h
  omega
theorem wordRun_nl (a b : List UInt8) : wordRun (a ++ 10 :: b) = wordRun a := by
  unfold wordRun
  rw [takeWhile_stop wordB_10]
theorem wordRun_ascii (l : List UInt8) (k : Nat) (h : k < wordRun l) : bt l k < 128 := wordB_lt (takeWhile_bt wordB l k h)
theorem numRun_le : ∀ l : List UInt8, numRun l ≤ l.length
  | [] => by simp [numRun]
  | c :: r => by
    unfold numRun
    have := numRun_le r
    split <;> simp <;> omega
theorem numRun_ascii : ∀ (l : List UInt8) (k : Nat), k < numRun l → bt l k < 128
  | [], k, h => by simp [numRun] at h
  | c :: r, k, h => by
    unfold numRun at h
    split at h
    · rename_i hc
      cases k with
      | zero =>
        rw [bt_cons0]
        rw [Bool.or_eq_true, Bool.and_eq_true, beq_iff_eq] at hc
        rcases hc with hc | hc
        · exact wordB_lt hc
        · rw [hc.1]; decide
      | succ k => exact numRun_ascii r k (by omega)
    · omega
theorem classV_nl (a b : List UInt8) (ha : a ≠ []) : classV (a ++ b) = classV a := by
  match a, ha with
  | c :: r, _ => rfl
theorem numRun_nl : ∀ (a b : List UInt8), numRun (a ++ 10 :: b) = numRun a
  | [], b => by
    show numRun (10 :: b) = 0
    unfold numRun
    rw [if_neg]
    rw [wordB_10]
    simp
  | c :: r, b => by
    show numRun (c :: (r ++ 10 :: b)) = _
    have ih := numRun_nl r b
    have hcl : (classV (r ++ 10 :: b) == 6) = (classV r == 6) := by
      cases r with
      | nil => rfl
      | cons d r => rfl
    unfold numRun
    rw [hcl, ih]
theorem signV_nl (c : UInt8) (a b : List UInt8) : signV (c :: a ++ 10 :: b) = signV (c :: a) := by
  cases a with
  | nil =>
    show signV (c :: 10 :: b) = _
    unfold signV
    have e1 : ((10 : UInt8) == 61) = false := by decide
    have e2 : ((10 : UInt8) == 46) = false := by decide
    have e3 : ((10 : UInt8) == 62) = false := by decide
    simp only [e1, e2, e3, Bool.and_false, Bool.or_false]
  | cons d a => rfl

theorem bracedV_nl (t b : List UInt8) (h : NoNl t) : bracedV (t ++ 10 :: b) = bracedV t := by
  by_cases ha : t.all (fun x => decide (x ≠ 125)) = true
  · have hR : bracedV t = none := by unfold bracedV; rw [if_pos ha]
    rw [hR]
    unfold bracedV
    by_cases hb : (t ++ 10 :: b).all (fun x => decide (x ≠ 125)) = true
    · rw [if_pos hb]
    · rw [if_neg hb]
      have htw : (t ++ 10 :: b).takeWhile (fun x => decide (x ≠ 125)) = t ++ (10 :: b).takeWhile (fun x => decide (x ≠ 125)) := takeWhile_all t _ (fun c hc => List.all_eq_true.1 ha c hc)
      have hbas : basedV 16 6 ((t ++ 10 :: b).takeWhile (fun x => decide (x ≠ 125))) = none := by
        unfold basedV
        rw [if_pos]
        refine Or.inr (Or.inr ?_)
        rw [List.all_eq_false]
        refine ⟨10, ?_, by decide⟩
        rw [htw, List.takeWhile_cons, if_pos (by decide)]
        simp
      rw [hbas]
  · have hb : ¬ (t ++ 10 :: b).all (fun x => decide (x ≠ 125)) = true := by
      intro hb
      apply ha
      rw [List.all_append, Bool.and_eq_true] at hb
      exact hb.1
    have htw : (t ++ 10 :: b).takeWhile (fun x => decide (x ≠ 125)) = t.takeWhile (fun x => decide (x ≠ 125)) := by
      clear hb h
      induction t with
      | nil => simp at ha
      | cons c r ih =>
        rw [List.cons_append, List.takeWhile_cons, List.takeWhile_cons]
        by_cases hc : decide (c ≠ 125) = true
        · rw [if_pos hc, if_pos hc, ih]
          intro hr
          apply ha
          rw [List.all_cons, hc, hr]
          rfl
        · rw [if_neg hc, if_neg hc]
    unfold bracedV
    rw [if_neg hb, if_neg ha, htw]

theorem escX_nl (b : List UInt8) : ∀ r : List UInt8, (match r ++ 10 :: b with
        | a :: b :: _ => if hexv a < 16 ∧ hexv b < 16 then some (4, [(16 * hexv a + hexv b).toUInt8]) else none
        | _ => (none : Option (Nat × List UInt8))) = (match r with
        | a :: b :: _ => if hexv a < 16 ∧ hexv b < 16 then some (4, [(16 * hexv a + hexv b).toUInt8]) else none
        | _ => none) := by
  have h10 : ¬ hexv 10 < 16 := by decide
  intro r
  match r with
  | [] =>
    match b with
    | [] => rfl
    | x :: b => show (if hexv 10 < 16 ∧ _ then _ else _) = _; rw [if_neg (fun h => h10 h.1)]
  | [e] => show (if _ ∧ hexv 10 < 16 then _ else _) = _; rw [if_neg (fun h => h10 h.2)]
  | e :: f :: r => rfl
theorem escU_nl (b : List UInt8) : ∀ r : List UInt8, NoNl r → (match r ++ 10 :: b with
        | d :: t => if d = 123 then (match bracedV t with | some (k, v) => some (k, Lib.encodeRune (v : Nat)) | none => none) else none
        | [] => (none : Option (Nat × List UInt8))) = (match r with
        | d :: t => if d = 123 then (match bracedV t with | some (k, v) => some (k, Lib.encodeRune (v : Nat)) | none => none) else none
        | [] => none) := by
  intro r
  cases r with
  | nil => intro _; show (if (10 : UInt8) = 123 then _ else _) = _; rw [if_neg (by decide)]
  | cons e t =>
    intro h
    show (if e = 123 then (match bracedV (t ++ 10 :: b) with | some (k, v) => some (k, Lib.encodeRune (v : Nat)) | none => none) else none) = _
    rw [bracedV_nl t b h.tail]
theorem escV_nl (c : UInt8) (r b : List UInt8) (h : NoNl r) : escV (c :: r ++ 10 :: b) = escV (c :: r) := by
  cases r with
  | nil =>
    show escV (c :: 10 :: b) = none
    unfold escV
    simp
  | cons d r =>
    have hx := escX_nl b r
    have hu := escU_nl b r h.tail
    show escV (c :: d :: (r ++ 10 :: b)) = _
    unfold escV
    simp only []
    by_cases e1 : d = 34
    · rw [if_pos e1, if_pos e1]
    rw [if_neg e1, if_neg e1]
    by_cases e2 : d = 92
    · rw [if_pos e2, if_pos e2]
    rw [if_neg e2, if_neg e2]
    by_cases e3 : d = 110
    · rw [if_pos e3, if_pos e3]
    rw [if_neg e3, if_neg e3]
    by_cases e4 : d = 114
    · rw [if_pos e4, if_pos e4]
    rw [if_neg e4, if_neg e4]
    by_cases e5 : d = 116
    · rw [if_pos e5, if_pos e5]
    rw [if_neg e5, if_neg e5]
    by_cases e6 : d = 120
    · rw [if_pos e6, if_pos e6]; exact hx
    rw [if_neg e6, if_neg e6]
    by_cases e7 : d = 117
    · rw [if_pos e7, if_pos e7]; exact hu
    rw [if_neg e7, if_neg e7]

theorem looseB_append (a b : List UInt8) (ha : a ≠ []) (hb : bt b 0 / 64 ≠ 2) : looseB (a ++ b) = looseB a := by
  unfold looseB
  rw [dec_append a b ha hb]
theorem take_le_append (a b : List UInt8) (n : Nat) (h : n ≤ a.length) : (a ++ b).take n = a.take n := by rw [List.take_append_of_le_length h]

theorem speakF_nlcut (b : List UInt8) : ∀ (f : Nat) (a : List UInt8) (i : Nat) (said : List UInt8) (g : Nat), a.length ≤ f → a.length + 1 + b.length ≤ g → NoNl a → speakF true g (a ++ 10 :: b) i said = speakF true f a i said := by
  intro f
  induction f with
  | zero =>
    intro a i said g hf hg hn
    have : a = [] := List.length_eq_zero_iff.1 (by omega)
    subst this
    obtain ⟨g, rfl⟩ : ∃ g', g = g' + 1 := ⟨g - 1, by omega⟩
    rw [List.nil_append, speakF_nl _ _ _ _ _ (by decide), speakF_nil]
  | succ f ih =>
    intro a i said g hf hg hn
    match a, hn with
    | [], hn =>
      obtain ⟨g, rfl⟩ : ∃ g', g = g' + 1 := ⟨g - 1, by omega⟩
      rw [List.nil_append, speakF_nl _ _ _ _ _ (by decide), speakF_nil]
    | c :: r, hn =>
        obtain ⟨g, rfl⟩ : ∃ g', g = g' + 1 := ⟨g - 1, by omega⟩
        simp only [List.length_cons] at hf hg
        have hb10 : bt (10 :: b) 0 / 64 ≠ 2 := by rw [bt_cons0]; decide
        by_cases h1 : c.toNat = 34
        · rw [List.cons_append, speakF_quote _ _ _ _ _ _ h1, speakF_quote _ _ _ _ _ _ h1]
        by_cases h2 : c.toNat = 92
        · rw [List.cons_append, speakF_esc _ _ _ _ _ _ h2, speakF_esc _ _ _ _ _ _ h2]
          have he := escV_nl c r b hn.tail
          rw [List.cons_append] at he
          rw [he]
          cases hE : escV (c :: r) with
          | none => rfl
          | some kb =>
            obtain ⟨k, bb⟩ := kb
            have hl := escV_len hE
            simp only []
            rw [← List.cons_append, List.drop_append_of_le_length hl.2.1]
            simp only [List.length_cons] at hl
            exact ih _ _ _ _ (by rw [List.length_drop, List.length_cons]; omega) (by rw [List.length_drop, List.length_cons]; omega) (hn.drop k)
        have h3 : c.toNat ≠ 10 := fun e => hn.head (UInt8.toNat_inj.1 e)
        have hd := dec_append (c :: r) (10 :: b) (by simp) hb10
        have hlo := looseB_append (c :: r) (10 :: b) (by simp) hb10
        by_cases h4 : c.toNat < 32 ∨ c.toNat = 127 ∨ looseB (c :: r) = true
        · rw [speakF_bad _ _ _ _ _ _ h1 h2 (fun _ => h3) h4, List.cons_append, speakF_bad _ _ _ _ _ _ h1 h2 (fun _ => h3) (by rw [← List.cons_append, hlo]; exact h4)]
        · have h5 : ¬ (c = 10 ∧ true = true) := fun h => hn.head h.1
          have hstep : ∀ (f : Nat) (r : List UInt8), ¬ (c.toNat < 32 ∨ c.toNat = 127 ∨ looseB (c :: r) = true) → speakF true (f + 1) (c :: r) i said = speakF true f ((c :: r).drop (dec (c :: r)).2) (i + (dec (c :: r)).2) (said ++ (c :: r).take (dec (c :: r)).2) := fun f r h => speakF_char true f c r i said h1 h2 h
          rw [hstep f r h4, List.cons_append, hstep g (r ++ 10 :: b) (by rw [← List.cons_append, hlo]; exact h4), ← List.cons_append, hd]
          have hl := dec_len (c :: r) (by simp)
          have hp := dec_pos (c :: r) (by simp)
          rw [List.drop_append_of_le_length hl, take_le_append _ _ _ hl]
          exact ih _ _ _ _ (by rw [List.length_drop, List.length_cons]; omega) (by rw [List.length_drop, List.length_cons]; omega) (hn.drop _)

/-- Where no newline stands the two ways of reading are one. -/
theorem speakF_lines : ∀ (f : Nat) (a : List UInt8) (i : Nat) (said : List UInt8), NoNl a → speakF true f a i said = speakF false f a i said := by
  intro f
  induction f with
  | zero => intro a i said _; rfl
  | succ f ih =>
    intro a i said hn
    match a, hn with
    | [], _ => rw [speakF_nil, speakF_nil]
    | c :: r, hn =>
      by_cases h1 : c.toNat = 34
      · rw [speakF_quote _ _ _ _ _ _ h1, speakF_quote _ _ _ _ _ _ h1]
      by_cases h2 : c.toNat = 92
      · rw [speakF_esc _ _ _ _ _ _ h2, speakF_esc _ _ _ _ _ _ h2]
        cases hE : escV (c :: r) with
        | none => rfl
        | some kb =>
          obtain ⟨k, bb⟩ := kb
          exact ih _ _ _ (hn.drop k)
      have h3 : c.toNat ≠ 10 := fun e => hn.head (UInt8.toNat_inj.1 e)
      by_cases h4 : c.toNat < 32 ∨ c.toNat = 127 ∨ looseB (c :: r) = true
      · rw [speakF_bad _ _ _ _ _ _ h1 h2 (fun _ => h3) h4, speakF_bad _ _ _ _ _ _ h1 h2 (fun _ => h3) h4]
      · rw [speakF_char _ _ _ _ _ _ h1 h2 h4, speakF_char _ _ _ _ _ _ h1 h2 h4]
        exact ih _ _ _ (hn.drop _)
theorem speakV_lines (a : List UInt8) (hn : NoNl a) : speakV true a = speakV false a := by
  unfold speakV
  exact speakF_lines _ _ _ _ (hn.drop 1)
theorem speakF_enough : ∀ (f g : Nat) (lines : Bool) (a : List UInt8) (i : Nat) (said : List UInt8), a.length ≤ f → a.length ≤ g → speakF lines f a i said = speakF lines g a i said := by
  intro f
  induction f with
  | zero =>
    intro g lines a i said hf hg
    have : a = [] := List.length_eq_zero_iff.1 (by omega)
    subst this
    rw [speakF_nil, speakF_nil]
  | succ f ih =>
    intro g lines a i said hf hg
    match a with
    | [] => rw [speakF_nil, speakF_nil]
    | c :: r =>
      match g, hg with
      | g + 1, hg =>
        simp only [List.length_cons] at hf hg
        simp only [speakF]
        split
        · rfl
        split
        · cases hE : escV (c :: r) with
          | none => rfl
          | some kb =>
            obtain ⟨k, bb⟩ := kb
            have hl := escV_len hE
            exact ih _ _ _ _ _ (by rw [List.length_drop, List.length_cons]; omega) (by rw [List.length_drop, List.length_cons]; omega)
        split
        · rfl
        split
        · rfl
        have hp := dec_pos (c :: r) (by simp)
        exact ih _ _ _ _ _ (by rw [List.length_drop, List.length_cons]; omega) (by rw [List.length_drop, List.length_cons]; omega)
theorem speakV_nl (a b : List UInt8) (ha : a ≠ []) (hn : NoNl a) : speakV true (a ++ 10 :: b) = speakV true a := by
  unfold speakV
  have hl : 0 < a.length := List.length_pos_iff.2 ha
  rw [List.drop_append_of_le_length (by omega)]
  exact speakF_nlcut b _ _ _ _ _ (by rw [List.length_drop]; omega) (by rw [List.length_drop, List.length_append, List.length_cons]; omega) (hn.drop 1)

/-- What lies behind the line's end does not count. -/
theorem pieceV_nl (a b : List UInt8) (ha : a ≠ []) (hn : NoNl a) : pieceV (a ++ 10 :: b) = pieceV a := by
  have h1 := classV_nl a (10 :: b) ha
  have h2 := wordRun_nl a b
  have h3 := wordRun_le a
  have h4 := numRun_nl a b
  have h5 := numRun_le a
  have hl : 0 < a.length := List.length_pos_iff.2 ha
  have hhd : ∀ n, n ≤ a.length → (((a ++ 10 :: b).drop n).head? = some 46 ↔ (a.drop n).head? = some 46) := by
    intro n hn'
    rw [List.drop_append_of_le_length hn']
    cases hd : a.drop n with
    | nil => simp
    | cons c r => simp
  have hnl : ∀ n, (a.drop n).head? = some 46 → n + 1 ≤ a.length := by
    intro n h
    rcases Nat.lt_or_ge n a.length with h' | h'
    · exact h'
    · rw [List.drop_eq_nil_of_le h'] at h; cases h
  have hcl : ∀ n, (a.drop n).head? = some 46 → (classV ((a ++ 10 :: b).drop (n + 1)) = 5 ↔ classV (a.drop (n + 1)) = 5) := by
    intro n h
    rw [List.drop_append_of_le_length (hnl n h)]
    cases hd : a.drop (n + 1) with
    | nil => simp [classV]; decide
    | cons c r => simp [classV]
  have hport : (((a ++ 10 :: b).drop (wordRun a)).head? = some 46 ∧ classV ((a ++ 10 :: b).drop (wordRun a + 1)) = 5) ↔ ((a.drop (wordRun a)).head? = some 46 ∧ classV (a.drop (wordRun a + 1)) = 5) := by
    constructor
    · rintro ⟨p, q⟩
      have p' := (hhd _ h3).1 p
      exact ⟨p', (hcl _ p').1 q⟩
    · rintro ⟨p, q⟩
      exact ⟨(hhd _ h3).2 p, (hcl _ p).2 q⟩
  unfold pieceV
  rw [h1, h2, h4, take_le_append _ _ _ h5, speakV_nl a b ha hn]
  by_cases c5 : classV a = 5
  · rw [if_pos c5, if_pos c5]
    simp only []
    by_cases h24 : 24 < wordRun a
    · rw [if_pos h24, if_pos h24]
    rw [if_neg h24, if_neg h24]
    by_cases hp : (a.drop (wordRun a)).head? = some 46 ∧ classV (a.drop (wordRun a + 1)) = 5
    · rw [if_pos hp, if_pos (hport.2 hp), List.drop_append_of_le_length (hnl _ hp.1), wordRun_nl]
    · rw [if_neg hp, if_neg (fun h => hp (hport.1 h))]
  rw [if_neg c5, if_neg c5]
  by_cases c6 : classV a = 6
  · rw [if_pos c6, if_pos c6]
  rw [if_neg c6, if_neg c6]
  by_cases c7 : classV a = 7
  · rw [if_pos c7, if_pos c7]
    simp only []
    rw [List.drop_append_of_le_length (show 1 ≤ a.length by omega), wordRun_nl]
    have hw := wordRun_le (a.drop 1)
    rw [take_le_append _ _ _ (by omega)]
  rw [if_neg c7, if_neg c7]
  by_cases c8 : classV a = 8
  · rw [if_pos c8, if_pos c8]
  rw [if_neg c8, if_neg c8]
  have hs : signV (a ++ 10 :: b) = signV a := by
    match a, ha with
    | c :: r, _ => exact signV_nl c r b
  rw [hs]

theorem classB_5 {c : UInt8} (h : classB c = 5) : letterB c = true := by
  unfold classB at h
  repeat' split at h
  all_goals first | contradiction | assumption | skip
theorem classB_6 {c : UInt8} (h : classB c = 6) : digitB c = true := by
  unfold classB at h
  repeat' split at h
  all_goals first | contradiction | assumption | skip
theorem classB_7 {c : UInt8} (h : classB c = 7) : c.toNat = 37 := by
  unfold classB at h
  repeat' split at h
  all_goals first | contradiction | assumption | skip
theorem classB_8 {c : UInt8} (h : classB c = 8) : c.toNat = 34 := by
  unfold classB at h
  repeat' split at h
  all_goals first | contradiction | assumption | skip
theorem classV_at {l : List UInt8} {k : Nat} (h : classV l = k) (hk : k ≠ 1) : ∃ c r, l = c :: r ∧ classB c = k := by
  match l, h with
  | [], h => exact absurd h.symm hk
  | c :: r, h => exact ⟨c, r, rfl, h⟩
theorem wordRun_pos {c : UInt8} {r : List UInt8} (h : wordB c = true) : wordRun (c :: r) = wordRun r + 1 := by
  unfold wordRun
  rw [List.takeWhile_cons, if_pos h, List.length_cons]
theorem numRun_pos {c : UInt8} {r : List UInt8} (h : wordB c = true) : numRun (c :: r) = numRun r + 1 := by
  rw [numRun, h, Bool.true_or, if_pos rfl]

theorem tw_stop (p : UInt8 → Bool) : ∀ t : List UInt8, (t.takeWhile p).length < t.length → p (t.getD (t.takeWhile p).length 0) = false
  | [], h => by simp at h
  | y :: t, h => by
    rw [List.takeWhile_cons] at h ⊢
    by_cases hy : p y = true
    · rw [if_pos hy] at h ⊢
      simp only [List.length_cons] at h ⊢
      exact tw_stop p t (by omega)
    · rw [if_neg hy]
      simpa using hy
/-- All bytes of an escape are below 128. -/
theorem escV_ascii {c : UInt8} {r : List UInt8} (hc : c.toNat < 128) {k : Nat} {b : List UInt8} (h : escV (c :: r) = some (k, b)) : ∀ j, j < k → bt (c :: r) j < 128 := by
  have hx : ∀ x : UInt8, hexv x < 16 → x.toNat < 128 := by
    intro x hx
    unfold hexv at hx
    split at hx
    · omega
    split at hx
    · omega
    split at hx
    · omega
    · omega
  match r, h with
  | [], h => simp [escV] at h
  | d :: r, h =>
    have two : ∀ {y : UInt8}, d = y → y.toNat < 128 → k = 2 → ∀ j, j < k → bt (c :: d :: r) j < 128 := by
      intro y hy hy2 hk j hj
      subst hk
      match j, hj with
      | 0, _ => exact hc
      | 1, _ => show d.toNat < 128; rw [hy]; exact hy2
    unfold escV at h
    simp only [] at h
    split at h
    · rename_i e; injection h with h; injection h with h _; exact two e (by decide) h.symm
    split at h
    · rename_i e; injection h with h; injection h with h _; exact two e (by decide) h.symm
    split at h
    · rename_i e; injection h with h; injection h with h _; exact two e (by decide) h.symm
    split at h
    · rename_i e; injection h with h; injection h with h _; exact two e (by decide) h.symm
    split at h
    · rename_i e; injection h with h; injection h with h _; exact two e (by decide) h.symm
    split at h
    · rename_i e
      split at h
      · rename_i x y t
        split at h
        · rename_i hxy
          injection h with h; injection h with h _
          subst h
          intro j hj
          match j, hj with
          | 0, _ => exact hc
          | 1, _ => show d.toNat < 128; rw [e]; decide
          | 2, _ => exact hx _ hxy.1
          | 3, _ => exact hx _ hxy.2
        · cases h
      · cases h
    split at h
    · rename_i e
      split at h
      · rename_i x t
        split at h
        · rename_i h123
          cases hB : bracedV t with
          | none => rw [hB] at h; cases h
          | some kv =>
            obtain ⟨k', v⟩ := kv
            rw [hB] at h
            injection h with h; injection h with h _
            subst h
            unfold bracedV at hB
            split at hB
            · cases hB
            rename_i hall
            cases hbas : basedV 16 6 (t.takeWhile (fun x => decide (x ≠ 125))) with
            | none => rw [hbas] at hB; cases hB
            | some v' =>
              rw [hbas] at hB
              simp only [] at hB
              split at hB
              · injection hB with hB; injection hB with hk hv
                unfold basedV at hbas
                split at hbas
                · cases hbas
                rename_i hno
                have hall2 : (t.takeWhile (fun x => decide (x ≠ 125))).all (fun c => decide (hexv c < 16)) = true := by
                  by_cases hq : (t.takeWhile (fun x => decide (x ≠ 125))).all (fun c => decide (hexv c < 16)) = true
                  · exact hq
                  · exact absurd (Or.inr (Or.inr (by simpa using hq))) hno
                intro j hj
                match j, hj with
                | 0, _ => exact hc
                | 1, _ => show d.toNat < 128; rw [e]; decide
                | 2, _ => show x.toNat < 128; rw [h123]; decide
                | j + 3, hj =>
                  show bt t j < 128
                  rcases Nat.lt_or_ge j (t.takeWhile (fun x => decide (x ≠ 125))).length with hjl | hjl
                  · have hm : bt (t.takeWhile (fun x => decide (x ≠ 125))) j = ((t.takeWhile (fun x => decide (x ≠ 125)))[j]'hjl).toNat := bt_get _ _ hjl
                    have h9 := List.all_eq_true.1 hall2 _ (List.getElem_mem hjl)
                    obtain ⟨rest, hrest⟩ := List.takeWhile_prefix (p := fun x : UInt8 => decide (x ≠ 125)) (l := t)
                    have h10 : bt (t.takeWhile (fun x => decide (x ≠ 125)) ++ rest) j = bt (t.takeWhile (fun x => decide (x ≠ 125))) j := by
                      rw [bt_append, if_pos hjl]
                    rw [hrest] at h10
                    rw [h10, hm]
                    exact hx _ (by simpa using h9)
                  · have hlt := tw_lt (fun x => decide (x ≠ 125)) t hall
                    have hj' : j = (t.takeWhile (fun x => decide (x ≠ 125))).length := by omega
                    have hs := tw_stop (fun x => decide (x ≠ 125)) t hlt
                    rw [← hj'] at hs
                    have : t.getD j 0 = 125 := by simpa using hs
                    unfold bt
                    rw [this]
                    decide
              · cases hB
        · cases h
      · cases h
    · cases h
end Sp
end Go.Proofs.YtjedoipbllcfdaaDoor
