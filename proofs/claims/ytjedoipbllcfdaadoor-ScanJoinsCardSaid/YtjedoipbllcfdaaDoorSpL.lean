/-
  PLAIN LEAN, no program in sight: the machine of Scan: its steps, two texts with a newline between, lines further down.
-/
import Derived.Test.YtjedoipbllcfdaaDoorSpK
set_option linter.unusedVariables false
set_option linter.unusedSimpArgs false
namespace Go.Proofs.YtjedoipbllcfdaaDoor
namespace Sp

/-- Where a quoted text ends, or errs, a character begins. -/
theorem speakF_bd (lines : Bool) : ∀ (f : Nat) (l : List UInt8) (i : Nat) (said : List UInt8) (c p : Nat) (b : List UInt8), l.length ≤ f → speakF lines f l i said = (c, b, p) → i ≤ p ∧ Bd l (p - i) ∧ (c = 0 → i < p) := by
  intro f
  induction f with
  | zero =>
    intro l i said c p b hf h
    have : l = [] := List.length_eq_zero_iff.1 (by omega)
    subst this
    rw [speakF_nil] at h
    injection h with h1 h
    injection h with h2 h3
    subst h3
    rw [Nat.sub_self]
    exact ⟨Nat.le_refl _, Bd.zero _, by omega⟩
  | succ f ih =>
    intro l i said c p b hf h
    match l, hf, h with
    | [], _, h =>
      rw [speakF_nil] at h
      injection h with h1 h
      injection h with h2 h3
      subst h3
      rw [Nat.sub_self]
      exact ⟨Nat.le_refl _, Bd.zero _, by omega⟩
    | x :: r, hf, h =>
      simp only [List.length_cons] at hf
      have stop : ∀ {c' : Nat}, c' ≠ 0 → (c', ([] : List UInt8), i) = (c, b, p) → i ≤ p ∧ Bd (x :: r) (p - i) ∧ (c = 0 → i < p) := by
        intro c' hc' h
        injection h with h1 h
        injection h with h2 h3
        subst h3
        rw [Nat.sub_self]
        exact ⟨Nat.le_refl _, Bd.zero _, by omega⟩
      by_cases h1 : x.toNat = 34
      · rw [speakF_quote _ _ _ _ _ _ h1] at h
        injection h with _ h
        injection h with _ h3
        subst h3
        refine ⟨by omega, ?_, by omega⟩
        rw [show i + 1 - i = 1 by omega]
        exact Bd.ascii 1 _ (by simp) (fun k hk => by
          have : k = 0 := by omega
          subst this
          rw [bt_cons0]; omega)
      by_cases h2 : x.toNat = 92
      · rw [speakF_esc _ _ _ _ _ _ h2] at h
        cases hE : escV (x :: r) with
        | none => rw [hE] at h; exact stop (by omega) h
        | some kb =>
          obtain ⟨k, bb⟩ := kb
          rw [hE] at h
          simp only [] at h
          have hl := escV_len hE
          have ha := escV_ascii (by omega) hE
          obtain ⟨g1, g2, g3⟩ := ih _ _ _ _ _ _ (by rw [List.length_drop, List.length_cons]; omega) h
          refine ⟨by omega, ?_, fun _ => by omega⟩
          rw [show p - i = k + (p - (i + k)) by omega]
          exact (Bd.ascii k _ hl.2.1 ha).trans g2
      by_cases h3 : x.toNat = 10 ∧ lines = true
      · have hl := h3.2
        subst hl
        rw [speakF_nl _ _ _ _ _ h3.1] at h
        exact stop (by omega) h
      by_cases h4 : x.toNat < 32 ∨ x.toNat = 127 ∨ looseB (x :: r) = true
      · rw [speakF_bad _ _ _ _ _ _ h1 h2 (fun hl e => h3 ⟨e, hl⟩) h4] at h
        exact stop (by omega) h
      · rw [speakF_char _ _ _ _ _ _ h1 h2 h4] at h
        have hp := dec_pos (x :: r) (by simp)
        obtain ⟨g1, g2, g3⟩ := ih _ _ _ _ _ _ (by rw [List.length_drop, List.length_cons]; omega) h
        refine ⟨by omega, ?_, fun _ => by omega⟩
        rw [show p - i = (dec (x :: r)).2 + (p - (i + (dec (x :: r)).2)) by omega]
        exact Bd.step _ _ (by simp) g2
theorem speakV_bd {lines : Bool} {l : List UInt8} {c p : Nat} {b : List UInt8} (hl : classV l = 8) (h : speakV lines l = (c, b, p)) : Bd l p ∧ 1 ≤ p := by
  obtain ⟨x, r, rfl, hx⟩ := classV_at hl (by omega)
  have h34 := classB_8 hx
  unfold speakV at h
  obtain ⟨g1, g2, _⟩ := speakF_bd lines _ _ _ _ _ _ _ (by rw [List.length_drop]; omega) h
  refine ⟨?_, g1⟩
  have : Bd (x :: r) 1 := Bd.ascii 1 _ (by simp) (fun k hk => by
    have : k = 0 := by omega
    subst this
    rw [bt_cons0]; omega)
  have := this.trans g2
  rw [show 1 + (p - 1) = p by omega] at this
  exact this

/-- A token's size; the places of its end and of an error. -/
theorem pieceV_size {l : List UInt8} {k n off c : Nat} (h : pieceV l = (k, n, off, c)) (hl : l ≠ []) :
    (c = 0 → 1 ≤ n ∧ Bd l n ∧ 2 ≤ k ∧ k ≤ 7 ∧ off = 0) ∧ (c ≠ 0 → Bd l off ∧ n = 0 ∧ k = 0) := by
  have bad : ∀ {c' : Nat}, c' ≠ 0 → (0, 0, 0, c') = (k, n, off, c) → (c = 0 → 1 ≤ n ∧ Bd l n ∧ 2 ≤ k ∧ k ≤ 7 ∧ off = 0) ∧ (c ≠ 0 → Bd l off ∧ n = 0 ∧ k = 0) := by
    intro c' hc' h
    simp only [Prod.mk.injEq] at h
    obtain ⟨rfl, rfl, rfl, rfl⟩ := h
    exact ⟨fun h => absurd h hc', fun _ => ⟨Bd.zero _, rfl, rfl⟩⟩
  have good : ∀ {k' n' : Nat}, 2 ≤ k' → k' ≤ 7 → 1 ≤ n' → Bd l n' → (k', n', 0, 0) = (k, n, off, c) → (c = 0 → 1 ≤ n ∧ Bd l n ∧ 2 ≤ k ∧ k ≤ 7 ∧ off = 0) ∧ (c ≠ 0 → Bd l off ∧ n = 0 ∧ k = 0) := by
    intro k' n' h1 h2 h3 h4 h
    simp only [Prod.mk.injEq] at h
    obtain ⟨rfl, rfl, rfl, rfl⟩ := h
    exact ⟨fun _ => ⟨h3, h4, h1, h2, rfl⟩, fun h => absurd rfl h⟩
  unfold pieceV at h
  split at h
  · rename_i c5
    obtain ⟨x, r, rfl, hx⟩ := classV_at c5 (by omega)
    have hw : wordB x = true := by unfold wordB; rw [classB_5 hx]; rfl
    have hpos := wordRun_pos (r := r) hw
    have hbd := Bd.ascii _ (x :: r) (wordRun_le _) (wordRun_ascii _)
    simp only [] at h
    split at h
    · exact bad (by omega) h
    split at h
    · rename_i hport
      split at h
      · exact bad (by omega) h
      · refine good (by omega) (by omega) (by omega) ?_ h
        obtain ⟨y, s, hy, hcy⟩ := classV_at hport.2 (by omega)
        have hdot : ((x :: r).drop (wordRun (x :: r))) = 46 :: (y :: s) := by
          have h46 := hport.1
          cases hd : (x :: r).drop (wordRun (x :: r)) with
          | nil => rw [hd] at h46; cases h46
          | cons z t =>
            rw [hd] at h46
            injection h46 with e
            subst e
            have : (x :: r).drop (wordRun (x :: r) + 1) = t := by rw [← List.drop_drop, hd]; rfl
            rw [this] at hy
            rw [hy]
        have b1 : Bd (46 :: y :: s) 1 := Bd.ascii 1 _ (by simp) (fun k hk => by
          have : k = 0 := by omega
          subst this
          rw [bt_cons0]; decide)
        have b2 := hbd.trans (by rw [hdot]; exact b1)
        refine b2.trans ?_
        exact Bd.ascii _ _ (wordRun_le _) (wordRun_ascii _)
    · exact good (by omega) (by omega) (by omega) hbd h
  split at h
  · rename_i _ c6
    obtain ⟨x, r, rfl, hx⟩ := classV_at c6 (by omega)
    have hw : wordB x = true := by unfold wordB; rw [classB_6 hx, Bool.or_true]
    have hpos := numRun_pos (r := r) hw
    split at h
    · exact bad (by omega) h
    · exact good (by omega) (by omega) (by omega) (Bd.ascii _ _ (numRun_le _) (numRun_ascii _)) h
  split at h
  · rename_i _ _ c7
    obtain ⟨x, r, rfl, hx⟩ := classV_at c7 (by omega)
    have h37 := classB_7 hx
    simp only [] at h
    split at h
    · refine good (by omega) (by omega) (by omega) ?_ h
      have b1 : Bd (x :: r) 1 := Bd.ascii 1 _ (by simp) (fun k hk => by
        have : k = 0 := by omega
        subst this
        rw [bt_cons0]; omega)
      exact b1.trans (Bd.ascii _ _ (wordRun_le _) (wordRun_ascii _))
    · exact bad (by omega) h
  split at h
  · rename_i _ _ _ c8
    obtain ⟨cc, b, p, hsp⟩ : ∃ cc b p, speakV true l = (cc, b, p) := ⟨_, _, _, rfl⟩
    have hb := speakV_bd c8 hsp
    rw [hsp] at h
    simp only [] at h
    split at h
    · rename_i hne
      simp only [Prod.mk.injEq] at h
      obtain ⟨rfl, rfl, rfl, rfl⟩ := h
      exact ⟨fun h => absurd h hne, fun _ => ⟨hb.1, rfl, rfl⟩⟩
    split at h
    · exact bad (by omega) h
    · exact good (by omega) (by omega) hb.2 hb.1 h
  split at h
  · exact bad (by omega) h
  · rename_i hs
    match l, hl with
    | a :: r, _ =>
      have hsz : (signV (a :: r) = 1 ∧ a.toNat < 128) ∨ (signV (a :: r) = 2 ∧ a.toNat < 128 ∧ ∃ b t, r = b :: t ∧ b.toNat < 128) := by
        revert hs
        clear h good bad
        unfold signV
        cases r with
        | nil =>
          simp only []
          intro hs
          left
          split at hs
          · rename_i hf; cases hf
          split at hs
          · rename_i _ h1
            refine ⟨by simp [h1], ?_⟩
            simp only [Bool.or_eq_true, beq_iff_eq] at h1
            rcases h1 with ((((((((((h | h) | h) | h) | h) | h) | h) | h) | h) | h) | h) <;> (subst h; decide)
          · exact absurd rfl hs
        | cons b t =>
          simp only []
          intro hs
          split at hs
          · rename_i h2
            right
            refine ⟨by simp [h2], ?_⟩
            simp only [Bool.or_eq_true, Bool.and_eq_true, beq_iff_eq] at h2
            rcases h2 with ((((⟨h, h'⟩ | ⟨h, h'⟩) | ⟨h, h'⟩) | ⟨h, h'⟩) | ⟨h, h'⟩) <;> (subst h; subst h'; exact ⟨by decide, _, _, rfl, by decide⟩)
          split at hs
          · rename_i h0 h1
            left
            refine ⟨by simp [h0, h1], ?_⟩
            simp only [Bool.or_eq_true, beq_iff_eq] at h1
            rcases h1 with ((((((((((h | h) | h) | h) | h) | h) | h) | h) | h) | h) | h) <;> (subst h; decide)
          · exact absurd rfl hs
      rcases hsz with ⟨h1, h2⟩ | ⟨h1, h2, b, t, rfl, h3⟩
      · rw [h1] at h
        refine good (by omega) (by omega) (by omega) (Bd.ascii 1 _ (by simp) (fun k hk => ?_)) h
        have : k = 0 := by omega
        subst this
        exact h2
      · rw [h1] at h
        refine good (by omega) (by omega) (by omega) (Bd.ascii 2 _ (by simp) (fun k hk => ?_)) h
        match k, hk with
        | 0, _ => exact h2
        | 1, _ => exact h3

/-- The end of a line that has tokens. -/
def endT (op : Bool) (acc : List Tok) (line col : Nat) : List Tok := if op then acc ++ [(1, [10], line, col)] else acc

theorem runF_enough : ∀ (f g : Nat) (l : List UInt8) (line col : Nat) (op : Bool) (acc : List Tok), l.length < f → l.length < g → runF f l line col op acc = runF g l line col op acc := by
  intro f
  induction f with
  | zero => intro g l line col op acc hf hg; omega
  | succ f ih =>
    intro g l line col op acc hf hg
    obtain ⟨g, rfl⟩ : ∃ g', g = g' + 1 := ⟨g - 1, by omega⟩
    match l with
    | [] => rfl
    | c :: r =>
      simp only [List.length_cons] at hf hg
      simp only [runF]
      split
      · exact ih _ _ _ _ _ _ (by omega) (by omega)
      split
      · exact ih _ _ _ _ _ _ (by omega) (by omega)
      split
      · rename_i h1 _ _
        have hk : 1 ≤ ((c :: r).takeWhile (fun x => decide (x ≠ 10))).length := by
          have : c ≠ 10 := by
            rintro rfl
            exact h1 rfl
          rw [List.takeWhile_cons, if_pos (by simpa using this), List.length_cons]
          omega
        exact ih _ _ _ _ _ _ (by rw [List.length_drop, List.length_cons]; omega) (by rw [List.length_drop, List.length_cons]; omega)
      obtain ⟨k, n, off, code, hp⟩ : ∃ k n off code, pieceV (c :: r) = (k, n, off, code) := ⟨_, _, _, _, rfl⟩
      have hsz := pieceV_size hp (by simp)
      rw [hp]
      simp only []
      by_cases h0 : code = 0
      · rw [if_neg (by omega), if_neg (by omega)]
        have := (hsz.1 h0).1
        exact ih _ _ _ _ _ _ (by rw [List.length_drop, List.length_cons]; omega) (by rw [List.length_drop, List.length_cons]; omega)
      · rw [if_pos h0, if_pos h0]

/-- The machine from one place on. -/
def runV (l : List UInt8) (line col : Nat) (op : Bool) (acc : List Tok) : List Tok × Nat × Nat × Nat := runF (l.length + 1) l line col op acc
theorem runF_eq {f : Nat} {l : List UInt8} (h : l.length < f) (line col : Nat) (op : Bool) (acc : List Tok) : runF f l line col op acc = runV l line col op acc := runF_enough _ _ _ _ _ _ _ h (by omega)

theorem runV_nil (line col : Nat) (op : Bool) (acc : List Tok) : runV [] line col op acc = (endT op acc line col, 0, 0, 0) := rfl
theorem runV_nl {c : UInt8} (r : List UInt8) (line col : Nat) (op : Bool) (acc : List Tok) (h : classB c = 3) : runV (c :: r) line col op acc = runV r (line + 1) 1 false (endT op acc line col) := by
  unfold runV
  simp only [List.length_cons]
  rw [runF, if_pos h]
  rfl
theorem runV_blank {c : UInt8} (r : List UInt8) (line col : Nat) (op : Bool) (acc : List Tok) (h : classB c = 2) : runV (c :: r) line col op acc = runV r line (col + 1) op acc := by
  unfold runV
  simp only [List.length_cons]
  rw [runF, if_neg (by omega), if_pos h]
/-- A comment's length. -/
def comV (l : List UInt8) : Nat := (l.takeWhile (fun x => decide (x ≠ 10))).length
theorem classB_10 : classB 10 = 3 := by decide
theorem comV_pos {c : UInt8} (r : List UInt8) (h : classB c ≠ 3) : comV (c :: r) = comV r + 1 := by
  unfold comV
  have : c ≠ 10 := by
    rintro rfl
    exact h rfl
  rw [List.takeWhile_cons, if_pos (by simpa using this), List.length_cons]
theorem comV_le (l : List UInt8) : comV l ≤ l.length := takeWhile_le _ l
theorem runV_hash {c : UInt8} (r : List UInt8) (line col : Nat) (op : Bool) (acc : List Tok) (h : classB c = 4) :
    runV (c :: r) line col op acc = runV ((c :: r).drop (comV (c :: r))) line (col + chars ((c :: r).take (comV (c :: r)))) op acc := by
  unfold runV
  simp only [List.length_cons]
  rw [runF, if_neg (by omega), if_neg (by omega), if_pos h]
  simp only []
  have := comV_pos (c := c) r (by omega)
  exact runF_enough _ _ _ _ _ _ _ (by rw [List.length_drop, List.length_cons]; show r.length + 1 - comV (c :: r) < _; omega) (by show List.length (List.drop (comV (c :: r)) (c :: r)) < _; omega)
def PieceAt (c : UInt8) : Prop := classB c ≠ 2 ∧ classB c ≠ 3 ∧ classB c ≠ 4
theorem runV_err {c : UInt8} (r : List UInt8) (line col : Nat) (op : Bool) (acc : List Tok) (hc : PieceAt c) {k n off code : Nat} (hp : pieceV (c :: r) = (k, n, off, code)) (h : code ≠ 0) :
    runV (c :: r) line col op acc = ([], code, line, col + chars ((c :: r).take off)) := by
  unfold runV
  simp only [List.length_cons]
  rw [runF, if_neg hc.2.1, if_neg hc.1, if_neg hc.2.2, hp]
  simp only []
  rw [if_pos h]
theorem runV_tok {c : UInt8} (r : List UInt8) (line col : Nat) (op : Bool) (acc : List Tok) (hc : PieceAt c) {k n off : Nat} (hp : pieceV (c :: r) = (k, n, off, 0)) :
    runV (c :: r) line col op acc = runV ((c :: r).drop n) line (col + chars ((c :: r).take n)) true (acc ++ [(k, (c :: r).take n, line, col)]) := by
  have hsz := ((pieceV_size hp (by simp)).1 rfl).1
  unfold runV
  simp only [List.length_cons]
  rw [runF, if_neg hc.2.1, if_neg hc.1, if_neg hc.2.2, hp]
  simp only []
  rw [if_neg (by omega)]
  exact runF_enough _ _ _ _ _ _ _ (by rw [List.length_drop, List.length_cons]; omega) (by omega)

/-- Induction along the machine. -/
theorem run_cases (c : UInt8) : classB c = 3 ∨ classB c = 2 ∨ classB c = 4 ∨ PieceAt c := by
  unfold PieceAt
  omega

/-- How many newlines there are. -/
def nlV (l : List UInt8) : Nat := (l.filter (· == 10)).length
theorem nlV_nil : nlV [] = 0 := rfl
theorem nlV_append (a b : List UInt8) : nlV (a ++ b) = nlV a + nlV b := by unfold nlV; rw [List.filter_append, List.length_append]
theorem nlV_cons_no {c : UInt8} (r : List UInt8) (h : c ≠ 10) : nlV (c :: r) = nlV r := by unfold nlV; rw [List.filter_cons, if_neg (by simpa using h)]
theorem nlV_cons_10 (r : List UInt8) : nlV (10 :: r) = nlV r + 1 := by unfold nlV; rw [List.filter_cons, if_pos (by decide), List.length_cons]
theorem nlV_none {l : List UInt8} (h : NoNl l) : nlV l = 0 := by
  unfold nlV
  rw [List.length_eq_zero_iff, List.filter_eq_nil_iff]
  intro x hx
  simpa using h x hx
theorem nlV_drop {l : List UInt8} {k : Nat} (h : NoNl (l.take k)) : nlV (l.drop k) = nlV l := by
  have h1 := nlV_append (l.take k) (l.drop k)
  rw [List.take_append_drop, nlV_none h] at h1
  omega

/-- The first line of a text. -/
def line1 (l : List UInt8) : List UInt8 := l.takeWhile (fun x => decide (x ≠ 10))
theorem line1_no (l : List UInt8) : NoNl (line1 l) := by
  unfold line1
  induction l with
  | nil => intro x hx; simp at hx
  | cons c r ih =>
    intro x hx
    rw [List.takeWhile_cons] at hx
    by_cases h : decide (c ≠ 10) = true
    · rw [if_pos h] at hx
      rcases List.mem_cons.1 hx with rfl | hx
      · simpa using h
      · exact ih x hx
    · rw [if_neg h] at hx
      simp at hx
theorem line1_cut (l : List UInt8) : l = line1 l ∨ ∃ b, l = line1 l ++ 10 :: b := by
  unfold line1
  induction l with
  | nil => left; rfl
  | cons c r ih =>
    rw [List.takeWhile_cons]
    by_cases h : decide (c ≠ 10) = true
    · rw [if_pos h]
      rcases ih with h' | ⟨b, h'⟩
      · left; rw [← h']
      · right; exact ⟨b, by rw [List.cons_append, ← h']⟩
    · rw [if_neg h]
      right
      refine ⟨r, ?_⟩
      have : c = 10 := by simpa using h
      rw [this]; rfl
theorem line1_ne {c : UInt8} (r : List UInt8) (h : c ≠ 10) : line1 (c :: r) ≠ [] := by
  unfold line1
  rw [List.takeWhile_cons, if_pos (by simpa using h)]
  simp
theorem pieceV_line1 {c : UInt8} (r : List UInt8) (h : c ≠ 10) : pieceV (c :: r) = pieceV (line1 (c :: r)) := by
  have hne := line1_ne r h
  rcases line1_cut (c :: r) with h1 | ⟨b, h1⟩
  · rw [← h1]
  · obtain ⟨x, hx⟩ : ∃ x, line1 (c :: r) = x := ⟨_, rfl⟩
    have hno := line1_no (c :: r)
    rw [hx] at h1 hne hno ⊢
    rw [h1]
    exact pieceV_nl x b hne hno
theorem line1_append (a b : List UInt8) : line1 (a ++ 10 :: b) = line1 a := takeWhile_stop (by decide) a b
theorem pieceV_any {c : UInt8} (r b : List UInt8) (h : c ≠ 10) : pieceV (c :: r ++ 10 :: b) = pieceV (c :: r) := by
  rw [pieceV_line1 r h, ← line1_append (c :: r) b, List.cons_append]
  exact pieceV_line1 _ h
theorem line1_take (l : List UInt8) {k : Nat} (h : k ≤ (line1 l).length) : l.take k = (line1 l).take k := by
  rcases line1_cut l with h1 | ⟨b, h1⟩
  · rw [← h1]
  · obtain ⟨x, hx⟩ : ∃ x, line1 l = x := ⟨_, rfl⟩
    rw [hx] at h h1 ⊢
    rw [h1, take_le_append _ _ _ h]
theorem piece_noNl {c : UInt8} {r : List UInt8} (h : c ≠ 10) {k n off code : Nat} (hp : pieceV (c :: r) = (k, n, off, code)) : n ≤ (line1 (c :: r)).length ∧ off ≤ (line1 (c :: r)).length := by
  have hne := line1_ne r h
  rw [pieceV_line1 r h] at hp
  have hsz := pieceV_size hp hne
  by_cases h0 : code = 0
  · have := hsz.1 h0
    exact ⟨this.2.1.le, by omega⟩
  · have := hsz.2 h0
    exact ⟨by omega, this.1.le⟩
theorem PieceAt.ne {c : UInt8} (h : PieceAt c) : c ≠ 10 := by
  rintro rfl
  exact h.2.1 rfl

/-- Two texts with a newline between. -/
def joinV (r : List Tok × Nat × Nat × Nat) (b : List UInt8) (line : Nat) : List Tok × Nat × Nat × Nat := if r.2.1 ≠ 0 then r else runV b line 1 false r.1
theorem joinV_ok (t : List Tok) (x y : Nat) (b : List UInt8) (line : Nat) : joinV (t, 0, x, y) b line = runV b line 1 false t := by
  unfold joinV; rw [if_neg (by simp)]
theorem runV_join (b : List UInt8) : ∀ (m : Nat) (a : List UInt8) (line col : Nat) (op : Bool) (acc : List Tok), a.length ≤ m → runV (a ++ 10 :: b) line col op acc = joinV (runV a line col op acc) b (line + nlV a + 1) := by
  intro m
  induction m with
  | zero =>
    intro a line col op acc hm
    have : a = [] := List.length_eq_zero_iff.1 (by omega)
    subst this
    rw [List.nil_append, runV_nl _ _ _ _ _ classB_10, runV_nil, joinV_ok, nlV_nil]
  | succ m ih =>
    intro a line col op acc hm
    match a with
    | [] => rw [List.nil_append, runV_nl _ _ _ _ _ classB_10, runV_nil, joinV_ok, nlV_nil]
    | c :: r =>
      simp only [List.length_cons] at hm
      rcases run_cases c with h | h | h | h
      · have h10 : c = 10 := by
          unfold classB at h
          repeat' split at h
          all_goals first | contradiction | exact UInt8.toNat_inj.1 ‹_› | skip
        subst h10
        rw [List.cons_append, runV_nl _ _ _ _ _ h, runV_nl _ _ _ _ _ h, ih _ _ _ _ _ (by omega), nlV_cons_10]
        congr 1
        omega
      · have hne : c ≠ 10 := by rintro rfl; rw [classB_10] at h; omega
        rw [List.cons_append, runV_blank _ _ _ _ _ h, runV_blank _ _ _ _ _ h, ih _ _ _ _ _ (by omega), nlV_cons_no _ hne]
      · have hne : c ≠ 10 := by rintro rfl; rw [classB_10] at h; omega
        have hcom : comV (c :: r ++ 10 :: b) = comV (c :: r) := congrArg List.length (line1_append (c :: r) b)
        have hle := comV_le (c :: r)
        have hpos := comV_pos (c := c) r (by omega)
        have hno : NoNl ((c :: r).take (comV (c :: r))) := by
          have := line1_take (c :: r) (k := comV (c :: r)) (Nat.le_refl _)
          rw [this]
          exact (line1_no _).take _
        rw [runV_hash _ _ _ _ _ h, List.cons_append, runV_hash _ _ _ _ _ h, ← List.cons_append, hcom, take_le_append _ _ _ hle, List.drop_append_of_le_length hle, ih _ _ _ _ _ (by rw [List.length_drop, List.length_cons]; omega), nlV_drop hno]
      · have hne := h.ne
        obtain ⟨k, n, off, code, hp⟩ : ∃ k n off code, pieceV (c :: r) = (k, n, off, code) := ⟨_, _, _, _, rfl⟩
        have hp2 : pieceV (c :: (r ++ 10 :: b)) = (k, n, off, code) := (pieceV_any r b hne).trans hp
        have hsz := pieceV_size hp (by simp)
        have hno := piece_noNl hne hp
        by_cases h0 : code = 0
        · subst h0
          have hs := hsz.1 rfl
          have hl := hs.2.1.le
          have hno2 : NoNl ((c :: r).take n) := by rw [line1_take _ hno.1]; exact (line1_no _).take _
          rw [runV_tok _ _ _ _ _ h hp, List.cons_append, runV_tok _ _ _ _ _ h hp2, ← List.cons_append, take_le_append _ _ _ hl, List.drop_append_of_le_length hl, ih _ _ _ _ _ (by rw [List.length_drop, List.length_cons]; omega), nlV_drop hno2]
        · have hl := (hsz.2 h0).1.le
          rw [runV_err _ _ _ _ _ h hp h0, List.cons_append, runV_err _ _ _ _ _ h hp2 h0, ← List.cons_append, take_le_append _ _ _ hl]
          unfold joinV
          rw [if_pos h0]

/-- What was gathered ahead stays ahead; lines further down. -/
def downT (d : Nat) (t : Tok) : Tok := (t.1, t.2.1, t.2.2.1 + d, t.2.2.2)
def downR (pre : List Tok) (d : Nat) (r : List Tok × Nat × Nat × Nat) : List Tok × Nat × Nat × Nat := if r.2.1 ≠ 0 then ([], r.2.1, r.2.2.1 + d, r.2.2.2) else (pre ++ r.1.map (downT d), 0, 0, 0)
theorem endT_down (op : Bool) (pre acc : List Tok) (d line col : Nat) : endT op (pre ++ acc.map (downT d)) (line + d) col = pre ++ (endT op acc line col).map (downT d) := by
  unfold endT
  cases op with
  | true => simp [downT]
  | false => rfl
theorem runV_down (pre : List Tok) (d : Nat) : ∀ (m : Nat) (a : List UInt8) (line col : Nat) (op : Bool) (acc : List Tok), a.length ≤ m → runV a (line + d) col op (pre ++ acc.map (downT d)) = downR pre d (runV a line col op acc) := by
  intro m
  have hnil : ∀ (line col : Nat) (op : Bool) (acc : List Tok), runV [] (line + d) col op (pre ++ acc.map (downT d)) = downR pre d (runV [] line col op acc) := by
    intro line col op acc
    rw [runV_nil, runV_nil, endT_down]
    unfold downR
    rw [if_neg (by simp)]
  induction m with
  | zero =>
    intro a line col op acc hm
    have : a = [] := List.length_eq_zero_iff.1 (by omega)
    subst this
    exact hnil _ _ _ _
  | succ m ih =>
    intro a line col op acc hm
    match a with
    | [] => exact hnil _ _ _ _
    | c :: r =>
      simp only [List.length_cons] at hm
      rcases run_cases c with h | h | h | h
      · rw [runV_nl _ _ _ _ _ h, runV_nl _ _ _ _ _ h, endT_down, ← ih _ _ _ _ _ (by omega)]
        congr 1
        omega
      · rw [runV_blank _ _ _ _ _ h, runV_blank _ _ _ _ _ h, ← ih _ _ _ _ _ (by omega)]
      · have hpos := comV_pos (c := c) r (by omega)
        rw [runV_hash _ _ _ _ _ h, runV_hash _ _ _ _ _ h, ← ih _ _ _ _ _ (by rw [List.length_drop, List.length_cons]; omega)]
      · obtain ⟨k, n, off, code, hp⟩ : ∃ k n off code, pieceV (c :: r) = (k, n, off, code) := ⟨_, _, _, _, rfl⟩
        have hsz := pieceV_size hp (by simp)
        by_cases h0 : code = 0
        · subst h0
          have hs := hsz.1 rfl
          rw [runV_tok _ _ _ _ _ h hp, runV_tok _ _ _ _ _ h hp, ← ih _ _ _ _ _ (by rw [List.length_drop, List.length_cons]; omega)]
          congr 1
          simp [downT]
        · rw [runV_err _ _ _ _ _ h hp h0, runV_err _ _ _ _ _ h hp h0]
          unfold downR
          rw [if_pos h0]
theorem runV_code : ∀ (m : Nat) (a : List UInt8) (line col : Nat) (op : Bool) (acc : List Tok), a.length ≤ m → ((runV a line col op acc).2.1 = 0 → (runV a line col op acc).2.2 = (0, 0)) ∧ ((runV a line col op acc).2.1 ≠ 0 → (runV a line col op acc).1 = []) := by
  intro m
  induction m with
  | zero =>
    intro a line col op acc hm
    have : a = [] := List.length_eq_zero_iff.1 (by omega)
    subst this
    rw [runV_nil]
    exact ⟨fun _ => rfl, fun h => absurd rfl h⟩
  | succ m ih =>
    intro a line col op acc hm
    match a with
    | [] => rw [runV_nil]; exact ⟨fun _ => rfl, fun h => absurd rfl h⟩
    | c :: r =>
      simp only [List.length_cons] at hm
      rcases run_cases c with h | h | h | h
      · rw [runV_nl _ _ _ _ _ h]; exact ih _ _ _ _ _ (by omega)
      · rw [runV_blank _ _ _ _ _ h]; exact ih _ _ _ _ _ (by omega)
      · have hpos := comV_pos (c := c) r (by omega)
        rw [runV_hash _ _ _ _ _ h]; exact ih _ _ _ _ _ (by rw [List.length_drop, List.length_cons]; omega)
      · obtain ⟨k, n, off, code, hp⟩ : ∃ k n off code, pieceV (c :: r) = (k, n, off, code) := ⟨_, _, _, _, rfl⟩
        have hsz := pieceV_size hp (by simp)
        by_cases h0 : code = 0
        · subst h0
          have hs := hsz.1 rfl
          rw [runV_tok _ _ _ _ _ h hp]; exact ih _ _ _ _ _ (by rw [List.length_drop, List.length_cons]; omega)
        · rw [runV_err _ _ _ _ _ h hp h0]
          exact ⟨fun h => absurd h h0, fun _ => rfl⟩
theorem scanV_run (l : List UInt8) (h : ¬ 16384 < l.length) : scanV l = runV l 1 1 false [] := by unfold scanV; rw [if_neg h]; rfl
end Sp
end Go.Proofs.YtjedoipbllcfdaaDoor
