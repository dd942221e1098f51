/-
  PLAIN LEAN, no program in sight: the quoted text of every text (P3.4), and that it says just that text.
-/
import Derived.Test.YtjedoipbllcfdaaDoorSpB
set_option linter.unusedVariables false
set_option linter.unusedSimpArgs false
namespace Go.Proofs.YtjedoipbllcfdaaDoor
namespace Sp

/-- A digit's letter. -/
def hexd (n : Nat) : UInt8 := if n < 10 then (48 + n).toUInt8 else (87 + n).toUInt8
/-- A number's hexadecimal digits, at most k + 1 of them. -/
def hexF : Nat → Nat → List UInt8
  | 0, n => [hexd (n % 16)]
  | k + 1, n => if n < 16 then [hexd n] else hexF k (n / 16) ++ [hexd (n % 16)]
def unseenB (n : Nat) : Bool := decide (128 ≤ n ∧ n ≤ 159 ∨ 8203 ≤ n ∧ n ≤ 8207 ∨ 8232 ≤ n ∧ n ≤ 8238 ∨ n = 65279)
/-- A byte by its number. -/
def byNameV (c : Nat) : List UInt8 := [92, 120, hexd (c / 16), hexd (c % 16)]
/-- One character as the quoted text has it. -/
def writeV (n : Nat) : List UInt8 :=
  if n = 34 then [92, 34] else if n = 92 then [92, 92] else if n = 10 then [92, 110] else if n = 13 then [92, 114] else if n = 9 then [92, 116]
  else if n < 32 ∨ n = 127 then byNameV n
  else if unseenB n then [92, 117, 123] ++ hexF 5 n ++ [125]
  else Lib.encodeRune (n : Nat)
def pieceQ (l : List UInt8) : List UInt8 := if looseB l then byNameV (bt l 0) else writeV (dec l).1
def bodyF : Nat → List UInt8 → List UInt8
  | 0, _ => []
  | _, [] => []
  | f + 1, c :: r => pieceQ (c :: r) ++ bodyF f ((c :: r).drop (dec (c :: r)).2)
def bodyV (l : List UInt8) : List UInt8 := bodyF l.length l
def quoteV (l : List UInt8) : List UInt8 × Nat := if 256 < l.length then ([], 37) else ([34] ++ bodyV l ++ [34], 0)

theorem bodyF_fuel : ∀ (f g : Nat) (l : List UInt8), l.length ≤ f → l.length ≤ g → bodyF f l = bodyF g l
  | 0, g, l, hf, _ => by
    have : l = [] := List.length_eq_zero_iff.1 (by omega)
    subst this
    cases g <;> rfl
  | f + 1, 0, l, _, hg => by
    have : l = [] := List.length_eq_zero_iff.1 (by omega)
    subst this
    rfl
  | f + 1, g + 1, [], _, _ => rfl
  | f + 1, g + 1, c :: r, hf, hg => by
    have hp := dec_pos (c :: r) (by simp)
    simp only [bodyF]
    rw [bodyF_fuel f g _ (by rw [List.length_drop]; simp only [List.length_cons] at *; omega) (by rw [List.length_drop]; simp only [List.length_cons] at *; omega)]
theorem bodyV_cons (c : UInt8) (r : List UInt8) : bodyV (c :: r) = pieceQ (c :: r) ++ bodyV ((c :: r).drop (dec (c :: r)).2) := by
  have hp := dec_pos (c :: r) (by simp)
  unfold bodyV
  show bodyF (r.length + 1) (c :: r) = _
  simp only [bodyF]
  rw [bodyF_fuel r.length _ _ (by rw [List.length_drop]; simp only [List.length_cons]; omega) (Nat.le_refl _)]
theorem bodyV_nil : bodyV [] = [] := rfl

theorem hexd_nat (n : Nat) (h : n < 16) : (hexd n).toNat = if n < 10 then 48 + n else 87 + n := by
  unfold hexd
  split
  · rw [UInt8.toNat_ofNat']; omega
  · rw [UInt8.toNat_ofNat']; omega
theorem hexv_hexd (n : Nat) (h : n < 16) : hexv (hexd n) = n := by
  unfold hexv
  rw [hexd_nat n h]
  split <;> (repeat' split) <;> omega
theorem hexd_ne (n : Nat) (h : n < 16) (c : UInt8) (hc : c.toNat < 48 ∨ 102 < c.toNat) : hexd n ≠ c := by
  intro e
  have := hexd_nat n h
  rw [e] at this
  split at this <;> omega

theorem hexF_all : ∀ k n, (∀ c ∈ hexF k n, hexv c < 16 ∧ c ≠ 125)
  | 0, n => by
    intro c hc
    simp only [hexF, List.mem_singleton] at hc
    subst hc
    exact ⟨by rw [hexv_hexd _ (by omega)]; omega, hexd_ne _ (by omega) _ (by decide)⟩
  | k + 1, n => by
    intro c hc
    simp only [hexF] at hc
    split at hc
    · simp only [List.mem_singleton] at hc
      subst hc
      exact ⟨by rw [hexv_hexd _ (by omega)]; omega, hexd_ne _ (by omega) _ (by decide)⟩
    · rw [List.mem_append] at hc
      rcases hc with hc | hc
      · exact hexF_all k _ c hc
      · simp only [List.mem_singleton] at hc
        subst hc
        exact ⟨by rw [hexv_hexd _ (by omega)]; omega, hexd_ne _ (by omega) _ (by decide)⟩
theorem hexF_len : ∀ k n, 1 ≤ (hexF k n).length ∧ (hexF k n).length ≤ k + 1
  | 0, n => by simp [hexF]
  | k + 1, n => by
    simp only [hexF]
    split
    · simp
    · have := hexF_len k (n / 16)
      simp only [List.length_append, List.length_singleton]
      omega
theorem hexF_val : ∀ k n, n < 16 ^ (k + 1) → digitsV 16 0 (hexF k n) = n
  | 0, n, h => by
    simp only [hexF, digitsV]
    rw [hexv_hexd _ (by omega)]
    simp at h
    omega
  | k + 1, n, h => by
    simp only [hexF]
    split
    · simp only [digitsV]
      rw [hexv_hexd _ (by omega)]
      omega
    · rw [digitsV_append, hexF_val k (n / 16) (by rw [Nat.pow_succ] at h; omega)]
      simp only [digitsV]
      rw [hexv_hexd _ (by omega)]
      omega
theorem basedV_hexF (n : Nat) (h : n < 16777216) : basedV 16 6 (hexF 5 n) = some n := by
  have hl := hexF_len 5 n
  have ha : (hexF 5 n).all (fun c => decide (hexv c < 16)) = true := by
    rw [List.all_eq_true]
    intro c hc
    exact decide_eq_true (hexF_all 5 n c hc).1
  unfold basedV
  have hno : ¬ ((hexF 5 n).length = 0 ∨ 6 < (hexF 5 n).length ∨ (hexF 5 n).all (fun c => decide (hexv c < 16)) = false) := by
    rintro (h1 | h1 | h1)
    · omega
    · omega
    · rw [ha] at h1; cases h1
  rw [if_neg hno, hexF_val 5 n (by simpa using h)]

theorem dec_ext (l x : List UInt8) (hl : l ≠ []) (hg : looseB l = false) : dec (l.take (dec l).2 ++ x) = dec l := by
  have hpos := dec_pos l hl
  have hlen := dec_len l hl
  have e0 : bt (l.take (dec l).2 ++ x) 0 = bt l 0 := by rw [bt_append, if_pos (by rw [List.length_take]; omega), bt_take, if_pos (by omega)]
  rcases dec_cases l hl with g | g | g | g | g
  · unfold dec Lib.decodeN
    unfold dec Lib.decodeN at e0
    rw [e0, if_pos g.1, if_pos g.1]
  · have e : (dec l).2 = 2 := by rw [g.2.2.2.2]
    rw [e] at e0 hlen ⊢
    have e1 : bt (l.take 2 ++ x) 1 = bt l 1 := by rw [bt_append, if_pos (by rw [List.length_take]; omega), bt_take, if_pos (by omega)]
    rw [g.2.2.2.2]
    unfold dec Lib.decodeN
    rw [e0, e1, List.length_append, List.length_take]
    rw [if_neg (by omega), if_pos (by omega), if_pos (by omega)]
  · have e : (dec l).2 = 3 := by rw [g.2.2.2.2.2.2]
    rw [e] at e0 hlen ⊢
    have e1 : bt (l.take 3 ++ x) 1 = bt l 1 := by rw [bt_append, if_pos (by rw [List.length_take]; omega), bt_take, if_pos (by omega)]
    have e2 : bt (l.take 3 ++ x) 2 = bt l 2 := by rw [bt_append, if_pos (by rw [List.length_take]; omega), bt_take, if_pos (by omega)]
    rw [g.2.2.2.2.2.2]
    unfold dec Lib.decodeN
    rw [e0, e1, e2, List.length_append, List.length_take]
    rw [if_neg (by omega), if_neg (by omega), if_pos (by omega), if_pos (by omega)]
  · have e : (dec l).2 = 4 := by rw [g.2.2.2.2.2.2.2]
    rw [e] at e0 hlen ⊢
    have e1 : bt (l.take 4 ++ x) 1 = bt l 1 := by rw [bt_append, if_pos (by rw [List.length_take]; omega), bt_take, if_pos (by omega)]
    have e2 : bt (l.take 4 ++ x) 2 = bt l 2 := by rw [bt_append, if_pos (by rw [List.length_take]; omega), bt_take, if_pos (by omega)]
    have e3 : bt (l.take 4 ++ x) 3 = bt l 3 := by rw [bt_append, if_pos (by rw [List.length_take]; omega), bt_take, if_pos (by omega)]
    rw [g.2.2.2.2.2.2.2]
    unfold dec Lib.decodeN
    rw [e0, e1, e2, e3, List.length_append, List.length_take]
    rw [if_neg (by omega), if_neg (by omega), if_neg (by omega), if_pos (by omega), if_pos (by omega)]
  · exfalso
    simp [looseB, g.2] at hg

theorem bt0_cons (c : UInt8) (r : List UInt8) : bt (c :: r) 0 = c.toNat := rfl
theorem u8_nat (c : UInt8) : c.toNat.toUInt8 = c := by simp

theorem esc_x (a b : UInt8) (r : List UInt8) (n : Nat) (hn : n < 256) : escV (byNameV n ++ r) = some (4, [n.toUInt8]) := by
  show escV (92 :: 120 :: hexd (n / 16) :: hexd (n % 16) :: r) = _
  simp only [escV]
  rw [if_neg (by decide), if_neg (by decide), if_neg (by decide), if_neg (by decide), if_neg (by decide), if_pos trivial]
  rw [hexv_hexd _ (by omega), hexv_hexd _ (by omega), if_pos ⟨by omega, by omega⟩]
  rw [show 16 * (n / 16) + n % 16 = n from by omega]
theorem takeWhile_stop (d r : List UInt8) (h : ∀ c ∈ d, c ≠ 125) : (d ++ 125 :: r).takeWhile (fun x => decide (x ≠ 125)) = d := by
  induction d with
  | nil => simp
  | cons c d ih =>
    rw [List.cons_append, List.takeWhile_cons, if_pos (by simpa using h c (by simp)), ih (fun x hx => h x (by simp [hx]))]
theorem all_stop (d r : List UInt8) : (d ++ 125 :: r).all (fun x => decide (x ≠ 125)) = false := by
  rw [List.all_eq_false]
  exact ⟨125, by simp, by simp⟩
theorem esc_u (r : List UInt8) (n : Nat) (hn : n ≤ 1114111) (hv : n < 55296 ∨ 57343 < n) : escV ([92, 117, 123] ++ hexF 5 n ++ [125] ++ r) = some ((hexF 5 n).length + 4, Lib.encodeRune (n : Nat)) := by
  have e : [92, 117, 123] ++ hexF 5 n ++ [125] ++ r = 92 :: 117 :: 123 :: (hexF 5 n ++ 125 :: r) := by simp
  rw [e]
  simp only [escV]
  rw [if_neg (by decide), if_neg (by decide), if_neg (by decide), if_neg (by decide), if_neg (by decide), if_neg (by decide), if_pos trivial, if_pos trivial]
  have hb : bracedV (hexF 5 n ++ 125 :: r) = some ((hexF 5 n).length + 4, n) := by
    unfold bracedV
    rw [if_neg (by rw [all_stop]; decide), takeWhile_stop _ _ (fun c hc => (hexF_all 5 n c hc).2), basedV_hexF n (by omega)]
    show (if validRune n then _ else _) = _
    rw [if_pos (by unfold validRune; exact decide_eq_true (by omega))]
  rw [hb]

/-- One piece of the quoted text says one character's bytes. -/
theorem speak_piece (f : Nat) (l x said : List UInt8) (i : Nat) (hl : l ≠ []) :
    speakF false (f + 1) (pieceQ l ++ x) i said = speakF false f x (i + (pieceQ l).length) (said ++ l.take (dec l).2) := by
  rcases l with _ | ⟨c, r⟩
  · exact absurd rfl hl
  have hdrop : ∀ (p : List UInt8), (p ++ x).drop p.length = x := fun p => by rw [List.drop_left]
  have esc : ∀ (p b : List UInt8), p.head? = some 92 → escV (p ++ x) = some (p.length, b) → speakF false (f + 1) (p ++ x) i said = speakF false f x (i + p.length) (said ++ b) := by
    intro p b hp he
    rcases p with _ | ⟨a, p⟩
    · cases hp
    · simp only [List.head?_cons, Option.some.injEq] at hp
      subst hp
      rw [List.cons_append] at he ⊢
      simp only [speakF]
      rw [if_neg (by decide), if_pos trivial, he]
      show speakF false f ((92 :: (p ++ x)).drop (92 :: p).length) _ _ = _
      rw [← List.cons_append, hdrop]
  by_cases hg : looseB (c :: r) = true
  · have hd : dec (c :: r) = (65533, 1) := by
      simp only [looseB, Bool.and_eq_true, beq_iff_eq] at hg
      exact Prod.ext hg.1 hg.2
    have hq : pieceQ (c :: r) = byNameV c.toNat := by unfold pieceQ; rw [if_pos hg, bt0_cons]
    rw [hq, hd]
    rw [esc (byNameV c.toNat) [c.toNat.toUInt8] rfl (esc_x 0 0 x _ c.toNat_lt), u8_nat]
    rfl
  · have hg' : looseB (c :: r) = false := by simpa using hg
    have henc := enc_dec (c :: r) hl hg'
    have hmax := dec_max (c :: r) hl
    have hval := dec_valid (c :: r) hl
    have hq : pieceQ (c :: r) = writeV (dec (c :: r)).1 := by unfold pieceQ; rw [if_neg (by rw [hg']; decide)]
    rw [hq, ← henc]
    have hext := dec_ext (c :: r) x hl hg'
    rw [← henc] at hext
    have h128 : (dec (c :: r)).1 < 128 → dec (c :: r) = (c.toNat, 1) := by
      intro h
      rcases Nat.lt_or_ge c.toNat 128 with hc | hc
      · exact dec_ascii c r hc
      · have := dec_high c r hc; omega
    have hch : 128 ≤ (dec (c :: r)).1 → 128 ≤ c.toNat := by
      intro h
      rcases Nat.lt_or_ge c.toNat 128 with hc | hc
      · rw [dec_ascii c r hc] at h; exact h
      · exact hc
    have hloose2 : looseB (Lib.encodeRune ((dec (c :: r)).1 : Nat) ++ x) = false := by unfold looseB; rw [hext]; exact hg'
    have hw2 : (dec (c :: r)).2 = (Lib.encodeRune ((dec (c :: r)).1 : Nat)).length := by
      rw [henc, List.length_take]
      have := dec_len (c :: r) hl
      omega
    have hhead : ∃ t, Lib.encodeRune ((dec (c :: r)).1 : Nat) = c :: t := by
      rw [henc]
      have := dec_pos (c :: r) hl
      obtain ⟨k, hk⟩ : ∃ k, (dec (c :: r)).2 = k + 1 := ⟨(dec (c :: r)).2 - 1, by omega⟩
      rw [hk]
      exact ⟨r.take k, rfl⟩
    generalize hn : (dec (c :: r)).1 = n at *
    unfold writeV
    by_cases h1 : n = 34
    · rw [if_pos h1]
      rw [esc [92, 34] [34] rfl rfl]
      subst h1
      rfl
    rw [if_neg h1]
    by_cases h2 : n = 92
    · rw [if_pos h2]
      rw [esc [92, 92] [92] rfl rfl]
      subst h2
      rfl
    rw [if_neg h2]
    by_cases h3 : n = 10
    · rw [if_pos h3]
      rw [esc [92, 110] [10] rfl rfl]
      subst h3
      rfl
    rw [if_neg h3]
    by_cases h4 : n = 13
    · rw [if_pos h4]
      rw [esc [92, 114] [13] rfl rfl]
      subst h4
      rfl
    rw [if_neg h4]
    by_cases h5 : n = 9
    · rw [if_pos h5]
      rw [esc [92, 116] [9] rfl rfl]
      subst h5
      rfl
    rw [if_neg h5]
    by_cases h6 : n < 32 ∨ n = 127
    · rw [if_pos h6]
      rw [esc (byNameV n) [n.toUInt8] rfl (esc_x 0 0 x n (by omega))]
      have : Lib.encodeRune (n : Nat) = [n.toUInt8] := by
        rw [Lib.encodeRune, Lib.encodeRuneZ_one (by omega) (by omega)]
        simp
      rw [this]
    rw [if_neg h6]
    by_cases h7 : unseenB n = true
    · rw [if_pos h7]
      have hlen : ([92, 117, 123] ++ hexF 5 n ++ [125]).length = (hexF 5 n).length + 4 := by simp
      rw [esc ([92, 117, 123] ++ hexF 5 n ++ [125]) (Lib.encodeRune (n : Nat)) rfl (by rw [esc_u x n hmax hval, hlen])]
    rw [if_neg h7]
    obtain ⟨t, ht⟩ := hhead
    have hc1 : c ≠ 34 ∧ c ≠ 92 ∧ ¬ c.toNat < 32 ∧ ¬ c.toNat = 127 := by
      rcases Nat.lt_or_ge n 128 with h | h
      · have h' := h128 h
        have hcn : c.toNat = n := by
          have := congrArg Prod.fst h'
          simp only [hn] at this
          exact this.symm
        refine ⟨?_, ?_, by omega, by omega⟩
        · rintro rfl; exact h1 hcn.symm
        · rintro rfl; exact h2 hcn.symm
      · have := hch h
        refine ⟨?_, ?_, by omega, by omega⟩
        · rintro rfl; simp at this
        · rintro rfl; simp at this
    rw [ht] at hext hloose2 hw2 ⊢
    rw [List.cons_append] at hext hloose2 ⊢
    simp only [speakF]
    rw [if_neg hc1.1, if_neg hc1.2.1, if_neg (by simp), if_neg (by rw [hloose2]; simp; exact ⟨by omega, hc1.2.2.2⟩), hext, hw2, ← List.cons_append, hdrop, List.take_left]

theorem speak_body : ∀ (m : Nat) (l : List UInt8) (f i : Nat) (said : List UInt8), l.length ≤ m → l.length < f →
    speakF false f (bodyV l ++ [34]) i said = (0, said ++ l, i + (bodyV l).length + 1)
  | m, [], f, i, said, _, hf => by
    obtain ⟨g, rfl⟩ : ∃ g, f = g + 1 := ⟨f - 1, by simp at hf; omega⟩
    rw [bodyV_nil]
    show speakF false (g + 1) (34 :: []) i said = _
    simp [speakF]
  | 0, c :: r, _, _, _, hm, _ => by simp at hm
  | m + 1, c :: r, f, i, said, hm, hf => by
    have hp := dec_pos (c :: r) (by simp)
    have hle := dec_len (c :: r) (by simp)
    obtain ⟨g, rfl⟩ : ∃ g, f = g + 1 := ⟨f - 1, by simp at hf; omega⟩
    rw [bodyV_cons, List.append_assoc, speak_piece g (c :: r) _ said i (by simp)]
    have hl : ((c :: r).drop (dec (c :: r)).2).length = (c :: r).length - (dec (c :: r)).2 := by rw [List.length_drop]
    rw [speak_body m _ g _ _ (by rw [hl]; simp only [List.length_cons] at *; omega) (by rw [hl]; simp only [List.length_cons] at *; omega)]
    rw [List.append_assoc, List.take_append_drop, List.length_append]
    congr 2
    omega

theorem pieceQ_len (l : List UInt8) (hl : l ≠ []) : 1 ≤ (pieceQ l).length ∧ (pieceQ l).length ≤ 10 := by
  have hx := hexF_len 5 (dec l).1
  have he := Lib.runeCells_le ((dec l).1 : Nat)
  rw [Lib.runeCells_length] at he
  unfold pieceQ
  split
  · simp [byNameV]
  · unfold writeV
    repeat' split
    all_goals first | (simp [byNameV]; done) | (simp only [List.length_append, List.length_cons, List.length_nil]; omega) | omega
theorem bodyV_le : ∀ (m : Nat) (l : List UInt8), l.length ≤ m → l.length ≤ 10 * (bodyV l).length ∧ (bodyV l).length ≤ 10 * l.length
  | m, [], _ => by simp [bodyV_nil]
  | 0, c :: r, h => by simp at h
  | m + 1, c :: r, h => by
    have hp := dec_pos (c :: r) (by simp)
    have h4 := dec_le4 (c :: r) (by simp)
    have hle := dec_len (c :: r) (by simp)
    have hq := pieceQ_len (c :: r) (by simp)
    have hl : ((c :: r).drop (dec (c :: r)).2).length = (c :: r).length - (dec (c :: r)).2 := by rw [List.length_drop]
    have ih := bodyV_le m ((c :: r).drop (dec (c :: r)).2) (by rw [hl]; simp only [List.length_cons] at *; omega)
    rw [hl] at ih
    rw [bodyV_cons, List.length_append]
    omega

theorem bodyV_ge : ∀ (m : Nat) (l : List UInt8), l.length ≤ m → l.length ≤ (bodyV l).length
  | m, [], _ => by simp
  | 0, c :: r, h => by simp at h
  | m + 1, c :: r, h => by
    have hp := dec_pos (c :: r) (by simp)
    have hle := dec_len (c :: r) (by simp)
    have hl : ((c :: r).drop (dec (c :: r)).2).length = (c :: r).length - (dec (c :: r)).2 := by rw [List.length_drop]
    have ih := bodyV_ge m ((c :: r).drop (dec (c :: r)).2) (by rw [hl]; simp only [List.length_cons] at *; omega)
    rw [hl] at ih
    have hq : (dec (c :: r)).2 ≤ (pieceQ (c :: r)).length := by
      by_cases hg : looseB (c :: r) = true
      · have h2 := hg
        simp only [looseB, Bool.and_eq_true, beq_iff_eq] at h2
        unfold pieceQ
        rw [if_pos hg, h2.2]
        simp [byNameV]
      · have hg' : looseB (c :: r) = false := by simpa using hg
        have henc := enc_dec (c :: r) (by simp) hg'
        have hw2 : (dec (c :: r)).2 = (Lib.encodeRune ((dec (c :: r)).1 : Nat)).length := by
          rw [henc, List.length_take]; omega
        have h4 := dec_le4 (c :: r) (by simp)
        have hx := hexF_len 5 (dec (c :: r)).1
        unfold pieceQ
        rw [if_neg (by rw [hg']; decide)]
        have h1 : (dec (c :: r)).1 < 128 → (dec (c :: r)).2 = 1 := by
          intro h
          rcases Nat.lt_or_ge c.toNat 128 with hc | hc
          · rw [dec_ascii c r hc]
          · have := dec_high c r hc; omega
        unfold writeV
        repeat' split
        all_goals first | (simp [byNameV]; omega) | (simp only [List.length_append, List.length_cons, List.length_nil]; omega) | omega
    rw [bodyV_cons, List.length_append]
    simp only [List.length_cons] at *
    omega

/-- P3.6: what a quoted text of at most 256 bytes says is that text. -/
theorem unquote_quote (l : List UInt8) (h : l.length ≤ 256) : unquoteV ([34] ++ bodyV l ++ [34]) = (l, 0, 0) := by
  have hb := bodyV_le l.length l (Nat.le_refl _)
  have hge := bodyV_ge l.length l (Nat.le_refl _)
  have hlen : ([34] ++ bodyV l ++ [34] : List UInt8).length = (bodyV l).length + 2 := by simp
  have hs : speakV false ([34] ++ bodyV l ++ [34]) = (0, l, (bodyV l).length + 2) := by
    unfold speakV
    rw [hlen]
    show speakF false ((bodyV l).length + 2) (bodyV l ++ [34]) 1 [] = _
    rw [speak_body l.length l _ 1 [] (Nat.le_refl _) (by omega)]
    simp
    omega
  unfold unquoteV
  rw [if_neg (by rw [hlen]; omega), if_neg (by simp), hs]
  simp only []
  rw [if_neg (by simp), if_neg (by rw [hlen]; simp), if_neg (by omega)]

end Sp
end Go.Proofs.YtjedoipbllcfdaaDoor
