/-
  Texts joined: Pc Pd Qa Qb Ea Qc Qd Eb Ed Es Ja.
-/
import Derived.Test.YtgikgppblkpojaaDoorPb

/-
  PLAIN LEAN, no program in sight: a quoted text is one token without control characters.
-/
set_option linter.unusedVariables false
set_option linter.unusedSimpArgs false
set_option maxHeartbeats 4000000
namespace Go.Proofs.YtgikgppblkpojaaDoor
namespace Sp

def Clean (l : List UInt8) : Prop := ∀ c ∈ l, 32 ≤ c.toNat ∧ c.toNat ≠ 127
theorem Clean.append {a b : List UInt8} (h : Clean a) (h2 : Clean b) : Clean (a ++ b) := by
  intro c hc
  rcases List.mem_append.1 hc with h' | h'
  · exact h c h'
  · exact h2 c h'
theorem enc_clean (n : Nat) (h : 32 ≤ n) (h2 : n ≠ 127) : Clean (Lib.encodeRune (n : Int)) := by
  intro c hc
  unfold Lib.encodeRune at hc
  obtain ⟨z, hz, rfl⟩ := List.mem_map.1 hc
  have key : 32 ≤ z ∧ z ≠ 127 ∧ z < 256 := by
    unfold Lib.encodeRuneZ at hz
    split at hz
    · rw [List.mem_singleton] at hz; omega
    split at hz
    · simp only [List.mem_cons, List.not_mem_nil, or_false] at hz; omega
    split at hz
    · simp only [List.mem_cons, List.not_mem_nil, or_false] at hz; omega
    split at hz
    · simp only [List.mem_cons, List.not_mem_nil, or_false] at hz; omega
    · simp only [List.mem_cons, List.not_mem_nil, or_false] at hz; omega
  rw [show z.toNat.toUInt8 = UInt8.ofNat z.toNat from rfl, UInt8.toNat_ofNat']
  omega
theorem hexd_clean (n : Nat) (h : n < 16) : 32 ≤ (hexd n).toNat ∧ (hexd n).toNat ≠ 127 := by
  rw [hexd_nat n h]
  split <;> omega
theorem hexF_clean : ∀ k n, Clean (hexF k n)
  | 0, n => by
    intro c hc
    unfold hexF at hc
    rw [List.mem_singleton] at hc
    subst hc
    exact hexd_clean _ (by omega)
  | k + 1, n => by
    unfold hexF
    split
    · intro c hc
      rw [List.mem_singleton] at hc
      subst hc
      exact hexd_clean _ (by omega)
    · refine (hexF_clean k (n / 16)).append ?_
      intro c hc
      rw [List.mem_singleton] at hc
      subst hc
      exact hexd_clean _ (by omega)
theorem byName_clean (n : Nat) (h : n < 256) : Clean (byNameV n) := by
  intro c hc
  unfold byNameV at hc
  simp only [List.mem_cons, List.not_mem_nil, or_false] at hc
  rcases hc with rfl | rfl | rfl | rfl
  · decide
  · decide
  · exact hexd_clean _ (by omega)
  · exact hexd_clean _ (by omega)
theorem write_clean (n : Nat) : Clean (writeV n) := by
  have two : ∀ a b : UInt8, 32 ≤ a.toNat ∧ a.toNat ≠ 127 → 32 ≤ b.toNat ∧ b.toNat ≠ 127 → Clean [a, b] := by
    intro a b ha hb c hc
    simp only [List.mem_cons, List.not_mem_nil, or_false] at hc
    rcases hc with rfl | rfl
    · exact ha
    · exact hb
  unfold writeV
  split
  · exact two _ _ (by decide) (by decide)
  split
  · exact two _ _ (by decide) (by decide)
  split
  · exact two _ _ (by decide) (by decide)
  split
  · exact two _ _ (by decide) (by decide)
  split
  · exact two _ _ (by decide) (by decide)
  split
  · rename_i h
    exact byName_clean n (by omega)
  split
  · refine Clean.append (Clean.append ?_ (hexF_clean 5 n)) ?_
    · intro c hc
      simp only [List.mem_cons, List.not_mem_nil, or_false] at hc
      rcases hc with rfl | rfl | rfl <;> decide
    · intro c hc
      simp only [List.mem_cons, List.not_mem_nil, or_false] at hc
      subst hc
      decide
  · rename_i h _
    exact enc_clean n (by omega) (by omega)
theorem body_clean : ∀ (f : Nat) (l : List UInt8), Clean (bodyF f l)
  | 0, _ => fun c hc => by cases hc
  | f + 1, [] => fun c hc => by cases hc
  | f + 1, c :: r => by
    rw [bodyF]
    refine Clean.append ?_ (body_clean f _)
    unfold pieceQ
    split
    · exact byName_clean _ (bt_lt _ _)
    · exact write_clean _
theorem quote_clean (l : List UInt8) : Clean ([34] ++ bodyV l ++ [34]) := by
  have h34 : Clean [34] := by
    intro c hc
    rw [List.mem_singleton] at hc
    subst hc
    decide
  exact (h34.append (body_clean _ _)).append h34

/-- What Unquote reads wholly is what speak says of it. -/
theorem unquote_speak {q l : List UInt8} (h : unquoteV q = (l, 0, 0)) (hq : q.length ≤ 16384) : speakV false q = (0, l, q.length) ∧ l.length ≤ 256 ∧ q.head? = some 34 := by
  unfold unquoteV at h
  rw [if_neg (by omega)] at h
  split at h
  · simp at h
  rename_i hh
  have hh' : q.head? = some 34 := by simpa using hh
  simp only [] at h
  split at h
  · rename_i hne
    simp only [Prod.mk.injEq] at h
    exact absurd h.2.1 hne
  rename_i h0
  split at h
  · simp at h
  rename_i hp
  split at h
  · simp at h
  rename_i hl
  simp only [Prod.mk.injEq] at h
  have hcl : classV q = 8 := by
    match q, hh' with
    | c :: r, hh' =>
      injection hh' with e
      subst e
      rfl
  obtain ⟨c, b, p, hs⟩ : ∃ c b p, speakV false q = (c, b, p) := ⟨_, _, _, rfl⟩
  have hbd := (speakV_bd hcl hs).1.le
  rw [hs] at h h0 hp hl
  simp only [] at h h0 hp hl
  refine ⟨?_, by rw [← h.1]; omega, hh'⟩
  rw [hs]
  have e1 : c = 0 := by omega
  have e2 : p = q.length := by omega
  rw [e1, e2, h.1]

/-- A text that is wholly a quoted one without control characters: one token. -/
theorem scan_one_quote {q l : List UInt8} (h : unquoteV q = (l, 0, 0)) (hq : q.length ≤ 16384) (hc : Clean q) : ∃ col, scanV q = ([(6, q, 1, 1), (1, [10], 1, col)], 0, 0, 0) := by
  obtain ⟨hs, hl, hh⟩ := unquote_speak h hq
  have hno : NoNl q := fun c hcq e => by
    have := hc c hcq
    rw [e] at this
    exact absurd this.1 (by decide)
  rw [← speakV_lines q hno] at hs
  match q, hh, hs, hq, hno with
  | c :: r, hh, hs, hq, hno =>
    injection hh with e
    subst e
    have hcl : classV (34 :: r) = 8 := rfl
    have hp : pieceV (34 :: r) = (6, (34 :: r).length, 0, 0) := by
      unfold pieceV
      rw [hcl, if_neg (by omega), if_neg (by omega), if_neg (by omega), if_pos rfl, hs]
      simp only []
      rw [if_neg (by omega), if_neg (by omega)]
    rw [scanV_run _ (by omega), runV_tok r 1 1 false [] (by unfold PieceAt; decide) hp, List.take_length, List.drop_length, runV_nil]
    exact ⟨_, rfl⟩
end Sp
end Go.Proofs.YtgikgppblkpojaaDoor

/-
  PLAIN LEAN, no program in sight: every token stands in the text at its place, and nothing but blanks and comments is left out.
-/
set_option linter.unusedVariables false
set_option linter.unusedSimpArgs false
set_option maxHeartbeats 4000000
namespace Go.Proofs.YtgikgppblkpojaaDoor
namespace Sp

theorem dec_is (c : UInt8) (r : List UInt8) (n : Nat) (hn : n < 128) : (dec (c :: r)).1 = n ↔ c.toNat = n := by
  rcases Nat.lt_or_ge c.toNat 128 with h | h
  · rw [dec_ascii c r h]
  · have := dec_high c r h
    omega
/-- Line and column behind a character. -/
def stpL (c line : Nat) : Nat := if c = 10 then line + 1 else line
def stpC (c col : Nat) : Nat := if c = 10 then 1 else col + 1
/-- From a place of that line and column, p bytes further on, character by character. -/
inductive At : List UInt8 → Nat → Nat → Nat → Nat → Nat → Prop
  | zero (l : List UInt8) (line col : Nat) : At l line col 0 line col
  | step (l : List UInt8) (line col p line' col' : Nat) (h : l ≠ []) (r : At (l.drop (dec l).2) (stpL (dec l).1 line) (stpC (dec l).1 col) p line' col') : At l line col ((dec l).2 + p) line' col'
theorem At.trans {l : List UInt8} {a b p c d : Nat} (h : At l a b p c d) : ∀ {q e f : Nat}, At (l.drop p) c d q e f → At l a b (p + q) e f := by
  induction h with
  | zero l line col => intro q e f h2; simpa using h2
  | step l line col p line' col' h r ih =>
    intro q e f h2
    rw [Nat.add_assoc]
    refine At.step l line col _ _ _ h (ih ?_)
    rw [List.drop_drop]
    exact h2
theorem At.lex {l : List UInt8} {a b p c d : Nat} (h : At l a b p c d) : (p = 0 ∧ a = c ∧ b = d) ∨ (0 < p ∧ (a < c ∨ (a = c ∧ b < d))) := by
  induction h with
  | zero l line col => exact Or.inl ⟨rfl, rfl, rfl⟩
  | step l line col p line' col' h r ih =>
    have := dec_pos l h
    right
    refine ⟨by omega, ?_⟩
    unfold stpL stpC at ih
    by_cases h10 : (dec l).1 = 10
    · rw [if_pos h10, if_pos h10] at ih
      omega
    · rw [if_neg h10, if_neg h10] at ih
      omega
theorem At.le {l : List UInt8} {a b p c d : Nat} (h : At l a b p c d) : p ≤ l.length := by
  induction h with
  | zero l line col => omega
  | step l line col p line' col' h r ih =>
    have := dec_len l h
    rw [List.length_drop] at ih
    omega
theorem At.inv {l : List UInt8} {a b p c d : Nat} (h : At l a b p c d) (hp : 0 < p) : l ≠ [] ∧ ∃ q, p = (dec l).2 + q ∧ At (l.drop (dec l).2) (stpL (dec l).1 a) (stpC (dec l).1 b) q c d := by
  cases h with
  | zero => omega
  | step _ _ _ q _ _ hne r => exact ⟨hne, q, rfl, r⟩
/-- On one line. -/
theorem At.of_bd {l : List UInt8} {n : Nat} (h : Bd l n) (line : Nat) : ∀ (col : Nat), NoNl (l.take n) → At l line col n line (col + chars (l.take n)) := by
  induction h with
  | zero l => intro col _; simpa [chars_nil] using At.zero l line col
  | step l i h hb ih =>
    intro col hno
    have hp := dec_pos l h
    have hl : 0 < l.length := List.length_pos_iff.2 h
    have hne : l.take ((dec l).2 + i) ≠ [] := by
      intro e
      have := congrArg List.length e
      rw [List.length_take, List.length_nil] at this
      omega
    have hch : chars (l.take ((dec l).2 + i)) = chars ((l.drop (dec l).2).take i) + 1 := by
      rw [chars_step _ hne, dec_take l h _ (by omega), List.drop_take]
      congr 3
      omega
    have h10 : (dec l).1 ≠ 10 := by
      match l, h with
      | c :: r, _ =>
        intro e
        have := (dec_is c r 10 (by omega)).1 e
        refine hno c ?_ (UInt8.toNat_inj.1 this)
        obtain ⟨k, hk⟩ : ∃ k, (dec (c :: r)).2 + i = k + 1 := ⟨(dec (c :: r)).2 + i - 1, by omega⟩
        rw [hk, List.take_succ_cons]
        exact List.mem_cons_self
    have hno2 : NoNl ((l.drop (dec l).2).take i) := by
      intro c hc
      refine hno c ?_
      rw [List.take_drop] at hc
      exact List.mem_of_mem_drop hc
    have := ih (col + 1) hno2
    have h3 : At (l.drop (dec l).2) (stpL (dec l).1 line) (stpC (dec l).1 col) i line (col + chars (l.take ((dec l).2 + i))) := by
      unfold stpL stpC
      rw [if_neg h10, if_neg h10, hch]
      have e : col + (chars ((l.drop (dec l).2).take i) + 1) = col + 1 + chars ((l.drop (dec l).2).take i) := by omega
      rw [e]
      exact this
    exact At.step l line col i _ _ h h3
theorem At.nl (r : List UInt8) (line col : Nat) : At (10 :: r) line col 1 (line + 1) 1 := by
  have hd := dec_ascii 10 r (by decide)
  have h := At.step (10 :: r) line col 0 (line + 1) 1 (by simp) (by
    rw [hd]
    unfold stpL stpC
    exact At.zero _ _ _)
  rw [hd] at h
  exact h

/-- Blanks, comments and ends of lines alone: whether a comment is open behind them; none: something else. -/
def idF : Bool → List UInt8 → Option Bool
  | c, [] => some c
  | c, b :: r => if b.toNat = 10 then idF false r else if b.toNat = 35 then idF true r else if c = false ∧ blankB b = false then none else idF c r
theorem idF_cons (c : Bool) (b : UInt8) (r : List UInt8) : idF c (b :: r) = if b.toNat = 10 then idF false r else if b.toNat = 35 then idF true r else if c = false ∧ blankB b = false then none else idF c r := rfl
theorem idF_append : ∀ (c : Bool) (a b : List UInt8), idF c (a ++ b) = (idF c a).bind fun c' => idF c' b
  | c, [], b => rfl
  | c, x :: a, b => by
    rw [List.cons_append, idF_cons, idF_cons]
    split
    · exact idF_append false a b
    split
    · exact idF_append true a b
    split
    · rfl
    · exact idF_append c a b
theorem idF_com : ∀ (l : List UInt8), NoNl l → idF true l = some true
  | [], _ => rfl
  | b :: r, h => by
    rw [idF_cons, if_neg (show ¬ b.toNat = 10 from fun e => h.head (UInt8.toNat_inj.1 e))]
    split
    · exact idF_com r h.tail
    · rw [if_neg (fun e => by cases e.1)]
      exact idF_com r h.tail
def idleV (l : List UInt8) (follows : Bool) : Bool := match idF false l with | none => false | some c => !follows || !c

/-- The tokens stand where they say, from a state on. -/
inductive Pl (T : List UInt8) : Option Nat → Nat → Nat → Nat → Nat → List Tok → Prop
  | done (pl : Option Nat) (fr at_ sl sc : Nat) (h0 : fr ≤ T.length) (h : idleV (T.drop fr) false = true) : Pl T pl fr at_ sl sc []
  | tok (pl : Option Nat) (fr at_ sl sc : Nat) (k : Nat) (x : List UInt8) (ln cl d fr' : Nat) (ts : List Tok)
      (h1 : At (T.drop at_) sl sc d ln cl) (h2 : fr ≤ at_ + d) (h2' : at_ + d ≤ T.length) (h3 : idleV ((T.take (at_ + d)).drop fr) (k != 1) = true)
      (h4 : k = 1 → pl = some ln ∧ x = [10]) (h5 : fr' = if k = 1 ∧ at_ + d = T.length then at_ + d else at_ + d + x.length) (h6 : fr' ≤ T.length)
      (h7 : at_ + d < T.length → (T.take fr').drop (at_ + d) = x) (hr : Pl T (some ln) fr' (at_ + d) ln cl ts) : Pl T pl fr at_ sl sc ((k, x, ln, cl) :: ts)

theorem runV_acc (l : List UInt8) (line col : Nat) (op : Bool) (acc : List Tok) (h : (runV l line col op []).2.1 = 0) : (runV l line col op acc).1 = acc ++ (runV l line col op []).1 ∧ (runV l line col op acc).2.1 = 0 := by
  have hd := runV_down acc 0 _ l line col op [] (Nat.le_refl _)
  rw [List.map_nil, List.append_nil, Nat.add_zero] at hd
  rw [hd]
  unfold downR
  rw [if_neg (by rw [h]; simp)]
  have hm : (runV l line col op []).1.map (downT 0) = (runV l line col op []).1 := by
    conv => rhs; rw [← List.map_id (runV l line col op []).1]
    apply List.map_congr_left
    intro t _
    rfl
  rw [hm]
  exact ⟨rfl, rfl⟩
theorem runV_acc_err (l : List UInt8) (line col : Nat) (op : Bool) (acc : List Tok) (h : (runV l line col op acc).2.1 = 0) : (runV l line col op []).2.1 = 0 := by
  have hd := runV_down acc 0 _ l line col op [] (Nat.le_refl _)
  rw [List.map_nil, List.append_nil, Nat.add_zero] at hd
  rw [hd] at h
  unfold downR at h
  by_cases h0 : (runV l line col op []).2.1 = 0
  · exact h0
  · rw [if_pos h0] at h
    exact h

/-- What lies between is idle so far; in a comment only at a line's end. -/
def Idl (T : List UInt8) (fr p : Nat) : Prop := ∃ c, idF false ((T.take p).drop fr) = some c ∧ (c = true → T.drop p = [] ∨ (T.drop p).head? = some 10)
theorem take_split (T : List UInt8) (fr p n : Nat) (h : fr ≤ p) (hp : p ≤ T.length) : (T.take (p + n)).drop fr = (T.take p).drop fr ++ (T.drop p).take n := by
  rw [List.take_add, List.drop_append_of_le_length (by rw [List.length_take]; omega)]
theorem Idl.more {T : List UInt8} {fr p n : Nat} (h : Idl T fr p) (hf : fr ≤ p) (hp : p ≤ T.length) {c : Bool} (hno : T.drop p ≠ [] ) (hn10 : (T.drop p).head? ≠ some 10) (hi : idF false ((T.drop p).take n) = some c) (hc : c = true → T.drop (p + n) = [] ∨ (T.drop (p + n)).head? = some 10) : Idl T fr (p + n) := by
  obtain ⟨c0, h1, h2⟩ := h
  have : c0 = false := by
    cases c0 with
    | false => rfl
    | true =>
      rcases h2 rfl with h3 | h3
      · exact absurd h3 hno
      · exact absurd h3 hn10
  subst this
  refine ⟨c, ?_, hc⟩
  rw [take_split T fr p n hf hp, idF_append, h1]
  exact hi

theorem com_stop (l : List UInt8) : l.drop (comV l) = [] ∨ (l.drop (comV l)).head? = some 10 := by
  rcases Nat.lt_or_ge (comV l) l.length with h | h
  · right
    have hs := tw_stop (fun x => decide (x ≠ 10)) l h
    have e : (l.takeWhile (fun x => decide (x ≠ 10))).length = comV l := rfl
    rw [e] at hs
    rw [List.head?_drop, List.getElem?_eq_getElem h]
    rw [List.getD_eq_getElem?_getD, List.getElem?_eq_getElem h] at hs
    simpa using hs
  · left; exact List.drop_eq_nil_of_le h
theorem com_bd (l : List UInt8) : Bd l (comV l) ∧ NoNl (l.take (comV l)) := by
  have hno : NoNl (l.take (comV l)) := by
    have := line1_take l (k := comV l) (Nat.le_refl _)
    rw [this]
    exact (line1_no _).take _
  refine ⟨?_, hno⟩
  have hle := comV_le l
  have hf := Bd.full (l.take (comV l))
  rw [List.length_take, Nat.min_eq_left hle] at hf
  have ha := hf.append (l.drop (comV l)) (by
    rcases com_stop l with h | h
    · rw [h]; decide
    · cases hd : l.drop (comV l) with
      | nil => rw [hd] at h; cases h
      | cons c r =>
        rw [hd] at h
        injection h with h
        subst h
        rw [bt_cons0]
        decide)
  rw [List.take_append_drop] at ha
  exact ha

theorem run_placed (T : List UInt8) : ∀ (m p line col : Nat) (op : Bool) (pl : Option Nat) (fr at_ sl sc : Nat), T.length - p ≤ m → p ≤ T.length → fr ≤ p → at_ ≤ p → At (T.drop at_) sl sc (p - at_) line col → Idl T fr p → (op = true → pl = some line) →
    (runV (T.drop p) line col op []).2.1 = 0 → Pl T pl fr at_ sl sc (runV (T.drop p) line col op []).1 := by
  intro m
  have hnil : ∀ (p line col : Nat) (op : Bool) (pl : Option Nat) (fr at_ sl sc : Nat), T.drop p = [] → p ≤ T.length → fr ≤ p → at_ ≤ p → At (T.drop at_) sl sc (p - at_) line col → Idl T fr p → (op = true → pl = some line) → Pl T pl fr at_ sl sc (runV (T.drop p) line col op []).1 := by
    intro p line col op pl fr at_ sl sc hd hp hf ha hAt hI hop
    have hpl : p = T.length := by
      have := congrArg List.length hd
      rw [List.length_drop, List.length_nil] at this
      omega
    rw [hd, runV_nil]
    unfold endT
    obtain ⟨c0, h1, h2⟩ := hI
    cases op with
    | true =>
      simp only [if_true, List.nil_append]
      have hin : idleV ((T.take (at_ + (p - at_))).drop fr) (1 != 1) = true := by
        rw [show at_ + (p - at_) = p by omega]
        unfold idleV
        rw [h1]
        rfl
      refine Pl.tok pl fr at_ sl sc 1 [10] line col (p - at_) p [] hAt (by omega) (by omega) hin (fun _ => ⟨hop rfl, rfl⟩) (by rw [if_pos ⟨rfl, by omega⟩]; omega) hp (fun h => by omega) ?_
      refine Pl.done _ _ _ _ _ hp ?_
      rw [hd]
      rfl
    | false =>
      simp only [Bool.false_eq_true, if_false]
      refine Pl.done _ _ _ _ _ (by omega) ?_
      have e : T.drop fr = (T.take p).drop fr := by rw [hpl, List.take_length]
      rw [e]
      unfold idleV
      rw [h1]
      rfl
  induction m with
  | zero =>
    intro p line col op pl fr at_ sl sc hm hp hf ha hAt hI hop hr
    exact hnil p line col op pl fr at_ sl sc (List.drop_eq_nil_of_le (by omega)) hp hf ha hAt hI hop
  | succ m ih =>
    intro p line col op pl fr at_ sl sc hm hp hf ha hAt hI hop hr
    cases hd : T.drop p with
    | nil => rw [← hd]; exact hnil p line col op pl fr at_ sl sc hd hp hf ha hAt hI hop
    | cons c r =>
      have hlt : p < T.length := by
        rcases Nat.lt_or_ge p T.length with h | h
        · exact h
        · rw [List.drop_eq_nil_of_le h] at hd; cases hd
      have hr1 : T.drop (p + 1) = r := by rw [← List.drop_drop, hd]; rfl
      have hne : T.drop p ≠ [] := by rw [hd]; simp
      have hlen : (T.drop p).length = T.length - p := List.length_drop
      rw [hd] at hr
      rcases run_cases c with h | h | h | h
      · have h10 : c = 10 := by
          unfold classB at h
          repeat' split at h
          all_goals first | contradiction | exact UInt8.toNat_inj.1 ‹_› | skip
        subst h10
        have hA1 : At (T.drop p) line col 1 (line + 1) 1 := by rw [hd]; exact At.nl r line col
        rw [runV_nl _ _ _ _ _ h] at hr ⊢
        cases op with
        | true =>
          have hr0 := runV_acc_err _ _ _ _ _ hr
          rw [(runV_acc _ _ _ _ _ hr0).1]
          unfold endT
          simp only [if_true, List.nil_append]
          obtain ⟨c0, h1, h2⟩ := hI
          have hin : idleV ((T.take (at_ + (p - at_))).drop fr) (1 != 1) = true := by
            rw [show at_ + (p - at_) = p by omega]
            unfold idleV
            rw [h1]
            rfl
          have htk : (T.take (p + 1)).drop (at_ + (p - at_)) = [10] := by
            rw [show at_ + (p - at_) = p by omega, List.drop_take, hd, show p + 1 - p = 1 by omega]
            rfl
          show Pl T pl fr at_ sl sc ((1, [10], line, col) :: _)
          refine Pl.tok pl fr at_ sl sc 1 [10] line col (p - at_) (p + 1) _ hAt (by omega) (by omega) hin (fun _ => ⟨hop rfl, rfl⟩) (by rw [if_neg (by rintro ⟨_, e⟩; omega)]; show p + 1 = _ + 1; omega) (by omega) (fun _ => htk) ?_
          rw [show at_ + (p - at_) = p by omega, ← hr1]
          refine ih (p + 1) (line + 1) 1 false (some line) (p + 1) p line col (by omega) (by omega) (by omega) (by omega) (by rw [show p + 1 - p = 1 by omega]; exact hA1) ⟨false, by rw [List.drop_eq_nil_of_le (by rw [List.length_take]; omega)]; rfl, fun h => by cases h⟩ (fun h => by cases h) ?_
          rw [hr1]
          exact hr0
        | false =>
          have e0 : endT false [] line col = [] := rfl
          rw [e0] at hr ⊢
          rw [← hr1] at hr ⊢
          obtain ⟨c0, h1, h2⟩ := hI
          have hI2 : Idl T fr (p + 1) := by
            refine ⟨false, ?_, fun h => by cases h⟩
            rw [take_split T fr p 1 hf hp, idF_append, h1, hd]
            rfl
          refine ih (p + 1) (line + 1) 1 false pl fr at_ sl sc (by omega) (by omega) (by omega) (by omega) ?_ hI2 (fun h => by cases h) hr
          have := hAt.trans (q := 1) (e := line + 1) (f := 1) (by rw [List.drop_drop, show at_ + (p - at_) = p by omega]; exact hA1)
          rw [show p - at_ + 1 = p + 1 - at_ by omega] at this
          exact this
      · have hc10 : c ≠ 10 := by rintro rfl; rw [classB_10] at h; omega
        have hbl : blankB c = true := by
          unfold classB at h
          split at h
          · assumption
          repeat' split at h
          all_goals omega
        have h128 : c.toNat < 128 := by
          unfold blankB at hbl
          simp only [decide_eq_true_eq] at hbl
          omega
        have h35 : c.toNat ≠ 35 := by
          unfold blankB at hbl
          simp only [decide_eq_true_eq] at hbl
          omega
        have hh10 : (T.drop p).head? ≠ some 10 := by rw [hd]; intro e; injection e with e; exact hc10 e
        have hid : idF false ((T.drop p).take 1) = some false := by
          rw [hd]
          show idF false [c] = _
          rw [idF_cons, if_neg (show ¬ c.toNat = 10 from fun e => hc10 (UInt8.toNat_inj.1 e)), if_neg h35, if_neg (fun e => by rw [hbl] at e; cases e.2)]
          rfl
        have hI2 := hI.more hf hp hne hh10 hid (fun e => by cases e)
        have hb1 : Bd (T.drop p) 1 := by
          rw [hd]
          exact Bd.ascii 1 _ (by simp) (fun k hk => by
            have : k = 0 := by omega
            subst this
            rw [bt_cons0]; exact h128)
        have hch : chars ((T.drop p).take 1) = 1 := by
          rw [hd]
          exact chars_ascii 1 _ (by simp) (fun k hk => by
            have : k = 0 := by omega
            subst this
            rw [bt_cons0]; exact h128)
        have hno : NoNl ((T.drop p).take 1) := by
          rw [hd]
          intro x hx
          have : x = c := by simpa using hx
          rw [this]; exact hc10
        have hA1 := At.of_bd hb1 line col hno
        rw [hch] at hA1
        rw [runV_blank _ _ _ _ _ h, ← hr1] at hr ⊢
        refine ih (p + 1) line (col + 1) op pl fr at_ sl sc (by omega) (by omega) (by omega) (by omega) ?_ hI2 hop hr
        have := hAt.trans (q := 1) (e := line) (f := col + 1) (by rw [List.drop_drop, show at_ + (p - at_) = p by omega]; exact hA1)
        rw [show p - at_ + 1 = p + 1 - at_ by omega] at this
        exact this
      · have hc10 : c ≠ 10 := by rintro rfl; rw [classB_10] at h; omega
        have h35 : c.toNat = 35 := by
          unfold classB at h
          repeat' split at h
          all_goals first | omega | assumption
        have hpos := comV_pos (c := c) r (by omega)
        have hle := comV_le (c :: r)
        have hcb := com_bd (c :: r)
        have hst := com_stop (c :: r)
        rw [hd] at hlen
        have hh10 : (T.drop p).head? ≠ some 10 := by rw [hd]; intro e; injection e with e; exact hc10 e
        have hid : idF false ((T.drop p).take (comV (c :: r))) = some true := by
          rw [hd, hpos, List.take_succ_cons]
          rw [idF_cons, if_neg (by omega), if_pos h35]
          have := hcb.2
          rw [hpos, List.take_succ_cons] at this
          exact idF_com _ this.tail
        have hI2 := hI.more hf hp hne hh10 hid (fun _ => by rw [← List.drop_drop, hd]; exact hst)
        have hA1 := At.of_bd hcb.1 line col hcb.2
        rw [runV_hash _ _ _ _ _ h] at hr ⊢
        have e2 : (c :: r).drop (comV (c :: r)) = T.drop (p + comV (c :: r)) := by rw [← List.drop_drop, hd]
        rw [e2] at hr ⊢
        refine ih (p + comV (c :: r)) line _ op pl fr at_ sl sc (by omega) (by omega) (by omega) (by omega) ?_ hI2 hop hr
        have := hAt.trans (q := comV (c :: r)) (e := line) (f := col + chars ((c :: r).take (comV (c :: r)))) (by rw [List.drop_drop, show at_ + (p - at_) = p by omega, hd]; exact hA1)
        rw [show p - at_ + comV (c :: r) = p + comV (c :: r) - at_ by omega] at this
        exact this
      · have hc10 := h.ne
        have hh10 : (T.drop p).head? ≠ some 10 := by rw [hd]; intro e; injection e with e; exact hc10 e
        obtain ⟨k, n, off, code, hp'⟩ : ∃ k n off code, pieceV (c :: r) = (k, n, off, code) := ⟨_, _, _, _, rfl⟩
        have hsz := pieceV_size hp' (by simp)
        have hnl := piece_noNl hc10 hp'
        by_cases h0 : code = 0
        · subst h0
          have hs := hsz.1 rfl
          have hl := hs.2.1.le
          rw [hd] at hlen
          rw [runV_tok _ _ _ _ _ h hp'] at hr ⊢
          have hr0 := runV_acc_err _ _ _ _ _ hr
          rw [(runV_acc _ _ _ _ _ hr0).1]
          obtain ⟨c0, h1, h2⟩ := hI
          have hc0 : c0 = false := by
            cases c0 with
            | false => rfl
            | true =>
              rcases h2 rfl with h3 | h3
              · exact absurd h3 hne
              · exact absurd h3 hh10
          subst hc0
          have hin : idleV ((T.take (at_ + (p - at_))).drop fr) (k != 1) = true := by
            rw [show at_ + (p - at_) = p by omega]
            unfold idleV
            rw [h1]
            simp
          have hno2 : NoNl ((c :: r).take n) := by rw [line1_take _ hnl.1]; exact (line1_no _).take _
          have hA1 := At.of_bd hs.2.1 line col hno2
          have hxl : ((c :: r).take n).length = n := by rw [List.length_take]; omega
          have htk : (T.take (p + n)).drop (at_ + (p - at_)) = (c :: r).take n := by
            rw [show at_ + (p - at_) = p by omega, List.drop_take, hd, show p + n - p = n by omega]
          have e2 : (c :: r).drop n = T.drop (p + n) := by rw [← List.drop_drop, hd]
          show Pl T pl fr at_ sl sc ((k, (c :: r).take n, line, col) :: _)
          refine Pl.tok pl fr at_ sl sc k _ line col (p - at_) (p + n) _ hAt (by omega) (by omega) hin (fun h => by omega) (by rw [if_neg (by omega), hxl]; omega) (by omega) (fun _ => htk) ?_
          rw [show at_ + (p - at_) = p by omega, e2]
          refine ih (p + n) line _ true (some line) (p + n) p line col (by omega) (by omega) (by omega) (by omega) (by rw [show p + n - p = n by omega, hd]; exact hA1) ⟨false, by rw [List.drop_eq_nil_of_le (by rw [List.length_take]; omega)]; rfl, fun h => by cases h⟩ (fun _ => rfl) ?_
          rw [← e2]
          exact hr0
        · rw [runV_err _ _ _ _ _ h hp' h0] at hr
          exact absurd hr h0

theorem scan_placed (T : List UInt8) (h : (scanV T).2.1 = 0) : Pl T none 0 0 1 1 (scanV T).1 := by
  by_cases hl : 16384 < T.length
  · unfold scanV at h
    rw [if_pos hl] at h
    cases h
  · rw [scanV_run T hl] at h ⊢
    have := run_placed T _ 0 1 1 false none 0 0 1 1 (Nat.le_refl _) (by omega) (by omega) (by omega) (At.zero _ _ _) ⟨false, by simp [idF], fun h => by cases h⟩ (fun h => by cases h)
    rw [List.drop_zero] at this
    exact this h
end Sp
end Go.Proofs.YtgikgppblkpojaaDoor

namespace Go.Proofs.YtgikgppblkpojaaDoor
namespace Sp
theorem At.bnd {l : List UInt8} {a b p c d : Nat} (h : At l a b p c d) : c ≤ a + p ∧ (d ≤ b + p ∨ d ≤ p) := by
  induction h with
  | zero l line col => exact ⟨by omega, Or.inl (by omega)⟩
  | step l line col p line' col' h r ih =>
    have := dec_pos l h
    unfold stpL stpC at ih
    by_cases h10 : (dec l).1 = 10
    · rw [if_pos h10, if_pos h10] at ih
      omega
    · rw [if_neg h10, if_neg h10] at ih
      omega
theorem Pl.inv {T : List UInt8} {pl : Option Nat} {fr at_ sl sc k ln cl : Nat} {x : List UInt8} {ts : List Tok} (h : Pl T pl fr at_ sl sc ((k, x, ln, cl) :: ts)) :
    ∃ d fr', At (T.drop at_) sl sc d ln cl ∧ fr ≤ at_ + d ∧ at_ + d ≤ T.length ∧ idleV ((T.take (at_ + d)).drop fr) (k != 1) = true ∧ (k = 1 → pl = some ln ∧ x = [10]) ∧ fr' = (if k = 1 ∧ at_ + d = T.length then at_ + d else at_ + d + x.length) ∧ fr' ≤ T.length ∧
      (at_ + d < T.length → (T.take fr').drop (at_ + d) = x) ∧ Pl T (some ln) fr' (at_ + d) ln cl ts := by
  cases h with
  | tok _ _ _ _ _ _ _ _ _ d fr' _ h1 h2 h2' h3 h4 h5 h6 h7 hr => exact ⟨d, fr', h1, h2, h2', h3, h4, h5, h6, h7, hr⟩
theorem Pl.fin {T : List UInt8} {pl : Option Nat} {fr at_ sl sc : Nat} (h : Pl T pl fr at_ sl sc []) : fr ≤ T.length ∧ idleV (T.drop fr) false = true := by
  cases h with
  | done _ _ _ _ _ h0 h => exact ⟨h0, h⟩
end Sp
end Go.Proofs.YtgikgppblkpojaaDoor

/-
  Plain laws: a text is cut line by line (no program in sight; chapter 3).
-/
set_option linter.unusedVariables false
set_option linter.unusedSimpArgs false
set_option maxRecDepth 100000
set_option maxHeartbeats 4000000
namespace Go.Proofs.YtgikgppblkpojaaDoor
namespace Sp
theorem runV_line : ∀ (m : Nat) (a : List UInt8) (line col : Nat) (op : Bool) (acc : List Tok), a.length ≤ m → NoNl a → (runV a line col op acc).2.1 ≠ 0 → (runV a line col op acc).2.2.1 = line := by
  intro m
  induction m with
  | zero =>
    intro a line col op acc hm _ h
    have : a = [] := List.length_eq_zero_iff.1 (by omega)
    subst this
    rw [runV_nil] at h
    exact absurd rfl h
  | succ m ih =>
    intro a line col op acc hm hn hne
    match a with
    | [] => rw [runV_nil] at hne; exact absurd rfl hne
    | c :: r =>
      simp only [List.length_cons] at hm
      rcases run_cases c with h | h | h | h
      · exfalso
        have h10 : c ≠ 10 := hn.head
        apply h10
        unfold classB at h
        split at h
        · omega
        · split at h
          · rename_i h2
            exact UInt8.toNat_inj.1 h2
          · repeat (split at h <;> try omega)
      · rw [runV_blank _ _ _ _ _ h] at hne ⊢
        exact ih _ _ _ _ _ (by omega) hn.tail hne
      · have hpos := comV_pos (c := c) r (by omega)
        rw [runV_hash _ _ _ _ _ h] at hne ⊢
        exact ih _ _ _ _ _ (by rw [List.length_drop, List.length_cons]; omega) (hn.drop _) hne
      · obtain ⟨k, n, off, code, hp⟩ : ∃ k n off code, pieceV (c :: r) = (k, n, off, code) := ⟨_, _, _, _, rfl⟩
        have hsz := pieceV_size hp (by simp)
        by_cases h0 : code = 0
        · subst h0
          have hs := hsz.1 rfl
          rw [runV_tok _ _ _ _ _ h hp] at hne ⊢
          exact ih _ _ _ _ _ (by rw [List.length_drop, List.length_cons]; omega) (hn.drop _) hne
        · rw [runV_err _ _ _ _ _ h hp h0]

theorem tw_all {p : UInt8 → Bool} : ∀ (l : List UInt8), (∀ x ∈ l, p x = true) → l.takeWhile p = l
  | [], _ => rfl
  | c :: r, h => by rw [List.takeWhile_cons, if_pos (h c List.mem_cons_self), tw_all r (fun x hx => h x (List.mem_cons_of_mem _ hx))]
theorem classB_bl {c : UInt8} (h : classB c = 2) : c.toNat < 128 := by
  unfold classB at h
  split at h
  · rename_i hb
    simp [blankB] at hb
    omega
  · repeat (split at h <;> try omega)

/-- What the reference's cut has come to at the place i of a line. -/
structure CutAt (l : List UInt8) (no i : Nat) (acc : List Tok) (R : List Tok × Nat × Nat × Nat) : Prop where
  le : i ≤ l.length
  bd : Bd l i
  len : acc.length ≤ i
  run : runV (l.drop i) no (chars (l.take i) + 1) (acc.length != 0) acc = R
section
variable {l : List UInt8} {no i : Nat} {acc : List Tok} {R : List Tok × Nat × Nat × Nat}
theorem CutAt.start (l : List UInt8) (no : Nat) : CutAt l no 0 [] (runV l no 1 false []) := ⟨by omega, Bd.zero _, by simp, by simp [chars_nil]⟩
theorem CutAt.blank (h : CutAt l no i acc R) {c : UInt8} {r : List UInt8} (hd : l.drop i = c :: r) (hc : classB c = 2) : CutAt l no (i + 1) acc R := by
  have hlt : i + 1 ≤ l.length := by
    have := congrArg List.length hd
    rw [List.length_drop, List.length_cons] at this
    omega
  have hone : ∀ k, k < 1 → bt (l.drop i) k < 128 := by
    intro k hk
    obtain rfl : k = 0 := by omega
    rw [hd]
    exact classB_bl hc
  have hl1 : 1 ≤ (l.drop i).length := by rw [List.length_drop]; omega
  refine ⟨hlt, h.bd.trans (Bd.ascii 1 _ hl1 hone), by have := h.len; omega, ?_⟩
  have hr := h.run
  rw [hd, runV_blank _ _ _ _ _ hc] at hr
  rw [chars_take_add h.bd, chars_ascii 1 _ hl1 hone, ← hr, show l.drop (i + 1) = r by rw [← List.drop_drop, hd]; rfl]
theorem CutAt.tok (h : CutAt l no i acc R) {c : UInt8} {r : List UInt8} (hd : l.drop i = c :: r) (hc : PieceAt c) {k n off : Nat} (hp : pieceV (l.drop i) = (k, n, off, 0)) :
    CutAt l no (i + n) (acc ++ [(k, (l.drop i).take n, no, chars (l.take i) + 1)]) R := by
  have hsz := (pieceV_size hp (by rw [hd]; simp)).1 rfl
  have hr := h.run
  rw [hd] at hp hr
  rw [runV_tok _ _ _ _ _ hc hp, ← hd] at hr
  have hb : Bd (l.drop i) n := hsz.2.1
  have hle := hb.le
  rw [List.length_drop] at hle
  refine ⟨by have := h.le; omega, h.bd.trans hb, by rw [List.length_append, List.length_singleton]; have := h.len; omega, ?_⟩
  rw [← hr, chars_take_add h.bd, List.drop_drop]
  congr 1
  · omega
  · simp
theorem CutAt.err (h : CutAt l no i acc R) {c : UInt8} {r : List UInt8} (hd : l.drop i = c :: r) (hc : PieceAt c) {k n off code : Nat} (hp : pieceV (l.drop i) = (k, n, off, code)) (h0 : code ≠ 0) :
    R = ([], code, no, chars (l.take (i + off)) + 1) ∧ Bd l (i + off) ∧ i + off ≤ l.length := by
  have hsz := (pieceV_size hp (by rw [hd]; simp)).2 h0
  have hr := h.run
  rw [hd] at hp hr
  rw [runV_err _ _ _ _ _ hc hp h0, ← hd] at hr
  have hb : Bd l (i + off) := h.bd.trans hsz.1
  refine ⟨?_, hb, hb.le⟩
  rw [← hr, chars_take_add h.bd]
  congr 3
  omega
theorem CutAt.fin (h : CutAt l no i acc R) (hi : l.drop i = []) : R = (endT (acc.length != 0) acc no (chars l + 1), 0, 0, 0) := by
  have hr := h.run
  rw [hi, runV_nil] at hr
  have : l.take i = l := List.take_of_length_le (List.drop_eq_nil_iff.1 hi)
  rw [← hr, this]
theorem CutAt.hash (h : CutAt l no i acc R) {c : UInt8} {r : List UInt8} (hd : l.drop i = c :: r) (hc : classB c = 4) (hn : NoNl l) : R = (endT (acc.length != 0) acc no (chars l + 1), 0, 0, 0) := by
  have hr := h.run
  have hcom : comV (c :: r) = (c :: r).length := by
    unfold comV
    have hn2 : NoNl (c :: r) := by rw [← hd]; exact hn.drop _
    rw [tw_all _ (fun x hx => by simpa using hn2 x hx)]
  rw [hd, runV_hash _ _ _ _ _ hc, hcom, List.drop_length, List.take_length, runV_nil, ← hd] at hr
  rw [← hr]
  congr 2
  have := chars_take_add h.bd (l.length - i)
  rw [show i + (l.length - i) = l.length by have := h.le; omega, List.take_length, show (l.drop i).take (l.length - i) = l.drop i by rw [List.take_of_length_le]; rw [List.length_drop]; omega] at this
  omega
end

theorem chars_one (l : List UInt8) (hl : l ≠ []) : chars (l.take (dec l).2) = 1 := by
  have h1 := dec_pos l hl
  have h2 := dec_len l hl
  have hne2 : l.take (dec l).2 ≠ [] := by
    intro e
    have := congrArg List.length e
    rw [List.length_take, List.length_nil] at this
    omega
  rw [chars_step _ hne2, dec_take l hl _ (Nat.le_refl _), List.drop_eq_nil_of_le (by rw [List.length_take]; omega), chars_nil]

theorem downT_0 (t : Tok) : downT 0 t = t := rfl
theorem map_down_0 (l : List Tok) : l.map (downT 0) = l := by
  rw [show downT 0 = id from funext downT_0, List.map_id]

/-- One line of a text, cut by itself. -/
theorem scan_line {s : List UInt8} {fr i no : Nat} {acc : List Tok} {R : List Tok × Nat × Nat × Nat} (h : runV (s.drop fr) no 1 false acc = R) (hf : fr ≤ i) (hno : NoNl ((s.drop fr).take (i - fr)))
    {ts : List Tok} {c n m : Nat} (ha : runV ((s.drop fr).take (i - fr)) no 1 false [] = (ts, c, n, m)) :
    (i = s.length → (c ≠ 0 → R = ([], c, no, m)) ∧ (c = 0 → R = (acc ++ ts, 0, 0, 0))) ∧
    (s[i]? = some 10 → (c ≠ 0 → R = ([], c, no, m)) ∧ (c = 0 → runV (s.drop (i + 1)) (no + 1) 1 false (acc ++ ts) = R)) := by
  obtain ⟨a, hA⟩ : ∃ a, (s.drop fr).take (i - fr) = a := ⟨_, rfl⟩
  rw [hA] at hno ha
  have hd := runV_down acc 0 a.length a no 1 false [] (Nat.le_refl _)
  have hl := runV_line a.length a no 1 false [] (Nat.le_refl _) hno
  have hc := runV_code a.length a no 1 false [] (Nat.le_refl _)
  rw [ha] at hd hl hc
  simp only [List.map_nil, List.append_nil, Nat.add_zero, downR, map_down_0] at hd hl hc
  constructor
  · intro hi
    have e : a = s.drop fr := by
      rw [← hA, List.take_of_length_le]
      rw [List.length_drop]
      omega
    rw [← e, hd] at h
    constructor
    · intro h0
      rw [if_pos h0, hl h0] at h
      exact h.symm
    · intro h0
      rw [if_neg (by omega)] at h
      exact h.symm
  · intro hi
    have hlt : i < s.length := (List.getElem?_eq_some_iff.1 hi).1
    have e : s.drop fr = a ++ 10 :: s.drop (i + 1) := by
      have h1 := (List.take_append_drop (i - fr) (s.drop fr)).symm
      rw [hA, List.drop_drop, show fr + (i - fr) = i by omega, List.drop_eq_getElem_cons hlt] at h1
      rw [h1, show s[i]'hlt = 10 from (List.getElem?_eq_some_iff.1 hi).2]
    rw [e, runV_join _ a.length _ _ _ _ _ (Nat.le_refl _), nlV_none hno, Nat.add_zero, hd] at h
    constructor
    · intro h0
      rw [if_pos h0, joinV, if_pos h0, hl h0] at h
      exact h.symm
    · intro h0
      rw [if_neg (by omega), joinV_ok] at h
      exact h
end Sp
end Go.Proofs.YtgikgppblkpojaaDoor

/-
  Plain laws: how tokens are written (no program in sight; chapter 3).
-/
set_option linter.unusedVariables false
set_option linter.unusedSimpArgs false
set_option maxRecDepth 100000
set_option maxHeartbeats 4000000
namespace Go.Proofs.YtgikgppblkpojaaDoor
namespace Sp

/-- A token's kind and text. -/
abbrev Pt := Int × List UInt8
def sgn (t : Pt) (s : List UInt8) : Bool := t.1 == 7 && t.2 == s
/-- Does a space stand between? -/
def spacedV (a b : Pt) : Bool :=
  if a.1 = 1 ∨ b.1 = 1 then false
  else if sgn a [40] || sgn a [47] || sgn a [46, 46] || sgn a [58] then false
  else if sgn b [41] || sgn b [44] || sgn b [47] || sgn b [46, 46] || sgn b [58] then false
  else !(sgn a [33] && (b.1 == 2 || sgn b [40] || sgn b [33]))
/-- Is it wholly what it says? -/
def okT (t : Pt) : Bool :=
  if t.1 = 1 then t.2 == [10] else !t.2.isEmpty && (pieceV t.2).2.2.2 == 0 && ((pieceV t.2).1 : Int) == t.1 && (pieceV t.2).2.1 == t.2.length
def validV (last : Pt) : List Pt → Bool
  | [] => last.1 == 1
  | t :: r => okT t && !(t.1 == 1 && last.1 == 1) && validV t r
def textV (last : Pt) : List Pt → List UInt8
  | [] => []
  | t :: r => (if spacedV last t then [32] else []) ++ t.2 ++ textV t r
def p0 : Pt := (1, [])
/-- P3.2. -/
def printV (ts : List Pt) : List UInt8 × Nat :=
  if 16384 < ts.length then ([], 2) else if validV p0 ts = false then ([], 35) else if 16384 < (textV p0 ts).length then ([], 2) else (textV p0 ts, 0)
theorem textV_snoc (t : Pt) : ∀ (ts : List Pt) (last : Pt), textV last (ts ++ [t]) = textV last ts ++ ((if spacedV ((ts.getLast?).getD last) t then [32] else []) ++ t.2)
  | [], last => by cases h : spacedV last t <;> simp [textV, h]
  | x :: r, last => by
    rw [List.cons_append, textV, textV, textV_snoc t r x]
    have : (x :: r).getLast?.getD last = r.getLast?.getD x := by
      cases r with
      | nil => rfl
      | cons y r => simp [List.getLast?_cons]
    rw [this]
    simp only [List.append_assoc]
theorem textV_append : ∀ (a b : List Pt) (last : Pt), textV last (a ++ b) = textV last a ++ textV ((a.getLast?).getD last) b
  | [], b, last => by simp [textV]
  | x :: r, b, last => by
    rw [List.cons_append, textV, textV, textV_append r b x]
    have : (x :: r).getLast?.getD last = r.getLast?.getD x := by
      cases r with
      | nil => rfl
      | cons y r => simp [List.getLast?_cons]
    rw [this]
    simp only [List.append_assoc]
theorem validV_append : ∀ (a b : List Pt) (last : Pt), validV last (a ++ b) = true → ∀ t ∈ a, okT t = true
  | [], b, last, _ => by simp
  | x :: r, b, last, h => by
    rw [List.cons_append, validV, Bool.and_eq_true, Bool.and_eq_true] at h
    intro t ht
    rcases List.mem_cons.1 ht with rfl | ht
    · exact h.1.1
    · exact validV_append r b x h.2 t ht
theorem escV_size {l : List UInt8} {k : Nat} {b : List UInt8} (h : escV l = some (k, b)) : k ≤ 10 ∧ 1 ≤ b.length := by
  have one : ∀ {k' : Nat} {b' : List UInt8}, k' ≤ 10 → 1 ≤ b'.length → some (k', b') = some (k, b) → k ≤ 10 ∧ 1 ≤ b.length := by
    intro k' b' h1 h2 h
    injection h with h
    injection h with h3 h4
    subst h3 h4
    exact ⟨h1, h2⟩
  unfold escV at h
  split at h
  · rename_i c r
    split at h; · exact one (by omega) (by simp) h
    split at h; · exact one (by omega) (by simp) h
    split at h; · exact one (by omega) (by simp) h
    split at h; · exact one (by omega) (by simp) h
    split at h; · exact one (by omega) (by simp) h
    split at h
    · split at h
      · split at h
        · exact one (by omega) (by simp) h
        · cases h
      · cases h
    · split at h
      · split at h
        · split at h
          · split at h
            · rename_i d t hd kk v hv
              refine one ?_ ?_ h
              · unfold bracedV at hv
                split at hv
                · cases hv
                · split at hv
                  · cases hv
                  · rename_i v' hb
                    split at hv
                    · injection hv with hv
                      injection hv with h5 h6
                      unfold basedV at hb
                      split at hb
                      · cases hb
                      · omega
                    · cases hv
              · rw [Lib.encodeRune, List.length_map]
                exact (Lib.encodeRuneZ_length _).1
            · cases h
          · cases h
        · cases h
      · cases h
  · cases h

theorem speakF_len (lines : Bool) : ∀ (f : Nat) (l : List UInt8) (i : Nat) (said b : List UInt8) (p : Nat), speakF lines f l i said = (0, b, p) → said.length ≤ b.length ∧ p + 10 * said.length ≤ i + 10 * b.length + 1 := by
  intro f
  induction f with
  | zero => intro l i said b p h; simp [speakF] at h
  | succ f ih =>
    intro l i said b p h
    match l, h with
    | [], h => simp [speakF] at h
    | c :: r, h =>
      rw [speakF] at h
      split at h
      · injection h with h1 h
        injection h with h2 h3
        subst h2 h3
        omega
      split at h
      · split at h
        · simp at h
        · rename_i k b' he
          have h1 := ih _ _ _ _ _ h
          have h2 := escV_size he
          rw [List.length_append] at h1
          omega
      split at h
      · simp at h
      split at h
      · simp at h
      · have h1 := ih _ _ _ _ _ h
        have h2 := dec_len (c :: r) (by simp)
        have h3 := dec_pos (c :: r) (by simp)
        rw [List.length_append, List.length_take] at h1
        omega

theorem signV_le (l : List UInt8) : signV l ≤ 2 := by
  match l with
  | [] => simp [signV]
  | [a] =>
    simp only [signV]
    rw [if_neg (by simp)]
    split <;> omega
  | a :: b :: r =>
    simp only [signV]
    split
    · omega
    · split <;> omega
theorem decV_len {top : Nat} {l : List UInt8} {v : Nat} (h : decV top l = some v) : l.length ≤ 10 := by
  unfold decV at h
  split at h
  · cases h
  · omega
theorem quadF_len : ∀ (k n : Nat) (l : List UInt8) (v : Nat), quadF k n l = some v → l.length ≤ 10 + 11 * k
  | 0, n, l, v, h => by
    unfold quadF at h
    split at h
    · cases h
    · rename_i v' h'
      have := decV_len h'
      omega
  | k + 1, n, l, v, h => by
    unfold quadF at h
    split at h
    · cases h
    · split at h
      · cases h
      · rename_i v' h'
        have h1 := decV_len h'
        have h2 := quadF_len k _ _ _ h
        rw [List.length_drop] at h2
        omega
theorem numV_len {l : List UInt8} {v : Nat} (h : numV l = some v) : l.length ≤ 60 := by
  unfold numV at h
  split at h
  · have := quadF_len _ _ _ _ h
    omega
  split at h
  · unfold basedV at h
    split at h
    · cases h
    · rw [List.length_drop] at *
      omega
  split at h
  · unfold basedV at h
    split at h
    · cases h
    · rw [List.length_drop] at *
      omega
  · have := decV_len h
    omega
theorem pieceV_short {l : List UInt8} {k n off : Nat} (h : pieceV l = (k, n, off, 0)) (hn : n = l.length) : l.length ≤ 4000 := by
  unfold pieceV at h
  split at h
  · simp only [] at h
    split at h
    · simp at h
    split at h
    · split at h
      · simp at h
      · injection h with h1 h
        injection h with h2 h
        omega
    · injection h with h1 h
      injection h with h2 h
      omega
  split at h
  · split at h
    · simp at h
    · rename_i v hv
      injection h with h1 h
      injection h with h2 h
      have := numV_len hv
      rw [List.length_take] at this
      omega
  split at h
  · simp only [] at h
    split at h
    · rename_i hp
      injection h with h1 h
      injection h with h2 h
      unfold patV at hp
      simp only [Bool.and_eq_true, decide_eq_true_eq] at hp
      have := hp.2
      rw [List.length_take, List.length_drop] at this
      omega
    · simp at h
  split at h
  · simp only [] at h
    split at h
    · rename_i h0
      injection h with h1 h
      injection h with h2 h
      injection h with h3 h4
      exact absurd h4 h0
    split at h
    · simp at h
    · rename_i h0 h256
      injection h with h1 h
      injection h with h2 h
      obtain ⟨c, b, p, hs⟩ : ∃ c b p, speakV true l = (c, b, p) := ⟨_, _, _, rfl⟩
      rw [hs] at h0 h256 h2
      simp only [Classical.not_not] at h0 h256 h2
      subst h0
      have := speakF_len true _ _ _ _ _ _ hs
      simp only [List.length_nil] at this
      omega
  split at h
  · simp at h
  · injection h with h1 h
    injection h with h2 h
    have := signV_le l
    omega
theorem okT_short {t : Pt} (h : okT t = true) : t.2.length ≤ 4000 := by
  unfold okT at h
  split at h
  · rw [beq_iff_eq] at h
    rw [h]
    simp
  · simp only [Bool.and_eq_true, beq_iff_eq] at h
    exact pieceV_short (k := (pieceV t.2).1) (n := (pieceV t.2).2.1) (off := (pieceV t.2).2.2.1) (by rw [← h.1.1.2]) h.2
end Sp
end Go.Proofs.YtgikgppblkpojaaDoor

/-
  Plain laws: how expressions are read (no program in sight; chapter 5): a descent and a pile of open signs read alike.
-/
set_option linter.unusedVariables false
set_option linter.unusedSimpArgs false
set_option maxRecDepth 100000
set_option maxHeartbeats 4000000
namespace Go.Proofs.YtgikgppblkpojaaDoor
namespace Sp

/-- A node: kind; field, op, form, lo, hi, len, pattern of its test. -/
structure Nd where
  kind : Int
  field : List UInt8 := []
  op : Int := 0
  form : Int := 0
  lo : Int := 0
  hi : Int := 0
  len : Int := 0
  pat : List UInt8 := []
def nd (k : Int) : Nd := { kind := k }

def sgAt (T : List Pt) (i : Nat) (s : List UInt8) : Bool := match T[i]? with | some t => sgn t s | none => false
def kdAt (T : List Pt) (i : Nat) : Int := match T[i]? with | some t => t.1 | none => 0
def txAt (T : List Pt) (i : Nat) : List UInt8 := match T[i]? with | some t => t.2 | none => []
def nameB (s : List UInt8) : Bool := classV s == 5 && s.all wordB && decide (s.length ≤ 24)
def patB (s : List UInt8) : Bool := match s with | [] => false | c :: d => c == 37 && patV d
def numAt (T : List Pt) (i : Nat) : Option Nat := if kdAt T i = 4 ∧ (valueV (txAt T i)).2 = 0 then some (valueV (txAt T i)).1 else none
def opAt (T : List Pt) (i : Nat) : Nat :=
  if sgAt T i [61] then 1 else if sgAt T i [33, 61] then 2 else if sgAt T i [60] then 3 else if sgAt T i [60, 61] then 4 else if sgAt T i [62] then 5 else if sgAt T i [62, 61] then 6 else 0

inductive TR where
  | bad (at_ : Nat)
  | ok (at_ : Nat) (n : Nd)
/-- The rest of a test, from its sign on. -/
def testV (T : List Pt) (name : List UInt8) (p : Nat) : TR :=
  if opAt T p = 0 then .bad p
  else if opAt T p ≤ 2 ∧ kdAt T (p + 1) = 5 then
    (if patB (txAt T (p + 1)) then .ok (p + 2) { kind := 3, field := name, op := (opAt T p : Nat), form := 4, pat := (txAt T (p + 1)).drop 1 } else .bad (p + 1))
  else match numAt T (p + 1) with
    | none => .bad (p + 1)
    | some v =>
      if opAt T p ≤ 2 ∧ sgAt T (p + 2) [47] = true then
        (match numAt T (p + 3) with
          | none => .bad (p + 3)
          | some u => .ok (p + 4) { kind := 3, field := name, op := (opAt T p : Nat), form := 2, lo := (v : Nat), len := (u : Nat) })
      else if opAt T p ≤ 2 ∧ sgAt T (p + 2) [46, 46] = true then
        (match numAt T (p + 3) with
          | none => .bad (p + 3)
          | some u => .ok (p + 4) { kind := 3, field := name, op := (opAt T p : Nat), form := 3, lo := (v : Nat), hi := (u : Nat) })
      else .ok (p + 2) { kind := 3, field := name, op := (opAt T p : Nat), form := 1, lo := (v : Nat) }

inductive Rd where
  | bad (c at_ : Nat)
  | ok (at_ : Nat) (ns : List Nd) (made : Nat)
def anyW : List UInt8 := [97, 110, 121]
def noneW : List UInt8 := [110, 111, 110, 101]
/-- A factor that is no sign. -/
def leafV (T : List Pt) (p : Nat) (ns : List Nd) (m : Nat) : Rd :=
  if kdAt T p = 2 ∧ nameB (txAt T p) = true then
    (if 64 ≤ m then .bad 51 p
    else if txAt T p = anyW then .ok (p + 1) (ns ++ [nd 1]) (m + 1)
    else if txAt T p = noneW then .ok (p + 1) (ns ++ [nd 2]) (m + 1)
    else match testV T (txAt T p) (p + 1) with
      | .bad q => .bad 50 q
      | .ok q n => .ok q (ns ++ [n]) (m + 1))
  else .bad 50 p

/-- The rest of a chain. -/
def loopV (T : List Pt) (F : Nat → List Nd → Nat → Rd) (s : List UInt8) (k : Int) : Nat → Nat → List Nd → Nat → Rd
  | 0, p, ns, m => if sgAt T p s then .bad 51 p else .ok p ns m
  | n + 1, p, ns, m =>
    if sgAt T p s then
      (if 64 ≤ m then .bad 51 p
      else match F (p + 1) ns (m + 1) with
        | .bad c q => .bad c q
        | .ok q ns' m' => loopV T F s k n q (ns' ++ [nd k]) m')
    else .ok p ns m
def chainV (T : List Pt) (F : Nat → List Nd → Nat → Rd) (s : List UInt8) (k : Int) (p : Nat) (ns : List Nd) (m : Nat) : Rd :=
  match F p ns m with
  | .bad c q => .bad c q
  | .ok q ns' m' => loopV T F s k (64 - m') q ns' m'
def orV (T : List Pt) (F : Nat → List Nd → Nat → Rd) : Nat → List Nd → Nat → Rd := chainV T (chainV T F [38] 5) [124] 6
/-- A factor, where so many more brackets and denials may be open. -/
def facV (T : List Pt) : Nat → Nat → List Nd → Nat → Rd
  | 0, p, ns, m => if sgAt T p [33] then .bad 53 p else if sgAt T p [40] then .bad 53 p else leafV T p ns m
  | d + 1, p, ns, m =>
    if sgAt T p [33] then
      (if 64 ≤ m then .bad 51 p
      else match facV T d (p + 1) ns (m + 1) with
        | .bad c q => .bad c q
        | .ok q ns' m' => .ok q (ns' ++ [nd 4]) m')
    else if sgAt T p [40] then
      (match orV T (facV T d) (p + 1) ns m with
        | .bad c q => .bad c q
        | .ok q ns' m' => if sgAt T q [41] then .ok (q + 1) ns' m' else .bad 50 q)
    else leafV T p ns m
/-- P5.1, from a place that there is. -/
def readV (T : List Pt) (p : Nat) : Rd := orV T (facV T 32) p [] 0

/- The same with a pile of open signs. -/
inductive PS where
  | want (p : Nat) (st : List UInt8) (ns : List Nd) (m : Nat)
  | chain (p : Nat) (st : List UInt8) (ns : List Nd) (m : Nat)
def cnt (st : List UInt8) : Nat := (st.filter fun c => c == 40 || c == 33).length
def ndOf (c : UInt8) (ns : List Nd) : List Nd := if c = 33 then ns ++ [nd 4] else if c = 38 then ns ++ [nd 5] else if c = 124 then ns ++ [nd 6] else ns
/-- Signs are closed as long as they are of these. -/
def popW (q : UInt8 → Bool) : List UInt8 → List Nd → List UInt8 × List Nd
  | [], ns => ([], ns)
  | c :: st, ns => if q c then popW q st (ndOf c ns) else (c :: st, ns)
def isB (c : UInt8) : Bool := c == 33
def isA (c : UInt8) : Bool := c == 38
def isAO (c : UInt8) : Bool := c == 38 || c == 124
def noP (c : UInt8) : Bool := c != 40
def stepP (T : List Pt) : PS → Rd ⊕ PS
  | .want p st ns m =>
    if sgAt T p [33] then
      (if 32 ≤ cnt st then .inl (.bad 53 p) else if 64 ≤ m then .inl (.bad 51 p) else .inr (.want (p + 1) (33 :: st) ns (m + 1)))
    else if sgAt T p [40] then
      (if 32 ≤ cnt st then .inl (.bad 53 p) else .inr (.want (p + 1) (40 :: st) ns m))
    else match leafV T p ns m with
      | .bad c q => .inl (.bad c q)
      | .ok q ns' m' => .inr (.chain q (popW isB st ns').1 (popW isB st ns').2 m')
  | .chain p st ns m =>
    if sgAt T p [38] then
      (if 64 ≤ m then .inl (.bad 51 p) else .inr (.want (p + 1) (38 :: (popW isA st ns).1) (popW isA st ns).2 (m + 1)))
    else if sgAt T p [124] then
      (if 64 ≤ m then .inl (.bad 51 p) else .inr (.want (p + 1) (124 :: (popW isAO st ns).1) (popW isAO st ns).2 (m + 1)))
    else if st.any (· == 40) then
      (if sgAt T p [41] then .inr (.chain (p + 1) (popW isB ((popW noP st ns).1.drop 1) (popW noP st ns).2).1 (popW isB ((popW noP st ns).1.drop 1) (popW noP st ns).2).2 m)
      else .inl (.bad 50 p))
    else .inl (.ok p (popW (fun _ => true) st ns).2 m)
def runP (T : List Pt) : Nat → PS → Option Rd
  | 0, _ => none
  | n + 1, s => match stepP T s with | .inl r => some r | .inr s' => runP T n s'
def RunP (T : List Pt) (s : PS) (r : Rd) : Prop := ∃ n, runP T n s = some r
theorem RunP.fin {T : List Pt} {s : PS} {r : Rd} (h : stepP T s = .inl r) : RunP T s r := ⟨1, by simp [runP, h]⟩
theorem RunP.more {T : List Pt} {s s' : PS} {r : Rd} (h : stepP T s = .inr s') (h2 : RunP T s' r) : RunP T s r := by
  obtain ⟨n, hn⟩ := h2
  exact ⟨n + 1, by simp [runP, h, hn]⟩
theorem RunP.inv_fin {T : List Pt} {s : PS} {r r' : Rd} (h : RunP T s r) (h1 : stepP T s = .inl r') : r = r' := by
  obtain ⟨n, hn⟩ := h
  cases n with
  | zero => simp [runP] at hn
  | succ n => simp [runP, h1] at hn; exact hn.symm
theorem RunP.inv_more {T : List Pt} {s s' : PS} {r : Rd} (h : RunP T s r) (h1 : stepP T s = .inr s') : RunP T s' r := by
  obtain ⟨n, hn⟩ := h
  cases n with
  | zero => simp [runP] at hn
  | succ n => simp [runP, h1] at hn; exact ⟨n, hn⟩
theorem RunP.same {T : List Pt} {s s' : PS} {r : Rd} (h : stepP T s = stepP T s') (h2 : RunP T s' r) : RunP T s r := by
  obtain ⟨n, hn⟩ := h2
  cases n with
  | zero => simp [runP] at hn
  | succ n => exact ⟨n + 1, by rw [runP, h, ← hn, runP]⟩

theorem sg_ne {T : List Pt} {p : Nat} {s t : List UInt8} (h : sgAt T p s = true) (hst : s ≠ t) : sgAt T p t = false := by
  unfold sgAt at h ⊢
  cases ht : T[p]? with
  | none => rfl
  | some x =>
    rw [ht] at h
    simp only [sgn, Bool.and_eq_true, beq_iff_eq] at h
    simp only [sgn, Bool.and_eq_false_iff, beq_eq_false_iff_ne]
    exact Or.inr (fun e => hst (h.2 ▸ e))
theorem popW_stop {q : UInt8 → Bool} {st : List UInt8} {ns : List Nd} (h : ∀ c, st.head? = some c → q c = false) : popW q st ns = (st, ns) := by
  cases st with
  | nil => rfl
  | cons c r => rw [popW, h c rfl]; rfl
theorem step_and (T : List Pt) (p : Nat) (st : List UInt8) (ns : List Nd) (m : Nat) : stepP T (.chain p (38 :: st) ns m) = stepP T (.chain p st (ns ++ [nd 5]) m) := by
  have h1 : ∀ q : UInt8 → Bool, q 38 = true → popW q (38 :: st) ns = popW q st (ns ++ [nd 5]) := by
    intro q hq
    rw [popW, hq]
    rfl
  simp only [stepP, h1 isA rfl, h1 isAO rfl, h1 noP rfl, h1 (fun _ => true) rfl]
  rfl
theorem step_or (T : List Pt) (p : Nat) (st : List UInt8) (ns : List Nd) (m : Nat) (h : sgAt T p [38] = false) : stepP T (.chain p (124 :: st) ns m) = stepP T (.chain p st (ns ++ [nd 6]) m) := by
  have h1 : ∀ q : UInt8 → Bool, q 124 = true → popW q (124 :: st) ns = popW q st (ns ++ [nd 6]) := by
    intro q hq
    rw [popW, hq]
    rfl
  simp only [stepP, h, h1 isAO rfl, h1 noP rfl, h1 (fun _ => true) rfl]
  rfl

/-- What a reader of a factor and the pile have to do with each other. -/
def FacLike (T : List Pt) (F : Nat → List Nd → Nat → Rd) (c : Nat) : Prop :=
  ∀ p ns m st, cnt st = c →
    (∀ q ns' m', F p ns m = .ok q ns' m' → m < m' ∧ ∀ r, RunP T (.chain q (popW isB st ns').1 (popW isB st ns').2 m') r → RunP T (.want p st ns m) r) ∧
    (∀ e q, F p ns m = .bad e q → RunP T (.want p st ns m) (.bad e q))
/-- A chain, from behind its first part on. -/
def LoopLike (T : List Pt) (F : Nat → List Nd → Nat → Rd) (s : List UInt8) (k : Int) (st : List UInt8) (n p : Nat) (ns : List Nd) (m : Nat) : Prop :=
  (∀ q ns' m', loopV T F s k n p ns m = .ok q ns' m' → m ≤ m' ∧ sgAt T q s = false ∧ ∀ r, RunP T (.chain q st ns' m') r → RunP T (.chain p st ns m) r) ∧
  (∀ e q, loopV T F s k n p ns m = .bad e q → RunP T (.chain p st ns m) (.bad e q))

theorem loop_and {T : List Pt} {F : Nat → List Nd → Nat → Rd} {c : Nat} (hF : FacLike T F c) {st : List UInt8} (hc : cnt st = c) (h1 : ∀ x, st.head? = some x → x ≠ 33 ∧ x ≠ 38) :
    ∀ n p ns m, 64 ≤ m + n → LoopLike T F [38] 5 st n p ns m := by
  have hA : ∀ ns, popW isA st ns = (st, ns) := fun ns => popW_stop (fun x hx => by have := (h1 x hx).2; unfold isA; simpa using this)
  have hc2 : cnt (38 :: st) = c := by rw [← hc]; rfl
  have hB : ∀ ns, popW isB (38 :: st) ns = (38 :: st, ns) := fun ns => rfl
  intro n
  induction n with
  | zero =>
    intro p ns m hm
    cases hs : sgAt T p [38] with
    | true =>
      refine ⟨fun q ns' m' h => by simp [loopV, hs] at h, fun e q h => ?_⟩
      simp only [loopV, hs, if_true, Rd.bad.injEq] at h
      obtain ⟨rfl, rfl⟩ := h
      exact RunP.fin (by simp only [stepP, hs, if_true]; rw [if_pos (by omega)])
    | false =>
      refine ⟨fun q ns' m' h => ?_, fun e q h => by simp [loopV, hs] at h⟩
      simp only [loopV, hs, Bool.false_eq_true, if_false, Rd.ok.injEq] at h
      obtain ⟨rfl, rfl, rfl⟩ := h
      exact ⟨Nat.le_refl _, hs, fun r h => h⟩
  | succ n ih =>
    intro p ns m hm
    cases hs : sgAt T p [38] with
    | false =>
      refine ⟨fun q ns' m' h => ?_, fun e q h => by simp [loopV, hs] at h⟩
      simp only [loopV, hs, Bool.false_eq_true, if_false, Rd.ok.injEq] at h
      obtain ⟨rfl, rfl, rfl⟩ := h
      exact ⟨Nat.le_refl _, hs, fun r h => h⟩
    | true =>
      by_cases h64 : 64 ≤ m
      · refine ⟨fun q ns' m' h => by simp [loopV, hs, h64] at h, fun e q h => ?_⟩
        simp only [loopV, hs, if_true, if_pos h64, Rd.bad.injEq] at h
        obtain ⟨rfl, rfl⟩ := h
        exact RunP.fin (by simp only [stepP, hs, if_true, if_pos h64])
      have hstep : stepP T (.chain p st ns m) = .inr (.want (p + 1) (38 :: st) ns (m + 1)) := by
        simp only [stepP, hs, if_true, if_neg h64, hA]
      obtain ⟨f1, f2⟩ := hF (p + 1) ns (m + 1) (38 :: st) hc2
      cases hf : F (p + 1) ns (m + 1) with
      | bad e0 q0 =>
        refine ⟨fun q ns' m' h => by simp [loopV, hs, h64, hf] at h, fun e q h => ?_⟩
        simp only [loopV, hs, if_true, if_neg h64, hf, Rd.bad.injEq] at h
        obtain ⟨rfl, rfl⟩ := h
        exact RunP.more hstep (f2 _ _ hf)
      | ok q0 ns0 m0 =>
        obtain ⟨hlt, f1⟩ := f1 _ _ _ hf
        have key : ∀ r, RunP T (.chain q0 st (ns0 ++ [nd 5]) m0) r → RunP T (.chain p st ns m) r := by
          intro r hr
          refine RunP.more hstep (f1 r ?_)
          rw [hB]
          exact RunP.same (step_and T q0 st ns0 m0) hr
        have hl : loopV T F [38] 5 (n + 1) p ns m = loopV T F [38] 5 n q0 (ns0 ++ [nd 5]) m0 := by
          simp only [loopV, hs, if_true, if_neg h64, hf]
        obtain ⟨i1, i2⟩ := ih q0 (ns0 ++ [nd 5]) m0 (by omega)
        refine ⟨fun q ns' m' h => ?_, fun e q h => ?_⟩
        · rw [hl] at h
          obtain ⟨j1, j2, j3⟩ := i1 q ns' m' h
          exact ⟨by omega, j2, fun r hr => key r (j3 r hr)⟩
        · rw [hl] at h
          exact key _ (i2 e q h)

/-- A chain of factors. -/
def AndLike (T : List Pt) (G : Nat → List Nd → Nat → Rd) (c : Nat) : Prop :=
  ∀ p ns m st, cnt st = c → (∀ x, st.head? = some x → x ≠ 33 ∧ x ≠ 38) →
    (∀ q ns' m', G p ns m = .ok q ns' m' → m < m' ∧ sgAt T q [38] = false ∧ ∀ r, RunP T (.chain q st ns' m') r → RunP T (.want p st ns m) r) ∧
    (∀ e q, G p ns m = .bad e q → RunP T (.want p st ns m) (.bad e q))
theorem and_like {T : List Pt} {F : Nat → List Nd → Nat → Rd} {c : Nat} (hF : FacLike T F c) : AndLike T (chainV T F [38] 5) c := by
  intro p ns m st hc h1
  have hB : ∀ ns, popW isB st ns = (st, ns) := fun ns => popW_stop (fun x hx => by have := (h1 x hx).1; unfold isB; simpa using this)
  obtain ⟨f1, f2⟩ := hF p ns m st hc
  cases hf : F p ns m with
  | bad e0 q0 =>
    refine ⟨fun q ns' m' h => by simp [chainV, hf] at h, fun e q h => ?_⟩
    simp only [chainV, hf, Rd.bad.injEq] at h
    obtain ⟨rfl, rfl⟩ := h
    exact f2 _ _ hf
  | ok q0 ns0 m0 =>
    obtain ⟨hlt, f1⟩ := f1 _ _ _ hf
    rw [hB] at f1
    have hl : chainV T F [38] 5 p ns m = loopV T F [38] 5 (64 - m0) q0 ns0 m0 := by simp only [chainV, hf]
    obtain ⟨i1, i2⟩ := loop_and hF hc h1 (64 - m0) q0 ns0 m0 (by omega)
    refine ⟨fun q ns' m' h => ?_, fun e q h => ?_⟩
    · rw [hl] at h
      obtain ⟨j1, j2, j3⟩ := i1 q ns' m' h
      exact ⟨by omega, j2, fun r hr => f1 r (j3 r hr)⟩
    · rw [hl] at h
      exact f1 _ (i2 e q h)

theorem loop_or {T : List Pt} {G : Nat → List Nd → Nat → Rd} {c : Nat} (hG : AndLike T G c) {st : List UInt8} (hc : cnt st = c) (h1 : ∀ x, st.head? = some x → x = 40) :
    ∀ n p ns m, 64 ≤ m + n → sgAt T p [38] = false →
      (∀ q ns' m', loopV T G [124] 6 n p ns m = .ok q ns' m' → m ≤ m' ∧ sgAt T q [124] = false ∧ sgAt T q [38] = false ∧ ∀ r, RunP T (.chain q st ns' m') r → RunP T (.chain p st ns m) r) ∧
      (∀ e q, loopV T G [124] 6 n p ns m = .bad e q → RunP T (.chain p st ns m) (.bad e q)) := by
  have hA : ∀ ns, popW isAO st ns = (st, ns) := fun ns => popW_stop (fun x hx => by rw [h1 x hx]; rfl)
  have hc2 : cnt (124 :: st) = c := by rw [← hc]; rfl
  have h2 : ∀ x, (124 :: st).head? = some x → x ≠ 33 ∧ x ≠ 38 := by
    intro x hx
    injection hx with hx
    subst hx
    decide
  intro n
  induction n with
  | zero =>
    intro p ns m hm hna
    cases hs : sgAt T p [124] with
    | true =>
      refine ⟨fun q ns' m' h => by simp [loopV, hs] at h, fun e q h => ?_⟩
      simp only [loopV, hs, if_true, Rd.bad.injEq] at h
      obtain ⟨rfl, rfl⟩ := h
      exact RunP.fin (by simp only [stepP, hna, hs, if_true, Bool.false_eq_true, if_false]; rw [if_pos (by omega)])
    | false =>
      refine ⟨fun q ns' m' h => ?_, fun e q h => by simp [loopV, hs] at h⟩
      simp only [loopV, hs, Bool.false_eq_true, if_false, Rd.ok.injEq] at h
      obtain ⟨rfl, rfl, rfl⟩ := h
      exact ⟨Nat.le_refl _, hs, hna, fun r h => h⟩
  | succ n ih =>
    intro p ns m hm hna
    cases hs : sgAt T p [124] with
    | false =>
      refine ⟨fun q ns' m' h => ?_, fun e q h => by simp [loopV, hs] at h⟩
      simp only [loopV, hs, Bool.false_eq_true, if_false, Rd.ok.injEq] at h
      obtain ⟨rfl, rfl, rfl⟩ := h
      exact ⟨Nat.le_refl _, hs, hna, fun r h => h⟩
    | true =>
      by_cases h64 : 64 ≤ m
      · refine ⟨fun q ns' m' h => by simp [loopV, hs, h64] at h, fun e q h => ?_⟩
        simp only [loopV, hs, if_true, if_pos h64, Rd.bad.injEq] at h
        obtain ⟨rfl, rfl⟩ := h
        exact RunP.fin (by simp only [stepP, hna, hs, if_true, if_pos h64, Bool.false_eq_true, if_false])
      have hstep : stepP T (.chain p st ns m) = .inr (.want (p + 1) (124 :: st) ns (m + 1)) := by
        simp only [stepP, hna, hs, if_true, if_neg h64, hA, Bool.false_eq_true, if_false]
      obtain ⟨f1, f2⟩ := hG (p + 1) ns (m + 1) (124 :: st) hc2 h2
      cases hf : G (p + 1) ns (m + 1) with
      | bad e0 q0 =>
        refine ⟨fun q ns' m' h => by simp [loopV, hs, h64, hf] at h, fun e q h => ?_⟩
        simp only [loopV, hs, if_true, if_neg h64, hf, Rd.bad.injEq] at h
        obtain ⟨rfl, rfl⟩ := h
        exact RunP.more hstep (f2 _ _ hf)
      | ok q0 ns0 m0 =>
        obtain ⟨hlt, hnq, f1⟩ := f1 _ _ _ hf
        have key : ∀ r, RunP T (.chain q0 st (ns0 ++ [nd 6]) m0) r → RunP T (.chain p st ns m) r := by
          intro r hr
          refine RunP.more hstep (f1 r ?_)
          exact RunP.same (step_or T q0 st ns0 m0 hnq) hr
        have hl : loopV T G [124] 6 (n + 1) p ns m = loopV T G [124] 6 n q0 (ns0 ++ [nd 6]) m0 := by
          simp only [loopV, hs, if_true, if_neg h64, hf]
        obtain ⟨i1, i2⟩ := ih q0 (ns0 ++ [nd 6]) m0 (by omega) hnq
        refine ⟨fun q ns' m' h => ?_, fun e q h => ?_⟩
        · rw [hl] at h
          obtain ⟨j1, j2, j3, j4⟩ := i1 q ns' m' h
          exact ⟨by omega, j2, j3, fun r hr => key r (j4 r hr)⟩
        · rw [hl] at h
          exact key _ (i2 e q h)

theorem or_like {T : List Pt} {F : Nat → List Nd → Nat → Rd} {c : Nat} (hF : FacLike T F c) (p : Nat) (ns : List Nd) (m : Nat) (st : List UInt8) (hc : cnt st = c) (h1 : ∀ x, st.head? = some x → x = 40) :
    (∀ q ns' m', orV T F p ns m = .ok q ns' m' → m < m' ∧ sgAt T q [124] = false ∧ sgAt T q [38] = false ∧ ∀ r, RunP T (.chain q st ns' m') r → RunP T (.want p st ns m) r) ∧
    (∀ e q, orV T F p ns m = .bad e q → RunP T (.want p st ns m) (.bad e q)) := by
  have hG := and_like hF
  obtain ⟨f1, f2⟩ := hG p ns m st hc (fun x hx => by rw [h1 x hx]; decide)
  unfold orV
  generalize chainV T F [38] 5 = G at hG f1 f2 ⊢
  cases hf : G p ns m with
  | bad e0 q0 =>
    refine ⟨fun q ns' m' h => by simp [chainV, hf] at h, fun e q h => ?_⟩
    simp only [chainV, hf, Rd.bad.injEq] at h
    obtain ⟨rfl, rfl⟩ := h
    exact f2 _ _ hf
  | ok q0 ns0 m0 =>
    obtain ⟨hlt, hna, f1⟩ := f1 _ _ _ hf
    have hl : chainV T G [124] 6 p ns m = loopV T G [124] 6 (64 - m0) q0 ns0 m0 := by simp only [chainV, hf]
    obtain ⟨i1, i2⟩ := loop_or hG hc h1 (64 - m0) q0 ns0 m0 (by omega) hna
    refine ⟨fun q ns' m' h => ?_, fun e q h => ?_⟩
    · rw [hl] at h
      obtain ⟨j1, j2, j3, j4⟩ := i1 q ns' m' h
      exact ⟨by omega, j2, j3, fun r hr => f1 r (j4 r hr)⟩
    · rw [hl] at h
      exact f1 _ (i2 e q h)

theorem leaf_ok {T : List Pt} {p : Nat} {ns : List Nd} {m q : Nat} {ns' : List Nd} {m' : Nat} (h : leafV T p ns m = .ok q ns' m') : m' = m + 1 := by
  unfold leafV at h
  split at h
  · split at h
    · cases h
    · split at h
      · injection h with _ _ h; exact h.symm
      · split at h
        · injection h with _ _ h; exact h.symm
        · split at h
          · cases h
          · injection h with _ _ h; exact h.symm
  · cases h
theorem leaf_like (T : List Pt) (p : Nat) (ns : List Nd) (m : Nat) (st : List UInt8) (h1 : sgAt T p [33] = false) (h2 : sgAt T p [40] = false) :
    (∀ q ns' m', leafV T p ns m = .ok q ns' m' → m < m' ∧ ∀ r, RunP T (.chain q (popW isB st ns').1 (popW isB st ns').2 m') r → RunP T (.want p st ns m) r) ∧
    (∀ e q, leafV T p ns m = .bad e q → RunP T (.want p st ns m) (.bad e q)) := by
  refine ⟨fun q ns' m' h => ⟨by have := leaf_ok h; omega, fun r hr => ?_⟩, fun e q h => ?_⟩
  · exact RunP.more (by simp only [stepP, h1, h2, h, Bool.false_eq_true, if_false]) hr
  · exact RunP.fin (by simp only [stepP, h1, h2, h, Bool.false_eq_true, if_false])
theorem fac_like (T : List Pt) : ∀ d c, d + c = 32 → FacLike T (facV T d) c := by
  intro d
  induction d with
  | zero =>
    intro c hdc p ns m st hc
    have h32 : 32 ≤ cnt st := by omega
    cases h1 : sgAt T p [33] with
    | true =>
      refine ⟨fun q ns' m' h => by simp [facV, h1] at h, fun e q h => ?_⟩
      simp only [facV, h1, if_true, Rd.bad.injEq] at h
      obtain ⟨rfl, rfl⟩ := h
      exact RunP.fin (by simp only [stepP, h1, if_true, if_pos h32])
    | false =>
      cases h2 : sgAt T p [40] with
      | true =>
        refine ⟨fun q ns' m' h => by simp [facV, h1, h2] at h, fun e q h => ?_⟩
        simp only [facV, h1, h2, if_true, Bool.false_eq_true, if_false, Rd.bad.injEq] at h
        obtain ⟨rfl, rfl⟩ := h
        exact RunP.fin (by simp only [stepP, h1, h2, if_true, if_pos h32, Bool.false_eq_true, if_false])
      | false =>
        have : facV T 0 p ns m = leafV T p ns m := by simp only [facV, h1, h2, Bool.false_eq_true, if_false]
        rw [this]
        exact leaf_like T p ns m st h1 h2
  | succ d ih =>
    intro c hdc p ns m st hc
    have h32 : ¬ 32 ≤ cnt st := by omega
    have hF := ih (c + 1) (by omega)
    cases h1 : sgAt T p [33] with
    | true =>
      by_cases h64 : 64 ≤ m
      · refine ⟨fun q ns' m' h => by simp [facV, h1, h64] at h, fun e q h => ?_⟩
        simp only [facV, h1, if_true, if_pos h64, Rd.bad.injEq] at h
        obtain ⟨rfl, rfl⟩ := h
        exact RunP.fin (by simp only [stepP, h1, if_true, if_neg h32, if_pos h64])
      have hstep : stepP T (.want p st ns m) = .inr (.want (p + 1) (33 :: st) ns (m + 1)) := by
        simp only [stepP, h1, if_true, if_neg h32, if_neg h64]
      obtain ⟨f1, f2⟩ := hF (p + 1) ns (m + 1) (33 :: st) (by rw [← hc]; rfl)
      cases hf : facV T d (p + 1) ns (m + 1) with
      | bad e0 q0 =>
        refine ⟨fun q ns' m' h => by simp [facV, h1, h64, hf] at h, fun e q h => ?_⟩
        simp only [facV, h1, if_true, if_neg h64, hf, Rd.bad.injEq] at h
        obtain ⟨rfl, rfl⟩ := h
        exact RunP.more hstep (f2 _ _ hf)
      | ok q0 ns0 m0 =>
        obtain ⟨hlt, f1⟩ := f1 _ _ _ hf
        refine ⟨fun q ns' m' h => ?_, fun e q h => by simp [facV, h1, h64, hf] at h⟩
        simp only [facV, h1, if_true, if_neg h64, hf, Rd.ok.injEq] at h
        obtain ⟨rfl, rfl, rfl⟩ := h
        exact ⟨by omega, fun r hr => RunP.more hstep (f1 r hr)⟩
    | false =>
      cases h2 : sgAt T p [40] with
      | true =>
        have hstep : stepP T (.want p st ns m) = .inr (.want (p + 1) (40 :: st) ns m) := by
          simp only [stepP, h1, h2, if_true, if_neg h32, Bool.false_eq_true, if_false]
        obtain ⟨f1, f2⟩ := or_like hF (p + 1) ns m (40 :: st) (by rw [← hc]; rfl) (fun x hx => by injection hx with hx; exact hx.symm)
        cases hf : orV T (facV T d) (p + 1) ns m with
        | bad e0 q0 =>
          refine ⟨fun q ns' m' h => by simp [facV, h1, h2, hf] at h, fun e q h => ?_⟩
          simp only [facV, h1, h2, if_true, hf, Bool.false_eq_true, if_false, Rd.bad.injEq] at h
          obtain ⟨rfl, rfl⟩ := h
          exact RunP.more hstep (f2 _ _ hf)
        | ok q0 ns0 m0 =>
          obtain ⟨hlt, hno, hna, f1⟩ := f1 _ _ _ hf
          cases h3 : sgAt T q0 [41] with
          | false =>
            refine ⟨fun q ns' m' h => by simp [facV, h1, h2, hf, h3] at h, fun e q h => ?_⟩
            simp only [facV, h1, h2, if_true, hf, h3, Bool.false_eq_true, if_false, Rd.bad.injEq] at h
            obtain ⟨rfl, rfl⟩ := h
            refine RunP.more hstep (f1 _ (RunP.fin ?_))
            simp only [stepP, hna, hno, h3, Bool.false_eq_true, if_false]
            rfl
          | true =>
            refine ⟨fun q ns' m' h => ?_, fun e q h => by simp [facV, h1, h2, hf, h3] at h⟩
            simp only [facV, h1, h2, if_true, hf, h3, Bool.false_eq_true, if_false, Rd.ok.injEq] at h
            obtain ⟨rfl, rfl, rfl⟩ := h
            refine ⟨hlt, fun r hr => RunP.more hstep (f1 _ (RunP.more ?_ hr))⟩
            simp only [stepP, hna, hno, h3, Bool.false_eq_true, if_false, if_true]
            rfl
      | false =>
        have : facV T (d + 1) p ns m = leafV T p ns m := by simp only [facV, h1, h2, Bool.false_eq_true, if_false]
        rw [this]
        exact leaf_like T p ns m st h1 h2

def Rd.end_ : Rd → Rd
  | .bad c q => .bad c q
  | .ok q ns m => .ok q ns m
/-- Both read alike. -/
theorem read_run (T : List Pt) (p : Nat) : RunP T (.want p [] [] 0) (readV T p) := by
  obtain ⟨f1, f2⟩ := or_like (fac_like T 32 0 rfl) p [] 0 [] rfl (fun x hx => by cases hx)
  unfold readV
  cases hf : orV T (facV T 32) p [] 0 with
  | bad e q => exact f2 _ _ hf
  | ok q ns m =>
    obtain ⟨_, hno, hna, f1⟩ := f1 _ _ _ hf
    refine f1 _ (RunP.fin ?_)
    simp only [stepP, hna, hno, Bool.false_eq_true, if_false]
    rfl
end Sp
end Go.Proofs.YtgikgppblkpojaaDoor

/-
  Plain laws: a token's text by itself, and with another text behind it (no program in sight; chapter 3).
-/
set_option linter.unusedVariables false
set_option linter.unusedSimpArgs false
set_option maxRecDepth 100000
set_option maxHeartbeats 4000000
namespace Go.Proofs.YtgikgppblkpojaaDoor
namespace Sp

theorem wordRun_take : ∀ (l : List UInt8) (j : Nat), wordRun (l.take j) = min (wordRun l) j
  | [], j => by simp [wordRun]
  | c :: r, 0 => by simp [wordRun]
  | c :: r, j + 1 => by
    rw [List.take_succ_cons]
    by_cases h : wordB c = true
    · rw [wordRun_pos h, wordRun_pos h, wordRun_take r j]
      omega
    · have h0 : ∀ x : List UInt8, wordRun (c :: x) = 0 := fun x => by
        unfold wordRun
        rw [List.takeWhile_cons, if_neg h]
        rfl
      rw [h0, h0]
      omega
theorem wordRun_glue (t x : List UInt8) (hx : wordRun x = 0) : wordRun (t ++ x) = wordRun t := by
  induction t with
  | nil => rw [List.nil_append, hx]; rfl
  | cons c t ih =>
    rw [List.cons_append]
    by_cases h : wordB c = true
    · rw [wordRun_pos h, wordRun_pos h, ih]
    · unfold wordRun
      rw [List.takeWhile_cons, if_neg h, List.takeWhile_cons, if_neg h]
theorem classV_app (a b : List UInt8) (ha : a ≠ []) : classV (a ++ b) = classV a := classV_nl a b ha
theorem classV_take (l : List UInt8) {n : Nat} (hn : 1 ≤ n) : classV (l.take n) = classV l := by
  match l, n, hn with
  | [], n, _ => simp
  | c :: r, n + 1, _ => rfl
theorem numRun_take : ∀ l : List UInt8, numRun (l.take (numRun l)) = numRun l
  | [] => rfl
  | c :: r => by
    have ih := numRun_take r
    by_cases h : (wordB c || (c == 46 && classV r == 6)) = true
    · have e : numRun (c :: r) = numRun r + 1 := by rw [numRun, if_pos h]
      have h' : (wordB c || (c == 46 && classV (r.take (numRun r)) == 6)) = true := by
        by_cases h6 : classV r = 6
        · obtain ⟨d, r', rfl, hd⟩ := classV_at h6 (by decide)
          have hw : wordB d = true := by
            unfold wordB
            rw [classB_6 hd]
            simp
          rw [classV_take _ (by rw [numRun_pos hw]; omega)]
          exact h
        · have : (classV r == 6) = false := by rw [beq_eq_false_iff_ne]; exact h6
          rw [this, Bool.and_false, Bool.or_false] at h
          rw [h, Bool.true_or]
      rw [e, List.take_succ_cons, numRun, if_pos h', ih]
    · have e : numRun (c :: r) = 0 := by rw [numRun, if_neg h]
      rw [e]
      rfl
/-- What may stand behind a token with no blank between. -/
def Stop (x : List UInt8) : Prop := wordRun x = 0 ∧ numRun x = 0 ∧ (x.head? = some 46 → classV (x.drop 1) ≠ 5) ∧ ∀ c, x.head? = some c → c ≠ 61 ∧ c ≠ 62
theorem numRun_glue (x : List UInt8) (h0 : numRun x = 0) : ∀ t : List UInt8, numRun t = t.length → numRun (t ++ x) = t.length
  | [], _ => by rw [List.nil_append, h0]; rfl
  | c :: r, h => by
    by_cases hc : (wordB c || (c == 46 && classV r == 6)) = true
    · rw [numRun, if_pos hc, List.length_cons] at h
      have ih := numRun_glue x h0 r (by omega)
      have hc' : (wordB c || (c == 46 && classV (r ++ x) == 6)) = true := by
        by_cases hr : r = []
        · subst hr
          have : (classV [] == 6) = false := rfl
          rw [this, Bool.and_false, Bool.or_false] at hc
          rw [hc, Bool.true_or]
        · rw [classV_app _ _ hr]
          exact hc
      rw [List.cons_append, numRun, if_pos hc', ih, List.length_cons]
    · rw [numRun, if_neg hc, List.length_cons] at h
      omega

theorem tw_split (l : List UInt8) (h : ¬ l.all (fun x => decide (x ≠ 125)) = true) : ∃ r, l = l.takeWhile (fun x => decide (x ≠ 125)) ++ 125 :: r := by
  induction l with
  | nil => exact absurd rfl h
  | cons c l ih =>
    by_cases hc : c = 125
    · subst hc
      exact ⟨l, by simp⟩
    · have : ¬ l.all (fun x => decide (x ≠ 125)) = true := by
        intro h2
        apply h
        rw [List.all_cons, h2]
        simpa using hc
      obtain ⟨r, hr⟩ := ih this
      refine ⟨r, ?_⟩
      rw [List.takeWhile_cons, if_pos (by simpa using hc), List.cons_append, ← hr]

theorem escV_ext {l : List UInt8} {k : Nat} {b : List UInt8} (h : escV l = some (k, b)) : 1 ≤ k ∧ k ≤ l.length ∧ ∀ y, escV (l.take k ++ y) = some (k, b) := by
  match l, h with
  | [], h => simp [escV] at h
  | [_], h => simp [escV] at h
  | a :: c :: r, h =>
    have h0 := h
    unfold escV at h
    simp only [] at h
    have two : ∀ {b' : List UInt8}, some (2, b') = some (k, b) → (∀ r', escV (a :: c :: r') = some (2, b')) → 1 ≤ k ∧ k ≤ (a :: c :: r).length ∧ ∀ y, escV ((a :: c :: r).take k ++ y) = some (k, b) := by
      intro b' h2 h3
      injection h2 with h2
      injection h2 with h4 h5
      subst h4 h5
      exact ⟨by omega, by simp, fun y => h3 y⟩
    split at h
    · rename_i hc; exact two h (fun r' => by subst hc; simp [escV])
    split at h
    · rename_i hc; exact two h (fun r' => by subst hc; simp [escV])
    split at h
    · rename_i hc; exact two h (fun r' => by subst hc; simp [escV])
    split at h
    · rename_i hc; exact two h (fun r' => by subst hc; simp [escV])
    split at h
    · rename_i hc; exact two h (fun r' => by subst hc; simp [escV])
    split at h
    · rename_i hc
      subst hc
      match r, h, h0 with
      | [], h, _ => simp at h
      | [_], h, _ => simp at h
      | p :: q :: r, h, h0 =>
        simp only [] at h
        split at h
        · rename_i hpq
          injection h with h
          injection h with h4 h5
          subst h4 h5
          refine ⟨by omega, by simp, fun y => ?_⟩
          show escV (a :: 120 :: p :: q :: y) = _
          simp [escV, hpq]
        · cases h
    split at h
    · rename_i hc
      subst hc
      match r, h, h0 with
      | [], h, _ => simp at h
      | d :: t, h, h0 =>
        simp only [] at h
        split at h
        · rename_i hd
          subst hd
          split at h
          · rename_i kk v hv
            injection h with h
            injection h with h4 h5
            subst h4 h5
            have hv0 := hv
            unfold bracedV at hv
            split at hv
            · cases hv
            · rename_i hall
              obtain ⟨r', hr'⟩ := tw_split t hall
              obtain ⟨ds, hds⟩ : ∃ ds, t.takeWhile (fun x => decide (x ≠ 125)) = ds := ⟨_, rfl⟩
              rw [hds] at hr' hv
              have hno : ∀ c ∈ ds, c ≠ 125 := by
                intro c hc
                rw [← hds] at hc
                have := List.all_eq_true.1 (List.all_takeWhile (l := t) (p := fun x => decide (x ≠ 125))) c hc
                simpa using this
              have hb : ∀ y, bracedV (ds ++ 125 :: y) = bracedV t := by
                intro y
                rw [hr']
                unfold bracedV
                rw [all_stop, all_stop, takeWhile_stop ds y hno, takeWhile_stop ds r' hno]
              split at hv
              · cases hv
              · rename_i vv hbb
                split at hv
                · injection hv with hv
                  injection hv with h6 h7
                  have hkk : kk = ds.length + 4 := h6.symm
                  subst hkk
                  have hlen : t.length = ds.length + 1 + r'.length := by rw [hr', List.length_append, List.length_cons]; omega
                  refine ⟨by omega, by rw [List.length_cons, List.length_cons, List.length_cons]; omega, fun y => ?_⟩
                  have e : (a :: 117 :: 123 :: t).take (ds.length + 4) ++ y = a :: 117 :: 123 :: (ds ++ 125 :: y) := by
                    rw [show ds.length + 4 = (ds.length + 1) + 1 + 1 + 1 by omega, List.take_succ_cons, List.take_succ_cons, List.take_succ_cons, hr']
                    rw [show ds ++ 125 :: r' = (ds ++ [125]) ++ r' by simp, List.take_append_of_le_length (by simp), List.take_of_length_le (by simp)]
                    simp
                  rw [e]
                  simp only [escV]
                  rw [hb y, hv0]
                  simp
                · cases hv
          · cases h
        · cases h
    · cases h

theorem speakF_loc (lines : Bool) (x : List UInt8) : ∀ (f g : Nat) (l : List UInt8) (i : Nat) (said b : List UInt8) (p : Nat), speakF lines f l i said = (0, b, p) → l.length ≤ f → f ≤ g →
    i < p ∧ p - i ≤ l.length ∧ speakF lines g (l.take (p - i) ++ x) i said = (0, b, p) := by
  intro f
  induction f with
  | zero => intro g l i said b p h; simp [speakF] at h
  | succ f ih =>
    intro g l i said b p h hlf hfg
    obtain ⟨g, rfl⟩ : ∃ g', g = g' + 1 := ⟨g - 1, by omega⟩
    match l, h, hlf with
    | [], h, _ => simp [speakF] at h
    | c :: r, h, hlf =>
      have hb := speakF_bd lines (f + 1) (c :: r) i said 0 p b hlf h
      have hip := hb.2.2 rfl
      have hple : p - i ≤ (c :: r).length := hb.2.1.le
      refine ⟨hip, hple, ?_⟩
      obtain ⟨m, hm⟩ : ∃ m, p - i = m + 1 := ⟨p - i - 1, by omega⟩
      have hhead : (c :: r).take (p - i) ++ x = c :: (r.take m ++ x) := by rw [hm, List.take_succ_cons, List.cons_append]
      rw [speakF] at h
      -- a piece of k bytes, then on
      have on : ∀ (k : Nat) (b' : List UInt8), 1 ≤ k → k ≤ (c :: r).length → speakF lines f ((c :: r).drop k) (i + k) (said ++ b') = (0, b, p) →
          (c :: r).take (p - i) ++ x = (c :: r).take k ++ (((c :: r).drop k).take (p - (i + k)) ++ x) ∧ speakF lines g (((c :: r).drop k).take (p - (i + k)) ++ x) (i + k) (said ++ b') = (0, b, p) := by
        intro k b' hk hkl h2
        have h3 := ih g _ _ _ _ _ h2 (by rw [List.length_drop]; simp only [List.length_cons] at hlf ⊢; omega) (by omega)
        refine ⟨?_, h3.2.2⟩
        rw [← List.append_assoc]
        congr 1
        rw [show p - i = k + (p - (i + k)) by omega, List.take_add]
      by_cases h34 : c = 34
      · rw [if_pos h34] at h
        injection h with h1 h
        injection h with h2 h3
        rw [hhead, speakF, if_pos h34, h2, h3]
      rw [if_neg h34] at h
      by_cases h92 : c = 92
      · rw [if_pos h92] at h
        split at h
        · simp at h
        · rename_i k b' he
          obtain ⟨hk1, hkl, hext⟩ := escV_ext he
          obtain ⟨e1, e2⟩ := on k b' hk1 hkl h
          have he2 := hext (((c :: r).drop k).take (p - (i + k)) ++ x)
          rw [← e1, hhead] at he2
          have hd : (c :: (r.take m ++ x)).drop k = ((c :: r).drop k).take (p - (i + k)) ++ x := by
            rw [← hhead, e1, List.drop_append_of_le_length (by rw [List.length_take]; omega), List.drop_eq_nil_of_le (by rw [List.length_take]; omega), List.nil_append]
          rw [hhead, speakF, if_neg h34, if_pos h92, he2]
          simp only []
          rw [hd]
          exact e2
      rw [if_neg h92] at h
      by_cases h10 : c = 10 ∧ lines = true
      · rw [if_pos h10] at h
        simp at h
      rw [if_neg h10] at h
      by_cases h32 : c.toNat < 32 ∨ c.toNat = 127 ∨ looseB (c :: r) = true
      · rw [if_pos h32] at h
        simp at h
      rw [if_neg h32] at h
      have hl : looseB (c :: r) = false := by
        cases hh : looseB (c :: r) with
        | false => rfl
        | true => exact absurd (Or.inr (Or.inr hh)) h32
      have hdl := dec_len (c :: r) (by simp)
      have hdp := dec_pos (c :: r) (by simp)
      obtain ⟨e1, e2⟩ := on _ _ hdp hdl h
      have hdec := dec_ext (c :: r) (((c :: r).drop (dec (c :: r)).2).take (p - (i + (dec (c :: r)).2)) ++ x) (by simp) hl
      rw [← e1, hhead] at hdec
      have hl2 : looseB (c :: (r.take m ++ x)) = false := by
        unfold looseB at hl ⊢
        rw [hdec]
        exact hl
      have hd : (c :: (r.take m ++ x)).drop (dec (c :: r)).2 = ((c :: r).drop (dec (c :: r)).2).take (p - (i + (dec (c :: r)).2)) ++ x := by
        rw [← hhead, e1, List.drop_append_of_le_length (by rw [List.length_take]; omega), List.drop_eq_nil_of_le (by rw [List.length_take]; omega), List.nil_append]
      have ht : (c :: (r.take m ++ x)).take (dec (c :: r)).2 = (c :: r).take (dec (c :: r)).2 := by
        rw [← hhead, e1, List.take_append_of_le_length (by rw [List.length_take]; omega), List.take_of_length_le (by rw [List.length_take]; omega)]
      rw [hhead, speakF, if_neg h34, if_neg h92, if_neg h10, if_neg (by rw [hl2]; rintro (h | h | h); exact h32 (Or.inl h); exact h32 (Or.inr (Or.inl h)); cases h), hdec, hd, ht]
      exact e2

theorem speakV_loc {lines : Bool} {l b : List UInt8} {p : Nat} (hl : l ≠ []) (h : speakV lines l = (0, b, p)) (x : List UInt8) : speakV lines (l.take p ++ x) = (0, b, p) ∧ 2 ≤ p ∧ p ≤ l.length := by
  unfold speakV at h ⊢
  have h1 := speakF_loc lines x l.length (max l.length (l.take p ++ x).length) (l.drop 1) 1 [] b p h (by rw [List.length_drop]; omega) (by omega)
  have hlen := h1.2.1
  rw [List.length_drop] at hlen
  have hpos : 1 ≤ l.length := by
    cases l with
    | nil => exact absurd rfl hl
    | cons _ _ => simp
  refine ⟨?_, by omega, by omega⟩
  have e : (l.take p ++ x).drop 1 = (l.drop 1).take (p - 1) ++ x := by
    rw [List.drop_append_of_le_length (by rw [List.length_take]; omega), List.drop_take]
  rw [e]
  rw [speakF_enough _ (max l.length (l.take p ++ x).length) lines _ _ _ (by rw [← e, List.length_drop]; omega) (by rw [← e, List.length_drop]; omega)]
  exact h1.2.2

theorem signV_take (l : List UInt8) : signV (l.take (signV l)) = signV l := by
  match l with
  | [] => rfl
  | [a] =>
    have h : signV [a] = 0 ∨ signV [a] = 1 := by
      simp only [signV]
      split
      · rename_i h; simp at h
      · split
        · exact Or.inr rfl
        · exact Or.inl rfl
    rcases h with h | h
    · rw [h]; rfl
    · rw [h, List.take_of_length_le (by simp), h]
  | a :: b :: r =>
    by_cases h2 : ((a == 33 && b == 61) || (a == 60 && b == 61) || (a == 62 && b == 61) || (a == 46 && b == 46) || (a == 45 && b == 62)) = true
    · have : ∀ r, signV (a :: b :: r) = 2 := fun r => by simp only [signV]; rw [if_pos h2]
      rw [this r]
      exact this []
    · by_cases h1 : (a == 40 || a == 41 || a == 33 || a == 61 || a == 60 || a == 62 || a == 38 || a == 124 || a == 44 || a == 58 || a == 47) = true
      · have e : signV (a :: b :: r) = 1 := by simp only [signV]; rw [if_neg h2, if_pos h1]
        rw [e]
        show signV [a] = 1
        simp only [signV]
        rw [if_neg (by simp), if_pos h1]
      · have e : signV (a :: b :: r) = 0 := by simp only [signV]; rw [if_neg h2, if_neg h1]
        rw [e]
        rfl

/-- A token's text is a token by itself. -/
theorem pieceV_take {l : List UInt8} {k n off : Nat} (h : pieceV l = (k, n, off, 0)) : pieceV (l.take n) = (k, n, off, 0) := by
  by_cases hl : l = []
  · subst hl
    simp at h ⊢
    exact h
  have hn := ((pieceV_size h hl).1 rfl).1
  have hle := ((pieceV_size h hl).1 rfl).2.1.le
  have hcl := classV_take l hn
  have h0 := h
  unfold pieceV at h ⊢
  rw [hcl]
  by_cases h5 : classV l = 5
  · rw [if_pos h5] at h ⊢
    simp only [] at h ⊢
    split at h
    · simp at h
    rename_i h24
    split at h
    · rename_i hdot
      split at h
      · simp at h
      rename_i hm24
      injection h with e1 h
      injection h with e2 h
      have hw : wordRun (l.take n) = wordRun l := by rw [wordRun_take]; omega
      have hm1 : 1 ≤ wordRun (l.drop (wordRun l + 1)) := by
        obtain ⟨d, r', hd, hc⟩ := classV_at hdot.2 (by decide)
        rw [hd, wordRun_pos (by unfold wordB; rw [classB_5 hc]; rfl)]
        omega
      rw [hw, if_neg h24]
      have hd1 : (l.take n).drop (wordRun l) = (l.drop (wordRun l)).take (n - wordRun l) := by rw [List.drop_take]
      have hd2 : (l.take n).drop (wordRun l + 1) = (l.drop (wordRun l + 1)).take (n - (wordRun l + 1)) := by rw [List.drop_take]
      have hh : ((l.take n).drop (wordRun l)).head? = (l.drop (wordRun l)).head? := by
        rw [hd1]
        cases l.drop (wordRun l) with
        | nil => simp
        | cons y ys => rw [show n - wordRun l = (n - wordRun l - 1) + 1 by omega]; rfl
      rw [hh, hd2, classV_take _ (by omega), if_pos hdot, wordRun_take, show min (wordRun (l.drop (wordRun l + 1))) (n - (wordRun l + 1)) = wordRun (l.drop (wordRun l + 1)) by omega, if_neg hm24, e1, e2]
      exact congrArg _ (congrArg _ h)
    · injection h with e1 h
      injection h with e2 h
      have hw : wordRun (l.take n) = n := by rw [wordRun_take]; omega
      rw [hw, if_neg (by omega), if_neg (by rw [List.drop_eq_nil_of_le (by rw [List.length_take]; omega)]; simp), e1]
      exact congrArg _ (congrArg _ h)
  rw [if_neg h5] at h ⊢
  by_cases h6 : classV l = 6
  · rw [if_pos h6] at h ⊢
    split at h
    · simp at h
    rename_i v hv
    injection h with e1 h
    injection h with e2 h
    rw [← e2, numRun_take, List.take_of_length_le (by rw [List.length_take]; omega), hv]
    show (4, numRun l, 0, 0) = _
    rw [e1]
    exact congrArg _ (congrArg _ h)
  rw [if_neg h6] at h ⊢
  by_cases h7 : classV l = 7
  · rw [if_pos h7] at h ⊢
    simp only [] at h ⊢
    split at h
    · rename_i hp
      injection h with e1 h
      injection h with e2 h
      have hd : (l.take n).drop 1 = (l.drop 1).take (n - 1) := by rw [List.drop_take]
      have hw : wordRun ((l.take n).drop 1) = wordRun (l.drop 1) := by rw [hd, wordRun_take]; omega
      rw [hw, hd, List.take_take, show min (1 + wordRun (l.drop 1) - 1) (n - 1) = 1 + wordRun (l.drop 1) - 1 by omega, if_pos hp, e1, e2]
      exact congrArg _ (congrArg _ h)
    · simp at h
  rw [if_neg h7] at h ⊢
  by_cases h8 : classV l = 8
  · rw [if_pos h8] at h ⊢
    simp only [] at h ⊢
    obtain ⟨c, b, p, hs⟩ : ∃ c b p, speakV true l = (c, b, p) := ⟨_, _, _, rfl⟩
    rw [hs] at h
    simp only [] at h
    split at h
    · rename_i hc
      injection h with e1 h
      injection h with e2 h
      injection h with e3 h
      exact absurd h hc
    rename_i hc
    simp only [Classical.not_not] at hc
    subst hc
    split at h
    · simp at h
    rename_i h256
    injection h with e1 h
    injection h with e2 h
    subst e2
    have := (speakV_loc hl hs []).1
    rw [List.append_nil] at this
    rw [this]
    simp only []
    rw [if_neg (by simp), if_neg h256, e1]
    exact congrArg _ (congrArg _ h)
  rw [if_neg h8] at h ⊢
  split at h
  · simp at h
  rename_i hs
  injection h with e1 h
  injection h with e2 h
  rw [← e2, signV_take, if_neg hs, e1]
  exact congrArg _ (congrArg _ h)
end Sp
end Go.Proofs.YtgikgppblkpojaaDoor

/-
  Plain laws: what is written of tokens is read as the same tokens, and what is read can be written (no program in sight; chapter 3).
-/
set_option linter.unusedVariables false
set_option linter.unusedSimpArgs false
set_option maxRecDepth 100000
set_option maxHeartbeats 4000000
namespace Go.Proofs.YtgikgppblkpojaaDoor
namespace Sp

theorem signV_glue {t x : List UInt8} (h : signV t = t.length) (ht : t ≠ []) (hx : ∀ c, x.head? = some c → c ≠ 61 ∧ c ≠ 62) : signV (t ++ x) = t.length := by
  match t, h, ht with
  | [a], h, _ =>
    simp only [signV] at h
    by_cases h1 : (a == 40 || a == 41 || a == 33 || a == 61 || a == 60 || a == 62 || a == 38 || a == 124 || a == 44 || a == 58 || a == 47) = true
    · match x, hx with
      | [], _ =>
        simp only [List.append_nil, signV]
        rw [if_neg (by simp), if_pos h1]
        rfl
      | b :: x, hx =>
        have hb := hx b rfl
        have h61 : (b == 61) = false := beq_eq_false_iff_ne.2 hb.1
        have h62 : (b == 62) = false := beq_eq_false_iff_ne.2 hb.2
        have h46 : (a == 46) = false := by
          rw [beq_eq_false_iff_ne]
          rintro rfl
          revert h1
          decide
        show signV (a :: b :: x) = _
        simp only [signV, h61, h62, h46, Bool.and_false, Bool.false_and, Bool.or_false, Bool.false_eq_true, if_false]
        rw [if_pos h1]
        rfl
    · rw [if_neg (by simp), if_neg h1] at h
      simp at h
  | a :: b :: r, h, _ =>
    have h2 := signV_le (a :: b :: r)
    rw [h] at h2
    simp only [List.length_cons] at h2
    have : r = [] := List.length_eq_zero_iff.1 (by omega)
    subst this
    simp only [signV] at h
    by_cases h2 : ((a == 33 && b == 61) || (a == 60 && b == 61) || (a == 62 && b == 61) || (a == 46 && b == 46) || (a == 45 && b == 62)) = true
    · show signV (a :: b :: x) = 2
      simp only [signV]
      rw [if_pos h2]
    · rw [if_neg h2] at h
      split at h <;> simp at h

/-- A token with something behind it that stops it. -/
theorem pieceV_glue {t x : List UInt8} {k off : Nat} (h : pieceV t = (k, t.length, off, 0)) (ht : t ≠ []) (hx : Stop x) : pieceV (t ++ x) = (k, t.length, off, 0) := by
  have hcl := classV_app t x ht
  have hpos : 1 ≤ t.length := by
    cases t with
    | nil => exact absurd rfl ht
    | cons _ _ => simp
  obtain ⟨hw0, hn0, hdot0, hs0⟩ := hx
  unfold pieceV at h ⊢
  rw [hcl]
  by_cases h5 : classV t = 5
  · rw [if_pos h5] at h ⊢
    simp only [] at h ⊢
    rw [wordRun_glue t x hw0]
    split at h
    · simp at h
    rename_i h24
    rw [if_neg h24]
    split at h
    · rename_i hdot
      split at h
      · simp at h
      rename_i hm24
      injection h with e1 h
      injection h with e2 h
      have hlt : wordRun t + 1 ≤ t.length := by omega
      have hd1 : (t ++ x).drop (wordRun t) = t.drop (wordRun t) ++ x := List.drop_append_of_le_length (by omega)
      have hd2 : (t ++ x).drop (wordRun t + 1) = t.drop (wordRun t + 1) ++ x := List.drop_append_of_le_length (by omega)
      have hne1 : t.drop (wordRun t) ≠ [] := by
        intro e
        rw [e] at hdot
        simp at hdot
      have hne2 : t.drop (wordRun t + 1) ≠ [] := by
        intro e
        rw [e] at hdot
        have := hdot.2
        simp [classV] at this
      have hh : (t.drop (wordRun t) ++ x).head? = (t.drop (wordRun t)).head? := by
        cases hq : t.drop (wordRun t) with
        | nil => exact absurd hq hne1
        | cons y ys => rfl
      rw [hd1, hd2, hh, classV_app _ _ hne2, if_pos hdot, wordRun_glue _ x hw0, if_neg hm24, e1, e2]
      exact congrArg _ (congrArg _ h)
    · rename_i hdot
      injection h with e1 h
      injection h with e2 h
      have hd1 : (t ++ x).drop (wordRun t) = x := by rw [e2, List.drop_left]
      have hd2 : (t ++ x).drop (wordRun t + 1) = x.drop 1 := by rw [← List.drop_drop, hd1]
      rw [hd1, hd2, if_neg (by rintro ⟨p, q⟩; exact hdot0 p q), e1, e2]
      exact congrArg _ (congrArg _ h)
  rw [if_neg h5] at h ⊢
  by_cases h6 : classV t = 6
  · rw [if_pos h6] at h ⊢
    split at h
    · simp at h
    rename_i v hv
    injection h with e1 h
    injection h with e2 h
    rw [numRun_glue x hn0 t e2, List.take_left]
    rw [e2, List.take_length] at hv
    rw [hv]
    show (4, t.length, 0, 0) = _
    rw [e1]
    exact congrArg _ (congrArg _ h)
  rw [if_neg h6] at h ⊢
  by_cases h7 : classV t = 7
  · rw [if_pos h7] at h ⊢
    simp only [] at h ⊢
    split at h
    · rename_i hp
      injection h with e1 h
      injection h with e2 h
      have hd : (t ++ x).drop 1 = t.drop 1 ++ x := List.drop_append_of_le_length hpos
      rw [hd, wordRun_glue _ x hw0, List.take_append_of_le_length (by have := wordRun_le (t.drop 1); omega), if_pos hp, e1, e2]
      exact congrArg _ (congrArg _ h)
    · simp at h
  rw [if_neg h7] at h ⊢
  by_cases h8 : classV t = 8
  · rw [if_pos h8] at h ⊢
    simp only [] at h ⊢
    obtain ⟨c, b, p, hs⟩ : ∃ c b p, speakV true t = (c, b, p) := ⟨_, _, _, rfl⟩
    rw [hs] at h
    simp only [] at h
    split at h
    · rename_i hc
      injection h with e1 h
      injection h with e2 h
      injection h with e3 h
      exact absurd h hc
    rename_i hc
    simp only [Classical.not_not] at hc
    subst hc
    split at h
    · simp at h
    rename_i h256
    injection h with e1 h
    injection h with e2 h
    subst e2
    have := (speakV_loc ht hs x).1
    rw [List.take_length] at this
    rw [this]
    simp only []
    rw [if_neg (by simp), if_neg h256, e1]
    exact congrArg _ (congrArg _ h)
  rw [if_neg h8] at h ⊢
  split at h
  · simp at h
  rename_i hs
  injection h with e1 h
  injection h with e2 h
  rw [signV_glue e2 ht hs0, if_neg (by omega), e1]
  exact congrArg _ (congrArg _ h)

theorem stop_of (c : UInt8) (r : List UInt8) (h1 : wordB c = false) (h2 : c ≠ 46) (h3 : c ≠ 61 ∧ c ≠ 62) : Stop (c :: r) := by
  refine ⟨?_, ?_, ?_, ?_⟩
  · unfold wordRun
    rw [List.takeWhile_cons, if_neg (by rw [h1]; simp)]
    rfl
  · rw [numRun, if_neg]
    rw [h1, Bool.false_or, beq_eq_false_iff_ne.2 h2]
    simp
  · intro h
    injection h with h
    exact absurd h h2
  · intro d hd
    injection hd with hd
    subst hd
    exact h3
theorem stop_dots (r : List UInt8) : Stop (46 :: 46 :: r) := by
  refine ⟨rfl, ?_, ?_, ?_⟩
  · rw [numRun, if_neg]
    show ¬ (wordB 46 || ((46 : UInt8) == 46 && classV (46 :: r) == 6)) = true
    rw [show classV (46 :: r) = 0 from rfl]
    decide
  · intro _
    show classV (46 :: r) ≠ 5
    rw [show classV (46 :: r) = 0 from rfl]
    decide
  · intro d hd
    injection hd with hd
    subst hd
    decide

theorem piece_open (a : UInt8) (x : List UInt8) (h : a = 40 ∨ a = 47 ∨ a = 58 ∨ (a = 33 ∧ x.head? ≠ some 61)) : pieceV (a :: x) = (7, 1, 0, 0) := by
  have hs : signV (a :: x) = 1 := by
    rcases h with rfl | rfl | rfl | ⟨rfl, h⟩
    · cases x <;> simp [signV]
    · cases x <;> simp [signV]
    · cases x <;> simp [signV]
    · cases x with
      | nil => simp [signV]
      | cons b x =>
        have : b ≠ 61 := by
          rintro rfl
          exact h rfl
        simp [signV, this]
  have hc : classV (a :: x) = 0 := by
    show classB a = 0
    rcases h with rfl | rfl | rfl | ⟨rfl, h⟩ <;> decide
  unfold pieceV
  rw [hc, hs]
  simp
theorem piece_dots (x : List UInt8) : pieceV (46 :: 46 :: x) = (7, 2, 0, 0) := by
  unfold pieceV
  rw [show classV (46 :: 46 :: x) = 0 from rfl, show signV (46 :: 46 :: x) = 2 by simp [signV]]
  simp

theorem pieceV_at {c : UInt8} {r : List UInt8} {k n off : Nat} (h : pieceV (c :: r) = (k, n, off, 0)) : PieceAt c := by
  rcases run_cases c with h3 | h2 | h4 | hp
  · exfalso
    have hc : c.toNat = 10 := by
      unfold classB at h3
      split at h3
      · omega
      · split at h3
        · assumption
        · repeat (split at h3 <;> try omega)
    have : c = 10 := UInt8.toNat_inj.1 hc
    subst this
    unfold pieceV at h
    rw [show classV (10 :: r) = 3 from rfl, show signV (10 :: r) = 0 by cases r <;> simp [signV]] at h
    simp at h
  · exfalso
    have hb : c = 32 ∨ c = 9 ∨ c = 13 := by
      unfold classB at h2
      split at h2
      · rename_i hb
        simp only [blankB, decide_eq_true_eq] at hb
        rcases hb with hb | hb | hb
        · exact Or.inl (UInt8.toNat_inj.1 hb)
        · exact Or.inr (Or.inl (UInt8.toNat_inj.1 hb))
        · exact Or.inr (Or.inr (UInt8.toNat_inj.1 hb))
      · repeat (split at h2 <;> try omega)
    unfold pieceV at h
    rw [show classV (c :: r) = 2 from h2, show signV (c :: r) = 0 by rcases hb with rfl | rfl | rfl <;> cases r <;> simp [signV]] at h
    simp at h
  · exfalso
    have hc : c.toNat = 35 := by
      unfold classB at h4
      split at h4
      · omega
      · split at h4
        · omega
        · split at h4
          · assumption
          · repeat (split at h4 <;> try omega)
    have : c = 35 := UInt8.toNat_inj.1 hc
    subst this
    unfold pieceV at h
    rw [show classV (35 :: r) = 4 from rfl, show signV (35 :: r) = 0 by cases r <;> simp [signV]] at h
    simp at h
  · exact hp

def ptOf (t : Tok) : Pt := ((t.1 : Int), t.2.1)

theorem okT_piece {t : Pt} (h : okT t = true) (h1 : t.1 ≠ 1) : t.2 ≠ [] ∧ ∃ k off, pieceV t.2 = (k, t.2.length, off, 0) ∧ (k : Int) = t.1 := by
  unfold okT at h
  rw [if_neg h1] at h
  simp only [Bool.and_eq_true, beq_iff_eq, Bool.not_eq_true', List.isEmpty_eq_false_iff] at h
  refine ⟨h.1.1.1, (pieceV t.2).1, (pieceV t.2).2.2.1, ?_, h.1.2⟩
  rw [← h.1.1.2]
  conv => rhs; rw [h.1.1.2]
  rw [← h.2]
  rw [show (0 : Nat) = (pieceV t.2).2.2.2 from h.1.1.2.symm]

theorem sgn_iff {t : Pt} {s : List UInt8} : sgn t s = true ↔ t.1 = 7 ∧ t.2 = s := by
  unfold sgn
  rw [Bool.and_eq_true, beq_iff_eq, beq_iff_eq]

/-- What stands behind a token that was written lets it be read. -/
theorem piece_written {t u : Pt} {r : List Pt} (ht : okT t = true) (h1 : t.1 ≠ 1) (hu : okT u = true) :
    ∃ k off, pieceV (t.2 ++ textV t (u :: r)) = (k, t.2.length, off, 0) ∧ (k : Int) = t.1 := by
  obtain ⟨hne, k, off, hp, hk⟩ := okT_piece ht h1
  have glue : Stop (textV t (u :: r)) → ∃ k off, pieceV (t.2 ++ textV t (u :: r)) = (k, t.2.length, off, 0) ∧ (k : Int) = t.1 := fun h => ⟨k, off, pieceV_glue hp hne h, hk⟩
  unfold textV at glue ⊢
  by_cases hs : spacedV t u = true
  · rw [if_pos hs] at glue ⊢
    exact glue (stop_of 32 _ (by decide) (by decide) (by decide))
  rw [if_neg hs, List.nil_append] at glue ⊢
  have opn : ∀ (a : UInt8), t.2 = [a] → t.1 = 7 → (a = 40 ∨ a = 47 ∨ a = 58 ∨ (a = 33 ∧ (u.2 ++ textV u r).head? ≠ some 61)) → ∃ k off, pieceV (t.2 ++ (u.2 ++ textV u r)) = (k, t.2.length, off, 0) ∧ (k : Int) = t.1 := by
    intro a h7 h8 ha
    rw [h7]
    exact ⟨7, 0, piece_open a _ ha, by rw [h8]; rfl⟩
  unfold spacedV at hs
  by_cases c1 : t.1 = 1 ∨ u.1 = 1
  · rcases c1 with c1 | c1
    · exact absurd c1 h1
    · have hu2 : u.2 = [10] := by
        unfold okT at hu
        rw [if_pos c1, beq_iff_eq] at hu
        exact hu
      rw [hu2] at glue ⊢
      exact glue (stop_of 10 _ (by decide) (by decide) (by decide))
  rw [if_neg c1] at hs
  by_cases c2 : (sgn t [40] || sgn t [47] || sgn t [46, 46] || sgn t [58]) = true
  · simp only [Bool.or_eq_true, sgn_iff] at c2
    rcases c2 with ((c2 | c2) | c2) | c2
    · exact opn 40 c2.2 c2.1 (by simp)
    · exact opn 47 c2.2 c2.1 (by simp)
    · rw [c2.2]
      exact ⟨7, 0, piece_dots _, by rw [c2.1]; rfl⟩
    · exact opn 58 c2.2 c2.1 (by simp)
  rw [if_neg c2] at hs
  by_cases c3 : (sgn u [41] || sgn u [44] || sgn u [47] || sgn u [46, 46] || sgn u [58]) = true
  · simp only [Bool.or_eq_true, sgn_iff] at c3
    rcases c3 with (((c3 | c3) | c3) | c3) | c3
    · rw [c3.2] at glue ⊢; exact glue (stop_of 41 _ (by decide) (by decide) (by decide))
    · rw [c3.2] at glue ⊢; exact glue (stop_of 44 _ (by decide) (by decide) (by decide))
    · rw [c3.2] at glue ⊢; exact glue (stop_of 47 _ (by decide) (by decide) (by decide))
    · rw [c3.2] at glue ⊢; exact glue (stop_dots _)
    · rw [c3.2] at glue ⊢; exact glue (stop_of 58 _ (by decide) (by decide) (by decide))
  rw [if_neg c3] at hs
  simp only [Bool.not_eq_true, Bool.not_eq_false', Bool.and_eq_true, Bool.or_eq_true, sgn_iff, beq_iff_eq] at hs
  refine opn 33 hs.1.2 hs.1.1 (Or.inr (Or.inr (Or.inr ⟨rfl, ?_⟩)))
  rcases hs.2 with (h | h) | h
  · obtain ⟨hne2, k2, off2, hp2, hk2⟩ := okT_piece hu (by omega)
    have : k2 = 2 := by omega
    subst this
    match hq : u.2, hne2 with
    | c :: r', _ =>
      intro e
      injection e with e
      subst e
      rw [hq] at hp2
      unfold pieceV at hp2
      rw [show classV (61 :: r') = 0 from rfl] at hp2
      simp only [show ¬ (0 : Nat) = 5 by decide, show ¬ (0 : Nat) = 6 by decide, show ¬ (0 : Nat) = 7 by decide, show ¬ (0 : Nat) = 8 by decide, if_false] at hp2
      split at hp2
      · simp at hp2
      · simp at hp2
  · rw [h.2]
    simp
  · rw [h.2]
    simp

/-- What is written is read as the same tokens. -/
theorem runV_text : ∀ (ts : List Pt) (last : Pt) (line col : Nat) (acc : List Tok), validV last ts = true →
    ∃ ts', runV (textV last ts) line col (last.1 != 1) acc = (acc ++ ts', 0, 0, 0) ∧ ts'.map ptOf = ts := by
  intro ts
  induction ts with
  | nil =>
    intro last line col acc h
    simp only [validV, beq_iff_eq] at h
    refine ⟨[], ?_, rfl⟩
    rw [textV, runV_nil, h]
    simp [endT]
  | cons t r ih =>
    intro last line col acc h
    rw [validV, Bool.and_eq_true, Bool.and_eq_true] at h
    obtain ⟨⟨hok, hend⟩, hr⟩ := h
    -- past the blank
    have hbl : ∃ col', runV (textV last (t :: r)) line col (last.1 != 1) acc = runV (t.2 ++ textV t r) line col' (last.1 != 1) acc := by
      rw [textV]
      by_cases hs : spacedV last t = true
      · rw [if_pos hs]
        exact ⟨col + 1, runV_blank _ _ _ _ _ (by decide)⟩
      · rw [if_neg hs]
        exact ⟨col, rfl⟩
    obtain ⟨col', hbl⟩ := hbl
    rw [hbl]
    by_cases h1 : t.1 = 1
    · have ht2 : t.2 = [10] := by
        unfold okT at hok
        rw [if_pos h1, beq_iff_eq] at hok
        exact hok
      have hl : (last.1 != 1) = true := by
        rw [bne_iff_ne]
        intro e
        rw [h1, e] at hend
        simp at hend
      obtain ⟨ts', e1, e2⟩ := ih t (line + 1) 1 (acc ++ [(1, [10], line, col')]) hr
      refine ⟨(1, [10], line, col') :: ts', ?_, ?_⟩
      · rw [ht2, List.singleton_append, runV_nl _ _ _ _ _ (by decide), hl]
        have : (t.1 != 1) = false := by rw [h1]; rfl
        rw [this] at e1
        simp only [endT, if_true]
        rw [e1, List.append_assoc, List.singleton_append]
      · rw [List.map_cons, e2]
        congr 1
        exact Prod.ext h1.symm ht2.symm
    · match r, hr, ih with
      | [], hr, _ =>
        simp only [validV, beq_iff_eq] at hr
        exact absurd hr h1
      | u :: r, hr, ih =>
        have hu : okT u = true := by
          rw [validV, Bool.and_eq_true, Bool.and_eq_true] at hr
          exact hr.1.1
        obtain ⟨k, off, hp, hk⟩ := piece_written (r := r) hok h1 hu
        have hne := (okT_piece hok h1).1
        obtain ⟨c, q, hq⟩ : ∃ c q, t.2 = c :: q := by
          cases hh : t.2 with
          | nil => exact absurd hh hne
          | cons c q => exact ⟨c, q, rfl⟩
        have hlist : t.2 ++ textV t (u :: r) = c :: (q ++ textV t (u :: r)) := by rw [hq, List.cons_append]
        have hp' := hp
        rw [hlist] at hp'
        have hrun := runV_tok (q ++ textV t (u :: r)) line col' (last.1 != 1) acc (pieceV_at hp') hp'
        rw [← hlist, List.drop_left, List.take_left] at hrun
        have hop : (t.1 != 1) = true := by rw [bne_iff_ne]; exact h1
        obtain ⟨ts', e1, e2⟩ := ih t line (col' + chars t.2) (acc ++ [(k, t.2, line, col')]) hr
        rw [hop] at e1
        refine ⟨(k, t.2, line, col') :: ts', ?_, ?_⟩
        · rw [hrun, e1, List.append_assoc, List.singleton_append]
        · rw [List.map_cons, e2]
          congr 1
          exact Prod.ext hk rfl

theorem scan_text {ts : List Pt} (h : validV p0 ts = true) (hl : (textV p0 ts).length ≤ 16384) : ∃ ts', scanV (textV p0 ts) = (ts', 0, 0, 0) ∧ ts'.map ptOf = ts := by
  obtain ⟨ts', e1, e2⟩ := runV_text ts p0 1 1 [] h
  refine ⟨ts', ?_, e2⟩
  rw [scanV_run _ (by omega)]
  rw [List.nil_append] at e1
  exact e1

/-- The same without the end. -/
def okL (last : Pt) : List Pt → Bool
  | [] => true
  | t :: r => okT t && !(t.1 == 1 && last.1 == 1) && okL t r
def lastP (last : Pt) (ts : List Pt) : Pt := ts.getLast?.getD last
theorem lastP_cons (last t : Pt) (r : List Pt) : lastP last (t :: r) = lastP t r := by
  unfold lastP
  cases r with
  | nil => rfl
  | cons y r => simp [List.getLast?_cons]
theorem validV_okL : ∀ (ts : List Pt) (last : Pt), validV last ts = (okL last ts && (lastP last ts).1 == 1)
  | [], last => by simp [validV, okL, lastP]
  | t :: r, last => by rw [validV, okL, lastP_cons, validV_okL r t]; simp only [Bool.and_assoc]
theorem okL_snoc (t : Pt) : ∀ (ts : List Pt) (last : Pt), okL last (ts ++ [t]) = (okL last ts && (okT t && !(t.1 == 1 && (lastP last ts).1 == 1)))
  | [], last => by simp [okL, lastP]
  | x :: r, last => by rw [List.cons_append, okL, okL, lastP_cons, okL_snoc t r x]; simp only [Bool.and_assoc]
theorem lastP_snoc (last t : Pt) (ts : List Pt) : lastP last (ts ++ [t]) = t := by simp [lastP]

/-- How much tokens take at most. -/
def massV (ts : List Pt) : Nat := (ts.map fun t => t.2.length + 1).sum
theorem massV_snoc (ts : List Pt) (t : Pt) : massV (ts ++ [t]) = massV ts + (t.2.length + 1) := by
  unfold massV
  rw [List.map_append, List.sum_append]
  simp
theorem textV_mass : ∀ (ts : List Pt) (last : Pt), (textV last ts).length ≤ massV ts
  | [], _ => by simp [textV]
  | t :: r, last => by
    have ih := textV_mass r t
    rw [textV, List.length_append, List.length_append]
    have e : massV (t :: r) = t.2.length + 1 + massV r := by simp [massV]
    have : (if spacedV last t = true then [(32 : UInt8)] else []).length ≤ 1 := by split <;> simp
    omega

/-- What is read can be written. -/
theorem runV_valid : ∀ (m : Nat) (a : List UInt8) (line col : Nat) (op : Bool) (acc : List Tok), a.length ≤ m → okL p0 (acc.map ptOf) = true → op = ((lastP p0 (acc.map ptOf)).1 != 1) → (runV a line col op acc).2.1 = 0 →
    validV p0 ((runV a line col op acc).1.map ptOf) = true ∧ massV ((runV a line col op acc).1.map ptOf) ≤ massV (acc.map ptOf) + 2 * a.length + 2 := by
  have hE : ∀ (line col : Nat) (op : Bool) (acc : List Tok), okL p0 (acc.map ptOf) = true → op = ((lastP p0 (acc.map ptOf)).1 != 1) →
      okL p0 ((endT op acc line col).map ptOf) = true ∧ (lastP p0 ((endT op acc line col).map ptOf)).1 = 1 ∧ massV ((endT op acc line col).map ptOf) ≤ massV (acc.map ptOf) + 2 := by
    intro line col op acc h1 h2
    unfold endT
    cases op with
    | true =>
      rw [if_pos rfl, List.map_append, List.map_singleton]
      refine ⟨?_, by rw [lastP_snoc]; rfl, ?_⟩
      · rw [okL_snoc, h1]
        have := h2.symm
        rw [bne_iff_ne] at this
        have h3 : ((lastP p0 (acc.map ptOf)).1 == 1) = false := beq_eq_false_iff_ne.2 this
        rw [h3]
        rfl
      · rw [massV_snoc]
        exact Nat.le_refl _
    | false =>
      rw [if_neg (by simp)]
      refine ⟨h1, ?_, by omega⟩
      have := h2.symm
      rw [bne_eq_false_iff_eq] at this
      exact this
  intro m
  induction m with
  | zero =>
    intro a line col op acc hm h1 h2 h3
    have : a = [] := List.length_eq_zero_iff.1 (by omega)
    subst this
    rw [runV_nil]
    obtain ⟨e1, e2, e3⟩ := hE line col op acc h1 h2
    refine ⟨by rw [validV_okL, e1, e2]; rfl, e3⟩
  | succ m ih =>
    intro a line col op acc hm h1 h2 h3
    match a with
    | [] =>
      rw [runV_nil]
      obtain ⟨e1, e2, e3⟩ := hE line col op acc h1 h2
      refine ⟨by rw [validV_okL, e1, e2]; rfl, e3⟩
    | c :: r =>
      simp only [List.length_cons] at hm
      rcases run_cases c with h | h | h | h
      · rw [runV_nl _ _ _ _ _ h] at h3 ⊢
        obtain ⟨e1, e2, e3⟩ := hE line col op acc h1 h2
        have := ih r _ _ _ _ (by omega) e1 (by rw [e2]; rfl) h3
        refine ⟨this.1, ?_⟩
        rw [List.length_cons]
        omega
      · rw [runV_blank _ _ _ _ _ h] at h3 ⊢
        have := ih r _ _ _ _ (by omega) h1 h2 h3
        refine ⟨this.1, ?_⟩
        rw [List.length_cons]
        omega
      · have hpos := comV_pos (c := c) r (by omega)
        rw [runV_hash _ _ _ _ _ h] at h3 ⊢
        have := ih _ _ _ _ _ (by rw [List.length_drop, List.length_cons]; omega) h1 h2 h3
        refine ⟨this.1, ?_⟩
        have h5 := this.2
        rw [List.length_drop] at h5
        omega
      · obtain ⟨k, n, off, code, hp⟩ : ∃ k n off code, pieceV (c :: r) = (k, n, off, code) := ⟨_, _, _, _, rfl⟩
        have hsz := pieceV_size hp (by simp)
        by_cases h0 : code = 0
        · subst h0
          have hs := hsz.1 rfl
          have hle := hs.2.1.le
          rw [runV_tok _ _ _ _ _ h hp] at h3 ⊢
          have hk1 : ((k : Int) == 1) = false := beq_eq_false_iff_ne.2 (by omega)
          have hok : okT (ptOf (k, (c :: r).take n, line, col)) = true := by
            have ht := pieceV_take hp
            unfold okT ptOf
            simp only []
            rw [if_neg (by omega), ht]
            have hne : (c :: r).take n ≠ [] := by
              intro e
              have := congrArg List.length e
              rw [List.length_take, List.length_nil] at this
              omega
            have hlen : ((c :: r).take n).length = n := by rw [List.length_take]; omega
            simp [hlen]
            omega
          have hokL : okL p0 ((acc ++ [(k, (c :: r).take n, line, col)]).map ptOf) = true := by
            rw [List.map_append, List.map_singleton, okL_snoc, h1, hok]
            show (true && (true && !(((k : Int) == 1) && _))) = true
            rw [hk1]
            rfl
          have := ih _ _ _ _ _ (by rw [List.length_drop, List.length_cons]; omega) hokL (by
            rw [List.map_append, List.map_singleton, lastP_snoc]
            show true = ((k : Int) != 1)
            rw [bne, hk1]
            rfl) h3
          refine ⟨this.1, ?_⟩
          have h5 := this.2
          rw [List.map_append, List.map_singleton, massV_snoc, List.length_drop] at h5
          have h6 : (ptOf (k, (c :: r).take n, line, col)).2.length = n := by
            show ((c :: r).take n).length = n
            rw [List.length_take]
            omega
          rw [h6] at h5
          omega
        · rw [runV_err _ _ _ _ _ h hp h0] at h3
          exact absurd h3 h0

theorem scan_valid {l : List UInt8} {ts : List Tok} (h : scanV l = (ts, 0, 0, 0)) : validV p0 (ts.map ptOf) = true ∧ (textV p0 (ts.map ptOf)).length ≤ 2 * l.length + 2 ∧ l.length ≤ 16384 ∧ ts.length ≤ l.length + 1 := by
  have hle : l.length ≤ 16384 := by
    rcases Nat.lt_or_ge 16384 l.length with h' | h'
    · unfold scanV at h
      rw [if_pos h'] at h
      simp at h
    · exact h'
  have hb := (scanV_bound l hle).1
  rw [h] at hb
  rw [scanV_run _ (by omega)] at h
  have hv := runV_valid l.length l 1 1 false [] (Nat.le_refl _) rfl rfl (by rw [h])
  rw [h] at hv
  have := textV_mass (ts.map ptOf) p0
  have h2 := hv.2
  simp only [massV, List.map_nil, List.sum_nil] at h2
  exact ⟨hv.1, by unfold massV at this; omega, hle, hb⟩
end Sp
end Go.Proofs.YtgikgppblkpojaaDoor

/-
  Plain laws: a text that is wholly a name, or a pattern (no program in sight; chapters 3, 5).
-/
set_option linter.unusedVariables false
set_option linter.unusedSimpArgs false
set_option maxRecDepth 100000
set_option maxHeartbeats 4000000
namespace Go.Proofs.YtgikgppblkpojaaDoor
namespace Sp

theorem scan_one {q : List UInt8} {k off : Nat} (hp : pieceV q = (k, q.length, off, 0)) (hne : q ≠ []) (hq : q.length ≤ 16384) : ∃ col, scanV q = ([(k, q, 1, 1), (1, [10], 1, col)], 0, 0, 0) := by
  match q, hne, hp with
  | c :: r, _, hp =>
    rw [scanV_run _ (by omega), runV_tok r 1 1 false [] (pieceV_at hp) hp, List.take_length, List.drop_length, runV_nil]
    exact ⟨_, rfl⟩
def headIs (k : Nat) (s : List UInt8) : List Tok → Bool
  | t :: _ => t.1 == k && t.2.1 == s
  | [] => false
/-- Is it just one token of this kind, as Scan tells? -/
def soleV (k : Nat) (s : List UInt8) : Bool := (scanV s).2.1 == 0 && (scanV s).1.length == 2 && headIs k s (scanV s).1
theorem sole_piece {k : Nat} (h1 : k ≠ 1) (s : List UInt8) : soleV k s = true ↔ s ≠ [] ∧ s.length ≤ 16384 ∧ ∃ off, pieceV s = (k, s.length, off, 0) := by
  constructor
  · intro h
    unfold soleV at h
    obtain ⟨ts, c, n, m, hsc⟩ : ∃ ts c n m, scanV s = (ts, c, n, m) := ⟨_, _, _, _, rfl⟩
    have hcd := scanV_code s
    rw [hsc] at h hcd
    simp only [Bool.and_eq_true, beq_iff_eq] at h hcd
    obtain ⟨⟨hc, hl⟩, ht⟩ := h
    have h00 := hcd.1 hc
    injection h00 with hn hm
    subst hc hn hm
    obtain ⟨hv, _, hle, _⟩ := scan_valid hsc
    match ts, ht, hv with
    | t :: r, ht, hv =>
      simp only [headIs, Bool.and_eq_true, beq_iff_eq] at ht
      rw [List.map_cons, validV] at hv
      simp only [Bool.and_eq_true] at hv
      have hok := hv.1.1
      have hne : (ptOf t).1 ≠ 1 := by
        unfold ptOf
        simp only [ht.1]
        omega
      obtain ⟨g1, k2, off, g2, g3⟩ := okT_piece hok hne
      unfold ptOf at g1 g2 g3
      simp only [ht.1, ht.2] at g1 g2 g3
      have : k2 = k := by omega
      subst this
      exact ⟨g1, hle, off, g2⟩
  · rintro ⟨hne, hle, off, hp⟩
    obtain ⟨col, hsc⟩ := scan_one hp hne hle
    unfold soleV
    rw [hsc]
    simp [headIs]

theorem wordRun_all : ∀ (l : List UInt8), l.all wordB = true → wordRun l = l.length
  | [], _ => rfl
  | c :: r, h => by
    rw [List.all_cons, Bool.and_eq_true] at h
    have := wordRun_all r h.2
    unfold wordRun at this ⊢
    rw [List.takeWhile_cons, if_pos h.1, List.length_cons, List.length_cons, this]
theorem all_wordRun : ∀ (l : List UInt8), wordRun l = l.length → l.all wordB = true
  | [], _ => rfl
  | c :: r, h => by
    unfold wordRun at h
    by_cases hc : wordB c = true
    · rw [List.takeWhile_cons, if_pos hc, List.length_cons, List.length_cons] at h
      rw [List.all_cons, hc, all_wordRun r (by unfold wordRun; omega)]
      rfl
    · rw [List.takeWhile_cons, if_neg hc] at h
      simp at h
theorem sole_name (s : List UInt8) : soleV 2 s = nameB s := by
  rw [Bool.eq_iff_iff, sole_piece (by decide)]
  unfold nameB
  simp only [Bool.and_eq_true, beq_iff_eq, decide_eq_true_eq]
  constructor
  · rintro ⟨hne, hle, off, hp⟩
    unfold pieceV at hp
    split at hp
    · rename_i h5
      simp only [] at hp
      split at hp
      · injection hp with h; exact absurd h (by decide)
      · split at hp
        · split at hp
          · injection hp with h; exact absurd h (by decide)
          · injection hp with h; exact absurd h (by decide)
        · rename_i h24 _
          injection hp with _ hp
          injection hp with hp _
          exact ⟨⟨h5, all_wordRun s hp⟩, by omega⟩
    · split at hp
      · split at hp
        · injection hp with h; exact absurd h (by decide)
        · injection hp with h; exact absurd h (by decide)
      · split at hp
        · simp only [] at hp
          split at hp
          · injection hp with h; exact absurd h (by decide)
          · injection hp with h; exact absurd h (by decide)
        · split at hp
          · simp only [] at hp
            split at hp
            · injection hp with h; exact absurd h (by decide)
            · split at hp
              · injection hp with h; exact absurd h (by decide)
              · injection hp with h; exact absurd h (by decide)
          · split at hp
            · injection hp with h; exact absurd h (by decide)
            · injection hp with h; exact absurd h (by decide)
  · rintro ⟨⟨h5, hal⟩, h24⟩
    have hw := wordRun_all s hal
    refine ⟨?_, by omega, 0, ?_⟩
    · intro e
      subst e
      exact absurd h5 (by decide)
    · unfold pieceV
      rw [if_pos h5]
      simp only [hw]
      rw [if_neg (by omega), if_neg (by rw [List.drop_length]; simp)]

theorem pat_word {d : List UInt8} (h : d.all (fun c => c == 48 || c == 49 || c == 120) = true) : d.all wordB = true := by
  rw [List.all_eq_true] at h ⊢
  intro c hc
  have := h c hc
  simp only [Bool.or_eq_true, beq_iff_eq] at this
  rcases this with (rfl | rfl) | rfl <;> decide
theorem sole_pat (s : List UInt8) : soleV 5 s = patB s := by
  rw [Bool.eq_iff_iff, sole_piece (by decide)]
  constructor
  · rintro ⟨hne, hle, off, hp⟩
    unfold pieceV at hp
    split at hp
    · simp only [] at hp
      split at hp
      · injection hp with h; exact absurd h (by decide)
      · split at hp
        · split at hp
          · injection hp with h; exact absurd h (by decide)
          · injection hp with h; exact absurd h (by decide)
        · injection hp with h; exact absurd h (by decide)
    · split at hp
      · split at hp
        · injection hp with h; exact absurd h (by decide)
        · injection hp with h; exact absurd h (by decide)
      · split at hp
        · rename_i h7
          simp only [] at hp
          split at hp
          · rename_i hpt
            injection hp with _ hp
            injection hp with hp _
            match s, h7, hpt, hp with
            | c :: r, h7, hpt, hp =>
              have hc : c = 37 := by
                have h7 : classB c = 7 := h7
                unfold classB at h7
                split at h7
                · omega
                · split at h7
                  · omega
                  · split at h7
                    · omega
                    · split at h7
                      · rename_i h; exact UInt8.toNat_inj.1 h
                      · repeat (split at h7 <;> try omega)
              rw [List.drop_succ_cons, List.drop_zero] at hpt hp
              rw [List.length_cons] at hp
              rw [List.take_of_length_le (by have := wordRun_le r; omega)] at hpt
              unfold patB
              rw [hc]
              simpa using hpt
          · injection hp with h; exact absurd h (by decide)
        · split at hp
          · simp only [] at hp
            split at hp
            · injection hp with h; exact absurd h (by decide)
            · split at hp
              · injection hp with h; exact absurd h (by decide)
              · injection hp with h; exact absurd h (by decide)
          · split at hp
            · injection hp with h; exact absurd h (by decide)
            · injection hp with h; exact absurd h (by decide)
  · intro h
    unfold patB at h
    match s, h with
    | c :: d, h =>
      simp only [Bool.and_eq_true, beq_iff_eq] at h
      obtain ⟨hc, hd⟩ := h
      subst hc
      have hd2 := hd
      unfold patV at hd2
      simp only [Bool.and_eq_true, bne_iff_ne, decide_eq_true_eq] at hd2
      have hw := wordRun_all d (pat_word hd2.1.1)
      refine ⟨by simp, by rw [List.length_cons]; omega, 0, ?_⟩
      unfold pieceV
      rw [show classV (37 :: d) = 7 from rfl]
      simp only [List.drop_succ_cons, List.drop_zero, hw]
      rw [if_neg (by decide), if_neg (by decide), if_pos trivial, List.take_of_length_le (by omega), if_pos hd, List.length_cons]
      rw [Nat.add_comm]
end Sp
end Go.Proofs.YtgikgppblkpojaaDoor

/-
  Plain laws: the bounds of what a reader of expressions comes to (no program in sight; chapter 5).
-/
set_option linter.unusedVariables false
set_option linter.unusedSimpArgs false
set_option maxRecDepth 100000
set_option maxHeartbeats 4000000
namespace Go.Proofs.YtgikgppblkpojaaDoor
namespace Sp

theorem kd_lt {T : List Pt} {i : Nat} (h : kdAt T i ≠ 0) : i < T.length := by
  unfold kdAt at h
  split at h
  · rename_i t ht
    exact (List.getElem?_eq_some_iff.1 ht).1
  · exact absurd rfl h
theorem sg_lt {T : List Pt} {i : Nat} {s : List UInt8} (h : sgAt T i s = true) : i < T.length := by
  unfold sgAt at h
  split at h
  · rename_i t ht
    exact (List.getElem?_eq_some_iff.1 ht).1
  · cases h
theorem op_lt {T : List Pt} {i : Nat} (h : opAt T i ≠ 0) : i < T.length := by
  unfold opAt at h
  repeat' split at h
  all_goals first | exact absurd rfl h | (exact sg_lt (by assumption))
theorem num_lt {T : List Pt} {i v : Nat} (h : numAt T i = some v) : i < T.length := by
  unfold numAt at h
  split at h
  · rename_i hc
    exact kd_lt (by rw [hc.1]; decide)
  · cases h
/-- What a reader may come to. -/
def RdB (T : List Pt) (ns : List Nd) (m : Nat) : Rd → Prop
  | .bad c q => q ≤ T.length ∧ c ≤ 100 ∧ 0 < c
  | .ok q ns' m' => q ≤ T.length ∧ m' ≤ 64 ∧ m ≤ m' ∧ ns'.length + m = ns.length + m'
def Bnd (T : List Pt) (F : Nat → List Nd → Nat → Rd) : Prop := ∀ p ns m, p ≤ T.length → m ≤ 64 → RdB T ns m (F p ns m)

def TRB (T : List Pt) : TR → Prop
  | .bad q => q ≤ T.length
  | .ok q _ => q ≤ T.length
theorem test_bd (T : List Pt) (name : List UInt8) (p : Nat) (hp : p ≤ T.length) : TRB T (testV T name p) := by
  unfold testV
  split
  · exact hp
  · rename_i h0
    have h1 := op_lt h0
    split
    · rename_i h5
      have h2 := kd_lt (T := T) (i := p + 1) (by rw [h5.2]; decide)
      split
      · show p + 2 ≤ _
        omega
      · show p + 1 ≤ _
        omega
    · split
      · show p + 1 ≤ _
        omega
      · rename_i v hv
        have h2 := num_lt hv
        split
        · rename_i hs
          have h3 := sg_lt hs.2
          split
          · show p + 3 ≤ _
            omega
          · rename_i u hu
            have h4 := num_lt hu
            show p + 4 ≤ _
            omega
        · split
          · rename_i hs
            have h3 := sg_lt hs.2
            split
            · show p + 3 ≤ _
              omega
            · rename_i u hu
              have h4 := num_lt hu
              show p + 4 ≤ _
              omega
          · show p + 2 ≤ _
            omega
theorem leaf_bd (T : List Pt) : Bnd T (leafV T) := by
  intro p ns m hp hm
  unfold leafV
  split
  · rename_i hk
    have h1 := kd_lt (T := T) (i := p) (by rw [hk.1]; decide)
    split
    · exact ⟨hp, by omega, by omega⟩
    · split
      · refine ⟨by omega, by omega, by omega, ?_⟩
        simp only [List.length_append, List.length_singleton]
        omega
      · split
        · refine ⟨by omega, by omega, by omega, ?_⟩
          simp only [List.length_append, List.length_singleton]
          omega
        · have ht := test_bd T (txAt T p) (p + 1) (by omega)
          split
          · rename_i q hq
            rw [hq] at ht
            exact ⟨ht, by omega, by omega⟩
          · rename_i q n hq
            rw [hq] at ht
            refine ⟨ht, by omega, by omega, ?_⟩
            simp only [List.length_append, List.length_singleton]
            omega
  · exact ⟨hp, by omega, by omega⟩
theorem RdB.more {T : List Pt} {ns ns0 : List Nd} {m m0 : Nat} {r : Rd} (h : RdB T ns0 m0 r) (h1 : m ≤ m0) (h2 : ns0.length + m = ns.length + m0) : RdB T ns m r := by
  cases r with
  | bad c q => exact h
  | ok q ns' m' =>
    obtain ⟨a, b, c, d⟩ := h
    exact ⟨a, b, by omega, by omega⟩
theorem loop_bd {T : List Pt} {F : Nat → List Nd → Nat → Rd} (hF : Bnd T F) (s : List UInt8) (k : Int) : ∀ n, Bnd T (loopV T F s k n) := by
  intro n
  induction n with
  | zero =>
    intro p ns m hp hm
    unfold loopV
    split
    · exact ⟨hp, by omega, by omega⟩
    · exact ⟨hp, hm, by omega, rfl⟩
  | succ n ih =>
    intro p ns m hp hm
    unfold loopV
    split
    · rename_i hs
      have hlt := sg_lt hs
      split
      · exact ⟨hp, by omega, by omega⟩
      · have hf := hF (p + 1) ns (m + 1) (by omega) (by omega)
        split
        · rename_i c q hq
          rw [hq] at hf
          exact hf
        · rename_i q ns' m' hq
          rw [hq] at hf
          obtain ⟨a, b, c, d⟩ := hf
          exact (ih q (ns' ++ [nd k]) m' a b).more (by omega) (by simp only [List.length_append, List.length_singleton]; omega)
    · exact ⟨hp, hm, by omega, rfl⟩
theorem chain_bd {T : List Pt} {F : Nat → List Nd → Nat → Rd} (hF : Bnd T F) (s : List UInt8) (k : Int) : Bnd T (chainV T F s k) := by
  intro p ns m hp hm
  have hf := hF p ns m hp hm
  unfold chainV
  split
  · rename_i c q hq
    rw [hq] at hf
    exact hf
  · rename_i q ns' m' hq
    rw [hq] at hf
    obtain ⟨a, b, c, d⟩ := hf
    exact (loop_bd hF s k (64 - m') q ns' m' a b).more c d
theorem or_bd {T : List Pt} {F : Nat → List Nd → Nat → Rd} (hF : Bnd T F) : Bnd T (orV T F) := chain_bd (chain_bd hF _ _) _ _
theorem fac_bd (T : List Pt) : ∀ d, Bnd T (facV T d) := by
  intro d
  induction d with
  | zero =>
    intro p ns m hp hm
    unfold facV
    split
    · exact ⟨hp, by omega, by omega⟩
    · split
      · exact ⟨hp, by omega, by omega⟩
      · exact leaf_bd T p ns m hp hm
  | succ d ih =>
    intro p ns m hp hm
    unfold facV
    split
    · rename_i hs
      have hlt := sg_lt hs
      split
      · exact ⟨hp, by omega, by omega⟩
      · have hf := ih (p + 1) ns (m + 1) (by omega) (by omega)
        split
        · rename_i c q hq
          rw [hq] at hf
          exact hf
        · rename_i q ns' m' hq
          rw [hq] at hf
          obtain ⟨a, b, c, e⟩ := hf
          refine ⟨a, b, by omega, ?_⟩
          simp only [List.length_append, List.length_singleton]
          omega
    · split
      · rename_i hs
        have hlt := sg_lt hs
        have hf := or_bd ih (p + 1) ns m (by omega) hm
        split
        · rename_i c q hq
          rw [hq] at hf
          exact hf
        · rename_i q ns' m' hq
          rw [hq] at hf
          obtain ⟨a, b, c, e⟩ := hf
          split
          · rename_i hs2
            have := sg_lt hs2
            exact ⟨by omega, b, c, e⟩
          · exact ⟨a, by omega, by omega⟩
      · exact leaf_bd T p ns m hp hm
theorem read_bd (T : List Pt) (p : Nat) (hp : p ≤ T.length) : RdB T [] 0 (readV T p) := or_bd (fac_bd T 32) p [] 0 hp (by omega)
end Sp
end Go.Proofs.YtgikgppblkpojaaDoor

/-
  Plain laws: what a reader of expressions comes to lies within any stop behind which no token is but ends of lines (no program in sight; chapter 5).
-/
set_option linter.unusedVariables false
set_option linter.unusedSimpArgs false
set_option maxRecDepth 100000
set_option maxHeartbeats 4000000
namespace Go.Proofs.YtgikgppblkpojaaDoor
namespace Sp
namespace St

/-- From here on there is nothing but ends of lines. -/
def Stp (T : List Pt) (L : Nat) : Prop := ∀ i, kdAt T i ≠ 0 → kdAt T i ≠ 1 → i < L
theorem kd_lt {T : List Pt} {L i : Nat} (hS : Stp T L) (k : Int) (h : kdAt T i = k) (h0 : k ≠ 0) (h1 : k ≠ 1) : i < L := hS i (by rw [h]; exact h0) (by rw [h]; exact h1)
theorem sg_lt {T : List Pt} {L i : Nat} {s : List UInt8} (hS : Stp T L) (h : sgAt T i s = true) : i < L := by
  unfold sgAt at h
  split at h
  · rename_i t ht
    refine kd_lt hS 7 ?_ (by decide) (by decide)
    unfold kdAt
    rw [ht]
    exact (sgn_iff.1 h).1
  · cases h
theorem op_lt {T : List Pt} {L i : Nat} (hS : Stp T L) (h : opAt T i ≠ 0) : i < L := by
  unfold opAt at h
  repeat' split at h
  all_goals first | exact absurd rfl h | (exact sg_lt hS (by assumption))
theorem num_lt {T : List Pt} {L i v : Nat} (hS : Stp T L) (h : numAt T i = some v) : i < L := by
  unfold numAt at h
  split at h
  · rename_i hc
    exact kd_lt hS 4 hc.1 (by decide) (by decide)
  · cases h
/-- What a reader may come to. -/
def RdB (L : Nat) (ns : List Nd) (m : Nat) : Rd → Prop
  | .bad c q => q ≤ L ∧ c ≤ 100 ∧ 0 < c
  | .ok q ns' m' => q ≤ L ∧ m' ≤ 64 ∧ m ≤ m' ∧ ns'.length + m = ns.length + m'
def Bnd (L : Nat) (F : Nat → List Nd → Nat → Rd) : Prop := ∀ p ns m, p ≤ L → m ≤ 64 → RdB L ns m (F p ns m)

def TRB (L : Nat) : TR → Prop
  | .bad q => q ≤ L
  | .ok q _ => q ≤ L
theorem test_bd {T : List Pt} {L : Nat} (hS : Stp T L) (name : List UInt8) (p : Nat) (hp : p ≤ L) : TRB L (testV T name p) := by
  unfold testV
  split
  · exact hp
  · rename_i h0
    have h1 := op_lt hS h0
    split
    · rename_i h5
      have h2 := kd_lt hS 5 h5.2 (by decide) (by decide)
      split
      · show p + 2 ≤ _
        omega
      · show p + 1 ≤ _
        omega
    · split
      · show p + 1 ≤ _
        omega
      · rename_i v hv
        have h2 := num_lt hS hv
        split
        · rename_i hs
          have h3 := sg_lt hS hs.2
          split
          · show p + 3 ≤ _
            omega
          · rename_i u hu
            have h4 := num_lt hS hu
            show p + 4 ≤ _
            omega
        · split
          · rename_i hs
            have h3 := sg_lt hS hs.2
            split
            · show p + 3 ≤ _
              omega
            · rename_i u hu
              have h4 := num_lt hS hu
              show p + 4 ≤ _
              omega
          · show p + 2 ≤ _
            omega
theorem leaf_bd {T : List Pt} {L : Nat} (hS : Stp T L) : Bnd L (leafV T) := by
  intro p ns m hp hm
  unfold leafV
  split
  · rename_i hk
    have h1 := kd_lt hS 2 hk.1 (by decide) (by decide)
    split
    · exact ⟨hp, by omega, by omega⟩
    · split
      · refine ⟨by omega, by omega, by omega, ?_⟩
        simp only [List.length_append, List.length_singleton]
        omega
      · split
        · refine ⟨by omega, by omega, by omega, ?_⟩
          simp only [List.length_append, List.length_singleton]
          omega
        · have ht := test_bd hS (txAt T p) (p + 1) (by omega)
          split
          · rename_i q hq
            rw [hq] at ht
            exact ⟨ht, by omega, by omega⟩
          · rename_i q n hq
            rw [hq] at ht
            refine ⟨ht, by omega, by omega, ?_⟩
            simp only [List.length_append, List.length_singleton]
            omega
  · exact ⟨hp, by omega, by omega⟩
theorem RdB.more {L : Nat} {ns ns0 : List Nd} {m m0 : Nat} {r : Rd} (h : RdB L ns0 m0 r) (h1 : m ≤ m0) (h2 : ns0.length + m = ns.length + m0) : RdB L ns m r := by
  cases r with
  | bad c q => exact h
  | ok q ns' m' =>
    obtain ⟨a, b, c, d⟩ := h
    exact ⟨a, b, by omega, by omega⟩
theorem loop_bd {T : List Pt} {L : Nat} (hS : Stp T L) {F : Nat → List Nd → Nat → Rd} (hF : Bnd L F) (s : List UInt8) (k : Int) : ∀ n, Bnd L (loopV T F s k n) := by
  intro n
  induction n with
  | zero =>
    intro p ns m hp hm
    unfold loopV
    split
    · exact ⟨hp, by omega, by omega⟩
    · exact ⟨hp, hm, by omega, rfl⟩
  | succ n ih =>
    intro p ns m hp hm
    unfold loopV
    split
    · rename_i hs
      have hlt := sg_lt hS hs
      split
      · exact ⟨hp, by omega, by omega⟩
      · have hf := hF (p + 1) ns (m + 1) (by omega) (by omega)
        split
        · rename_i c q hq
          rw [hq] at hf
          exact hf
        · rename_i q ns' m' hq
          rw [hq] at hf
          obtain ⟨a, b, c, d⟩ := hf
          exact (ih q (ns' ++ [nd k]) m' a b).more (by omega) (by simp only [List.length_append, List.length_singleton]; omega)
    · exact ⟨hp, hm, by omega, rfl⟩
theorem chain_bd {T : List Pt} {L : Nat} (hS : Stp T L) {F : Nat → List Nd → Nat → Rd} (hF : Bnd L F) (s : List UInt8) (k : Int) : Bnd L (chainV T F s k) := by
  intro p ns m hp hm
  have hf := hF p ns m hp hm
  unfold chainV
  split
  · rename_i c q hq
    rw [hq] at hf
    exact hf
  · rename_i q ns' m' hq
    rw [hq] at hf
    obtain ⟨a, b, c, d⟩ := hf
    exact (loop_bd hS hF s k (64 - m') q ns' m' a b).more c d
theorem or_bd {T : List Pt} {L : Nat} (hS : Stp T L) {F : Nat → List Nd → Nat → Rd} (hF : Bnd L F) : Bnd L (orV T F) := chain_bd hS (chain_bd hS hF _ _) _ _
theorem fac_bd {T : List Pt} {L : Nat} (hS : Stp T L) : ∀ d, Bnd L (facV T d) := by
  intro d
  induction d with
  | zero =>
    intro p ns m hp hm
    unfold facV
    split
    · exact ⟨hp, by omega, by omega⟩
    · split
      · exact ⟨hp, by omega, by omega⟩
      · exact leaf_bd hS p ns m hp hm
  | succ d ih =>
    intro p ns m hp hm
    unfold facV
    split
    · rename_i hs
      have hlt := sg_lt hS hs
      split
      · exact ⟨hp, by omega, by omega⟩
      · have hf := ih (p + 1) ns (m + 1) (by omega) (by omega)
        split
        · rename_i c q hq
          rw [hq] at hf
          exact hf
        · rename_i q ns' m' hq
          rw [hq] at hf
          obtain ⟨a, b, c, e⟩ := hf
          refine ⟨a, b, by omega, ?_⟩
          simp only [List.length_append, List.length_singleton]
          omega
    · split
      · rename_i hs
        have hlt := sg_lt hS hs
        have hf := or_bd hS ih (p + 1) ns m (by omega) hm
        split
        · rename_i c q hq
          rw [hq] at hf
          exact hf
        · rename_i q ns' m' hq
          rw [hq] at hf
          obtain ⟨a, b, c, e⟩ := hf
          split
          · rename_i hs2
            have := sg_lt hS hs2
            exact ⟨by omega, b, c, e⟩
          · exact ⟨a, by omega, by omega⟩
      · exact leaf_bd hS p ns m hp hm
theorem read_bd {T : List Pt} {L : Nat} (hS : Stp T L) (p : Nat) (hp : p ≤ L) : RdB L [] 0 (readV T p) := or_bd hS (fac_bd hS 32) p [] 0 hp (by omega)
end St

/-- The tokens of a text that was scanned: the last is the end of a line, and none of no kind. -/
theorem stp_valid {T : List Pt} (h : validV p0 T = true) : St.Stp T (T.length - 1) := by
  rw [validV_okL, Bool.and_eq_true, beq_iff_eq] at h
  intro i h0 h1
  have hi := kd_lt h0
  rcases Nat.lt_or_ge i (T.length - 1) with h2 | h2
  · exact h2
  · exfalso
    have : i = T.length - 1 := by omega
    subst this
    apply h1
    have hl : T.getLast? = T[T.length - 1]? := List.getLast?_eq_getElem? ..
    have hh := h.2
    unfold lastP at hh
    unfold kdAt
    rw [hl] at hh
    rw [List.getElem?_eq_getElem hi] at hh ⊢
    exact hh
/-- What a reader comes to lies among them. -/
theorem read_at {T : List Pt} (h : validV p0 T = true) (hne : T ≠ []) : match readV T 0 with | .bad c q => q < T.length | .ok q ns m => q < T.length := by
  have hl : 0 < T.length := List.length_pos_iff.2 hne
  have hb := St.read_bd (stp_valid h) 0 (by omega)
  cases hr : readV T 0 with
  | bad c q =>
    rw [hr] at hb
    have := hb.1
    show q < T.length
    omega
  | ok q ns m =>
    rw [hr] at hb
    have := hb.1
    show q < T.length
    omega
end Sp
end Go.Proofs.YtgikgppblkpojaaDoor

/-
  Plain laws: what Parse of an expression comes to (no program in sight; chapter 5).
-/
set_option linter.unusedVariables false
set_option linter.unusedSimpArgs false
set_option maxRecDepth 100000
set_option maxHeartbeats 4000000
namespace Go.Proofs.YtgikgppblkpojaaDoor
namespace Sp

inductive Pr where
  | bad (c col : Nat)
  | ok (ns : List Nd)
def colAt (ts : List Tok) (i : Nat) : Nat := match ts[i]? with | some t => t.2.2.2 | none => 0
/-- What is made of the tokens that Scan found. -/
def parseT (ts : List Tok) : Pr :=
  match readV (ts.map ptOf) 0 with
  | .bad c q => .bad c (colAt ts q)
  | .ok q ns _ => if kdAt (ts.map ptOf) q ≠ 1 then .bad 50 (colAt ts q) else if q + 1 < ts.length then .bad 50 (colAt ts (q + 1)) else .ok ns
/-- P5.2. -/
def parseV (s : List UInt8) : Pr :=
  match scanV s with
  | (ts, c, _, m) => if c ≠ 0 then .bad c m else if ts = [] then .bad 50 0 else parseT ts

/-- The cases of Parse. -/
inductive PrC (s : List UInt8) (ts : List Tok) (c n m : Nat) : Pr → Prop
  | scan (h : c ≠ 0) : PrC s ts c n m (.bad c m)
  | none (h : c = 0) (h1 : ts = []) : PrC s ts c n m (.bad 50 0)
  | bad (h : c = 0) (h1 : ts.length ≤ 16385) (t : Tok) (d q m1 : Nat) (hr : readV (ts.map ptOf) 0 = .bad d q) (hq : ts[q]? = some t) (hd : 0 < d) : PrC s ts c n m (.bad d t.2.2.2)
  | kind (h : c = 0) (h1 : ts.length ≤ 16385) (t : Tok) (q m1 : Nat) (ns : List Nd) (hr : readV (ts.map ptOf) 0 = .ok q ns m1) (hq : ts[q]? = some t) (hk : t.1 ≠ 1) : PrC s ts c n m (.bad 50 t.2.2.2)
  | more (h : c = 0) (h1 : ts.length ≤ 16385) (t u : Tok) (q m1 : Nat) (ns : List Nd) (hr : readV (ts.map ptOf) 0 = .ok q ns m1) (hq : ts[q]? = some t) (hk : t.1 = 1) (hu : ts[q + 1]? = some u) : PrC s ts c n m (.bad 50 u.2.2.2)
  | ok (h : c = 0) (h1 : ts.length ≤ 16385) (t : Tok) (q m1 : Nat) (ns : List Nd) (hr : readV (ts.map ptOf) 0 = .ok q ns m1) (hq : ts[q]? = some t) (hk : t.1 = 1) (hu : ts.length = q + 1) (hns : ns.length ≤ 64) : PrC s ts c n m (.ok ns)
theorem parse_cases {s : List UInt8} {ts : List Tok} {c n m : Nat} (h : scanV s = (ts, c, n, m)) : PrC s ts c n m (parseV s) := by
  unfold parseV
  rw [h]
  simp only []
  by_cases h0 : c = 0
  · rw [if_neg (by omega)]
    have hcd := scanV_code s
    rw [h] at hcd
    have h00 := hcd.1 h0
    injection h00 with hn hm
    by_cases h1 : ts = []
    · rw [if_pos h1]
      exact PrC.none h0 h1
    · rw [if_neg h1]
      have h' := h
      rw [h0, hn, hm] at h'
      obtain ⟨hv, _, hle, hl⟩ := scan_valid h'
      have hl2 : ts.length ≤ 16385 := by omega
      have hne : ts.map ptOf ≠ [] := fun e => h1 (List.map_eq_nil_iff.1 e)
      have hat := read_at hv hne
      have hbd := read_bd (ts.map ptOf) 0 (by omega)
      unfold parseT
      cases hr : readV (ts.map ptOf) 0 with
      | bad d q =>
        rw [hr] at hat hbd
        have hq : q < ts.length := by rw [← List.length_map (f := ptOf)]; exact hat
        have hq2 : ts[q]? = some (ts[q]'hq) := List.getElem?_eq_getElem hq
        simp only []
        unfold colAt
        rw [hq2]
        exact PrC.bad h0 hl2 _ d q 0 hr hq2 hbd.2.2
      | ok q ns m1 =>
        rw [hr] at hat hbd
        have hq : q < ts.length := by rw [← List.length_map (f := ptOf)]; exact hat
        have hq2 : ts[q]? = some (ts[q]'hq) := List.getElem?_eq_getElem hq
        have hk : kdAt (ts.map ptOf) q = ((ts[q]'hq).1 : Int) := by
          unfold kdAt
          rw [List.getElem?_map, hq2]
          rfl
        simp only []
        rw [hk]
        by_cases hk1 : (ts[q]'hq).1 = 1
        · rw [if_neg (by omega)]
          by_cases hu : q + 1 < ts.length
          · rw [if_pos hu]
            have hu2 : ts[q + 1]? = some (ts[q + 1]'hu) := List.getElem?_eq_getElem hu
            unfold colAt
            rw [hu2]
            exact PrC.more h0 hl2 _ _ q m1 ns hr hq2 hk1 hu2
          · rw [if_neg hu]
            obtain ⟨_, b2, _, b4⟩ := hbd
            simp at b4
            exact PrC.ok h0 hl2 _ q m1 ns hr hq2 hk1 (by omega) (by omega)
        · rw [if_pos (by omega)]
          unfold colAt
          rw [hq2]
          exact PrC.kind h0 hl2 _ q m1 ns hr hq2 hk1
  · rw [if_pos h0]
    exact PrC.scan h0
end Sp
end Go.Proofs.YtgikgppblkpojaaDoor
