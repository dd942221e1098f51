/-
  PLAIN LEAN, no program in sight: every token stands in the text at its place, and nothing but blanks and comments is left out.
-/
import Derived.Test.YtdmpapoabeljfaaGreatDoorPc
set_option linter.unusedVariables false
set_option linter.unusedSimpArgs false
set_option maxHeartbeats 1000000
namespace Go.Proofs.YtdmpapoabeljfaaGreatDoor
namespace Sp

theorem dec_is (c : UInt8) (r : List UInt8) (n : Nat) (hn : n < 128) : (dec (c :: r)).1 = n ↔ c.toNat = n := by
  rcases Nat.lt_or_ge c.toNat 128 with h | h
  · rw [dec_ascii c r h]
  · have := dec_high c r h
    omega
/-- Line and column behind a character. -/
def stpL (c line : Nat) : Nat := if c = 10 then line + 1 else line
def stpC (c col : Nat) : Nat := if c = 10 then 1 else col + 1
/-- From a place of that line and column, p bytes further on, character by character. -/
inductive At : List UInt8 → Nat → Nat → Nat → Nat → Nat → Prop
  | zero (l : List UInt8) (line col : Nat) : At l line col 0 line col
  | step (l : List UInt8) (line col p line' col' : Nat) (h : l ≠ []) (r : At (l.drop (dec l).2) (stpL (dec l).1 line) (stpC (dec l).1 col) p line' col') : At l line col ((dec l).2 + p) line' col'
theorem At.trans {l : List UInt8} {a b p c d : Nat} (h : At l a b p c d) : ∀ {q e f : Nat}, At (l.drop p) c d q e f → At l a b (p + q) e f := by
  induction h with
  | zero l line col => intro q e f h2; simpa using h2
  | step l line col p line' col' h r ih =>
    intro q e f h2
    rw [Nat.add_assoc]
    refine At.step l line col _ _ _ h (ih ?_)
    rw [List.drop_drop]
    exact h2
theorem At.lex {l : List UInt8} {a b p c d : Nat} (h : At l a b p c d) : (p = 0 ∧ a = c ∧ b = d) ∨ (0 < p ∧ (a < c ∨ (a = c ∧ b < d))) := by
  induction h with
  | zero l line col => exact Or.inl ⟨rfl, rfl, rfl⟩
  | step l line col p line' col' h r ih =>
    have := dec_pos l h
    right
    refine ⟨by omega, ?_⟩
    unfold stpL stpC at ih
    by_cases h10 : (dec l).1 = 10
    · rw [if_pos h10, if_pos h10] at ih
      omega
    · rw [if_neg h10, if_neg h10] at ih
      omega
theorem At.le {l : List UInt8} {a b p c d : Nat} (h : At l a b p c d) : p ≤ l.length := by
  induction h with
  | zero l line col => omega
  | step l line col p line' col' h r ih =>
    have := dec_len l h
    rw [List.length_drop] at ih
    omega
theorem At.inv {l : List UInt8} {a b p c d : Nat} (h : At l a b p c d) (hp : 0 < p) : l ≠ [] ∧ ∃ q, p = (dec l).2 + q ∧ At (l.drop (dec l).2) (stpL (dec l).1 a) (stpC (dec l).1 b) q c d := by
  cases h with
  | zero => omega
  | step _ _ _ q _ _ hne r => exact ⟨hne, q, rfl, r⟩
/-- On one line. -/
theorem At.of_bd {l : List UInt8} {n : Nat} (h : Bd l n) (line : Nat) : ∀ (col : Nat), NoNl (l.take n) → At l line col n line (col + chars (l.take n)) := by
  induction h with
  | zero l => intro col _; simpa [chars_nil] using At.zero l line col
  | step l i h hb ih =>
    intro col hno
    have hp := dec_pos l h
    have hl : 0 < l.length := List.length_pos_iff.2 h
    have hne : l.take ((dec l).2 + i) ≠ [] := by
      intro e
      have := congrArg List.length e
      rw [List.length_take, List.length_nil] at this
      omega
    have hch : chars (l.take ((dec l).2 + i)) = chars ((l.drop (dec l).2).take i) + 1 := by
      rw [chars_step _ hne, dec_take l h _ (by omega), List.drop_take]
      congr 3
      omega
    have h10 : (dec l).1 ≠ 10 := by
      match l, h with
      | c :: r, _ =>
        intro e
        have := (dec_is c r 10 (by omega)).1 e
        refine hno c ?_ (UInt8.toNat_inj.1 this)
        obtain ⟨k, hk⟩ : ∃ k, (dec (c :: r)).2 + i = k + 1 := ⟨(dec (c :: r)).2 + i - 1, by omega⟩
        rw [hk, List.take_succ_cons]
        exact List.mem_cons_self
    have hno2 : NoNl ((l.drop (dec l).2).take i) := by
      intro c hc
      refine hno c ?_
      rw [List.take_drop] at hc
      exact List.mem_of_mem_drop hc
    have := ih (col + 1) hno2
    have h3 : At (l.drop (dec l).2) (stpL (dec l).1 line) (stpC (dec l).1 col) i line (col + chars (l.take ((dec l).2 + i))) := by
      unfold stpL stpC
      rw [if_neg h10, if_neg h10, hch]
      have e : col + (chars ((l.drop (dec l).2).take i) + 1) = col + 1 + chars ((l.drop (dec l).2).take i) := by omega
      rw [e]
      exact this
    exact At.step l line col i _ _ h h3
theorem At.nl (r : List UInt8) (line col : Nat) : At (10 :: r) line col 1 (line + 1) 1 := by
  have hd := dec_ascii 10 r (by decide)
  have h := At.step (10 :: r) line col 0 (line + 1) 1 (by simp) (by
    rw [hd]
    unfold stpL stpC
    exact At.zero _ _ _)
  rw [hd] at h
  exact h

/-- Blanks, comments and ends of lines alone: whether a comment is open behind them; none: something else. -/
def idF : Bool → List UInt8 → Option Bool
  | c, [] => some c
  | c, b :: r => if b.toNat = 10 then idF false r else if b.toNat = 35 then idF true r else if c = false ∧ blankB b = false then none else idF c r
theorem idF_cons (c : Bool) (b : UInt8) (r : List UInt8) : idF c (b :: r) = if b.toNat = 10 then idF false r else if b.toNat = 35 then idF true r else if c = false ∧ blankB b = false then none else idF c r := rfl
theorem idF_append : ∀ (c : Bool) (a b : List UInt8), idF c (a ++ b) = (idF c a).bind fun c' => idF c' b
  | c, [], b => rfl
  | c, x :: a, b => by
    rw [List.cons_append, idF_cons, idF_cons]
    split
    · exact idF_append false a b
    split
    · exact idF_append true a b
    split
    · rfl
    · exact idF_append c a b
theorem idF_com : ∀ (l : List UInt8), NoNl l → idF true l = some true
  | [], _ => rfl
  | b :: r, h => by
    rw [idF_cons, if_neg (show ¬ b.toNat = 10 from fun e => h.head (UInt8.toNat_inj.1 e))]
    split
    · exact idF_com r h.tail
    · rw [if_neg (fun e => by cases e.1)]
      exact idF_com r h.tail
def idleV (l : List UInt8) (follows : Bool) : Bool := match idF false l with | none => false | some c => !follows || !c

/-- The tokens stand where they say, from a state on. -/
inductive Pl (T : List UInt8) : Option Nat → Nat → Nat → Nat → Nat → List Tok → Prop
  | done (pl : Option Nat) (fr at_ sl sc : Nat) (h0 : fr ≤ T.length) (h : idleV (T.drop fr) false = true) : Pl T pl fr at_ sl sc []
  | tok (pl : Option Nat) (fr at_ sl sc : Nat) (k : Nat) (x : List UInt8) (ln cl d fr' : Nat) (ts : List Tok)
      (h1 : At (T.drop at_) sl sc d ln cl) (h2 : fr ≤ at_ + d) (h2' : at_ + d ≤ T.length) (h3 : idleV ((T.take (at_ + d)).drop fr) (k != 1) = true)
      (h4 : k = 1 → pl = some ln ∧ x = [10]) (h5 : fr' = if k = 1 ∧ at_ + d = T.length then at_ + d else at_ + d + x.length) (h6 : fr' ≤ T.length)
      (h7 : at_ + d < T.length → (T.take fr').drop (at_ + d) = x) (hr : Pl T (some ln) fr' (at_ + d) ln cl ts) : Pl T pl fr at_ sl sc ((k, x, ln, cl) :: ts)

theorem runV_acc (l : List UInt8) (line col : Nat) (op : Bool) (acc : List Tok) (h : (runV l line col op []).2.1 = 0) : (runV l line col op acc).1 = acc ++ (runV l line col op []).1 ∧ (runV l line col op acc).2.1 = 0 := by
  have hd := runV_down acc 0 _ l line col op [] (Nat.le_refl _)
  rw [List.map_nil, List.append_nil, Nat.add_zero] at hd
  rw [hd]
  unfold downR
  rw [if_neg (by rw [h]; simp)]
  have hm : (runV l line col op []).1.map (downT 0) = (runV l line col op []).1 := by
    conv => rhs; rw [← List.map_id (runV l line col op []).1]
    apply List.map_congr_left
    intro t _
    rfl
  rw [hm]
  exact ⟨rfl, rfl⟩
theorem runV_acc_err (l : List UInt8) (line col : Nat) (op : Bool) (acc : List Tok) (h : (runV l line col op acc).2.1 = 0) : (runV l line col op []).2.1 = 0 := by
  have hd := runV_down acc 0 _ l line col op [] (Nat.le_refl _)
  rw [List.map_nil, List.append_nil, Nat.add_zero] at hd
  rw [hd] at h
  unfold downR at h
  by_cases h0 : (runV l line col op []).2.1 = 0
  · exact h0
  · rw [if_pos h0] at h
    exact h

/-- What lies between is idle so far; in a comment only at a line's end. -/
def Idl (T : List UInt8) (fr p : Nat) : Prop := ∃ c, idF false ((T.take p).drop fr) = some c ∧ (c = true → T.drop p = [] ∨ (T.drop p).head? = some 10)
theorem take_split (T : List UInt8) (fr p n : Nat) (h : fr ≤ p) (hp : p ≤ T.length) : (T.take (p + n)).drop fr = (T.take p).drop fr ++ (T.drop p).take n := by
  rw [List.take_add, List.drop_append_of_le_length (by rw [List.length_take]; omega)]
theorem Idl.more {T : List UInt8} {fr p n : Nat} (h : Idl T fr p) (hf : fr ≤ p) (hp : p ≤ T.length) {c : Bool} (hno : T.drop p ≠ [] ) (hn10 : (T.drop p).head? ≠ some 10) (hi : idF false ((T.drop p).take n) = some c) (hc : c = true → T.drop (p + n) = [] ∨ (T.drop (p + n)).head? = some 10) : Idl T fr (p + n) := by
  obtain ⟨c0, h1, h2⟩ := h
  have : c0 = false := by
    cases c0 with
    | false => rfl
    | true =>
      rcases h2 rfl with h3 | h3
      · exact absurd h3 hno
      · exact absurd h3 hn10
  subst this
  refine ⟨c, ?_, hc⟩
  rw [take_split T fr p n hf hp, idF_append, h1]
  exact hi

theorem com_stop (l : List UInt8) : l.drop (comV l) = [] ∨ (l.drop (comV l)).head? = some 10 := by
  rcases Nat.lt_or_ge (comV l) l.length with h | h
  · right
    have hs := tw_stop (fun x => decide (x ≠ 10)) l h
    have e : (l.takeWhile (fun x => decide (x ≠ 10))).length = comV l := rfl
    rw [e] at hs
    rw [List.head?_drop, List.getElem?_eq_getElem h]
    rw [List.getD_eq_getElem?_getD, List.getElem?_eq_getElem h] at hs
    simpa using hs
  · left; exact List.drop_eq_nil_of_le h
theorem com_bd (l : List UInt8) : Bd l (comV l) ∧ NoNl (l.take (comV l)) := by
  have hno : NoNl (l.take (comV l)) := by
    have := line1_take l (k := comV l) (Nat.le_refl _)
    rw [this]
    exact (line1_no _).take _
  refine ⟨?_, hno⟩
  have hle := comV_le l
  have hf := Bd.full (l.take (comV l))
  rw [List.length_take, Nat.min_eq_left hle] at hf
  have ha := hf.append (l.drop (comV l)) (by
    rcases com_stop l with h | h
    · rw [h]; decide
    · cases hd : l.drop (comV l) with
      | nil => rw [hd] at h; cases h
      | cons c r =>
        rw [hd] at h
        injection h with h
        subst h
        rw [bt_cons0]
        decide)
  rw [List.take_append_drop] at ha
  exact ha

theorem run_placed (T : List UInt8) : ∀ (m p line col : Nat) (op : Bool) (pl : Option Nat) (fr at_ sl sc : Nat), T.length - p ≤ m → p ≤ T.length → fr ≤ p → at_ ≤ p → At (T.drop at_) sl sc (p - at_) line col → Idl T fr p → (op = true → pl = some line) →
    (runV (T.drop p) line col op []).2.1 = 0 → Pl T pl fr at_ sl sc (runV (T.drop p) line col op []).1 := by
  intro m
  have hnil : ∀ (p line col : Nat) (op : Bool) (pl : Option Nat) (fr at_ sl sc : Nat), T.drop p = [] → p ≤ T.length → fr ≤ p → at_ ≤ p → At (T.drop at_) sl sc (p - at_) line col → Idl T fr p → (op = true → pl = some line) → Pl T pl fr at_ sl sc (runV (T.drop p) line col op []).1 := by
    intro p line col op pl fr at_ sl sc hd hp hf ha hAt hI hop
    have hpl : p = T.length := by
      have := congrArg List.length hd
      rw [List.length_drop, List.length_nil] at this
      omega
    rw [hd, runV_nil]
    unfold endT
    obtain ⟨c0, h1, h2⟩ := hI
    cases op with
    | true =>
      simp only [if_true, List.nil_append]
      have hin : idleV ((T.take (at_ + (p - at_))).drop fr) (1 != 1) = true := by
        rw [show at_ + (p - at_) = p by omega]
        unfold idleV
        rw [h1]
        rfl
      refine Pl.tok pl fr at_ sl sc 1 [10] line col (p - at_) p [] hAt (by omega) (by omega) hin (fun _ => ⟨hop rfl, rfl⟩) (by rw [if_pos ⟨rfl, by omega⟩]; omega) hp (fun h => by omega) ?_
      refine Pl.done _ _ _ _ _ hp ?_
      rw [hd]
      rfl
    | false =>
      simp only [Bool.false_eq_true, if_false]
      refine Pl.done _ _ _ _ _ (by omega) ?_
      have e : T.drop fr = (T.take p).drop fr := by rw [hpl, List.take_length]
      rw [e]
      unfold idleV
      rw [h1]
      rfl
  induction m with
  | zero =>
    intro p line col op pl fr at_ sl sc hm hp hf ha hAt hI hop hr
    exact hnil p line col op pl fr at_ sl sc (List.drop_eq_nil_of_le (by omega)) hp hf ha hAt hI hop
  | succ m ih =>
    intro p line col op pl fr at_ sl sc hm hp hf ha hAt hI hop hr
    cases hd : T.drop p with
    | nil => rw [← hd]; exact hnil p line col op pl fr at_ sl sc hd hp hf ha hAt hI hop
    | cons c r =>
      have hlt : p < T.length := by
        rcases Nat.lt_or_ge p T.length with h | h
        · exact h
        · rw [List.drop_eq_nil_of_le h] at hd; cases hd
      have hr1 : T.drop (p + 1) = r := by rw [← List.drop_drop, hd]; rfl
      have hne : T.drop p ≠ [] := by rw [hd]; simp
      have hlen : (T.drop p).length = T.length - p := List.length_drop
      rw [hd] at hr
      rcases run_cases c with h | h | h | h
      · have h10 : c = 10 := by
          unfold classB at h
          repeat' split at h
          all_goals first | contradiction | exact UInt8.toNat_inj.1 ‹_› | skip
        subst h10
        have hA1 : At (T.drop p) line col 1 (line + 1) 1 := by rw [hd]; exact At.nl r line col
        rw [runV_nl _ _ _ _ _ h] at hr ⊢
        cases op with
        | true =>
          have hr0 := runV_acc_err _ _ _ _ _ hr
          rw [(runV_acc _ _ _ _ _ hr0).1]
          unfold endT
          simp only [if_true, List.nil_append]
          obtain ⟨c0, h1, h2⟩ := hI
          have hin : idleV ((T.take (at_ + (p - at_))).drop fr) (1 != 1) = true := by
            rw [show at_ + (p - at_) = p by omega]
            unfold idleV
            rw [h1]
            rfl
          have htk : (T.take (p + 1)).drop (at_ + (p - at_)) = [10] := by
            rw [show at_ + (p - at_) = p by omega, List.drop_take, hd, show p + 1 - p = 1 by omega]
            rfl
          show Pl T pl fr at_ sl sc ((1, [10], line, col) :: _)
          refine Pl.tok pl fr at_ sl sc 1 [10] line col (p - at_) (p + 1) _ hAt (by omega) (by omega) hin (fun _ => ⟨hop rfl, rfl⟩) (by rw [if_neg (by rintro ⟨_, e⟩; omega)]; show p + 1 = _ + 1; omega) (by omega) (fun _ => htk) ?_
          rw [show at_ + (p - at_) = p by omega, ← hr1]
          refine ih (p + 1) (line + 1) 1 false (some line) (p + 1) p line col (by omega) (by omega) (by omega) (by omega) (by rw [show p + 1 - p = 1 by omega]; exact hA1) ⟨false, by rw [List.drop_eq_nil_of_le (by rw [List.length_take]; omega)]; rfl, fun h => by cases h⟩ (fun h => by cases h) ?_
          rw [hr1]
          exact hr0
        | false =>
          have e0 : endT false [] line col = [] := rfl
          rw [e0] at hr ⊢
          rw [← hr1] at hr ⊢
          obtain ⟨c0, h1, h2⟩ := hI
          have hI2 : Idl T fr (p + 1) := by
            refine ⟨false, ?_, fun h => by cases h⟩
            rw [take_split T fr p 1 hf hp, idF_append, h1, hd]
            rfl
          refine ih (p + 1) (line + 1) 1 false pl fr at_ sl sc (by omega) (by omega) (by omega) (by omega) ?_ hI2 (fun h => by cases h) hr
          have := hAt.trans (q := 1) (e := line + 1) (f := 1) (by rw [List.drop_drop, show at_ + (p - at_) = p by omega]; exact hA1)
          rw [show p - at_ + 1 = p + 1 - at_ by omega] at this
          exact this
      · have hc10 : c ≠ 10 := by rintro rfl; rw [classB_10] at h; omega
        have hbl : blankB c = true := by
          unfold classB at h
          split at h
          · assumption
          repeat' split at h
          all_goals omega
        have h128 : c.toNat < 128 := by
          unfold blankB at hbl
          simp only [decide_eq_true_eq] at hbl
          omega
        have h35 : c.toNat ≠ 35 := by
          unfold blankB at hbl
          simp only [decide_eq_true_eq] at hbl
          omega
        have hh10 : (T.drop p).head? ≠ some 10 := by rw [hd]; intro e; injection e with e; exact hc10 e
        have hid : idF false ((T.drop p).take 1) = some false := by
          rw [hd]
          show idF false [c] = _
          rw [idF_cons, if_neg (show ¬ c.toNat = 10 from fun e => hc10 (UInt8.toNat_inj.1 e)), if_neg h35, if_neg (fun e => by rw [hbl] at e; cases e.2)]
          rfl
        have hI2 := hI.more hf hp hne hh10 hid (fun e => by cases e)
        have hb1 : Bd (T.drop p) 1 := by
          rw [hd]
          exact Bd.ascii 1 _ (by simp) (fun k hk => by
            have : k = 0 := by omega
            subst this
            rw [bt_cons0]; exact h128)
        have hch : chars ((T.drop p).take 1) = 1 := by
          rw [hd]
          exact chars_ascii 1 _ (by simp) (fun k hk => by
            have : k = 0 := by omega
            subst this
            rw [bt_cons0]; exact h128)
        have hno : NoNl ((T.drop p).take 1) := by
          rw [hd]
          intro x hx
          have : x = c := by simpa using hx
          rw [this]; exact hc10
        have hA1 := At.of_bd hb1 line col hno
        rw [hch] at hA1
        rw [runV_blank _ _ _ _ _ h, ← hr1] at hr ⊢
        refine ih (p + 1) line (col + 1) op pl fr at_ sl sc (by omega) (by omega) (by omega) (by omega) ?_ hI2 hop hr
        have := hAt.trans (q := 1) (e := line) (f := col + 1) (by rw [List.drop_drop, show at_ + (p - at_) = p by omega]; exact hA1)
        rw [show p - at_ + 1 = p + 1 - at_ by omega] at this
        exact this
      · have hc10 : c ≠ 10 := by rintro rfl; rw [classB_10] at h; omega
        have h35 : c.toNat = 35 := by
          unfold classB at h
          repeat' split at h
          all_goals first | omega | assumption
        have hpos := comV_pos (c := c) r (by omega)
        have hle := comV_le (c :: r)
        have hcb := com_bd (c :: r)
        have hst := com_stop (c :: r)
        rw [hd] at hlen
        have hh10 : (T.drop p).head? ≠ some 10 := by rw [hd]; intro e; injection e with e; exact hc10 e
        have hid : idF false ((T.drop p).take (comV (c :: r))) = some true := by
          rw [hd, hpos, List.take_succ_cons]
          rw [idF_cons, if_neg (by omega), if_pos h35]
          have := hcb.2
          rw [hpos, List.take_succ_cons] at this
          exact idF_com _ this.tail
        have hI2 := hI.more hf hp hne hh10 hid (fun _ => by rw [← List.drop_drop, hd]; exact hst)
        have hA1 := At.of_bd hcb.1 line col hcb.2
        rw [runV_hash _ _ _ _ _ h] at hr ⊢
        have e2 : (c :: r).drop (comV (c :: r)) = T.drop (p + comV (c :: r)) := by rw [← List.drop_drop, hd]
        rw [e2] at hr ⊢
        refine ih (p + comV (c :: r)) line _ op pl fr at_ sl sc (by omega) (by omega) (by omega) (by omega) ?_ hI2 hop hr
        have := hAt.trans (q := comV (c :: r)) (e := line) (f := col + chars ((c :: r).take (comV (c :: r)))) (by rw [List.drop_drop, show at_ + (p - at_) = p by omega, hd]; exact hA1)
        rw [show p - at_ + comV (c :: r) = p + comV (c :: r) - at_ by omega] at this
        exact this
      · have hc10 := h.ne
        have hh10 : (T.drop p).head? ≠ some 10 := by rw [hd]; intro e; injection e with e; exact hc10 e
        obtain ⟨k, n, off, code, hp'⟩ : ∃ k n off code, pieceV (c :: r) = (k, n, off, code) := ⟨_, _, _, _, rfl⟩
        have hsz := pieceV_size hp' (by simp)
        have hnl := piece_noNl hc10 hp'
        by_cases h0 : code = 0
        · subst h0
          have hs := hsz.1 rfl
          have hl := hs.2.1.le
          rw [hd] at hlen
          rw [runV_tok _ _ _ _ _ h hp'] at hr ⊢
          have hr0 := runV_acc_err _ _ _ _ _ hr
          rw [(runV_acc _ _ _ _ _ hr0).1]
          obtain ⟨c0, h1, h2⟩ := hI
          have hc0 : c0 = false := by
            cases c0 with
            | false => rfl
            | true =>
              rcases h2 rfl with h3 | h3
              · exact absurd h3 hne
              · exact absurd h3 hh10
          subst hc0
          have hin : idleV ((T.take (at_ + (p - at_))).drop fr) (k != 1) = true := by
            rw [show at_ + (p - at_) = p by omega]
            unfold idleV
            rw [h1]
            simp
          have hno2 : NoNl ((c :: r).take n) := by rw [line1_take _ hnl.1]; exact (line1_no _).take _
          have hA1 := At.of_bd hs.2.1 line col hno2
          have hxl : ((c :: r).take n).length = n := by rw [List.length_take]; omega
          have htk : (T.take (p + n)).drop (at_ + (p - at_)) = (c :: r).take n := by
            rw [show at_ + (p - at_) = p by omega, List.drop_take, hd, show p + n - p = n by omega]
          have e2 : (c :: r).drop n = T.drop (p + n) := by rw [← List.drop_drop, hd]
          show Pl T pl fr at_ sl sc ((k, (c :: r).take n, line, col) :: _)
          refine Pl.tok pl fr at_ sl sc k _ line col (p - at_) (p + n) _ hAt (by omega) (by omega) hin (fun h => by omega) (by rw [if_neg (by omega), hxl]; omega) (by omega) (fun _ => htk) ?_
          rw [show at_ + (p - at_) = p by omega, e2]
          refine ih (p + n) line _ true (some line) (p + n) p line col (by omega) (by omega) (by omega) (by omega) (by rw [show p + n - p = n by omega, hd]; exact hA1) ⟨false, by rw [List.drop_eq_nil_of_le (by rw [List.length_take]; omega)]; rfl, fun h => by cases h⟩ (fun _ => rfl) ?_
          rw [← e2]
          exact hr0
        · rw [runV_err _ _ _ _ _ h hp' h0] at hr
          exact absurd hr h0

theorem scan_placed (T : List UInt8) (h : (scanV T).2.1 = 0) : Pl T none 0 0 1 1 (scanV T).1 := by
  by_cases hl : 16384 < T.length
  · unfold scanV at h
    rw [if_pos hl] at h
    cases h
  · rw [scanV_run T hl] at h ⊢
    have := run_placed T _ 0 1 1 false none 0 0 1 1 (Nat.le_refl _) (by omega) (by omega) (by omega) (At.zero _ _ _) ⟨false, by simp [idF], fun h => by cases h⟩ (fun h => by cases h)
    rw [List.drop_zero] at this
    exact this h
end Sp
end Go.Proofs.YtdmpapoabeljfaaGreatDoor

namespace Go.Proofs.YtdmpapoabeljfaaGreatDoor
namespace Sp
theorem At.bnd {l : List UInt8} {a b p c d : Nat} (h : At l a b p c d) : c ≤ a + p ∧ (d ≤ b + p ∨ d ≤ p) := by
  induction h with
  | zero l line col => exact ⟨by omega, Or.inl (by omega)⟩
  | step l line col p line' col' h r ih =>
    have := dec_pos l h
    unfold stpL stpC at ih
    by_cases h10 : (dec l).1 = 10
    · rw [if_pos h10, if_pos h10] at ih
      omega
    · rw [if_neg h10, if_neg h10] at ih
      omega
theorem Pl.inv {T : List UInt8} {pl : Option Nat} {fr at_ sl sc k ln cl : Nat} {x : List UInt8} {ts : List Tok} (h : Pl T pl fr at_ sl sc ((k, x, ln, cl) :: ts)) :
    ∃ d fr', At (T.drop at_) sl sc d ln cl ∧ fr ≤ at_ + d ∧ at_ + d ≤ T.length ∧ idleV ((T.take (at_ + d)).drop fr) (k != 1) = true ∧ (k = 1 → pl = some ln ∧ x = [10]) ∧ fr' = (if k = 1 ∧ at_ + d = T.length then at_ + d else at_ + d + x.length) ∧ fr' ≤ T.length ∧
      (at_ + d < T.length → (T.take fr').drop (at_ + d) = x) ∧ Pl T (some ln) fr' (at_ + d) ln cl ts := by
  cases h with
  | tok _ _ _ _ _ _ _ _ _ d fr' _ h1 h2 h2' h3 h4 h5 h6 h7 hr => exact ⟨d, fr', h1, h2, h2', h3, h4, h5, h6, h7, hr⟩
theorem Pl.fin {T : List UInt8} {pl : Option Nat} {fr at_ sl sc : Nat} (h : Pl T pl fr at_ sl sc []) : fr ≤ T.length ∧ idleV (T.drop fr) false = true := by
  cases h with
  | done _ _ _ _ _ h0 h => exact ⟨h0, h⟩
end Sp
end Go.Proofs.YtdmpapoabeljfaaGreatDoor
