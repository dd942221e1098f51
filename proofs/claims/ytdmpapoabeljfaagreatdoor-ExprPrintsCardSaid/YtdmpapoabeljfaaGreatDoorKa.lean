/-
  Plain laws: how expressions are printed (no program in sight; chapter 5): a list of nodes as a tree, its text, its nesting.
-/
import Derived.Test.YtdmpapoabeljfaaGreatDoorQz
import Derived.Test.YtdmpapoabeljfaaGreatDoorPe
set_option linter.unusedVariables false
set_option linter.unusedSimpArgs false
set_option maxRecDepth 100000
set_option maxHeartbeats 2000000
namespace Go.Proofs.YtdmpapoabeljfaaGreatDoor
namespace Sp
open Go.Lib (decDigits)

inductive Tr where
  | leaf (b : Bool)
  | test (d : Nd)
  | no (t : Tr)
  | both (a b : Tr)
  | or (a b : Tr)

def signS (op : Int) : List UInt8 := if op = 1 then [61] else if op = 2 then [33, 61] else if op = 3 then [60] else if op = 4 then [60, 61] else if op = 5 then [62] else if op = 6 then [62, 61] else []
/-- W10. -/
def numS (v : Int) (dots : Bool) : List UInt8 := if dots then dotV v.toNat else decDigits v.toNat
def bigB (v : Int) : Bool := decide (65536 ≤ v)
def restS (d : Nd) : List UInt8 :=
  if d.form = 2 then numS d.lo true ++ 47 :: numS d.len (bigB d.len)
  else if d.form = 3 then numS d.lo (bigB d.lo) ++ 46 :: 46 :: numS d.hi (bigB d.hi)
  else if d.form = 4 then 37 :: d.pat
  else numS d.lo (bigB d.lo)
def textN (d : Nd) : List UInt8 := d.field ++ 32 :: (signS d.op ++ 32 :: restS d)

def Tr.isOr : Tr → Bool
  | .or _ _ => true
  | _ => false
def Tr.joined : Tr → Bool
  | .or _ _ => true
  | .both _ _ => true
  | _ => false
def brk (b : Bool) (t : List UInt8) : List UInt8 := if b then 40 :: (t ++ [41]) else t
def Tr.text : Tr → List UInt8
  | .leaf b => if b then anyW else noneW
  | .test d => textN d
  | .no t => 33 :: brk t.joined t.text
  | .both a b => brk a.isOr a.text ++ 32 :: 38 :: 32 :: brk b.joined b.text
  | .or a b => a.text ++ 32 :: 124 :: 32 :: brk b.isOr b.text
def one (b : Bool) : Nat := if b then 1 else 0
def Tr.nest : Tr → Nat
  | .leaf _ => 0
  | .test _ => 0
  | .no t => t.nest + one t.joined + 1
  | .both a b => max (a.nest + one a.isOr) (b.nest + one b.joined)
  | .or a b => max a.nest (b.nest + one b.isOr)
def Tr.size : Tr → Nat
  | .leaf _ => 1
  | .test _ => 1
  | .no t => t.size + 1
  | .both a b => a.size + b.size + 1
  | .or a b => a.size + b.size + 1

def zeroT (d : Nd) : Bool := d.field == [] && d.op == 0 && d.form == 0 && d.lo == 0 && d.hi == 0 && d.len == 0 && d.pat == []
/-- A node more; the pile's top is the list's head. -/
def stepR (d : Nd) (p : List Tr) : Option (List Tr) :=
  if d.kind ≠ 3 ∧ zeroT d = false then none
  else if d.kind = 1 then some (.leaf true :: p)
  else if d.kind = 2 then some (.leaf false :: p)
  else if d.kind = 3 then some (.test d :: p)
  else if d.kind = 4 then (match p with | t :: r => some (.no t :: r) | [] => none)
  else if d.kind = 5 then (match p with | b :: a :: r => some (.both a b :: r) | _ => none)
  else if d.kind = 6 then (match p with | b :: a :: r => some (.or a b :: r) | _ => none)
  else none
def buildR : List Nd → List Tr → Option (List Tr)
  | [], p => some p
  | d :: ds, p => match stepR d p with | none => none | some p' => buildR ds p'
def buildV (ns : List Nd) : Option Tr :=
  match buildR ns [] with
  | some [t] => some t
  | _ => none

def fitB (v : Int) : Bool := decide (0 ≤ v) && decide (v ≤ 4294967295)
def formB (d : Nd) : Bool :=
  if d.form = 1 then d.hi == 0 && d.len == 0 && d.pat == []
  else if d.form = 2 then decide (d.op ≤ 2) && d.hi == 0 && d.pat == []
  else if d.form = 3 then decide (d.op ≤ 2) && d.len == 0 && d.pat == []
  else if d.form = 4 then decide (d.op ≤ 2) && d.lo == 0 && d.hi == 0 && d.len == 0 && patV d.pat
  else false
/-- Does a text give this test? -/
def wrB (d : Nd) : Bool := nameB d.field && d.field != anyW && d.field != noneW && decide (1 ≤ d.op) && decide (d.op ≤ 6) && fitB d.lo && fitB d.hi && fitB d.len && formB d
def okN (d : Nd) : Bool := d.kind != 3 || wrB d
/-- P5.3. -/
def printE (ns : List Nd) : List UInt8 × Nat :=
  if 64 < ns.length then ([], 51)
  else match buildV ns with
    | none => ([], 52)
    | some t => if ns.all okN then (if 32 < t.nest then ([], 53) else (t.text, 0)) else ([], 52)

def Tr.wr : Tr → Bool
  | .leaf _ => true
  | .test d => wrB d
  | .no t => t.wr
  | .both a b => a.wr && b.wr
  | .or a b => a.wr && b.wr
def sizes (p : List Tr) : Nat := (p.map Tr.size).sum
theorem sizes_cons (t : Tr) (p : List Tr) : sizes (t :: p) = t.size + sizes p := by unfold sizes; simp
theorem step_size {d : Nd} {p p' : List Tr} (h : stepR d p = some p') : sizes p' = sizes p + 1 ∧ p'.length ≤ p.length + 1 := by
  unfold stepR at h
  split at h
  · cases h
  split at h
  · injection h with h; subst h; simp [sizes_cons, Tr.size]; omega
  split at h
  · injection h with h; subst h; simp [sizes_cons, Tr.size]; omega
  split at h
  · injection h with h; subst h; simp [sizes_cons, Tr.size]; omega
  split at h
  · split at h
    · injection h with h; subst h; simp [sizes_cons, Tr.size]; omega
    · cases h
  split at h
  · split at h
    · injection h with h; subst h; simp [sizes_cons, Tr.size]; omega
    · cases h
  split at h
  · split at h
    · injection h with h; subst h; simp [sizes_cons, Tr.size]; omega
    · cases h
  · cases h
theorem step_wr {d : Nd} {p p' : List Tr} (h : stepR d p = some p') (hd : okN d = true) (hp : p.all Tr.wr = true) : p'.all Tr.wr = true := by
  unfold stepR at h
  split at h
  · cases h
  split at h
  · injection h with h; subst h; simpa [Tr.wr] using hp
  split at h
  · injection h with h; subst h; simpa [Tr.wr] using hp
  split at h
  · rename_i h3
    injection h with h; subst h
    have : wrB d = true := by
      unfold okN at hd
      rw [h3] at hd
      simpa using hd
    rw [List.all_cons, hp, Bool.and_true]
    exact this
  split at h
  · split at h
    · injection h with h; subst h; simpa [Tr.wr] using hp
    · cases h
  split at h
  · split at h
    · injection h with h; subst h
      simp only [List.all_cons, Tr.wr, Bool.and_eq_true] at hp ⊢
      exact ⟨⟨hp.2.1, hp.1⟩, hp.2.2⟩
    · cases h
  split at h
  · split at h
    · injection h with h; subst h
      simp only [List.all_cons, Tr.wr, Bool.and_eq_true] at hp ⊢
      exact ⟨⟨hp.2.1, hp.1⟩, hp.2.2⟩
    · cases h
  · cases h
theorem build_size : ∀ (ns : List Nd) (p q : List Tr), buildR ns p = some q → sizes q = sizes p + ns.length
  | [], p, q, h => by injection h with h; subst h; rfl
  | d :: ds, p, q, h => by
    rw [buildR] at h
    split at h
    · cases h
    · rename_i p' hp
      have h1 := (step_size hp).1
      have h2 := build_size ds p' q h
      rw [List.length_cons]
      omega
theorem build_wr : ∀ (ns : List Nd) (p q : List Tr), buildR ns p = some q → ns.all okN = true → p.all Tr.wr = true → q.all Tr.wr = true
  | [], p, q, h, _, hp => by injection h with h; subst h; exact hp
  | d :: ds, p, q, h, hn, hp => by
    rw [buildR] at h
    split at h
    · cases h
    · rename_i p' hq
      rw [List.all_cons, Bool.and_eq_true] at hn
      exact build_wr ds p' q h hn.2 (step_wr hq hn.1 hp)
theorem buildV_size {ns : List Nd} {t : Tr} (h : buildV ns = some t) : t.size = ns.length := by
  unfold buildV at h
  split at h
  · rename_i t' hb
    injection h with h
    subst h
    have := build_size _ _ _ hb
    unfold sizes at this
    simpa using this
  · cases h
theorem buildV_wr {ns : List Nd} {t : Tr} (h : buildV ns = some t) (hn : ns.all okN = true) : t.wr = true := by
  unfold buildV at h
  split at h
  · rename_i t' hb
    injection h with h
    subst h
    have := build_wr _ _ _ hb hn (by rfl)
    simpa using this
  · cases h

theorem dotV_len (u : Nat) (h : u ≤ 4294967295) : (dotV u).length ≤ 43 := by
  unfold dotV
  simp only [List.length_append, List.length_cons]
  have h1 := dec_length 9 (u / 16777216) (by omega)
  have h2 := dec_length 9 (u / 65536 % 256) (by omega)
  have h3 := dec_length 9 (u / 256 % 256) (by omega)
  have h4 := dec_length 9 (u % 256) (by omega)
  omega
theorem numS_len {v : Int} (h : fitB v = true) (b : Bool) : (numS v b).length ≤ 43 := by
  unfold fitB at h
  rw [Bool.and_eq_true, decide_eq_true_eq, decide_eq_true_eq] at h
  unfold numS
  split
  · exact dotV_len _ (by omega)
  · have := dec_length 9 v.toNat (by omega)
    omega
theorem signS_len (op : Int) : (signS op).length ≤ 2 := by
  unfold signS
  repeat' split
  all_goals simp
theorem wrB_parts {d : Nd} (h : wrB d = true) : nameB d.field = true ∧ 1 ≤ d.op ∧ d.op ≤ 6 ∧ fitB d.lo = true ∧ fitB d.hi = true ∧ fitB d.len = true ∧ formB d = true := by
  unfold wrB at h
  simp only [Bool.and_eq_true, decide_eq_true_eq] at h
  exact ⟨h.1.1.1.1.1.1.1.1, h.1.1.1.1.1.2, h.1.1.1.1.2, h.1.1.1.2, h.1.1.2, h.1.2, h.2⟩
theorem textN_len {d : Nd} (h : wrB d = true) : (textN d).length ≤ 130 := by
  obtain ⟨h1, _, _, h4, h5, h6, h7⟩ := wrB_parts h
  have hf : d.field.length ≤ 24 := by
    unfold nameB at h1
    simp only [Bool.and_eq_true, decide_eq_true_eq] at h1
    exact h1.2
  have hs := signS_len d.op
  have hr : (restS d).length ≤ 95 := by
    unfold restS
    split
    · have a := numS_len h4 true
      have b := numS_len h6 (bigB d.len)
      simp only [List.length_append, List.length_cons]
      omega
    · split
      · have a := numS_len h4 (bigB d.lo)
        have b := numS_len h5 (bigB d.hi)
        simp only [List.length_append, List.length_cons]
        omega
      · split
        · rename_i hform
          unfold formB at h7
          rw [if_neg (by omega), if_neg (by omega), if_neg (by omega), if_pos hform] at h7
          simp only [Bool.and_eq_true] at h7
          have := h7.2
          unfold patV at this
          simp only [Bool.and_eq_true, decide_eq_true_eq] at this
          rw [List.length_cons]
          omega
        · have a := numS_len h4 (bigB d.lo)
          omega
  unfold textN
  simp only [List.length_append, List.length_cons]
  omega
theorem brk_len (b : Bool) (t : List UInt8) : (brk b t).length ≤ t.length + 2 := by
  unfold brk
  split
  · simp
  · omega
theorem text_len : ∀ t : Tr, t.wr = true → t.text.length ≤ 150 * t.size
  | .leaf b, _ => by cases b <;> simp [Tr.text, Tr.size, anyW, noneW]
  | .test d, h => by
    have := textN_len h
    show (textN d).length ≤ 150 * 1
    omega
  | .no t, h => by
    have ih := text_len t h
    have := brk_len t.joined t.text
    show (33 :: brk t.joined t.text).length ≤ 150 * (t.size + 1)
    rw [List.length_cons]
    omega
  | .both a b, h => by
    rw [Tr.wr, Bool.and_eq_true] at h
    have i1 := text_len a h.1
    have i2 := text_len b h.2
    have j1 := brk_len a.isOr a.text
    have j2 := brk_len b.joined b.text
    show (brk a.isOr a.text ++ 32 :: 38 :: 32 :: brk b.joined b.text).length ≤ 150 * (a.size + b.size + 1)
    simp only [List.length_append, List.length_cons]
    omega
  | .or a b, h => by
    rw [Tr.wr, Bool.and_eq_true] at h
    have i1 := text_len a h.1
    have i2 := text_len b h.2
    have j2 := brk_len b.isOr b.text
    show (a.text ++ 32 :: 124 :: 32 :: brk b.isOr b.text).length ≤ 150 * (a.size + b.size + 1)
    simp only [List.length_append, List.length_cons]
    omega
theorem one_le (b : Bool) : one b ≤ 1 := by cases b <;> simp [one]
theorem nest_le : ∀ t : Tr, t.nest ≤ 2 * t.size
  | .leaf b => by simp [Tr.nest]
  | .test d => by simp [Tr.nest]
  | .no t => by
    have := nest_le t
    have := one_le t.joined
    show t.nest + one t.joined + 1 ≤ 2 * (t.size + 1)
    omega
  | .both a b => by
    have := nest_le a
    have := nest_le b
    have := one_le a.isOr
    have := one_le b.joined
    show max (a.nest + one a.isOr) (b.nest + one b.joined) ≤ 2 * (a.size + b.size + 1)
    omega
  | .or a b => by
    have := nest_le a
    have := nest_le b
    have := one_le b.isOr
    show max a.nest (b.nest + one b.isOr) ≤ 2 * (a.size + b.size + 1)
    omega
theorem size_pos (t : Tr) : 1 ≤ t.size := by cases t <;> simp [Tr.size]

/-- How a piece is joined: 3: not at all, 2: by And, 1: by Or. -/
def Tr.by_ : Tr → Nat
  | .both _ _ => 2
  | .or _ _ => 1
  | _ => 3
theorem joined_by (t : Tr) : t.joined = decide (t.by_ < 3) := by cases t <;> rfl
theorem isOr_by (t : Tr) : t.isOr = decide (t.by_ < 2) := by cases t <;> rfl
end Sp
end Go.Proofs.YtdmpapoabeljfaaGreatDoor
