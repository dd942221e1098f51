/-
  PLAIN LEAN, no program in sight: what chapter 3's quoted texts and numbers say, on lists of bytes.
-/
import Derived.Test.YtjedoipbllcfdaaDoorSpA
set_option linter.unusedVariables false
set_option linter.unusedSimpArgs false
namespace Go.Proofs.YtjedoipbllcfdaaDoor
namespace Sp

/-- A hexadecimal digit's value; 99: none. -/
def hexv (c : UInt8) : Nat := if 48 ≤ c.toNat ∧ c.toNat ≤ 57 then c.toNat - 48 else if 97 ≤ c.toNat ∧ c.toNat ≤ 102 then c.toNat - 87 else if 65 ≤ c.toNat ∧ c.toNat ≤ 70 then c.toNat - 55 else 99
/-- The number that digits of a base spell. -/
def digitsV (base : Nat) (n : Nat) : List UInt8 → Nat
  | [] => n
  | c :: r => digitsV base (base * n + hexv c) r
/-- 1 to most digits of a base, or none. -/
def basedV (base most : Nat) (l : List UInt8) : Option Nat :=
  if l.length = 0 ∨ most < l.length ∨ l.all (fun c => decide (hexv c < base)) = false then none else some (digitsV base 0 l)

def validRune (n : Nat) : Bool := decide (n < 55296 ∨ (57343 < n ∧ n ≤ 1114111))

/-- Behind '\u{': the piece's length, and what it says. -/
def bracedV (l : List UInt8) : Option (Nat × Nat) :=
  if l.all (· ≠ 125) then none else
  match basedV 16 6 (l.takeWhile (· ≠ 125)) with
  | none => none
  | some v => if validRune v then some ((l.takeWhile (· ≠ 125)).length + 4, v) else none

/-- The piece that begins with a backslash: its length and what it says. -/
def escV (l : List UInt8) : Option (Nat × List UInt8) :=
  match l with
  | _ :: c :: r =>
    if c = 34 then some (2, [34]) else if c = 92 then some (2, [92]) else if c = 110 then some (2, [10]) else if c = 114 then some (2, [13]) else if c = 116 then some (2, [9])
    else if c = 120 then (match r with
      | a :: b :: _ => if hexv a < 16 ∧ hexv b < 16 then some (4, [(16 * hexv a + hexv b).toUInt8]) else none
      | _ => none)
    else if c = 117 then (match r with
      | d :: t => if d = 123 then (match bracedV t with | some (k, v) => some (k, Lib.encodeRune (v : Nat)) | none => none) else none
      | [] => none)
    else none
  | _ => none

/-- What is behind a quotation mark, from place i on (lines: a newline ends it): the code, what is said, the place behind it or of the error. -/
def speakF (lines : Bool) : Nat → List UInt8 → Nat → List UInt8 → Nat × List UInt8 × Nat
  | 0, _, i, _ => (32, [], i)
  | _, [], i, _ => (32, [], i)
  | f + 1, c :: r, i, said =>
    if c = 34 then (0, said, i + 1)
    else if c = 92 then (match escV (c :: r) with
      | none => (34, [], i)
      | some (k, b) => speakF lines f ((c :: r).drop k) (i + k) (said ++ b))
    else if c = 10 ∧ lines = true then (32, [], i)
    else if c.toNat < 32 ∨ c.toNat = 127 ∨ looseB (c :: r) = true then (33, [], i)
    else speakF lines f ((c :: r).drop (dec (c :: r)).2) (i + (dec (c :: r)).2) (said ++ (c :: r).take (dec (c :: r)).2)
def speakV (lines : Bool) (l : List UInt8) : Nat × List UInt8 × Nat := speakF lines l.length (l.drop 1) 1 []

/-- P3.5: what is said, the error, its place. -/
def unquoteV (l : List UInt8) : List UInt8 × Nat × Nat :=
  if 16384 < l.length then ([], 2, 0)
  else if l.head? ≠ some 34 then ([], 32, 0)
  else
    let r := speakV false l
    if r.1 ≠ 0 then ([], r.1, r.2.2)
    else if r.2.2 < l.length then ([], 32, r.2.2)
    else if 256 < r.2.1.length then ([], 37, 0)
    else (r.2.1, 0, 0)

/-- A decimal number without a leading zero, at most top. -/
def decV (top : Nat) (l : List UInt8) : Option Nat :=
  if l.length = 0 ∨ 10 < l.length ∨ l.all (fun c => decide (48 ≤ c.toNat ∧ c.toNat ≤ 57)) = false ∨ (1 < l.length ∧ l.head? = some 48) then none
  else if top < digitsV 10 0 l then none else some (digitsV 10 0 l)
/-- Four decimals up to 255, a dot between. -/
def quadF : Nat → Nat → List UInt8 → Option Nat
  | 0, n, l => (match decV 255 l with | none => none | some v => some (256 * n + v))
  | k + 1, n, l => if l.all (· ≠ 46) then none else
      match decV 255 (l.takeWhile (· ≠ 46)) with
      | none => none
      | some v => quadF k (256 * n + v) (l.drop ((l.takeWhile (· ≠ 46)).length + 1))
def numV (l : List UInt8) : Option Nat :=
  if l.all (· ≠ 46) = false then quadF 3 0 l
  else if l.take 2 = [48, 120] then basedV 16 8 (l.drop 2)
  else if l.take 2 = [48, 98] then basedV 2 32 (l.drop 2)
  else decV 4294967295 l
/-- P3.7: the number, the error. -/
def valueV (l : List UInt8) : Nat × Nat :=
  if 16384 < l.length then (0, 2) else match numV l with | none => (0, 31) | some v => (v, 0)

theorem digitsV_append (base : Nat) (l r : List UInt8) : ∀ n, digitsV base n (l ++ r) = digitsV base (digitsV base n l) r := by
  induction l with
  | nil => intro n; rfl
  | cons c l ih => intro n; simp only [List.cons_append, digitsV]; exact ih _
theorem digitsV_bound (base : Nat) (hb : 1 ≤ base) (l : List UInt8) (h : l.all (fun c => decide (hexv c < base)) = true) : ∀ n m, n < m → digitsV base n l < m * base ^ l.length := by
  induction l with
  | nil => intro n m h; simpa [digitsV] using h
  | cons c l ih =>
    intro n m hn
    simp only [List.all_cons, Bool.and_eq_true, decide_eq_true_eq] at h
    have h1 : base * n + hexv c < m * base := by
      have : base * (n + 1) ≤ base * m := Nat.mul_le_mul_left _ hn
      rw [Nat.mul_comm m base]
      rw [Nat.mul_add] at this
      omega
    have := ih h.2 (base * n + hexv c) (m * base) h1
    simp only [digitsV, List.length_cons, Nat.pow_succ]
    rw [Nat.mul_comm (base ^ l.length) base, ← Nat.mul_assoc]
    exact this
theorem digitsV_lt (base : Nat) (hb : 1 ≤ base) (l : List UInt8) (h : l.all (fun c => decide (hexv c < base)) = true) (k : Nat) (hk : l.length ≤ k) : digitsV base 0 l < base ^ k := by
  have := digitsV_bound base hb l h 0 1 (by omega)
  rw [Nat.one_mul] at this
  exact Nat.lt_of_lt_of_le this (Nat.pow_le_pow_right hb hk)

end Sp
end Go.Proofs.YtjedoipbllcfdaaDoor
