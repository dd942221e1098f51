/-
  PLAIN LEAN, no program in sight: chapter 3's tokens, on lists of bytes.
-/
import Derived.Test.YtjedoipbllcfdaaDoorSpB
set_option linter.unusedVariables false
set_option linter.unusedSimpArgs false
namespace Go.Proofs.YtjedoipbllcfdaaDoor
namespace Sp

def letterB (c : UInt8) : Bool := decide (65 ≤ c.toNat ∧ c.toNat ≤ 90 ∨ 97 ≤ c.toNat ∧ c.toNat ≤ 122 ∨ c.toNat = 95)
def digitB (c : UInt8) : Bool := decide (48 ≤ c.toNat ∧ c.toNat ≤ 57)
def wordB (c : UInt8) : Bool := letterB c || digitB c
def blankB (c : UInt8) : Bool := decide (c.toNat = 32 ∨ c.toNat = 9 ∨ c.toNat = 13)
/-- What a byte may be the beginning of. -/
def classB (c : UInt8) : Nat :=
  if blankB c then 2 else if c.toNat = 10 then 3 else if c.toNat = 35 then 4 else if c.toNat = 37 then 7 else if c.toNat = 34 then 8 else if letterB c then 5 else if digitB c then 6 else 0
def classV (l : List UInt8) : Nat := match l with | [] => 1 | c :: _ => classB c
def wordRun (l : List UInt8) : Nat := (l.takeWhile wordB).length
def numRun : List UInt8 → Nat
  | [] => 0
  | c :: r => if wordB c || (c == 46 && classV r == 6) then numRun r + 1 else 0
def patV (l : List UInt8) : Bool := l.all (fun c => c == 48 || c == 49 || c == 120) && l.length != 0 && decide (l.length ≤ 32)
/-- How many bytes the sign at a text's beginning has; 0: none. -/
def signV (l : List UInt8) : Nat :=
  match l with
  | [] => 0
  | a :: r =>
    let two := match r with
      | [] => false
      | b :: _ => (a == 33 && b == 61) || (a == 60 && b == 61) || (a == 62 && b == 61) || (a == 46 && b == 46) || (a == 45 && b == 62)
    if two then 2
    else if a == 40 || a == 41 || a == 33 || a == 61 || a == 60 || a == 62 || a == 38 || a == 124 || a == 44 || a == 58 || a == 47 then 1 else 0

/-- The token at a text's beginning: kind, size, offset of the error, code. -/
def pieceV (l : List UInt8) : Nat × Nat × Nat × Nat :=
  if classV l = 5 then
    let n := wordRun l
    if 24 < n then (0, 0, 0, 36)
    else if (l.drop n).head? = some 46 ∧ classV (l.drop (n + 1)) = 5 then
      let m := wordRun (l.drop (n + 1))
      if 24 < m then (0, 0, 0, 36) else (3, n + 1 + m, 0, 0)
    else (2, n, 0, 0)
  else if classV l = 6 then
    (match numV (l.take (numRun l)) with | none => (0, 0, 0, 31) | some _ => (4, numRun l, 0, 0))
  else if classV l = 7 then
    let n := 1 + wordRun (l.drop 1)
    if patV ((l.drop 1).take (n - 1)) then (5, n, 0, 0) else (0, 0, 0, 44)
  else if classV l = 8 then
    let r := speakV true l
    if r.1 ≠ 0 then (0, 0, r.2.2, r.1) else if 256 < r.2.1.length then (0, 0, 0, 37) else (6, r.2.2, 0, 0)
  else if signV l = 0 then (0, 0, 0, 30) else (7, signV l, 0, 0)

def charsF : Nat → List UInt8 → Nat
  | 0, _ => 0
  | _, [] => 0
  | f + 1, c :: r => charsF f ((c :: r).drop (dec (c :: r)).2) + 1
/-- How many characters a text has, as range gives them. -/
def chars (l : List UInt8) : Nat := charsF l.length l

/-- A token: kind, text, line, column. -/
abbrev Tok := Nat × List UInt8 × Nat × Nat

/-- The machine of Scan from one place on. -/
def runF : Nat → List UInt8 → Nat → Nat → Bool → List Tok → List Tok × Nat × Nat × Nat
  | 0, _, line, col, _, _ => ([], 1000, line, col)
  | _, [], line, col, op, acc => (if op then acc ++ [(1, [10], line, col)] else acc, 0, 0, 0)
  | f + 1, c :: r, line, col, op, acc =>
    if classB c = 3 then runF f r (line + 1) 1 false (if op then acc ++ [(1, [10], line, col)] else acc)
    else if classB c = 2 then runF f r line (col + 1) op acc
    else if classB c = 4 then
      let k := ((c :: r).takeWhile (· ≠ 10)).length
      runF f ((c :: r).drop k) line (col + chars ((c :: r).take k)) op acc
    else
      let p := pieceV (c :: r)
      if p.2.2.2 ≠ 0 then ([], p.2.2.2, line, col + chars ((c :: r).take p.2.2.1))
      else runF f ((c :: r).drop p.2.1) line (col + chars ((c :: r).take p.2.1)) true (acc ++ [(p.1, (c :: r).take p.2.1, line, col)])
/-- P3.1. -/
def scanV (l : List UInt8) : List Tok × Nat × Nat × Nat :=
  if 16384 < l.length then ([], 2, 0, 0) else runF (l.length + 1) l 1 1 false []

end Sp
end Go.Proofs.YtjedoipbllcfdaaDoor
