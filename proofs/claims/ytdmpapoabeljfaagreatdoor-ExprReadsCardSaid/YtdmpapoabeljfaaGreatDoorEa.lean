/-
  Plain laws: how expressions are read (no program in sight; chapter 5): a descent and a pile of open signs read alike.
-/
import Derived.Test.YtdmpapoabeljfaaGreatDoorQb
set_option linter.unusedVariables false
set_option linter.unusedSimpArgs false
set_option maxRecDepth 100000
set_option maxHeartbeats 2000000
namespace Go.Proofs.YtdmpapoabeljfaaGreatDoor
namespace Sp

/-- A node: kind; field, op, form, lo, hi, len, pattern of its test. -/
structure Nd where
  kind : Int
  field : List UInt8 := []
  op : Int := 0
  form : Int := 0
  lo : Int := 0
  hi : Int := 0
  len : Int := 0
  pat : List UInt8 := []
def nd (k : Int) : Nd := { kind := k }

def sgAt (T : List Pt) (i : Nat) (s : List UInt8) : Bool := match T[i]? with | some t => sgn t s | none => false
def kdAt (T : List Pt) (i : Nat) : Int := match T[i]? with | some t => t.1 | none => 0
def txAt (T : List Pt) (i : Nat) : List UInt8 := match T[i]? with | some t => t.2 | none => []
def nameB (s : List UInt8) : Bool := classV s == 5 && s.all wordB && decide (s.length ≤ 24)
def patB (s : List UInt8) : Bool := match s with | [] => false | c :: d => c == 37 && patV d
def numAt (T : List Pt) (i : Nat) : Option Nat := if kdAt T i = 4 ∧ (valueV (txAt T i)).2 = 0 then some (valueV (txAt T i)).1 else none
def opAt (T : List Pt) (i : Nat) : Nat :=
  if sgAt T i [61] then 1 else if sgAt T i [33, 61] then 2 else if sgAt T i [60] then 3 else if sgAt T i [60, 61] then 4 else if sgAt T i [62] then 5 else if sgAt T i [62, 61] then 6 else 0

inductive TR where
  | bad (at_ : Nat)
  | ok (at_ : Nat) (n : Nd)
/-- The rest of a test, from its sign on. -/
def testV (T : List Pt) (name : List UInt8) (p : Nat) : TR :=
  if opAt T p = 0 then .bad p
  else if opAt T p ≤ 2 ∧ kdAt T (p + 1) = 5 then
    (if patB (txAt T (p + 1)) then .ok (p + 2) { kind := 3, field := name, op := (opAt T p : Nat), form := 4, pat := (txAt T (p + 1)).drop 1 } else .bad (p + 1))
  else match numAt T (p + 1) with
    | none => .bad (p + 1)
    | some v =>
      if opAt T p ≤ 2 ∧ sgAt T (p + 2) [47] = true then
        (match numAt T (p + 3) with
          | none => .bad (p + 3)
          | some u => .ok (p + 4) { kind := 3, field := name, op := (opAt T p : Nat), form := 2, lo := (v : Nat), len := (u : Nat) })
      else if opAt T p ≤ 2 ∧ sgAt T (p + 2) [46, 46] = true then
        (match numAt T (p + 3) with
          | none => .bad (p + 3)
          | some u => .ok (p + 4) { kind := 3, field := name, op := (opAt T p : Nat), form := 3, lo := (v : Nat), hi := (u : Nat) })
      else .ok (p + 2) { kind := 3, field := name, op := (opAt T p : Nat), form := 1, lo := (v : Nat) }

inductive Rd where
  | bad (c at_ : Nat)
  | ok (at_ : Nat) (ns : List Nd) (made : Nat)
def anyW : List UInt8 := [97, 110, 121]
def noneW : List UInt8 := [110, 111, 110, 101]
/-- A factor that is no sign. -/
def leafV (T : List Pt) (p : Nat) (ns : List Nd) (m : Nat) : Rd :=
  if kdAt T p = 2 ∧ nameB (txAt T p) = true then
    (if 64 ≤ m then .bad 51 p
    else if txAt T p = anyW then .ok (p + 1) (ns ++ [nd 1]) (m + 1)
    else if txAt T p = noneW then .ok (p + 1) (ns ++ [nd 2]) (m + 1)
    else match testV T (txAt T p) (p + 1) with
      | .bad q => .bad 50 q
      | .ok q n => .ok q (ns ++ [n]) (m + 1))
  else .bad 50 p

/-- The rest of a chain. -/
def loopV (T : List Pt) (F : Nat → List Nd → Nat → Rd) (s : List UInt8) (k : Int) : Nat → Nat → List Nd → Nat → Rd
  | 0, p, ns, m => if sgAt T p s then .bad 51 p else .ok p ns m
  | n + 1, p, ns, m =>
    if sgAt T p s then
      (if 64 ≤ m then .bad 51 p
      else match F (p + 1) ns (m + 1) with
        | .bad c q => .bad c q
        | .ok q ns' m' => loopV T F s k n q (ns' ++ [nd k]) m')
    else .ok p ns m
def chainV (T : List Pt) (F : Nat → List Nd → Nat → Rd) (s : List UInt8) (k : Int) (p : Nat) (ns : List Nd) (m : Nat) : Rd :=
  match F p ns m with
  | .bad c q => .bad c q
  | .ok q ns' m' => loopV T F s k (64 - m') q ns' m'
def orV (T : List Pt) (F : Nat → List Nd → Nat → Rd) : Nat → List Nd → Nat → Rd := chainV T (chainV T F [38] 5) [124] 6
/-- A factor, where so many more brackets and denials may be open. -/
def facV (T : List Pt) : Nat → Nat → List Nd → Nat → Rd
  | 0, p, ns, m => if sgAt T p [33] then .bad 53 p else if sgAt T p [40] then .bad 53 p else leafV T p ns m
  | d + 1, p, ns, m =>
    if sgAt T p [33] then
      (if 64 ≤ m then .bad 51 p
      else match facV T d (p + 1) ns (m + 1) with
        | .bad c q => .bad c q
        | .ok q ns' m' => .ok q (ns' ++ [nd 4]) m')
    else if sgAt T p [40] then
      (match orV T (facV T d) (p + 1) ns m with
        | .bad c q => .bad c q
        | .ok q ns' m' => if sgAt T q [41] then .ok (q + 1) ns' m' else .bad 50 q)
    else leafV T p ns m
/-- P5.1, from a place that there is. -/
def readV (T : List Pt) (p : Nat) : Rd := orV T (facV T 32) p [] 0

/- The same with a pile of open signs. -/
inductive PS where
  | want (p : Nat) (st : List UInt8) (ns : List Nd) (m : Nat)
  | chain (p : Nat) (st : List UInt8) (ns : List Nd) (m : Nat)
def cnt (st : List UInt8) : Nat := (st.filter fun c => c == 40 || c == 33).length
def ndOf (c : UInt8) (ns : List Nd) : List Nd := if c = 33 then ns ++ [nd 4] else if c = 38 then ns ++ [nd 5] else if c = 124 then ns ++ [nd 6] else ns
/-- Signs are closed as long as they are of these. -/
def popW (q : UInt8 → Bool) : List UInt8 → List Nd → List UInt8 × List Nd
  | [], ns => ([], ns)
  | c :: st, ns => if q c then popW q st (ndOf c ns) else (c :: st, ns)
def isB (c : UInt8) : Bool := c == 33
def isA (c : UInt8) : Bool := c == 38
def isAO (c : UInt8) : Bool := c == 38 || c == 124
def noP (c : UInt8) : Bool := c != 40
def stepP (T : List Pt) : PS → Rd ⊕ PS
  | .want p st ns m =>
    if sgAt T p [33] then
      (if 32 ≤ cnt st then .inl (.bad 53 p) else if 64 ≤ m then .inl (.bad 51 p) else .inr (.want (p + 1) (33 :: st) ns (m + 1)))
    else if sgAt T p [40] then
      (if 32 ≤ cnt st then .inl (.bad 53 p) else .inr (.want (p + 1) (40 :: st) ns m))
    else match leafV T p ns m with
      | .bad c q => .inl (.bad c q)
      | .ok q ns' m' => .inr (.chain q (popW isB st ns').1 (popW isB st ns').2 m')
  | .chain p st ns m =>
    if sgAt T p [38] then
      (if 64 ≤ m then .inl (.bad 51 p) else .inr (.want (p + 1) (38 :: (popW isA st ns).1) (popW isA st ns).2 (m + 1)))
    else if sgAt T p [124] then
      (if 64 ≤ m then .inl (.bad 51 p) else .inr (.want (p + 1) (124 :: (popW isAO st ns).1) (popW isAO st ns).2 (m + 1)))
    else if st.any (· == 40) then
      (if sgAt T p [41] then .inr (.chain (p + 1) (popW isB ((popW noP st ns).1.drop 1) (popW noP st ns).2).1 (popW isB ((popW noP st ns).1.drop 1) (popW noP st ns).2).2 m)
      else .inl (.bad 50 p))
    else .inl (.ok p (popW (fun _ => true) st ns).2 m)
def runP (T : List Pt) : Nat → PS → Option Rd
  | 0, _ => none
  | n + 1, s => match stepP T s with | .inl r => some r | .inr s' => runP T n s'
def RunP (T : List Pt) (s : PS) (r : Rd) : Prop := ∃ n, runP T n s = some r
theorem RunP.fin {T : List Pt} {s : PS} {r : Rd} (h : stepP T s = .inl r) : RunP T s r := ⟨1, by simp [runP, h]⟩
theorem RunP.more {T : List Pt} {s s' : PS} {r : Rd} (h : stepP T s = .inr s') (h2 : RunP T s' r) : RunP T s r := by
  obtain ⟨n, hn⟩ := h2
  exact ⟨n + 1, by simp [runP, h, hn]⟩
theorem RunP.inv_fin {T : List Pt} {s : PS} {r r' : Rd} (h : RunP T s r) (h1 : stepP T s = .inl r') : r = r' := by
  obtain ⟨n, hn⟩ := h
  cases n with
  | zero => simp [runP] at hn
  | succ n => simp [runP, h1] at hn; exact hn.symm
theorem RunP.inv_more {T : List Pt} {s s' : PS} {r : Rd} (h : RunP T s r) (h1 : stepP T s = .inr s') : RunP T s' r := by
  obtain ⟨n, hn⟩ := h
  cases n with
  | zero => simp [runP] at hn
  | succ n => simp [runP, h1] at hn; exact ⟨n, hn⟩
theorem RunP.same {T : List Pt} {s s' : PS} {r : Rd} (h : stepP T s = stepP T s') (h2 : RunP T s' r) : RunP T s r := by
  obtain ⟨n, hn⟩ := h2
  cases n with
  | zero => simp [runP] at hn
  | succ n => exact ⟨n + 1, by rw [runP, h, ← hn, runP]⟩

theorem sg_ne {T : List Pt} {p : Nat} {s t : List UInt8} (h : sgAt T p s = true) (hst : s ≠ t) : sgAt T p t = false := by
  unfold sgAt at h ⊢
  cases ht : T[p]? with
  | none => rfl
  | some x =>
    rw [ht] at h
    simp only [sgn, Bool.and_eq_true, beq_iff_eq] at h
    simp only [sgn, Bool.and_eq_false_iff, beq_eq_false_iff_ne]
    exact Or.inr (fun e => hst (h.2 ▸ e))
theorem popW_stop {q : UInt8 → Bool} {st : List UInt8} {ns : List Nd} (h : ∀ c, st.head? = some c → q c = false) : popW q st ns = (st, ns) := by
  cases st with
  | nil => rfl
  | cons c r => rw [popW, h c rfl]; rfl
theorem step_and (T : List Pt) (p : Nat) (st : List UInt8) (ns : List Nd) (m : Nat) : stepP T (.chain p (38 :: st) ns m) = stepP T (.chain p st (ns ++ [nd 5]) m) := by
  have h1 : ∀ q : UInt8 → Bool, q 38 = true → popW q (38 :: st) ns = popW q st (ns ++ [nd 5]) := by
    intro q hq
    rw [popW, hq]
    rfl
  simp only [stepP, h1 isA rfl, h1 isAO rfl, h1 noP rfl, h1 (fun _ => true) rfl]
  rfl
theorem step_or (T : List Pt) (p : Nat) (st : List UInt8) (ns : List Nd) (m : Nat) (h : sgAt T p [38] = false) : stepP T (.chain p (124 :: st) ns m) = stepP T (.chain p st (ns ++ [nd 6]) m) := by
  have h1 : ∀ q : UInt8 → Bool, q 124 = true → popW q (124 :: st) ns = popW q st (ns ++ [nd 6]) := by
    intro q hq
    rw [popW, hq]
    rfl
  simp only [stepP, h, h1 isAO rfl, h1 noP rfl, h1 (fun _ => true) rfl]
  rfl

/-- What a reader of a factor and the pile have to do with each other. -/
def FacLike (T : List Pt) (F : Nat → List Nd → Nat → Rd) (c : Nat) : Prop :=
  ∀ p ns m st, cnt st = c →
    (∀ q ns' m', F p ns m = .ok q ns' m' → m < m' ∧ ∀ r, RunP T (.chain q (popW isB st ns').1 (popW isB st ns').2 m') r → RunP T (.want p st ns m) r) ∧
    (∀ e q, F p ns m = .bad e q → RunP T (.want p st ns m) (.bad e q))
/-- A chain, from behind its first part on. -/
def LoopLike (T : List Pt) (F : Nat → List Nd → Nat → Rd) (s : List UInt8) (k : Int) (st : List UInt8) (n p : Nat) (ns : List Nd) (m : Nat) : Prop :=
  (∀ q ns' m', loopV T F s k n p ns m = .ok q ns' m' → m ≤ m' ∧ sgAt T q s = false ∧ ∀ r, RunP T (.chain q st ns' m') r → RunP T (.chain p st ns m) r) ∧
  (∀ e q, loopV T F s k n p ns m = .bad e q → RunP T (.chain p st ns m) (.bad e q))

theorem loop_and {T : List Pt} {F : Nat → List Nd → Nat → Rd} {c : Nat} (hF : FacLike T F c) {st : List UInt8} (hc : cnt st = c) (h1 : ∀ x, st.head? = some x → x ≠ 33 ∧ x ≠ 38) :
    ∀ n p ns m, 64 ≤ m + n → LoopLike T F [38] 5 st n p ns m := by
  have hA : ∀ ns, popW isA st ns = (st, ns) := fun ns => popW_stop (fun x hx => by have := (h1 x hx).2; unfold isA; simpa using this)
  have hc2 : cnt (38 :: st) = c := by rw [← hc]; rfl
  have hB : ∀ ns, popW isB (38 :: st) ns = (38 :: st, ns) := fun ns => rfl
  intro n
  induction n with
  | zero =>
    intro p ns m hm
    cases hs : sgAt T p [38] with
    | true =>
      refine ⟨fun q ns' m' h => by simp [loopV, hs] at h, fun e q h => ?_⟩
      simp only [loopV, hs, if_true, Rd.bad.injEq] at h
      obtain ⟨rfl, rfl⟩ := h
      exact RunP.fin (by simp only [stepP, hs, if_true]; rw [if_pos (by omega)])
    | false =>
      refine ⟨fun q ns' m' h => ?_, fun e q h => by simp [loopV, hs] at h⟩
      simp only [loopV, hs, Bool.false_eq_true, if_false, Rd.ok.injEq] at h
      obtain ⟨rfl, rfl, rfl⟩ := h
      exact ⟨Nat.le_refl _, hs, fun r h => h⟩
  | succ n ih =>
    intro p ns m hm
    cases hs : sgAt T p [38] with
    | false =>
      refine ⟨fun q ns' m' h => ?_, fun e q h => by simp [loopV, hs] at h⟩
      simp only [loopV, hs, Bool.false_eq_true, if_false, Rd.ok.injEq] at h
      obtain ⟨rfl, rfl, rfl⟩ := h
      exact ⟨Nat.le_refl _, hs, fun r h => h⟩
    | true =>
      by_cases h64 : 64 ≤ m
      · refine ⟨fun q ns' m' h => by simp [loopV, hs, h64] at h, fun e q h => ?_⟩
        simp only [loopV, hs, if_true, if_pos h64, Rd.bad.injEq] at h
        obtain ⟨rfl, rfl⟩ := h
        exact RunP.fin (by simp only [stepP, hs, if_true, if_pos h64])
      have hstep : stepP T (.chain p st ns m) = .inr (.want (p + 1) (38 :: st) ns (m + 1)) := by
        simp only [stepP, hs, if_true, if_neg h64, hA]
      obtain ⟨f1, f2⟩ := hF (p + 1) ns (m + 1) (38 :: st) hc2
      cases hf : F (p + 1) ns (m + 1) with
      | bad e0 q0 =>
        refine ⟨fun q ns' m' h => by simp [loopV, hs, h64, hf] at h, fun e q h => ?_⟩
        simp only [loopV, hs, if_true, if_neg h64, hf, Rd.bad.injEq] at h
        obtain ⟨rfl, rfl⟩ := h
        exact RunP.more hstep (f2 _ _ hf)
      | ok q0 ns0 m0 =>
        obtain ⟨hlt, f1⟩ := f1 _ _ _ hf
        have key : ∀ r, RunP T (.chain q0 st (ns0 ++ [nd 5]) m0) r → RunP T (.chain p st ns m) r := by
          intro r hr
          refine RunP.more hstep (f1 r ?_)
          rw [hB]
          exact RunP.same (step_and T q0 st ns0 m0) hr
        have hl : loopV T F [38] 5 (n + 1) p ns m = loopV T F [38] 5 n q0 (ns0 ++ [nd 5]) m0 := by
          simp only [loopV, hs, if_true, if_neg h64, hf]
        obtain ⟨i1, i2⟩ := ih q0 (ns0 ++ [nd 5]) m0 (by omega)
        refine ⟨fun q ns' m' h => ?_, fun e q h => ?_⟩
        · rw [hl] at h
          obtain ⟨j1, j2, j3⟩ := i1 q ns' m' h
          exact ⟨by omega, j2, fun r hr => key r (j3 r hr)⟩
        · rw [hl] at h
          exact key _ (i2 e q h)

/-- A chain of factors. -/
def AndLike (T : List Pt) (G : Nat → List Nd → Nat → Rd) (c : Nat) : Prop :=
  ∀ p ns m st, cnt st = c → (∀ x, st.head? = some x → x ≠ 33 ∧ x ≠ 38) →
    (∀ q ns' m', G p ns m = .ok q ns' m' → m < m' ∧ sgAt T q [38] = false ∧ ∀ r, RunP T (.chain q st ns' m') r → RunP T (.want p st ns m) r) ∧
    (∀ e q, G p ns m = .bad e q → RunP T (.want p st ns m) (.bad e q))
theorem and_like {T : List Pt} {F : Nat → List Nd → Nat → Rd} {c : Nat} (hF : FacLike T F c) : AndLike T (chainV T F [38] 5) c := by
  intro p ns m st hc h1
  have hB : ∀ ns, popW isB st ns = (st, ns) := fun ns => popW_stop (fun x hx => by have := (h1 x hx).1; unfold isB; simpa using this)
  obtain ⟨f1, f2⟩ := hF p ns m st hc
  cases hf : F p ns m with
  | bad e0 q0 =>
    refine ⟨fun q ns' m' h => by simp [chainV, hf] at h, fun e q h => ?_⟩
    simp only [chainV, hf, Rd.bad.injEq] at h
    obtain ⟨rfl, rfl⟩ := h
    exact f2 _ _ hf
  | ok q0 ns0 m0 =>
    obtain ⟨hlt, f1⟩ := f1 _ _ _ hf
    rw [hB] at f1
    have hl : chainV T F [38] 5 p ns m = loopV T F [38] 5 (64 - m0) q0 ns0 m0 := by simp only [chainV, hf]
    obtain ⟨i1, i2⟩ := loop_and hF hc h1 (64 - m0) q0 ns0 m0 (by omega)
    refine ⟨fun q ns' m' h => ?_, fun e q h => ?_⟩
    · rw [hl] at h
      obtain ⟨j1, j2, j3⟩ := i1 q ns' m' h
      exact ⟨by omega, j2, fun r hr => f1 r (j3 r hr)⟩
    · rw [hl] at h
      exact f1 _ (i2 e q h)

theorem loop_or {T : List Pt} {G : Nat → List Nd → Nat → Rd} {c : Nat} (hG : AndLike T G c) {st : List UInt8} (hc : cnt st = c) (h1 : ∀ x, st.head? = some x → x = 40) :
    ∀ n p ns m, 64 ≤ m + n → sgAt T p [38] = false →
      (∀ q ns' m', loopV T G [124] 6 n p ns m = .ok q ns' m' → m ≤ m' ∧ sgAt T q [124] = false ∧ sgAt T q [38] = false ∧ ∀ r, RunP T (.chain q st ns' m') r → RunP T (.chain p st ns m) r) ∧
      (∀ e q, loopV T G [124] 6 n p ns m = .bad e q → RunP T (.chain p st ns m) (.bad e q)) := by
  have hA : ∀ ns, popW isAO st ns = (st, ns) := fun ns => popW_stop (fun x hx => by rw [h1 x hx]; rfl)
  have hc2 : cnt (124 :: st) = c := by rw [← hc]; rfl
  have h2 : ∀ x, (124 :: st).head? = some x → x ≠ 33 ∧ x ≠ 38 := by
    intro x hx
    injection hx with hx
    subst hx
    decide
  intro n
  induction n with
  | zero =>
    intro p ns m hm hna
    cases hs : sgAt T p [124] with
    | true =>
      refine ⟨fun q ns' m' h => by simp [loopV, hs] at h, fun e q h => ?_⟩
      simp only [loopV, hs, if_true, Rd.bad.injEq] at h
      obtain ⟨rfl, rfl⟩ := h
      exact RunP.fin (by simp only [stepP, hna, hs, if_true, Bool.false_eq_true, if_false]; rw [if_pos (by omega)])
    | false =>
      refine ⟨fun q ns' m' h => ?_, fun e q h => by simp [loopV, hs] at h⟩
      simp only [loopV, hs, Bool.false_eq_true, if_false, Rd.ok.injEq] at h
      obtain ⟨rfl, rfl, rfl⟩ := h
      exact ⟨Nat.le_refl _, hs, hna, fun r h => h⟩
  | succ n ih =>
    intro p ns m hm hna
    cases hs : sgAt T p [124] with
    | false =>
      refine ⟨fun q ns' m' h => ?_, fun e q h => by simp [loopV, hs] at h⟩
      simp only [loopV, hs, Bool.false_eq_true, if_false, Rd.ok.injEq] at h
      obtain ⟨rfl, rfl, rfl⟩ := h
      exact ⟨Nat.le_refl _, hs, hna, fun r h => h⟩
    | true =>
      by_cases h64 : 64 ≤ m
      · refine ⟨fun q ns' m' h => by simp [loopV, hs, h64] at h, fun e q h => ?_⟩
        simp only [loopV, hs, if_true, if_pos h64, Rd.bad.injEq] at h
        obtain ⟨rfl, rfl⟩ := h
        exact RunP.fin (by simp only [stepP, hna, hs, if_true, if_pos h64, Bool.false_eq_true, if_false])
      have hstep : stepP T (.chain p st ns m) = .inr (.want (p + 1) (124 :: st) ns (m + 1)) := by
        simp only [stepP, hna, hs, if_true, if_neg h64, hA, Bool.false_eq_true, if_false]
      obtain ⟨f1, f2⟩ := hG (p + 1) ns (m + 1) (124 :: st) hc2 h2
      cases hf : G (p + 1) ns (m + 1) with
      | bad e0 q0 =>
        refine ⟨fun q ns' m' h => by simp [loopV, hs, h64, hf] at h, fun e q h => ?_⟩
        simp only [loopV, hs, if_true, if_neg h64, hf, Rd.bad.injEq] at h
        obtain ⟨rfl, rfl⟩ := h
        exact RunP.more hstep (f2 _ _ hf)
      | ok q0 ns0 m0 =>
        obtain ⟨hlt, hnq, f1⟩ := f1 _ _ _ hf
        have key : ∀ r, RunP T (.chain q0 st (ns0 ++ [nd 6]) m0) r → RunP T (.chain p st ns m) r := by
          intro r hr
          refine RunP.more hstep (f1 r ?_)
          exact RunP.same (step_or T q0 st ns0 m0 hnq) hr
        have hl : loopV T G [124] 6 (n + 1) p ns m = loopV T G [124] 6 n q0 (ns0 ++ [nd 6]) m0 := by
          simp only [loopV, hs, if_true, if_neg h64, hf]
        obtain ⟨i1, i2⟩ := ih q0 (ns0 ++ [nd 6]) m0 (by omega) hnq
        refine ⟨fun q ns' m' h => ?_, fun e q h => ?_⟩
        · rw [hl] at h
          obtain ⟨j1, j2, j3, j4⟩ := i1 q ns' m' h
          exact ⟨by omega, j2, j3, fun r hr => key r (j4 r hr)⟩
        · rw [hl] at h
          exact key _ (i2 e q h)

theorem or_like {T : List Pt} {F : Nat → List Nd → Nat → Rd} {c : Nat} (hF : FacLike T F c) (p : Nat) (ns : List Nd) (m : Nat) (st : List UInt8) (hc : cnt st = c) (h1 : ∀ x, st.head? = some x → x = 40) :
    (∀ q ns' m', orV T F p ns m = .ok q ns' m' → m < m' ∧ sgAt T q [124] = false ∧ sgAt T q [38] = false ∧ ∀ r, RunP T (.chain q st ns' m') r → RunP T (.want p st ns m) r) ∧
    (∀ e q, orV T F p ns m = .bad e q → RunP T (.want p st ns m) (.bad e q)) := by
  have hG := and_like hF
  obtain ⟨f1, f2⟩ := hG p ns m st hc (fun x hx => by rw [h1 x hx]; decide)
  unfold orV
  generalize chainV T F [38] 5 = G at hG f1 f2 ⊢
  cases hf : G p ns m with
  | bad e0 q0 =>
    refine ⟨fun q ns' m' h => by simp [chainV, hf] at h, fun e q h => ?_⟩
    simp only [chainV, hf, Rd.bad.injEq] at h
    obtain ⟨rfl, rfl⟩ := h
    exact f2 _ _ hf
  | ok q0 ns0 m0 =>
    obtain ⟨hlt, hna, f1⟩ := f1 _ _ _ hf
    have hl : chainV T G [124] 6 p ns m = loopV T G [124] 6 (64 - m0) q0 ns0 m0 := by simp only [chainV, hf]
    obtain ⟨i1, i2⟩ := loop_or hG hc h1 (64 - m0) q0 ns0 m0 (by omega) hna
    refine ⟨fun q ns' m' h => ?_, fun e q h => ?_⟩
    · rw [hl] at h
      obtain ⟨j1, j2, j3, j4⟩ := i1 q ns' m' h
      exact ⟨by omega, j2, j3, fun r hr => f1 r (j4 r hr)⟩
    · rw [hl] at h
      exact f1 _ (i2 e q h)

theorem leaf_ok {T : List Pt} {p : Nat} {ns : List Nd} {m q : Nat} {ns' : List Nd} {m' : Nat} (h : leafV T p ns m = .ok q ns' m') : m' = m + 1 := by
  unfold leafV at h
  split at h
  · split at h
    · cases h
    · split at h
      · injection h with _ _ h; exact h.symm
      · split at h
        · injection h with _ _ h; exact h.symm
        · split at h
          · cases h
          · injection h with _ _ h; exact h.symm
  · cases h
theorem leaf_like (T : List Pt) (p : Nat) (ns : List Nd) (m : Nat) (st : List UInt8) (h1 : sgAt T p [33] = false) (h2 : sgAt T p [40] = false) :
    (∀ q ns' m', leafV T p ns m = .ok q ns' m' → m < m' ∧ ∀ r, RunP T (.chain q (popW isB st ns').1 (popW isB st ns').2 m') r → RunP T (.want p st ns m) r) ∧
    (∀ e q, leafV T p ns m = .bad e q → RunP T (.want p st ns m) (.bad e q)) := by
  refine ⟨fun q ns' m' h => ⟨by have := leaf_ok h; omega, fun r hr => ?_⟩, fun e q h => ?_⟩
  · exact RunP.more (by simp only [stepP, h1, h2, h, Bool.false_eq_true, if_false]) hr
  · exact RunP.fin (by simp only [stepP, h1, h2, h, Bool.false_eq_true, if_false])
theorem fac_like (T : List Pt) : ∀ d c, d + c = 32 → FacLike T (facV T d) c := by
  intro d
  induction d with
  | zero =>
    intro c hdc p ns m st hc
    have h32 : 32 ≤ cnt st := by omega
    cases h1 : sgAt T p [33] with
    | true =>
      refine ⟨fun q ns' m' h => by simp [facV, h1] at h, fun e q h => ?_⟩
      simp only [facV, h1, if_true, Rd.bad.injEq] at h
      obtain ⟨rfl, rfl⟩ := h
      exact RunP.fin (by simp only [stepP, h1, if_true, if_pos h32])
    | false =>
      cases h2 : sgAt T p [40] with
      | true =>
        refine ⟨fun q ns' m' h => by simp [facV, h1, h2] at h, fun e q h => ?_⟩
        simp only [facV, h1, h2, if_true, Bool.false_eq_true, if_false, Rd.bad.injEq] at h
        obtain ⟨rfl, rfl⟩ := h
        exact RunP.fin (by simp only [stepP, h1, h2, if_true, if_pos h32, Bool.false_eq_true, if_false])
      | false =>
        have : facV T 0 p ns m = leafV T p ns m := by simp only [facV, h1, h2, Bool.false_eq_true, if_false]
        rw [this]
        exact leaf_like T p ns m st h1 h2
  | succ d ih =>
    intro c hdc p ns m st hc
    have h32 : ¬ 32 ≤ cnt st := by omega
    have hF := ih (c + 1) (by omega)
    cases h1 : sgAt T p [33] with
    | true =>
      by_cases h64 : 64 ≤ m
      · refine ⟨fun q ns' m' h => by simp [facV, h1, h64] at h, fun e q h => ?_⟩
        simp only [facV, h1, if_true, if_pos h64, Rd.bad.injEq] at h
        obtain ⟨rfl, rfl⟩ := h
        exact RunP.fin (by simp only [stepP, h1, if_true, if_neg h32, if_pos h64])
      have hstep : stepP T (.want p st ns m) = .inr (.want (p + 1) (33 :: st) ns (m + 1)) := by
        simp only [stepP, h1, if_true, if_neg h32, if_neg h64]
      obtain ⟨f1, f2⟩ := hF (p + 1) ns (m + 1) (33 :: st) (by rw [← hc]; rfl)
      cases hf : facV T d (p + 1) ns (m + 1) with
      | bad e0 q0 =>
        refine ⟨fun q ns' m' h => by simp [facV, h1, h64, hf] at h, fun e q h => ?_⟩
        simp only [facV, h1, if_true, if_neg h64, hf, Rd.bad.injEq] at h
        obtain ⟨rfl, rfl⟩ := h
        exact RunP.more hstep (f2 _ _ hf)
      | ok q0 ns0 m0 =>
        obtain ⟨hlt, f1⟩ := f1 _ _ _ hf
        refine ⟨fun q ns' m' h => ?_, fun e q h => by simp [facV, h1, h64, hf] at h⟩
        simp only [facV, h1, if_true, if_neg h64, hf, Rd.ok.injEq] at h
        obtain ⟨rfl, rfl, rfl⟩ := h
        exact ⟨by omega, fun r hr => RunP.more hstep (f1 r hr)⟩
    | false =>
      cases h2 : sgAt T p [40] with
      | true =>
        have hstep : stepP T (.want p st ns m) = .inr (.want (p + 1) (40 :: st) ns m) := by
          simp only [stepP, h1, h2, if_true, if_neg h32, Bool.false_eq_true, if_false]
        obtain ⟨f1, f2⟩ := or_like hF (p + 1) ns m (40 :: st) (by rw [← hc]; rfl) (fun x hx => by injection hx with hx; exact hx.symm)
        cases hf : orV T (facV T d) (p + 1) ns m with
        | bad e0 q0 =>
          refine ⟨fun q ns' m' h => by simp [facV, h1, h2, hf] at h, fun e q h => ?_⟩
          simp only [facV, h1, h2, if_true, hf, Bool.false_eq_true, if_false, Rd.bad.injEq] at h
          obtain ⟨rfl, rfl⟩ := h
          exact RunP.more hstep (f2 _ _ hf)
        | ok q0 ns0 m0 =>
          obtain ⟨hlt, hno, hna, f1⟩ := f1 _ _ _ hf
          cases h3 : sgAt T q0 [41] with
          | false =>
            refine ⟨fun q ns' m' h => by simp [facV, h1, h2, hf, h3] at h, fun e q h => ?_⟩
            simp only [facV, h1, h2, if_true, hf, h3, Bool.false_eq_true, if_false, Rd.bad.injEq] at h
            obtain ⟨rfl, rfl⟩ := h
            refine RunP.more hstep (f1 _ (RunP.fin ?_))
            simp only [stepP, hna, hno, h3, Bool.false_eq_true, if_false]
            rfl
          | true =>
            refine ⟨fun q ns' m' h => ?_, fun e q h => by simp [facV, h1, h2, hf, h3] at h⟩
            simp only [facV, h1, h2, if_true, hf, h3, Bool.false_eq_true, if_false, Rd.ok.injEq] at h
            obtain ⟨rfl, rfl, rfl⟩ := h
            refine ⟨hlt, fun r hr => RunP.more hstep (f1 _ (RunP.more ?_ hr))⟩
            simp only [stepP, hna, hno, h3, Bool.false_eq_true, if_false, if_true]
            rfl
      | false =>
        have : facV T (d + 1) p ns m = leafV T p ns m := by simp only [facV, h1, h2, Bool.false_eq_true, if_false]
        rw [this]
        exact leaf_like T p ns m st h1 h2

def Rd.end_ : Rd → Rd
  | .bad c q => .bad c q
  | .ok q ns m => .ok q ns m
/-- Both read alike. -/
theorem read_run (T : List Pt) (p : Nat) : RunP T (.want p [] [] 0) (readV T p) := by
  obtain ⟨f1, f2⟩ := or_like (fac_like T 32 0 rfl) p [] 0 [] rfl (fun x hx => by cases hx)
  unfold readV
  cases hf : orV T (facV T 32) p [] 0 with
  | bad e q => exact f2 _ _ hf
  | ok q ns m =>
    obtain ⟨_, hno, hna, f1⟩ := f1 _ _ _ hf
    refine f1 _ (RunP.fin ?_)
    simp only [stepP, hna, hno, Bool.false_eq_true, if_false]
    rfl
end Sp
end Go.Proofs.YtdmpapoabeljfaaGreatDoor
