/-
  Plain laws: a pile of open signs (no program in sight; chapter 5).
-/
import Derived.Test.YtdmpapoabeljfaaGreatDoorQz
set_option linter.unusedVariables false
set_option linter.unusedSimpArgs false
set_option maxRecDepth 100000
set_option maxHeartbeats 2000000
namespace Go.Proofs.YtdmpapoabeljfaaGreatDoor
namespace Sp

theorem ndOf_len (c : UInt8) (ns : List Nd) : (ndOf c ns).length ≤ ns.length + 1 := by
  unfold ndOf
  repeat' split
  all_goals simp
theorem popW_yes {q : UInt8 → Bool} {c : UInt8} (h : q c = true) (st : List UInt8) (ns : List Nd) : popW q (c :: st) ns = popW q st (ndOf c ns) := by
  rw [popW, if_pos h]
theorem popW_no {q : UInt8 → Bool} {c : UInt8} (h : q c = false) (st : List UInt8) (ns : List Nd) : popW q (c :: st) ns = (c :: st, ns) := by
  rw [popW, if_neg (by rw [h]; decide)]
theorem popW_len (q : UInt8 → Bool) : ∀ (st : List UInt8) (ns : List Nd), (popW q st ns).1.length + (popW q st ns).2.length ≤ st.length + ns.length
  | [], ns => by simp [popW]
  | c :: st, ns => by
    cases h : q c with
    | true =>
      rw [popW_yes h]
      have h1 := popW_len q st (ndOf c ns)
      have h2 := ndOf_len c ns
      rw [List.length_cons]
      omega
    | false =>
      rw [popW_no h]
      exact Nat.le_refl _
theorem popW_brk : ∀ (st : List UInt8) (ns : List Nd), (st.any fun c => c == 40) = true → ∃ r, (popW noP st ns).1 = 40 :: r
  | [], ns, h => by simp at h
  | c :: st, ns, h => by
    by_cases hc : c = 40
    · subst hc
      exact ⟨st, by rw [popW_no (by rfl)]⟩
    · rw [popW_yes (by simp [noP, hc])]
      refine popW_brk st _ ?_
      rw [List.any_cons] at h
      rw [show (c == 40) = false from beq_eq_false_iff_ne.2 hc, Bool.false_or] at h
      exact h
theorem cnt_rev (st : List UInt8) : cnt st.reverse = cnt st := by
  unfold cnt
  rw [List.filter_reverse, List.length_reverse]
theorem cnt_take {l : List UInt8} {i : Nat} {b : UInt8} (h : l[i]? = some b) : cnt (l.take (i + 1)) = cnt (l.take i) + (if b == 40 || b == 33 then 1 else 0) := by
  have hi := (List.getElem?_eq_some_iff.1 h).1
  have hb := (List.getElem?_eq_some_iff.1 h).2
  unfold cnt
  rw [List.take_succ_eq_append_getElem hi, List.filter_append, List.length_append, hb]
  congr 1
  rw [List.filter_cons]
  split <;> rfl
theorem any_take {l : List UInt8} {i : Nat} {b : UInt8} (h : l[i]? = some b) : ((l.take (i + 1)).any fun c => c == 40) = (((l.take i).any fun c => c == 40) || (b == 40)) := by
  have hi := (List.getElem?_eq_some_iff.1 h).1
  have hb := (List.getElem?_eq_some_iff.1 h).2
  rw [List.take_succ_eq_append_getElem hi, List.any_append, hb]
  simp
theorem opSigns (T : List Pt) (p : Nat) : sgAt T p [61] = (opAt T p == 1) ∧ sgAt T p [33, 61] = (opAt T p == 2) ∧ sgAt T p [60] = (opAt T p == 3) ∧ sgAt T p [60, 61] = (opAt T p == 4) ∧ sgAt T p [62] = (opAt T p == 5) ∧ sgAt T p [62, 61] = (opAt T p == 6) := by
  cases h1 : sgAt T p [61] with
  | true =>
    have a2 : sgAt T p [33, 61] = false := sg_ne h1 (by decide)
    have a3 : sgAt T p [60] = false := sg_ne h1 (by decide)
    have a4 : sgAt T p [60, 61] = false := sg_ne h1 (by decide)
    have a5 : sgAt T p [62] = false := sg_ne h1 (by decide)
    have a6 : sgAt T p [62, 61] = false := sg_ne h1 (by decide)
    simp [opAt, h1, a2, a3, a4, a5, a6]
  | false =>
  cases h2 : sgAt T p [33, 61] with
  | true =>
    have a3 : sgAt T p [60] = false := sg_ne h2 (by decide)
    have a4 : sgAt T p [60, 61] = false := sg_ne h2 (by decide)
    have a5 : sgAt T p [62] = false := sg_ne h2 (by decide)
    have a6 : sgAt T p [62, 61] = false := sg_ne h2 (by decide)
    simp [opAt, h1, h2, a3, a4, a5, a6]
  | false =>
  cases h3 : sgAt T p [60] with
  | true =>
    have a4 : sgAt T p [60, 61] = false := sg_ne h3 (by decide)
    have a5 : sgAt T p [62] = false := sg_ne h3 (by decide)
    have a6 : sgAt T p [62, 61] = false := sg_ne h3 (by decide)
    simp [opAt, h1, h2, h3, a4, a5, a6]
  | false =>
  cases h4 : sgAt T p [60, 61] with
  | true =>
    have a5 : sgAt T p [62] = false := sg_ne h4 (by decide)
    have a6 : sgAt T p [62, 61] = false := sg_ne h4 (by decide)
    simp [opAt, h1, h2, h3, h4, a5, a6]
  | false =>
  cases h5 : sgAt T p [62] with
  | true =>
    have a6 : sgAt T p [62, 61] = false := sg_ne h5 (by decide)
    simp [opAt, h1, h2, h3, h4, h5, a6]
  | false =>
  cases h6 : sgAt T p [62, 61] <;> simp [opAt, h1, h2, h3, h4, h5, h6]
theorem opLe (T : List Pt) (p : Nat) : opAt T p ≤ 6 := by
  unfold opAt
  repeat' split
  all_goals omega
end Sp
end Go.Proofs.YtdmpapoabeljfaaGreatDoor
