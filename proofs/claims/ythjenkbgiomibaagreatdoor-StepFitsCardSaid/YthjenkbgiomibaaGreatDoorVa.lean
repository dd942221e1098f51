/-
  Texts joined: Va Vb Vc Vd.
-/
import Derived.Test.YthjenkbgiomibaaGreatDoorPa
import Derived.Test.YthjenkbgiomibaaGreatDoorWg

/-
  THE WALKS of reachref3.dot and reachref3.all (chapter 3).
-/
set_option linter.unusedVariables false
set_option linter.unusedSimpArgs false
set_option maxRecDepth 100000
set_option maxHeartbeats 2000000
namespace Go.Proofs.YthjenkbgiomibaaGreatDoor
open Go.RowKit

theorem index_first (c : UInt8) : ∀ (l : List UInt8) (i : Nat), (∀ j, j < i → l[j]? ≠ some c) → l[i]? = some c → Lib.indexByte l c = i
  | [], i, _, h => by simp at h
  | b :: l, 0, _, h => by
    simp at h
    subst h
    simp [Lib.indexByte]
  | b :: l, i + 1, h, h2 => by
    have hb : b ≠ c := by
      have := h 0 (by omega)
      simpa using this
    have ih := index_first c l i (fun j hj => by have := h (j + 1) (by omega); simpa using this) (by simpa using h2)
    rw [Sp.indexByte_tw] at ih ⊢
    by_cases ha : l.all (fun x => decide (x ≠ c)) = true
    · rw [if_pos ha] at ih
      omega
    · rw [if_neg ha] at ih
      rw [if_neg (by simp only [List.all_cons]; simp [hb]; simpa using ha), List.takeWhile_cons, if_pos (by simpa using hb), List.length_cons]
      omega
theorem index_no (c : UInt8) (l : List UInt8) (h : ∀ j, j < l.length → l[j]? ≠ some c) : Lib.indexByte l c = -1 := by
  rw [Sp.indexByte_tw, if_pos]
  rw [List.all_eq_true]
  intro x hx
  obtain ⟨j, hj, rfl⟩ := List.getElem_of_mem hx
  have := h j hj
  rw [List.getElem?_eq_getElem hj] at this
  simpa using this

theorem contains_snoc (l : List UInt8) (k : Nat) (hk : k < l.length) (c : UInt8) : (l.take (k + 1)).contains c = ((l.take k).contains c || (l[k]'hk == c)) := by
  rw [List.take_succ_eq_append_getElem hk]
  rw [Bool.eq_iff_iff]
  simp only [List.contains_iff_mem, Bool.or_eq_true, List.mem_append, List.mem_singleton, beq_iff_eq]
  constructor <;> (rintro (h | h); exact Or.inl h; exact Or.inr h.symm)

end Go.Proofs.YthjenkbgiomibaaGreatDoor

/-
  THE WALK of reachref3.decimal (chapter 3).
-/
set_option linter.unusedVariables false
set_option linter.unusedSimpArgs false
set_option maxRecDepth 100000
set_option maxHeartbeats 2000000
namespace Go.Proofs.YthjenkbgiomibaaGreatDoor
open Go.RowKit

def optI (o : Option Nat) : Int := match o with | none => -1 | some v => v

theorem digit_fin : ∀ n : Fin 256, [48, 49, 50, 51, 52, 53, 54, 55, 56, 57].contains (UInt8.ofNat n.1) = decide (48 ≤ (UInt8.ofNat n.1).toNat ∧ (UInt8.ofNat n.1).toNat ≤ 57) := by decide
theorem digit_in (c : UInt8) : [48, 49, 50, 51, 52, 53, 54, 55, 56, 57].contains c = decide (48 ≤ c.toNat ∧ c.toNat ≤ 57) := by
  have h := digit_fin ⟨c.toNat, c.toNat_lt⟩
  simpa using h
def DIG : ByteArray := ⟨#[48, 49, 50, 51, 52, 53, 54, 55, 56, 57]⟩
theorem digits_all (l : List UInt8) : l.all (DIG.data.toList.contains ·) = l.all (fun c => decide (48 ≤ c.toNat ∧ c.toNat ≤ 57)) := by
  congr 1
  funext c
  exact digit_in c
theorem hexv_digit (c : UInt8) (h1 : 48 ≤ c.toNat) (h2 : c.toNat ≤ 57) : Sp.hexv c = c.toNat - 48 := by
  unfold Sp.hexv
  rw [if_pos (by omega)]
theorem sub48 (c : Nat) (h1 : 48 ≤ c) (h2 : c ≤ 57) : IntKind.u8.wrap ((c : Int) - 48) = ((c - 48 : Nat) : Int) := by
  have : ∀ n : Fin 10, IntKind.u8.wrap (((48 + n.1 : Nat) : Int) - 48) = ((n.1 : Nat) : Int) := by decide
  have h := this ⟨c - 48, by omega⟩
  simp only [show 48 + (c - 48) = c by omega] at h
  exact h
theorem dec_none {top : Nat} {l : List UInt8} (h : l.length = 0 ∨ 10 < l.length ∨ l.all (fun c => decide (48 ≤ c.toNat ∧ c.toNat ≤ 57)) = false ∨ (1 < l.length ∧ l.head? = some 48)) : optI (Sp.decV top l) = -1 := by
  unfold Sp.decV
  rw [if_pos h]
  rfl
theorem dec_some {top : Nat} {l : List UInt8} (h : ¬ (l.length = 0 ∨ 10 < l.length ∨ l.all (fun c => decide (48 ≤ c.toNat ∧ c.toNat ≤ 57)) = false ∨ (1 < l.length ∧ l.head? = some 48))) : Sp.decV top l = if top < Sp.digitsV 10 0 l then none else some (Sp.digitsV 10 0 l) := by
  unfold Sp.decV
  rw [if_neg h]

end Go.Proofs.YthjenkbgiomibaaGreatDoor

/-
  THE WALK of reachref3.quad (chapter 3).
-/
set_option linter.unusedVariables false
set_option linter.unusedSimpArgs false
set_option maxRecDepth 100000
set_option maxHeartbeats 2000000
namespace Go.Proofs.YthjenkbgiomibaaGreatDoor
open Go.RowKit

theorem optI_some {o : Option Nat} {v : Nat} (h : o = some v) : optI o = v := by rw [h]; rfl
theorem optI_none {o : Option Nat} (h : o = none) : optI o = -1 := by rw [h]; rfl
theorem decV_le {top : Nat} {l : List UInt8} {v : Nat} (h : Sp.decV top l = some v) : v ≤ top := by
  unfold Sp.decV at h
  split at h
  · cases h
  split at h
  · cases h
  · injection h with h; omega
theorem ext_take (S : ByteArray) (p : Nat) : (S.extract 0 p).data.toList = S.data.toList.take p := by
  rw [Lib.extract_data, List.drop_zero, Nat.sub_zero]
theorem ext_drop (S : ByteArray) (p : Nat) : (S.extract p S.size).data.toList = S.data.toList.drop p := by
  rw [Lib.extract_data, List.take_of_length_le]
  rw [List.length_drop, ← Lib.size_eq]
  omega
theorem tw_take (q : UInt8 → Bool) : ∀ l : List UInt8, l.take (l.takeWhile q).length = l.takeWhile q
  | [] => rfl
  | c :: r => by
    rw [List.takeWhile_cons]
    by_cases h : q c = true
    · rw [if_pos h, List.length_cons, List.take_succ_cons, tw_take q r]
    · rw [if_neg h]; rfl

/-- So many parts are to come. -/
def QuadR (l : List UInt8) (k N : Nat) (r : List UInt8) : Prop := if k < 4 then Sp.quadF (3 - k) N r = Sp.quadF 3 0 l else Sp.quadF 3 0 l = some N

end Go.Proofs.YthjenkbgiomibaaGreatDoor

/-
  THE WALK of reachref3.number and reachref3.Value (chapter 3).
-/
set_option linter.unusedVariables false
set_option linter.unusedSimpArgs false
set_option maxRecDepth 100000
set_option maxHeartbeats 2000000
namespace Go.Proofs.YthjenkbgiomibaaGreatDoor
open Go.RowKit

/-- So many digits are to come. -/
def BasR (base : Nat) (o : Option Nat) (n : Nat) (r : List UInt8) : Prop := if r.all (fun c => decide (Sp.hexv c < base)) = true then o = some (Sp.digitsV base n r) else o = none
theorem BasR_start {base most : Nat} {l : List UInt8} (h0 : l.length ≠ 0) (h1 : l.length ≤ most) : BasR base (Sp.basedV base most l) 0 l := by
  unfold BasR Sp.basedV
  by_cases h : l.all (fun c => decide (Sp.hexv c < base)) = true
  · rw [if_pos h, if_neg]
    rintro (h2 | h2 | h2)
    · exact h0 h2
    · omega
    · rw [h] at h2; cases h2
  · rw [if_neg h, if_pos]
    exact Or.inr (Or.inr (by simpa using h))
theorem BasR_step {base : Nat} {o : Option Nat} {n : Nat} {c : UInt8} {r : List UInt8} (h : BasR base o n (c :: r)) (hc : Sp.hexv c < base) : BasR base o (base * n + Sp.hexv c) r := by
  unfold BasR at h ⊢
  rw [List.all_cons, decide_eq_true hc, Bool.true_and] at h
  exact h
theorem BasR_bad {base : Nat} {o : Option Nat} {n : Nat} {c : UInt8} {r : List UInt8} (h : BasR base o n (c :: r)) (hc : ¬ Sp.hexv c < base) : o = none := by
  unfold BasR at h
  rw [List.all_cons, decide_eq_false hc, Bool.false_and, if_neg (by simp)] at h
  exact h
theorem BasR_end {base : Nat} {o : Option Nat} {n : Nat} (h : BasR base o n []) : o = some n := by
  unfold BasR at h
  rw [if_pos (by rfl)] at h
  exact h
theorem ext2 (s : ByteArray) : (s.extract 0 2).toList = s.data.toList.take 2 := by rw [Lib.toList_data, ext_take]
theorem hexv2 (c : UInt8) : Sp.hexv c < 2 ↔ c.toNat = 48 ∨ c.toNat = 49 := by
  unfold Sp.hexv
  split
  · omega
  split
  · omega
  split
  · omega
  · omega

theorem dot_none {l : List UInt8} (h : l.all (fun x => decide (x ≠ 46)) = true) : Lib.indexByte l 46 = -1 := by rw [Sp.indexByte_tw, if_pos h]
theorem dot_some {l : List UInt8} (h : ¬ l.all (fun x => decide (x ≠ 46)) = true) : 0 ≤ Lib.indexByte l 46 := by rw [Sp.indexByte_tw, if_neg h]; omega
theorem num_quad {l : List UInt8} (h : ¬ l.all (fun x => decide (x ≠ 46)) = true) : Sp.numV l = Sp.quadF 3 0 l := by
  unfold Sp.numV
  rw [if_pos (by simpa using h)]
theorem num_hex {l : List UInt8} (h : l.all (fun x => decide (x ≠ 46)) = true) (h2 : l.take 2 = [48, 120]) : Sp.numV l = Sp.basedV 16 8 (l.drop 2) := by
  unfold Sp.numV
  rw [if_neg (by rw [h]; simp), if_pos h2]
theorem num_bin {l : List UInt8} (h : l.all (fun x => decide (x ≠ 46)) = true) (h2 : l.take 2 = [48, 98]) : Sp.numV l = Sp.basedV 2 32 (l.drop 2) := by
  unfold Sp.numV
  rw [if_neg (by rw [h]; simp), if_neg (by rw [h2]; decide), if_pos h2]
theorem num_dec {l : List UInt8} (h : l.all (fun x => decide (x ≠ 46)) = true) (h1 : l.take 2 ≠ [48, 120]) (h2 : l.take 2 ≠ [48, 98]) : Sp.numV l = Sp.decV 4294967295 l := by
  unfold Sp.numV
  rw [if_neg (by rw [h]; simp), if_neg h1, if_neg h2]
theorem dec_letter {l : List UInt8} {c : UInt8} (h : l.take 2 = [48, c]) (hc : 57 < c.toNat) : Sp.decV 4294967295 l = none := by
  unfold Sp.decV
  rw [if_pos]
  refine Or.inr (Or.inr (Or.inl ?_))
  rw [List.all_eq_false]
  refine ⟨c, List.mem_of_mem_take (i := 2) (by rw [h]; simp), ?_⟩
  simp
  omega
theorem based_len {base most : Nat} {l : List UInt8} (h : l.length = 0 ∨ most < l.length) : Sp.basedV base most l = none := by
  unfold Sp.basedV
  rw [if_pos]
  rcases h with h | h
  · exact Or.inl h
  · exact Or.inr (Or.inl h)
theorem two_len {l : List UInt8} {a b : UInt8} (h : l.take 2 = [a, b]) : 2 ≤ l.length := by
  have := congrArg List.length h
  rw [List.length_take] at this
  simp at this
  omega

end Go.Proofs.YthjenkbgiomibaaGreatDoor
