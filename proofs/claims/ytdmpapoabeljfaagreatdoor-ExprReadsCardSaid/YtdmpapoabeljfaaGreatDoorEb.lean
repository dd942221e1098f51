/-
  Plain laws: a text that is wholly a name, or a pattern (no program in sight; chapters 3, 5).
-/
import Derived.Test.YtdmpapoabeljfaaGreatDoorEa
import Derived.Test.YtdmpapoabeljfaaGreatDoorQd
set_option linter.unusedVariables false
set_option linter.unusedSimpArgs false
set_option maxRecDepth 100000
set_option maxHeartbeats 2000000
namespace Go.Proofs.YtdmpapoabeljfaaGreatDoor
namespace Sp

theorem scan_one {q : List UInt8} {k off : Nat} (hp : pieceV q = (k, q.length, off, 0)) (hne : q ≠ []) (hq : q.length ≤ 16384) : ∃ col, scanV q = ([(k, q, 1, 1), (1, [10], 1, col)], 0, 0, 0) := by
  match q, hne, hp with
  | c :: r, _, hp =>
    rw [scanV_run _ (by omega), runV_tok r 1 1 false [] (pieceV_at hp) hp, List.take_length, List.drop_length, runV_nil]
    exact ⟨_, rfl⟩
def headIs (k : Nat) (s : List UInt8) : List Tok → Bool
  | t :: _ => t.1 == k && t.2.1 == s
  | [] => false
/-- Is it just one token of this kind, as Scan tells? -/
def soleV (k : Nat) (s : List UInt8) : Bool := (scanV s).2.1 == 0 && (scanV s).1.length == 2 && headIs k s (scanV s).1
theorem sole_piece {k : Nat} (h1 : k ≠ 1) (s : List UInt8) : soleV k s = true ↔ s ≠ [] ∧ s.length ≤ 16384 ∧ ∃ off, pieceV s = (k, s.length, off, 0) := by
  constructor
  · intro h
    unfold soleV at h
    obtain ⟨ts, c, n, m, hsc⟩ : ∃ ts c n m, scanV s = (ts, c, n, m) := ⟨_, _, _, _, rfl⟩
    have hcd := scanV_code s
    rw [hsc] at h hcd
    simp only [Bool.and_eq_true, beq_iff_eq] at h hcd
    obtain ⟨⟨hc, hl⟩, ht⟩ := h
    have h00 := hcd.1 hc
    injection h00 with hn hm
    subst hc hn hm
    obtain ⟨hv, _, hle, _⟩ := scan_valid hsc
    match ts, ht, hv with
    | t :: r, ht, hv =>
      simp only [headIs, Bool.and_eq_true, beq_iff_eq] at ht
      rw [List.map_cons, validV] at hv
      simp only [Bool.and_eq_true] at hv
      have hok := hv.1.1
      have hne : (ptOf t).1 ≠ 1 := by
        unfold ptOf
        simp only [ht.1]
        omega
      obtain ⟨g1, k2, off, g2, g3⟩ := okT_piece hok hne
      unfold ptOf at g1 g2 g3
      simp only [ht.1, ht.2] at g1 g2 g3
      have : k2 = k := by omega
      subst this
      exact ⟨g1, hle, off, g2⟩
  · rintro ⟨hne, hle, off, hp⟩
    obtain ⟨col, hsc⟩ := scan_one hp hne hle
    unfold soleV
    rw [hsc]
    simp [headIs]

theorem wordRun_all : ∀ (l : List UInt8), l.all wordB = true → wordRun l = l.length
  | [], _ => rfl
  | c :: r, h => by
    rw [List.all_cons, Bool.and_eq_true] at h
    have := wordRun_all r h.2
    unfold wordRun at this ⊢
    rw [List.takeWhile_cons, if_pos h.1, List.length_cons, List.length_cons, this]
theorem all_wordRun : ∀ (l : List UInt8), wordRun l = l.length → l.all wordB = true
  | [], _ => rfl
  | c :: r, h => by
    unfold wordRun at h
    by_cases hc : wordB c = true
    · rw [List.takeWhile_cons, if_pos hc, List.length_cons, List.length_cons] at h
      rw [List.all_cons, hc, all_wordRun r (by unfold wordRun; omega)]
      rfl
    · rw [List.takeWhile_cons, if_neg hc] at h
      simp at h
theorem sole_name (s : List UInt8) : soleV 2 s = nameB s := by
  rw [Bool.eq_iff_iff, sole_piece (by decide)]
  unfold nameB
  simp only [Bool.and_eq_true, beq_iff_eq, decide_eq_true_eq]
  constructor
  · rintro ⟨hne, hle, off, hp⟩
    unfold pieceV at hp
    split at hp
    · rename_i h5
      simp only [] at hp
      split at hp
      · injection hp with h; exact absurd h (by decide)
      · split at hp
        · split at hp
          · injection hp with h; exact absurd h (by decide)
          · injection hp with h; exact absurd h (by decide)
        · rename_i h24 _
          injection hp with _ hp
          injection hp with hp _
          exact ⟨⟨h5, all_wordRun s hp⟩, by omega⟩
    · split at hp
      · split at hp
        · injection hp with h; exact absurd h (by decide)
        · injection hp with h; exact absurd h (by decide)
      · split at hp
        · simp only [] at hp
          split at hp
          · injection hp with h; exact absurd h (by decide)
          · injection hp with h; exact absurd h (by decide)
        · split at hp
          · simp only [] at hp
            split at hp
            · injection hp with h; exact absurd h (by decide)
            · split at hp
              · injection hp with h; exact absurd h (by decide)
              · injection hp with h; exact absurd h (by decide)
          · split at hp
            · injection hp with h; exact absurd h (by decide)
            · injection hp with h; exact absurd h (by decide)
  · rintro ⟨⟨h5, hal⟩, h24⟩
    have hw := wordRun_all s hal
    refine ⟨?_, by omega, 0, ?_⟩
    · intro e
      subst e
      exact absurd h5 (by decide)
    · unfold pieceV
      rw [if_pos h5]
      simp only [hw]
      rw [if_neg (by omega), if_neg (by rw [List.drop_length]; simp)]

theorem pat_word {d : List UInt8} (h : d.all (fun c => c == 48 || c == 49 || c == 120) = true) : d.all wordB = true := by
  rw [List.all_eq_true] at h ⊢
  intro c hc
  have := h c hc
  simp only [Bool.or_eq_true, beq_iff_eq] at this
  rcases this with (rfl | rfl) | rfl <;> decide
theorem sole_pat (s : List UInt8) : soleV 5 s = patB s := by
  rw [Bool.eq_iff_iff, sole_piece (by decide)]
  constructor
  · rintro ⟨hne, hle, off, hp⟩
    unfold pieceV at hp
    split at hp
    · simp only [] at hp
      split at hp
      · injection hp with h; exact absurd h (by decide)
      · split at hp
        · split at hp
          · injection hp with h; exact absurd h (by decide)
          · injection hp with h; exact absurd h (by decide)
        · injection hp with h; exact absurd h (by decide)
    · split at hp
      · split at hp
        · injection hp with h; exact absurd h (by decide)
        · injection hp with h; exact absurd h (by decide)
      · split at hp
        · rename_i h7
          simp only [] at hp
          split at hp
          · rename_i hpt
            injection hp with _ hp
            injection hp with hp _
            match s, h7, hpt, hp with
            | c :: r, h7, hpt, hp =>
              have hc : c = 37 := by
                have h7 : classB c = 7 := h7
                unfold classB at h7
                split at h7
                · omega
                · split at h7
                  · omega
                  · split at h7
                    · omega
                    · split at h7
                      · rename_i h; exact UInt8.toNat_inj.1 h
                      · repeat (split at h7 <;> try omega)
              rw [List.drop_succ_cons, List.drop_zero] at hpt hp
              rw [List.length_cons] at hp
              rw [List.take_of_length_le (by have := wordRun_le r; omega)] at hpt
              unfold patB
              rw [hc]
              simpa using hpt
          · injection hp with h; exact absurd h (by decide)
        · split at hp
          · simp only [] at hp
            split at hp
            · injection hp with h; exact absurd h (by decide)
            · split at hp
              · injection hp with h; exact absurd h (by decide)
              · injection hp with h; exact absurd h (by decide)
          · split at hp
            · injection hp with h; exact absurd h (by decide)
            · injection hp with h; exact absurd h (by decide)
  · intro h
    unfold patB at h
    match s, h with
    | c :: d, h =>
      simp only [Bool.and_eq_true, beq_iff_eq] at h
      obtain ⟨hc, hd⟩ := h
      subst hc
      have hd2 := hd
      unfold patV at hd2
      simp only [Bool.and_eq_true, bne_iff_ne, decide_eq_true_eq] at hd2
      have hw := wordRun_all d (pat_word hd2.1.1)
      refine ⟨by simp, by rw [List.length_cons]; omega, 0, ?_⟩
      unfold pieceV
      rw [show classV (37 :: d) = 7 from rfl]
      simp only [List.drop_succ_cons, List.drop_zero, hw]
      rw [if_neg (by decide), if_neg (by decide), if_pos trivial, List.take_of_length_le (by omega), if_pos hd, List.length_cons]
      rw [Nat.add_comm]
end Sp
end Go.Proofs.YtdmpapoabeljfaaGreatDoor
