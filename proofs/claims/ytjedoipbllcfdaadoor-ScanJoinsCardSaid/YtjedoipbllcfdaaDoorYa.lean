/-
  THE WALKS of scan.classOf, isWord (chapter 3).
-/
import Derived.Test.YtjedoipbllcfdaaDoorSpL
import Derived.Test.YtjedoipbllcfdaaDoorVf
set_option linter.unusedVariables false
set_option linter.unusedSimpArgs false
set_option maxRecDepth 100000
set_option maxHeartbeats 2000000
namespace Go.Proofs.YtjedoipbllcfdaaDoor
open Go.RowKit

theorem scan_classOf (s : ByteArray) (n : Nat) (w : World) (hs : s.size ≤ 4611686018427387904) :
    Calls Tryd.prog 51 #[.string s, .int .i64 (n : Int)] w fun e w' => e = .returned (.int .i64 (Sp.classV (s.data.toList.drop n) : Nat)) ∧ w' = w := by
  by_cases h : n < s.size
  · have q1 : decide ((n : Int) ≥ s.size) = false := decide_eq_false (by omega)
    have hlt' : (n : Int) < s.size := by omega
    have hv : Sp.classV (s.data.toList.drop n) = Sp.classB (s[n]'h) := by rw [Sp.drop_cons s n h]; rfl
    rw [hv]
    obtain ⟨c, hc⟩ : ∃ c, (s[n]'h) = c := ⟨_, rfl⟩
    have hlt := c.toNat_lt
    rw [hc]
    clear hv
    go_enter Tryd.func51, Tryd.ntmps51
    go_wp2
    all_goals go_ret
    all_goals
      refine ⟨ret_int ?_, rfl⟩
      try simp only [beq_iff_eq, beq_eq_false_iff_ne, ne_eq] at *
      simp only [Sp.classB, Sp.blankB, Sp.letterB, Sp.digitB, decide_eq_true_eq]
      (repeat' split) <;> omega
  · have q1 : decide ((n : Int) ≥ s.size) = true := decide_eq_true (by omega)
    have hv : Sp.classV (s.data.toList.drop n) = 1 := by rw [List.drop_eq_nil_of_le (by rw [← Lib.size_eq]; omega)]; rfl
    rw [hv]
    clear hv
    go_enter Tryd.func51, Tryd.ntmps51
    go_wp2
    go_ret
    exact ⟨rfl, rfl⟩

/-- May a name or a number go on here? -/
def wordAt (l : List UInt8) : Bool := match l with | [] => false | c :: _ => Sp.wordB c
theorem class_word (l : List UInt8) : (Sp.classV l = 5 ∨ Sp.classV l = 6) ↔ wordAt l = true := by
  cases l with
  | nil => simp [Sp.classV, wordAt]
  | cons c r =>
    show (Sp.classB c = 5 ∨ Sp.classB c = 6) ↔ Sp.wordB c = true
    unfold Sp.wordB Sp.classB
    have h1 : Sp.blankB c = true → Sp.letterB c = false ∧ Sp.digitB c = false := by
      unfold Sp.blankB Sp.letterB Sp.digitB
      intro h
      simp only [decide_eq_true_eq] at h
      simp only [decide_eq_false_iff_not]
      omega
    have h2 : ∀ n, c.toNat = n → (n = 10 ∨ n = 35 ∨ n = 37 ∨ n = 34) → Sp.letterB c = false ∧ Sp.digitB c = false := by
      unfold Sp.letterB Sp.digitB
      intro n h hn
      simp only [decide_eq_false_iff_not]
      omega
    split
    · rename_i h; rw [(h1 h).1, (h1 h).2]; simp
    split
    · rename_i h; rw [(h2 _ h (by omega)).1, (h2 _ h (by omega)).2]; simp
    split
    · rename_i h; rw [(h2 _ h (by omega)).1, (h2 _ h (by omega)).2]; simp
    split
    · rename_i h; rw [(h2 _ h (by omega)).1, (h2 _ h (by omega)).2]; simp
    split
    · rename_i h; rw [(h2 _ h (by omega)).1, (h2 _ h (by omega)).2]; simp
    split
    · rename_i h; rw [h]; simp
    split
    · rename_i h; rw [h]; simp
    · rename_i h h'
      simp [h, h']

theorem scan_isWord (s : ByteArray) (n : Nat) (w : World) (hs : s.size ≤ 4611686018427387904) :
    Calls Tryd.prog 92 #[.string s, .int .i64 (n : Int)] w fun e w' => e = .returned (.bool (wordAt (s.data.toList.drop n))) ∧ w' = w := by
  have hc := scan_classOf s n w hs
  have hcw := class_word (s.data.toList.drop n)
  obtain ⟨k, hk⟩ : ∃ k : Int, ((Sp.classV (s.data.toList.drop n) : Nat) : Int) = k := ⟨_, rfl⟩
  rw [hk] at hc
  have HC := Lib.hid hc
  have HW : Hid (wordAt (s.data.toList.drop n) = decide (k = 5 ∨ k = 6)) := by
    show _ = _
    rw [Bool.eq_iff_iff, decide_eq_true_eq, ← hcw]
    omega
  clear hc hcw hk
  go_enter Tryd.func92, Tryd.ntmps92
  go_wp2_with (go_at_call 51; refine HC.out.mono ?_; rintro e w1 ⟨rfl, rfl⟩)
  all_goals go_ret
  all_goals
    refine ⟨ret_bool ?_, rfl⟩
    rw [HW.out]
    rw [Bool.eq_iff_iff]
    simp only [decide_eq_true_eq, beq_iff_eq, true_iff, eq_self]
    omega
end Go.Proofs.YtjedoipbllcfdaaDoor
