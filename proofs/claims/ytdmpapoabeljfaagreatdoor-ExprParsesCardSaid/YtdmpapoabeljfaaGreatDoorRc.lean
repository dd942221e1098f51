/-
  THE WALKS of the reference's isPattern, isSign, token (chapter 3).
-/
import Derived.Test.YtdmpapoabeljfaaGreatDoorRb
import Derived.Test.YtdmpapoabeljfaaGreatDoorLa
set_option linter.unusedVariables false
set_option linter.unusedSimpArgs false
set_option maxRecDepth 100000
set_option maxHeartbeats 6000000
namespace Go.Proofs.YtdmpapoabeljfaaGreatDoor
open Go.RowKit

theorem sign_cut (c : UInt8) (r : List UInt8) : Sp.signV (c :: r) = if 2 ≤ (c :: r).length ∧ SIGNL.contains ((c :: r).take 2) = true then 2 else if SIGNL.contains [c] = true then 1 else 0 := by
  have h1 : SIGNL.contains [c] = (c == 40 || c == 41 || c == 33 || c == 61 || c == 60 || c == 62 || c == 38 || c == 124 || c == 44 || c == 58 || c == 47) := by
    rw [Bool.eq_iff_iff]
    simp [SIGNL, or_assoc]
  match r with
  | [] => rw [h1]; simp [Sp.signV]
  | b :: r =>
    have h2 : SIGNL.contains ((c :: b :: r).take 2) = ((c == 33 && b == 61) || (c == 60 && b == 61) || (c == 62 && b == 61) || (c == 46 && b == 46) || (c == 45 && b == 62)) := by
      rw [Bool.eq_iff_iff]
      simp [SIGNL, or_assoc]
    rw [h1, h2]
    simp [Sp.signV]

theorem pat_all (m : List UInt8) : m.all ((⟨#[48, 49, 120]⟩ : ByteArray).data.toList.contains ·) = m.all (fun c => c == 48 || c == 49 || c == 120) := by
  congr 1
  funext c
  rw [Bool.eq_iff_iff]
  simp [or_assoc]

theorem ref3_isPattern (s : ByteArray) (m : List UInt8) (w : World) (hm : s.data.toList = 37 :: m) (hs : s.size ≤ 1073741824) :
    Calls Tryz.prog 80 #[.string s] w fun e w' => e = .returned (.bool (Sp.patV m)) ∧ Below w.heap.size w w' := by
  have hsl := Lib.size_eq s
  rw [hm, List.length_cons] at hsl
  have h0 : 0 < s.size := by omega
  have hc : s[0]'h0 = 37 := by
    rw [Sp.get_idx s 0 h0 (by rw [hm]; simp)]
    simp [hm]
  have hc2 : (s[0]'h0).toNat = 37 := by rw [hc]; rfl
  by_cases h1 : m.length = 0
  · have q1 : decide ((s.size : Int) ≥ 2) = false := decide_eq_false (by omega)
    have hP : Sp.patV m = false := by unfold Sp.patV; rw [h1]; simp
    rw [hP]
    clear hsl
    go_enter Tryz.func80, Tryz.ntmps80
    go_wp2
    go_ret
    exact ⟨rfl, Below.refl _ _⟩
  by_cases h2 : 32 < m.length
  · have q1 : decide ((s.size : Int) ≥ 2) = true := decide_eq_true (by omega)
    have q2 : decide ((s.size : Int) ≤ 33) = false := decide_eq_false (by omega)
    have hP : Sp.patV m = false := by
      unfold Sp.patV
      rw [decide_eq_false (by omega : ¬ m.length ≤ 32), Bool.and_false]
    rw [hP]
    clear hsl
    go_enter Tryz.func80, Tryz.ntmps80
    go_wp2
    go_ret
    exact ⟨rfl, Below.refl _ _⟩
  have q1 : decide ((s.size : Int) ≥ 2) = true := decide_eq_true (by omega)
  have q2 : decide ((s.size : Int) ≤ 33) = true := decide_eq_true (by omega)
  have q3 : (((s[0]'h0).toNat : Int) == 37) = true := beq_iff_eq.2 (by omega)
  have hP : Sp.patV m = m.all (fun c => c == 48 || c == 49 || c == 120) := by
    unfold Sp.patV
    rw [decide_eq_true (by omega : m.length ≤ 32), Bool.and_true, bne_iff_ne.2 h1, Bool.and_true]
  rw [hP]
  have hall := fun W => ref3_all (s.extract 1 s.size) ⟨#[48, 49, 120]⟩ W (by rw [ByteArray.size_extract]; omega) (by decide)
  rw [ext_drop, hm, List.drop_succ_cons, List.drop_zero, pat_all] at hall
  have HA := Lib.hid hall
  clear hall hP hc
  have b1 : (1 : Int) ≤ (s.size : Int) := by omega
  clear hsl
  go_enter Tryz.func80, Tryz.ntmps80
  go_wp2_with (go_at_call 100; refine (HA.out _).mono ?_; rintro e w1 ⟨rfl, hb1⟩)
  go_ret
  exact ⟨rfl, hb1⟩


theorem class_letter (c : UInt8) : Sp.classB c = 5 ↔ Sp.letterB c = true := by
  have h : ∀ n : Fin 256, (Sp.classB (UInt8.ofNat n.1) = 5 ↔ Sp.letterB (UInt8.ofNat n.1) = true) := by decide
  have := h ⟨c.toNat, c.toNat_lt⟩
  simpa using this
theorem class_digit (c : UInt8) : Sp.classB c = 6 ↔ Sp.digitB c = true := by
  have h : ∀ n : Fin 256, (Sp.classB (UInt8.ofNat n.1) = 6 ↔ Sp.digitB (UInt8.ofNat n.1) = true) := by decide
  have := h ⟨c.toNat, c.toNat_lt⟩
  simpa using this

/-- What the reference's token hands back. -/
def RefTok (i : Nat) (p : Nat × Nat × Nat × Nat) (W : World) (e : Ending) (w' : World) : Prop :=
  e = .returned (.tuple (if p.2.2.2 = 0 then #[.int .i64 (p.1 : Nat), .int .i64 ((i + p.2.1 : Nat) : Int), .int .i64 0] else #[.int .i64 0, .int .i64 ((i + p.2.2.1 : Nat) : Int), .int .i64 (p.2.2.2 : Nat)])) ∧ Below W.heap.size W w'
theorem RefTok_ok {i : Nat} {p : Nat × Nat × Nat × Nat} {W w' : World} {k n o : Nat} (h : p = (k, n, o, 0)) {x y : Int} (hx : x = k) (hy : y = ((i + n : Nat) : Int)) (hb : Below W.heap.size W w') :
    RefTok i p W (.returned (.tuple #[.int .i64 x, .int .i64 y, .int .i64 0])) w' := by
  subst h; subst hx; subst hy
  exact ⟨rfl, hb⟩
theorem RefTok_bad {i : Nat} {p : Nat × Nat × Nat × Nat} {W w' : World} {k n o c : Nat} (h : p = (k, n, o, c)) (hc : c ≠ 0) {y z : Int} (hy : y = ((i + o : Nat) : Int)) (hz : z = c) (hb : Below W.heap.size W w') :
    RefTok i p W (.returned (.tuple #[.int .i64 0, .int .i64 y, .int .i64 z])) w' := by
  subst h; subst hy; subst hz
  refine ⟨?_, hb⟩
  simp only []
  rw [if_neg hc]

theorem head_bt (s : ByteArray) (j : Nat) (h : j < s.size) : (s.data.toList.drop j).head? = some (s[j]'h) := by
  rw [Sp.drop_cons s j h]
  rfl

theorem ref3_token_name (s : ByteArray) (i : Nat) (w : World) (hi : i < s.size) (hs : s.size ≤ 1073741824) (h5 : Sp.classV (s.data.toList.drop i) = 5) :
    Calls Tryz.prog 64 #[.string s, .int .i64 i] w (RefTok i (Sp.pieceV (s.data.toList.drop i)) w) := by
  have hsl := Lib.size_eq s
  have hle := Sp.wordRun_le (s.data.toList.drop i)
  rw [List.length_drop, ← hsl] at hle
  have hi' : (i : Int) < s.size := by omega
  have hd0 := Sp.drop_cons s i hi
  have hlet : Sp.letterB (s[i]'hi) = true := by
    rw [hd0] at h5
    exact Sp.classB_5 h5
  have hl0 := fun W => ref3_letter (s[i]'hi) W
  rw [hlet] at hl0
  have HL0 := Lib.hid hl0
  have tok1 : True := trivial
  have hrun := fun W => ref3_run s i W (by omega) hs
  rw [piece_name h5]
  obtain ⟨P, hP⟩ : ∃ P, nameV (s.data.toList.drop i) = P := ⟨_, rfl⟩
  rw [hP]
  unfold nameV at hP
  obtain ⟨n, hn⟩ : ∃ n, Sp.wordRun (s.data.toList.drop i) = n := ⟨_, rfl⟩
  rw [hn] at hrun hP hle
  rw [List.drop_drop, List.drop_drop] at hP
  obtain ⟨j, hj⟩ : ∃ j, i + n = j := ⟨_, rfl⟩
  rw [show i + (n + 1) = j + 1 by omega, hj] at hP
  rw [hj] at hrun
  have HR := Lib.hid hrun
  have hjs : j ≤ s.size := by omega
  clear hl0 hrun hd0 hlet h5 hn
  by_cases h24 : 24 < n
  · rw [if_pos h24] at hP
    have HP := Lib.hid hP
    have q1 : decide ((j : Int) - i > 24) = true := decide_eq_true (by omega)
    clear hP
    clear hsl
    go_enter Tryz.func64, Tryz.ntmps64
    go_wp2_with (first | (have _t := tok1; go_at_call 75; refine (HL0.out _).mono ?_; clear tok1 _t; rintro e w1 ⟨rfl, rfl⟩; have tok2 : True := trivial) | (have _t := tok2; go_at_call 76; refine (HR.out _).mono ?_; clear tok2 _t; rintro e w2 ⟨rfl, rfl⟩; have tok3 : True := trivial))
    go_ret3
    exact RefTok_bad HP.out.symm (by omega) rfl rfl (Below.refl _ _)
  rw [if_neg h24] at hP
  have q1 : decide ((j : Int) - i > 24) = false := decide_eq_false (by omega)
  by_cases c1 : j + 1 < s.size
  · have q2 : decide ((j : Int) + 1 ≥ s.size) = false := decide_eq_false (by omega)
    have b1 : (j : Int) < s.size := by omega
    have b2 : (j : Int) + 1 < s.size := by omega
    have b3 : ((j : Int) + 1).toNat = j + 1 := by omega
    have hj1 : j < s.size := by omega
    rw [head_bt s j hj1, Sp.drop_cons s (j + 1) c1] at hP
    by_cases c2 : (s[j]'hj1).toNat = 46
    · have q3 : (((s[j]'hj1).toNat : Int) != 46) = false := by rw [bne_eq_false_iff_eq]; omega
      have e46 : s[j]'hj1 = 46 := UInt8.toNat_inj.1 c2
      have hl1 := fun W => ref3_letter (s[j + 1]'c1) W
      by_cases c3 : Sp.letterB (s[j + 1]'c1) = true
      · have hcl : Sp.classV ((s[j + 1]'c1) :: s.data.toList.drop (j + 1 + 1)) = 5 := by
          show Sp.classB _ = 5
          exact (class_letter _).2 c3
        rw [e46, if_pos ⟨rfl, hcl⟩, ← Sp.drop_cons s (j + 1) c1] at hP
        rw [c3] at hl1
        have HL1 := Lib.hid hl1
        have hle2 := Sp.wordRun_le (s.data.toList.drop (j + 1))
        rw [List.length_drop, ← hsl] at hle2
        have hrun2 := fun W => ref3_run s (j + 1) W (by omega) hs
        obtain ⟨m, hm⟩ : ∃ m, Sp.wordRun (s.data.toList.drop (j + 1)) = m := ⟨_, rfl⟩
        rw [hm] at hP hle2 hrun2
        obtain ⟨k, hk⟩ : ∃ k, j + 1 + m = k := ⟨_, rfl⟩
        rw [hk] at hrun2
        have hrun2' : ∀ W, Calls Tryz.prog 76 #[.string s, .int .i64 ((j : Int) + 1)] W fun e w' => e = .returned (.int .i64 (k : Int)) ∧ W = w' := hrun2
        have HR2 := Lib.hid hrun2'
        have hks : k ≤ s.size := by omega
        by_cases c4 : 24 < m
        · rw [if_pos c4] at hP
          have HP := Lib.hid hP
          have q4 : decide ((k : Int) - j - 1 > 24) = true := decide_eq_true (by omega)
          clear hP hrun2 hrun2' hl1 hcl c3 e46 c2 hm
          clear hsl
          go_enter Tryz.func64, Tryz.ntmps64
          go_wp2_with (first | (have _t := tok1; go_at_call 75; refine (HL0.out _).mono ?_; clear tok1 _t; rintro e w1 ⟨rfl, rfl⟩; have tok2 : True := trivial) | (have _t := tok3; go_at_call 75; refine (HL1.out _).mono ?_; clear tok3 _t; rintro e w1 ⟨rfl, rfl⟩; have tok4 : True := trivial) | (have _t := tok2; go_at_call 76; refine (HR.out _).mono ?_; clear tok2 _t; rintro e w2 ⟨rfl, rfl⟩; have tok3 : True := trivial) | (have _t := tok4; go_at_call 76; refine (HR2.out _).mono ?_; clear tok4 _t; rintro e w2 ⟨rfl, rfl⟩))
          go_ret3
          exact RefTok_bad HP.out.symm (by omega) rfl rfl (Below.refl _ _)
        · rw [if_neg c4] at hP
          have HP := Lib.hid hP
          have q4 : decide ((k : Int) - j - 1 > 24) = false := decide_eq_false (by omega)
          clear hP hrun2 hrun2' hl1 hcl c3 e46 c2 hm
          clear hsl
          go_enter Tryz.func64, Tryz.ntmps64
          go_wp2_with (first | (have _t := tok1; go_at_call 75; refine (HL0.out _).mono ?_; clear tok1 _t; rintro e w1 ⟨rfl, rfl⟩; have tok2 : True := trivial) | (have _t := tok3; go_at_call 75; refine (HL1.out _).mono ?_; clear tok3 _t; rintro e w1 ⟨rfl, rfl⟩; have tok4 : True := trivial) | (have _t := tok2; go_at_call 76; refine (HR.out _).mono ?_; clear tok2 _t; rintro e w2 ⟨rfl, rfl⟩; have tok3 : True := trivial) | (have _t := tok4; go_at_call 76; refine (HR2.out _).mono ?_; clear tok4 _t; rintro e w2 ⟨rfl, rfl⟩))
          go_ret3
          exact RefTok_ok HP.out.symm rfl (by omega) (Below.refl _ _)
      · have c3' : Sp.letterB (s[j + 1]'c1) = false := by simpa using c3
        rw [c3'] at hl1
        have HL1 := Lib.hid hl1
        rw [if_neg (by rintro ⟨_, h⟩; exact c3 ((class_letter _).1 h))] at hP
        have HP := Lib.hid hP
        clear hP hl1 c3 c3' e46 c2
        clear hsl
        go_enter Tryz.func64, Tryz.ntmps64
        go_wp2_with (first | (have _t := tok1; go_at_call 75; refine (HL0.out _).mono ?_; clear tok1 _t; rintro e w1 ⟨rfl, rfl⟩; have tok2 : True := trivial) | (have _t := tok3; go_at_call 75; refine (HL1.out _).mono ?_; clear tok3 _t; rintro e w1 ⟨rfl, rfl⟩; have tok4 : True := trivial) | (have _t := tok2; go_at_call 76; refine (HR.out _).mono ?_; clear tok2 _t; rintro e w2 ⟨rfl, rfl⟩; have tok3 : True := trivial))
        go_ret3
        exact RefTok_ok HP.out.symm rfl (by omega) (Below.refl _ _)
    · have q3 : (((s[j]'hj1).toNat : Int) != 46) = true := by rw [bne_iff_ne]; omega
      rw [if_neg (by rintro ⟨h, _⟩; injection h with h; exact c2 (by rw [h]; rfl))] at hP
      have HP := Lib.hid hP
      clear hP c2
      clear hsl
      go_enter Tryz.func64, Tryz.ntmps64
      go_wp2_with (first | (have _t := tok1; go_at_call 75; refine (HL0.out _).mono ?_; clear tok1 _t; rintro e w1 ⟨rfl, rfl⟩; have tok2 : True := trivial) | (have _t := tok2; go_at_call 76; refine (HR.out _).mono ?_; clear tok2 _t; rintro e w2 ⟨rfl, rfl⟩; have tok3 : True := trivial))
      go_ret3
      exact RefTok_ok HP.out.symm rfl (by omega) (Below.refl _ _)
  · have q2 : decide ((j : Int) + 1 ≥ s.size) = true := decide_eq_true (by omega)
    rw [if_neg (by rintro ⟨_, h⟩; rw [List.drop_eq_nil_of_le (show s.data.toList.length ≤ j + 1 by omega)] at h; cases h)] at hP
    have HP := Lib.hid hP
    clear hP
    clear hsl
    go_enter Tryz.func64, Tryz.ntmps64
    go_wp2_with (first | (have _t := tok1; go_at_call 75; refine (HL0.out _).mono ?_; clear tok1 _t; rintro e w1 ⟨rfl, rfl⟩; have tok2 : True := trivial) | (have _t := tok2; go_at_call 76; refine (HR.out _).mono ?_; clear tok2 _t; rintro e w2 ⟨rfl, rfl⟩; have tok3 : True := trivial))
    go_ret3
    exact RefTok_ok HP.out.symm rfl (by omega) (Below.refl _ _)
end Go.Proofs.YtdmpapoabeljfaaGreatDoor
