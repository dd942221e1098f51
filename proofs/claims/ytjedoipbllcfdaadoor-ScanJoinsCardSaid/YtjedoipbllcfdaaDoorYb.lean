/-
  THE WALKS of scan.wordRun, numberRun, name, pattern (chapter 3).
-/
import Derived.Test.YtjedoipbllcfdaaDoorYa
set_option linter.unusedVariables false
set_option linter.unusedSimpArgs false
set_option maxRecDepth 100000
set_option maxHeartbeats 2000000
namespace Go.Proofs.YtjedoipbllcfdaaDoor
open Go.RowKit

theorem wordRun_at (l : List UInt8) (n : Nat) (h : n ≤ Sp.wordRun l) : wordAt (l.drop n) = decide (n < Sp.wordRun l) := by
  induction n generalizing l with
  | zero =>
    cases l with
    | nil => rfl
    | cons c r =>
      show Sp.wordB c = _
      unfold Sp.wordRun
      rw [List.takeWhile_cons]
      by_cases hc : Sp.wordB c = true
      · rw [if_pos hc, hc]; simp
      · rw [if_neg hc]; simp at hc; rw [hc]; simp
  | succ n ih =>
    cases l with
    | nil => simp [Sp.wordRun] at h
    | cons c r =>
      have hw := h
      unfold Sp.wordRun at hw
      rw [List.takeWhile_cons] at hw
      by_cases hc : Sp.wordB c = true
      · rw [Sp.wordRun_pos hc] at h ⊢
        rw [List.drop_succ_cons, ih r (by omega)]
        simp
      · rw [if_neg hc] at hw
        simp at hw

theorem scan_wordRun (s : ByteArray) (w : World) (hs : s.size ≤ 4611686018427387904) :
    Calls Tryd.prog 79 #[.string s] w fun e w' => e = .returned (.int .i64 (Sp.wordRun s.data.toList : Nat)) ∧ w' = w := by
  have hle := Sp.wordRun_le s.data.toList
  rw [← Lib.size_eq] at hle
  obtain ⟨l, hl⟩ : ∃ l, s.data.toList = l := ⟨_, rfl⟩
  have hW := fun n h W => wordRun_at s.data.toList n h ▸ scan_isWord s n W hs
  rw [hl] at hle hW ⊢
  obtain ⟨m, hm⟩ : ∃ m, Sp.wordRun l = m := ⟨_, rfl⟩
  rw [hm] at hle hW ⊢
  have HW := Lib.hid hW
  clear hW hl hm
  go_enter Tryd.func79, Tryd.ntmps79
  go_wp2
  go_loopw [3] (fun v3 wr => wr = w ∧ ∃ n : Nat, v3 = .int .i64 (n : Int) ∧ n ≤ m) (fun v3 _ => m - (intOf v3).toNat)
  case atStart => exact ⟨rfl, 0, rfl, by omega⟩
  case round =>
    obtain ⟨rfl, n, rfl, hn⟩ := hrel
    by_cases hlt : n < m
    · have hw := fun W => HW.out n (by omega) W
      simp only [decide_eq_true hlt] at hw
      have H := Lib.hid hw
      clear hw
      go_wp2_with (go_at_call 92; refine (H.out _).mono ?_; rintro e w1 ⟨rfl, rfl⟩)
      go_roundw
      case rel => exact ⟨by trivial, n + 1, by rfl, by omega⟩
      case measure => simp [intOf]; omega
    · have hw := fun W => HW.out n (by omega) W
      simp only [decide_eq_false hlt] at hw
      have H := Lib.hid hw
      obtain rfl : n = m := by omega
      clear hw
      go_wp2_with (go_at_call 92; refine (H.out _).mono ?_; rintro e w1 ⟨rfl, rfl⟩)
      go_ret
      exact ⟨rfl, rfl⟩

def numAt (l : List UInt8) : Bool := match l with | [] => false | c :: r => Sp.wordB c || (c == 46 && Sp.classV r == 6)
theorem numRun_at (l : List UInt8) (n : Nat) (h : n ≤ Sp.numRun l) : numAt (l.drop n) = decide (n < Sp.numRun l) := by
  induction n generalizing l with
  | zero =>
    cases l with
    | nil => rfl
    | cons c r =>
      show (Sp.wordB c || (c == 46 && Sp.classV r == 6)) = _
      rw [Sp.numRun]
      by_cases hc : (Sp.wordB c || (c == 46 && Sp.classV r == 6)) = true
      · rw [if_pos hc, hc]; simp
      · rw [if_neg hc]; simp only [Bool.not_eq_true] at hc; rw [hc]; simp
  | succ n ih =>
    cases l with
    | nil => simp [Sp.numRun] at h
    | cons c r =>
      rw [Sp.numRun] at h ⊢
      by_cases hc : (Sp.wordB c || (c == 46 && Sp.classV r == 6)) = true
      · rw [if_pos hc] at h ⊢
        rw [List.drop_succ_cons, ih r (by omega)]
        simp
      · rw [if_neg hc] at h
        omega

theorem scan_numberRun (s : ByteArray) (w : World) (hs : s.size ≤ 4611686018427387904) :
    Calls Tryd.prog 78 #[.string s] w fun e w' => e = .returned (.int .i64 (Sp.numRun s.data.toList : Nat)) ∧ w' = w := by
  have hle := Sp.numRun_le s.data.toList
  rw [← Lib.size_eq] at hle
  have hA := fun n h => numRun_at s.data.toList n h
  obtain ⟨m, hm⟩ : ∃ m, Sp.numRun s.data.toList = m := ⟨_, rfl⟩
  rw [hm] at hle hA ⊢
  have HA := Lib.hid hA
  clear hA hm
  go_enter Tryd.func78, Tryd.ntmps78
  go_wp2
  go_loopw [3] (fun v3 wr => wr = w ∧ ∃ n : Nat, v3 = .int .i64 (n : Int) ∧ n ≤ m) (fun v3 _ => m - (intOf v3).toNat)
  case atStart => exact ⟨rfl, 0, rfl, by omega⟩
  case round =>
    obtain ⟨rfl, n, rfl, hn⟩ := hrel
    have hat := HA.out n hn
    have hW := fun W => scan_isWord s n W hs
    have hC : ∀ W, Calls Tryd.prog 51 #[.string s, .int .i64 ((n : Int) + 1)] W fun e w' => e = .returned (.int .i64 (Sp.classV (s.data.toList.drop (n + 1)) : Nat)) ∧ w' = W := fun W => scan_classOf s (n + 1) W hs
    by_cases c1 : wordAt (s.data.toList.drop n) = true
    · simp only [c1] at hW
      have HW := Lib.hid hW
      have hlt : n < m := by
        cases hd : s.data.toList.drop n with
        | nil => rw [hd] at c1; cases c1
        | cons c r =>
          rw [hd] at c1 hat
          have : Sp.wordB c = true := c1
          unfold numAt at hat
          simp only [this, Bool.true_or] at hat
          exact of_decide_eq_true hat.symm
      clear hW c1 hat hC
      go_wp2_with (go_at_call 92; refine (HW.out _).mono ?_; rintro e w1 ⟨rfl, rfl⟩)
      go_roundw
      case rel => exact ⟨by trivial, n + 1, by rfl, by omega⟩
      case measure => simp [intOf]; omega
    have c1' : wordAt (s.data.toList.drop n) = false := by simpa using c1
    simp only [c1'] at hW
    have HW := Lib.hid hW
    clear hW
    by_cases c2 : n < s.size
    · have q2 : decide ((n : Int) < s.size) = true := decide_eq_true (by omega)
      have c2' : (n : Int) < s.size := by omega
      have hd := Sp.drop_cons s n c2
      rw [hd] at hat c1
      have hwb : Sp.wordB (s[n]'c2) = false := by
        have : ¬ Sp.wordB (s[n]'c2) = true := c1
        simpa using this
      unfold numAt at hat
      simp only [hwb, Bool.false_or] at hat
      by_cases c3 : (s[n]'c2).toNat = 46
      · have q3 : (((s[n]'c2).toNat : Int) == 46) = true := beq_iff_eq.2 (by omega)
        have e46 : ((s[n]'c2) == 46) = true := beq_iff_eq.2 (UInt8.toNat_inj.1 c3)
        rw [e46, Bool.true_and] at hat
        obtain ⟨k, hk⟩ : ∃ k, Sp.classV (s.data.toList.drop (n + 1)) = k := ⟨_, rfl⟩
        rw [hk] at hat hC
        have HC := Lib.hid hC
        by_cases c4 : k = 6
        · have q4 : ((k : Int) == 6) = true := beq_iff_eq.2 (by omega)
          have hlt : n < m := by
            rw [c4] at hat
            exact of_decide_eq_true hat.symm
          clear hat hC c1 c1' hd hwb e46 hk c4
          go_wp2_with (first | (go_at_call 92; refine (HW.out _).mono ?_; rintro e w1 ⟨rfl, rfl⟩) | (go_at_call 51; refine (HC.out _).mono ?_; rintro e w2 ⟨rfl, rfl⟩))
          go_roundw
          case rel => exact ⟨by trivial, n + 1, by rfl, by omega⟩
          case measure => simp [intOf]; omega
        · have q4 : ((k : Int) == 6) = false := beq_eq_false_iff_ne.2 (by omega)
          have hnm : n = m := by
            have : (k == 6) = false := beq_eq_false_iff_ne.2 c4
            rw [this] at hat
            have := of_decide_eq_false hat.symm
            omega
          have HN := Lib.hid hnm
          clear hat hC c1 c1' hd hwb e46 hk c4 hnm
          go_wp2_with (first | (go_at_call 92; refine (HW.out _).mono ?_; rintro e w1 ⟨rfl, rfl⟩) | (go_at_call 51; refine (HC.out _).mono ?_; rintro e w2 ⟨rfl, rfl⟩))
          go_ret
          exact ⟨ret_int (by have := HN.out; omega), rfl⟩
      · have q3 : (((s[n]'c2).toNat : Int) == 46) = false := beq_eq_false_iff_ne.2 (by omega)
        have hnm : n = m := by
          have : ((s[n]'c2) == 46) = false := beq_eq_false_iff_ne.2 (fun e => c3 (by rw [e]; rfl))
          rw [this, Bool.false_and] at hat
          have := of_decide_eq_false hat.symm
          omega
        have HN := Lib.hid hnm
        clear hat hC c1 c1' hd hwb hnm
        go_wp2_with (first | (go_at_call 92; refine (HW.out _).mono ?_; rintro e w1 ⟨rfl, rfl⟩))
        go_ret
        exact ⟨ret_int (by have := HN.out; omega), rfl⟩
    · have q2 : decide ((n : Int) < s.size) = false := decide_eq_false (by omega)
      have hnm : n = m := by omega
      have HN := Lib.hid hnm
      clear hat hC c1 c1' hnm
      go_wp2_with (first | (go_at_call 92; refine (HW.out _).mono ?_; rintro e w1 ⟨rfl, rfl⟩))
      go_ret
      exact ⟨ret_int (by have := HN.out; omega), rfl⟩

theorem results_tmp4 {fn : Func} {t u v x : Tmp} (h : fn.results = #[.tmp t, .tmp u, .tmp v, .tmp x]) (tmps : Array Value) (P : Program) (w : World) :
    (results fn tmps).run P w = .ok (.tuple #[tmps.getD t undef, tmps.getD u undef, tmps.getD v undef, tmps.getD x undef]) w := by simp [results, h]

/-- What piece hands back. -/
def PieceEnd (p : Nat × Nat × Nat × Nat) (W : World) (e : Ending) (w' : World) : Prop :=
  e = .returned (.tuple #[.int .i64 (p.1 : Nat), .int .i64 (p.2.1 : Nat), .int .i64 (p.2.2.1 : Nat), .int .i64 (p.2.2.2 : Nat)]) ∧ Below W.heap.size W w'
theorem PieceEnd_of {p : Nat × Nat × Nat × Nat} {W w' : World} {k n o c : Nat} (h : p = (k, n, o, c)) {x y z u : Int} (hx : x = k) (hy : y = n) (hz : z = o) (hu : u = c) (hb : Below W.heap.size W w') :
    PieceEnd p W (.returned (.tuple #[.int .i64 x, .int .i64 y, .int .i64 z, .int .i64 u])) w' := by
  subst h; subst hx; subst hy; subst hz; subst hu
  exact ⟨rfl, hb⟩

/-- The token at a letter. -/
def nameV (l : List UInt8) : Nat × Nat × Nat × Nat :=
  if 24 < Sp.wordRun l then (0, 0, 0, 36)
  else if (l.drop (Sp.wordRun l)).head? = some 46 ∧ Sp.classV (l.drop (Sp.wordRun l + 1)) = 5 then
    if 24 < Sp.wordRun (l.drop (Sp.wordRun l + 1)) then (0, 0, 0, 36) else (3, Sp.wordRun l + 1 + Sp.wordRun (l.drop (Sp.wordRun l + 1)), 0, 0)
  else (2, Sp.wordRun l, 0, 0)
theorem piece_name {l : List UInt8} (h : Sp.classV l = 5) : Sp.pieceV l = nameV l := by unfold Sp.pieceV nameV; rw [if_pos h]

theorem scan_name (s : ByteArray) (w : World) (hs : s.size ≤ 1073741824) :
    Calls Tryd.prog 77 #[.string s] w (PieceEnd (nameV s.data.toList) w) := by
  have hle := Sp.wordRun_le s.data.toList
  have hsl := Lib.size_eq s
  have hr := fun W => scan_wordRun s W (by omega)
  obtain ⟨P, hP⟩ : ∃ P, nameV s.data.toList = P := ⟨_, rfl⟩
  rw [hP]
  unfold nameV at hP
  obtain ⟨n, hn⟩ : ∃ n, Sp.wordRun s.data.toList = n := ⟨_, rfl⟩
  rw [hn] at hle hr hP
  have HR := Lib.hid hr
  by_cases h24 : 24 < n
  · rw [if_pos h24] at hP
    have HP := Lib.hid hP
    have q1 : decide ((n : Int) > 24) = true := decide_eq_true (by omega)
    clear hr hn hP hsl
    go_enter Tryd.func77, Tryd.ntmps77
    go_wp2_with (go_at_call 79; refine (HR.out _).mono ?_; rintro e w1 ⟨rfl, rfl⟩)
    refine bodyPost_ret (results_tmp4 rfl _ _ _) rfl ?_
    exact PieceEnd_of HP.out.symm rfl rfl rfl rfl (Below.refl _ _)
  rw [if_neg h24] at hP
  have q1 : decide ((n : Int) > 24) = false := decide_eq_false (by omega)
  by_cases c1 : n = s.size
  · have hno : ¬ ((s.data.toList.drop n).head? = some 46 ∧ Sp.classV (s.data.toList.drop (n + 1)) = 5) := by
      rw [List.drop_eq_nil_of_le (by omega)]
      rintro ⟨h, _⟩
      cases h
    rw [if_neg hno] at hP
    have HP := Lib.hid hP
    have q2 : ((n : Int) == s.size) = true := beq_iff_eq.2 (by omega)
    clear hr hn hP hsl hno c1
    go_enter Tryd.func77, Tryd.ntmps77
    go_wp2_with (go_at_call 79; refine (HR.out _).mono ?_; rintro e w1 ⟨rfl, rfl⟩)
    refine bodyPost_ret (results_tmp4 rfl _ _ _) rfl ?_
    exact PieceEnd_of HP.out.symm rfl rfl rfl rfl (Below.refl _ _)
  have q2 : ((n : Int) == s.size) = false := beq_eq_false_iff_ne.2 (by omega)
  have hlt : n < s.size := by omega
  have hlt' : (n : Int) < s.size := by omega
  have hhd : (s.data.toList.drop n).head? = some (s[n]'hlt) := by rw [Sp.drop_cons s n hlt]; rfl
  rw [hhd] at hP
  by_cases c2 : (s[n]'hlt).toNat = 46
  · have q3 : (((s[n]'hlt).toNat : Int) != 46) = false := by rw [bne_eq_false_iff_eq]; omega
    have e46 : s[n]'hlt = 46 := UInt8.toNat_inj.1 c2
    have hC : ∀ W, Calls Tryd.prog 51 #[.string s, .int .i64 ((n : Int) + 1)] W fun e w' => e = .returned (.int .i64 (Sp.classV (s.data.toList.drop (n + 1)) : Nat)) ∧ w' = W := fun W => scan_classOf s (n + 1) W (by omega)
    obtain ⟨k, hk⟩ : ∃ k, Sp.classV (s.data.toList.drop (n + 1)) = k := ⟨_, rfl⟩
    rw [hk] at hP hC
    have HC := Lib.hid hC
    by_cases c3 : k = 5
    · have q4 : ((k : Int) != 5) = false := by rw [bne_eq_false_iff_eq]; omega
      rw [if_pos ⟨by rw [e46], c3⟩] at hP
      have hsz2 : (s.extract (n + 1) s.size).size ≤ 1073741824 := by rw [ByteArray.size_extract]; omega
      have hr2 := fun W => scan_wordRun (s.extract (n + 1) s.size) W (by omega)
      rw [ext_drop] at hr2
      obtain ⟨m, hm⟩ : ∃ m, Sp.wordRun (s.data.toList.drop (n + 1)) = m := ⟨_, rfl⟩
      have hmle := Sp.wordRun_le (s.data.toList.drop (n + 1))
      rw [List.length_drop] at hmle
      rw [hm] at hP hr2 hmle
      have HR2 := Lib.hid hr2
      by_cases c4 : 24 < m
      · rw [if_pos c4] at hP
        have HP := Lib.hid hP
        have q5 : decide ((m : Int) > 24) = true := decide_eq_true (by omega)
        clear hr hn hP hsl c1 hhd e46 hC hk hm hr2 c3 hsz2
        go_enter Tryd.func77, Tryd.ntmps77
        go_wp2_with (first | (go_at_call 79; have _t := tok2; refine (HR2.out _).mono ?_; rintro e w1 ⟨rfl, rfl⟩; clear tok2 _t) | (go_at_call 79; refine (HR.out _).mono ?_; rintro e w1 ⟨rfl, rfl⟩) | (go_at_call 51; refine (HC.out _).mono ?_; rintro e w2 ⟨rfl, rfl⟩; have tok2 : True := trivial))
        refine bodyPost_ret (results_tmp4 rfl _ _ _) rfl ?_
        exact PieceEnd_of HP.out.symm rfl rfl rfl rfl (Below.refl _ _)
      · rw [if_neg c4] at hP
        have HP := Lib.hid hP
        have q5 : decide ((m : Int) > 24) = false := decide_eq_false (by omega)
        clear hr hn hP hsl c1 hhd e46 hC hk hm hr2 c3 hsz2
        go_enter Tryd.func77, Tryd.ntmps77
        go_wp2_with (first | (go_at_call 79; have _t := tok2; refine (HR2.out _).mono ?_; rintro e w1 ⟨rfl, rfl⟩; clear tok2 _t) | (go_at_call 79; refine (HR.out _).mono ?_; rintro e w1 ⟨rfl, rfl⟩) | (go_at_call 51; refine (HC.out _).mono ?_; rintro e w2 ⟨rfl, rfl⟩; have tok2 : True := trivial))
        refine bodyPost_ret (results_tmp4 rfl _ _ _) rfl ?_
        exact PieceEnd_of HP.out.symm rfl (by omega) rfl rfl (Below.refl _ _)
    · have q4 : ((k : Int) != 5) = true := by rw [bne_iff_ne]; omega
      rw [if_neg (fun h => c3 h.2)] at hP
      have HP := Lib.hid hP
      clear hr hn hP hsl c1 hhd e46 hC hk c3
      go_enter Tryd.func77, Tryd.ntmps77
      go_wp2_with (first | (go_at_call 79; refine (HR.out _).mono ?_; rintro e w1 ⟨rfl, rfl⟩) | (go_at_call 51; refine (HC.out _).mono ?_; rintro e w2 ⟨rfl, rfl⟩))
      refine bodyPost_ret (results_tmp4 rfl _ _ _) rfl ?_
      exact PieceEnd_of HP.out.symm rfl rfl rfl rfl (Below.refl _ _)
  · have q3 : (((s[n]'hlt).toNat : Int) != 46) = true := by rw [bne_iff_ne]; omega
    rw [if_neg (fun h => c2 (by have := h.1; injection this with this; rw [this]; rfl))] at hP
    have HP := Lib.hid hP
    clear hr hn hP hsl c1 hhd
    go_enter Tryd.func77, Tryd.ntmps77
    go_wp2_with (first | (go_at_call 79; refine (HR.out _).mono ?_; rintro e w1 ⟨rfl, rfl⟩))
    refine bodyPost_ret (results_tmp4 rfl _ _ _) rfl ?_
    exact PieceEnd_of HP.out.symm rfl rfl rfl rfl (Below.refl _ _)
end Go.Proofs.YtjedoipbllcfdaaDoor
