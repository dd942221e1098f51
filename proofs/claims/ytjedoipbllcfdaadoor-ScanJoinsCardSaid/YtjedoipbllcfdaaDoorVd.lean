/-
  THE WALK of reachref3.number and reachref3.Value (chapter 3).
-/
import Derived.Test.YtjedoipbllcfdaaDoorVc
import Derived.Test.YtjedoipbllcfdaaDoorSpE
set_option linter.unusedVariables false
set_option linter.unusedSimpArgs false
set_option maxRecDepth 100000
set_option maxHeartbeats 2000000
namespace Go.Proofs.YtjedoipbllcfdaaDoor
open Go.RowKit

/-- So many digits are to come. -/
def BasR (base : Nat) (o : Option Nat) (n : Nat) (r : List UInt8) : Prop := if r.all (fun c => decide (Sp.hexv c < base)) = true then o = some (Sp.digitsV base n r) else o = none
theorem BasR_start {base most : Nat} {l : List UInt8} (h0 : l.length ≠ 0) (h1 : l.length ≤ most) : BasR base (Sp.basedV base most l) 0 l := by
  unfold BasR Sp.basedV
  by_cases h : l.all (fun c => decide (Sp.hexv c < base)) = true
  · rw [if_pos h, if_neg]
    rintro (h2 | h2 | h2)
    · exact h0 h2
    · omega
    · rw [h] at h2; cases h2
  · rw [if_neg h, if_pos]
    exact Or.inr (Or.inr (by simpa using h))
theorem BasR_step {base : Nat} {o : Option Nat} {n : Nat} {c : UInt8} {r : List UInt8} (h : BasR base o n (c :: r)) (hc : Sp.hexv c < base) : BasR base o (base * n + Sp.hexv c) r := by
  unfold BasR at h ⊢
  rw [List.all_cons, decide_eq_true hc, Bool.true_and] at h
  exact h
theorem BasR_bad {base : Nat} {o : Option Nat} {n : Nat} {c : UInt8} {r : List UInt8} (h : BasR base o n (c :: r)) (hc : ¬ Sp.hexv c < base) : o = none := by
  unfold BasR at h
  rw [List.all_cons, decide_eq_false hc, Bool.false_and, if_neg (by simp)] at h
  exact h
theorem BasR_end {base : Nat} {o : Option Nat} {n : Nat} (h : BasR base o n []) : o = some n := by
  unfold BasR at h
  rw [if_pos (by rfl)] at h
  exact h
theorem ext2 (s : ByteArray) : (s.extract 0 2).toList = s.data.toList.take 2 := by rw [Lib.toList_data, ext_take]
theorem hexv2 (c : UInt8) : Sp.hexv c < 2 ↔ c.toNat = 48 ∨ c.toNat = 49 := by
  unfold Sp.hexv
  split
  · omega
  split
  · omega
  split
  · omega
  · omega

theorem dot_none {l : List UInt8} (h : l.all (fun x => decide (x ≠ 46)) = true) : Lib.indexByte l 46 = -1 := by rw [Sp.indexByte_tw, if_pos h]
theorem dot_some {l : List UInt8} (h : ¬ l.all (fun x => decide (x ≠ 46)) = true) : 0 ≤ Lib.indexByte l 46 := by rw [Sp.indexByte_tw, if_neg h]; omega
theorem num_quad {l : List UInt8} (h : ¬ l.all (fun x => decide (x ≠ 46)) = true) : Sp.numV l = Sp.quadF 3 0 l := by
  unfold Sp.numV
  rw [if_pos (by simpa using h)]
theorem num_hex {l : List UInt8} (h : l.all (fun x => decide (x ≠ 46)) = true) (h2 : l.take 2 = [48, 120]) : Sp.numV l = Sp.basedV 16 8 (l.drop 2) := by
  unfold Sp.numV
  rw [if_neg (by rw [h]; simp), if_pos h2]
theorem num_bin {l : List UInt8} (h : l.all (fun x => decide (x ≠ 46)) = true) (h2 : l.take 2 = [48, 98]) : Sp.numV l = Sp.basedV 2 32 (l.drop 2) := by
  unfold Sp.numV
  rw [if_neg (by rw [h]; simp), if_neg (by rw [h2]; decide), if_pos h2]
theorem num_dec {l : List UInt8} (h : l.all (fun x => decide (x ≠ 46)) = true) (h1 : l.take 2 ≠ [48, 120]) (h2 : l.take 2 ≠ [48, 98]) : Sp.numV l = Sp.decV 4294967295 l := by
  unfold Sp.numV
  rw [if_neg (by rw [h]; simp), if_neg h1, if_neg h2]
theorem dec_letter {l : List UInt8} {c : UInt8} (h : l.take 2 = [48, c]) (hc : 57 < c.toNat) : Sp.decV 4294967295 l = none := by
  unfold Sp.decV
  rw [if_pos]
  refine Or.inr (Or.inr (Or.inl ?_))
  rw [List.all_eq_false]
  refine ⟨c, List.mem_of_mem_take (i := 2) (by rw [h]; simp), ?_⟩
  simp
  omega
theorem based_len {base most : Nat} {l : List UInt8} (h : l.length = 0 ∨ most < l.length) : Sp.basedV base most l = none := by
  unfold Sp.basedV
  rw [if_pos]
  rcases h with h | h
  · exact Or.inl h
  · exact Or.inr (Or.inl h)
theorem two_len {l : List UInt8} {a b : UInt8} (h : l.take 2 = [a, b]) : 2 ≤ l.length := by
  have := congrArg List.length h
  rw [List.length_take] at this
  simp at this
  omega

theorem ref3_number_quad (s : ByteArray) (w : World) (hs : s.size ≤ 4611686018427387904) (h : ¬ s.data.toList.all (fun x => decide (x ≠ 46)) = true) :
    Calls Tryd.prog 29 #[.string s] w fun e w' => e = .returned (.int .i64 (optI (Sp.numV s.data.toList))) ∧ Below w.heap.size w w' := by
  rw [num_quad h]
  have hdot := fun W => ref3_dot s W hs
  have hd0 := dot_some h
  have hquad := fun W => ref3_quad s W hs
  obtain ⟨d, hd⟩ : ∃ d : Int, Lib.indexByte s.data.toList 46 = d := ⟨_, rfl⟩
  rw [hd] at hdot hd0
  have q1 : decide (d ≥ 0) = true := decide_eq_true (by omega)
  have HD := Lib.hid hdot
  have HQ := Lib.hid hquad
  clear hdot hd hquad h
  go_enter Tryd.func29, Tryd.ntmps29
  go_wp2_with (first | (go_at_call 47; refine (HD.out _).mono ?_; rintro e w1 ⟨rfl, rfl⟩) | (go_at_call 48; refine (HQ.out _).mono ?_; rintro e w2 ⟨rfl, hb2⟩))
  go_ret
  exact ⟨rfl, by assumption⟩

theorem ref3_number_dec (s : ByteArray) (w : World) (hs : s.size ≤ 4611686018427387904) (h : s.data.toList.all (fun x => decide (x ≠ 46)) = true)
    (hx : ¬ (3 ≤ s.size ∧ s.size ≤ 10 ∧ s.data.toList.take 2 = [48, 120])) (hb : ¬ (3 ≤ s.size ∧ s.size ≤ 34 ∧ s.data.toList.take 2 = [48, 98])) :
    Calls Tryd.prog 29 #[.string s] w fun e w' => e = .returned (.int .i64 (optI (Sp.numV s.data.toList))) ∧ Below w.heap.size w w' := by
  have hlen := Lib.size_eq s
  have hnum : Sp.numV s.data.toList = Sp.decV 4294967295 s.data.toList := by
    by_cases t1 : s.data.toList.take 2 = [48, 120]
    · rw [num_hex h t1, dec_letter t1 (by decide)]
      have := two_len t1
      refine based_len ?_
      rw [List.length_drop]
      have : ¬ (3 ≤ s.size ∧ s.size ≤ 10) := fun hh => hx ⟨hh.1, hh.2, t1⟩
      omega
    by_cases t2 : s.data.toList.take 2 = [48, 98]
    · rw [num_bin h t2, dec_letter t2 (by decide)]
      have := two_len t2
      refine based_len ?_
      rw [List.length_drop]
      have : ¬ (3 ≤ s.size ∧ s.size ≤ 34) := fun hh => hb ⟨hh.1, hh.2, t2⟩
      omega
    exact num_dec h t1 t2
  rw [hnum]
  have hdot := fun W => ref3_dot s W hs
  have hdec := fun W => ref3_decimal s 4294967295 W hs (by omega)
  simp only [dot_none h] at hdot
  have HD := Lib.hid hdot
  have HE := Lib.hid hdec
  have hX := ext2 s
  have eX : 3 ≤ s.size → s.size ≤ 10 → ((s.extract 0 2).toList == [48, 120]) = false := fun a b => by
    rw [hX, beq_eq_false_iff_ne]
    exact fun e => hx ⟨a, b, e⟩
  have eB : 3 ≤ s.size → s.size ≤ 34 → ((s.extract 0 2).toList == [48, 98]) = false := fun a b => by
    rw [hX, beq_eq_false_iff_ne]
    exact fun e => hb ⟨a, b, e⟩
  clear hdot hdec hnum h hlen hX hx hb
  by_cases c1 : s.size < 3
  · have q1 : decide ((s.size : Int) ≥ 3) = false := decide_eq_false (by omega)
    clear eX eB
    go_enter Tryd.func29, Tryd.ntmps29
    go_wp2_with (first | (go_at_call 47; refine (HD.out _).mono ?_; rintro e w1 ⟨rfl, rfl⟩) | (go_at_call 50; refine (HE.out _).mono ?_; rintro e w2 ⟨rfl, hb2⟩))
    go_ret
    exact ⟨rfl, by assumption⟩
  have q1 : decide ((s.size : Int) ≥ 3) = true := decide_eq_true (by omega)
  by_cases c2 : s.size ≤ 10
  · have q2 : decide ((s.size : Int) ≤ 10) = true := decide_eq_true (by omega)
    have q3 : decide ((s.size : Int) ≤ 34) = true := decide_eq_true (by omega)
    have q4 := eX (by omega) c2
    have q5 := eB (by omega) (by omega)
    clear eX eB
    go_enter Tryd.func29, Tryd.ntmps29
    go_wp2_with (first | (go_at_call 47; refine (HD.out _).mono ?_; rintro e w1 ⟨rfl, rfl⟩) | (go_at_call 50; refine (HE.out _).mono ?_; rintro e w2 ⟨rfl, hb2⟩))
    go_ret
    exact ⟨rfl, by assumption⟩
  have q2 : decide ((s.size : Int) ≤ 10) = false := decide_eq_false (by omega)
  by_cases c3 : s.size ≤ 34
  · have q3 : decide ((s.size : Int) ≤ 34) = true := decide_eq_true (by omega)
    have q5 := eB (by omega) (by omega)
    clear eX eB
    go_enter Tryd.func29, Tryd.ntmps29
    go_wp2_with (first | (go_at_call 47; refine (HD.out _).mono ?_; rintro e w1 ⟨rfl, rfl⟩) | (go_at_call 50; refine (HE.out _).mono ?_; rintro e w2 ⟨rfl, hb2⟩))
    go_ret
    exact ⟨rfl, by assumption⟩
  have q3 : decide ((s.size : Int) ≤ 34) = false := decide_eq_false (by omega)
  clear eX eB
  go_enter Tryd.func29, Tryd.ntmps29
  go_wp2_with (first | (go_at_call 47; refine (HD.out _).mono ?_; rintro e w1 ⟨rfl, rfl⟩) | (go_at_call 50; refine (HE.out _).mono ?_; rintro e w2 ⟨rfl, hb2⟩))
  go_ret
  exact ⟨rfl, by assumption⟩

theorem ref3_number_x (s : ByteArray) (w : World) (h1 : 3 ≤ s.size) (h2 : s.size ≤ 10) (h : s.data.toList.all (fun x => decide (x ≠ 46)) = true) (hx : s.data.toList.take 2 = [48, 120]) :
    Calls Tryd.prog 29 #[.string s] w fun e w' => e = .returned (.int .i64 (optI (Sp.numV s.data.toList))) ∧ Below w.heap.size w w' := by
  have hlen := Lib.size_eq s
  have hdot := fun W => ref3_dot s W (by omega)
  simp only [dot_none h] at hdot
  have HD := Lib.hid hdot
  have q2 : decide ((s.size : Int) ≥ 3) = true := decide_eq_true (by omega)
  have q3 : decide ((s.size : Int) ≤ 10) = true := decide_eq_true (by omega)
  have q4 : ((s.extract 0 2).toList == [48, 120]) = true := by rw [ext2, hx]; decide
  obtain ⟨o, ho⟩ : ∃ o, Sp.numV s.data.toList = o := ⟨_, rfl⟩
  have hB : BasR 16 o 0 (s.data.toList.drop 2) := by
    rw [← ho, num_hex h hx]
    exact BasR_start (by rw [List.length_drop]; omega) (by rw [List.length_drop]; omega)
  rw [ho]
  have HB := Lib.hid hB
  have HDR : Hid (∀ i, (hi : i < s.size) → s.data.toList.drop i = (s[i]'hi) :: s.data.toList.drop (i + 1)) := fun i hi => Sp.drop_cons s i hi
  have HEND : Hid (s.data.toList.drop s.size = []) := List.drop_eq_nil_of_le (by omega)
  clear hdot hlen h hx ho hB
  go_enter Tryd.func29, Tryd.ntmps29
  go_wp2_with (go_at_call 47; refine (HD.out _).mono ?_; rintro e w1 ⟨rfl, rfl⟩)
  go_loopw [3, 4] (fun v3 v4 wr => wr = w1 ∧ ∃ (i n : Nat), v3 = .int .i64 (n : Int) ∧ v4 = .int .i64 (i : Int) ∧ 2 ≤ i ∧ i ≤ s.size ∧ n < 16 ^ (i - 2) ∧ Hid (BasR 16 o n (s.data.toList.drop i))) (fun _ v4 _ => (s.size - intOf v4).toNat)
  case atStart => exact ⟨rfl, 2, 0, rfl, rfl, by omega, by omega, by simp, HB.out⟩
  case round =>
    obtain ⟨rfl, i, n, rfl, rfl, hi2, hi, hn, HR⟩ := hrel
    have hn2 : n < 4294967296 := Nat.lt_of_lt_of_le hn (Nat.le_trans (Nat.pow_le_pow_right (by omega) (show i - 2 ≤ 8 by omega)) (by decide))
    obtain ⟨N, hN⟩ : ∃ N : Int, (n : Int) = N := ⟨_, rfl⟩
    have hN0 : 0 ≤ N := by omega
    have hN1 : N < 4294967296 := by omega
    rw [hN]
    by_cases hlt : i < s.size
    · have q5 : decide ((i : Int) < s.size) = true := decide_eq_true (by omega)
      have hlt' : (i : Int) < s.size := by omega
      have hr := HR.out
      rw [HDR.out i hlt] at hr
      obtain ⟨c, hc⟩ : ∃ c, s[i]'hlt = c := ⟨_, rfl⟩
      rw [hc] at hr
      have hhex := fun W => ref3_hex c W
      by_cases hx : Sp.hexv c < 16
      · have hstep := BasR_step hr hx
        simp only [Sp.hexZ_pos c hx] at hhex
        obtain ⟨x, hxx⟩ : ∃ x, Sp.hexv c = x := ⟨_, rfl⟩
        rw [hxx] at hstep hhex hx
        obtain ⟨X, hX⟩ : ∃ X : Int, (x : Int) = X := ⟨_, rfl⟩
        rw [hX] at hhex
        have hX0 : 0 ≤ X := by omega
        have hX1 : X < 16 := by omega
        have q6 : decide (X < 0) = false := decide_eq_false (by omega)
        have hE : 16 * N + X = ((16 * n + x : Nat) : Int) := by omega
        have hn3 : 16 * n + x < 16 ^ (i + 1 - 2) := by rw [show i + 1 - 2 = (i - 2) + 1 by omega, Nat.pow_succ]; omega
        have HE := Lib.hid hE
        have HH := Lib.hid hhex
        have HS := Lib.hid hstep
        clear hr hstep hhex hxx hX hx hE hN hn hn2
        go_wp2_with (go_at_call 49; refine (HH.out _).mono ?_; rintro e w2 ⟨rfl, rfl⟩)
        go_roundw
        case rel => exact ⟨by trivial, i + 1, 16 * n + x, by rw [HE.out], by rfl, by omega, by omega, hn3, HS⟩
        case measure => simp [intOf]; omega
      · have hbad := BasR_bad hr hx
        simp only [Sp.hexZ_neg c hx] at hhex
        have HO := Lib.hid (optI_none hbad)
        have HH := Lib.hid hhex
        clear hr hbad hhex hx hN hn hn2
        go_wp2_with (go_at_call 49; refine (HH.out _).mono ?_; rintro e w2 ⟨rfl, rfl⟩)
        go_ret
        exact ⟨ret_int HO.out.symm, Below.refl _ _⟩
    · have q5 : decide ((i : Int) < s.size) = false := decide_eq_false (by omega)
      obtain rfl : i = s.size := by omega
      have hr := HR.out
      rw [HEND.out] at hr
      have he := optI_some (BasR_end hr)
      rw [hN] at he
      have HO := Lib.hid he
      clear hr he hN hn hn2
      go_wp2
      go_ret
      exact ⟨ret_int HO.out.symm, Below.refl _ _⟩

theorem ref3_number_b (s : ByteArray) (w : World) (h1 : 3 ≤ s.size) (h2 : s.size ≤ 34) (h : s.data.toList.all (fun x => decide (x ≠ 46)) = true) (hx : s.data.toList.take 2 = [48, 98]) :
    Calls Tryd.prog 29 #[.string s] w fun e w' => e = .returned (.int .i64 (optI (Sp.numV s.data.toList))) ∧ Below w.heap.size w w' := by
  have hlen := Lib.size_eq s
  have hdot := fun W => ref3_dot s W (by omega)
  simp only [dot_none h] at hdot
  have HD := Lib.hid hdot
  have q2 : decide ((s.size : Int) ≥ 3) = true := decide_eq_true (by omega)
  have q3 : decide ((s.size : Int) ≤ 34) = true := decide_eq_true (by omega)
  have q4 : ((s.extract 0 2).toList == [48, 120]) = false := by rw [ext2, hx]; decide
  have q4' : ((s.extract 0 2).toList == [48, 98]) = true := by rw [ext2, hx]; decide
  obtain ⟨o, ho⟩ : ∃ o, Sp.numV s.data.toList = o := ⟨_, rfl⟩
  have hB : BasR 2 o 0 (s.data.toList.drop 2) := by
    rw [← ho, num_bin h hx]
    exact BasR_start (by rw [List.length_drop]; omega) (by rw [List.length_drop]; omega)
  rw [ho]
  have HB := Lib.hid hB
  have HDR : Hid (∀ i, (hi : i < s.size) → s.data.toList.drop i = (s[i]'hi) :: s.data.toList.drop (i + 1)) := fun i hi => Sp.drop_cons s i hi
  have HEND : Hid (s.data.toList.drop s.size = []) := List.drop_eq_nil_of_le (by omega)
  clear hdot hlen h hx ho hB
  by_cases c10 : s.size ≤ 10
  all_goals
    first
      | have q10 : decide ((s.size : Int) ≤ 10) = true := decide_eq_true (by omega)
      | have q10 : decide ((s.size : Int) ≤ 10) = false := decide_eq_false (by omega)
    go_enter Tryd.func29, Tryd.ntmps29
    go_wp2_with (go_at_call 47; refine (HD.out _).mono ?_; rintro e w1 ⟨rfl, rfl⟩)
    go_loopw [5, 6] (fun v3 v4 wr => wr = w1 ∧ ∃ (i n : Nat), v3 = .int .i64 (n : Int) ∧ v4 = .int .i64 (i : Int) ∧ 2 ≤ i ∧ i ≤ s.size ∧ n < 2 ^ (i - 2) ∧ Hid (BasR 2 o n (s.data.toList.drop i))) (fun _ v4 _ => (s.size - intOf v4).toNat)
    case atStart => exact ⟨rfl, 2, 0, rfl, rfl, by omega, by omega, by simp, HB.out⟩
    case round =>
      obtain ⟨rfl, i, n, rfl, rfl, hi2, hi, hn, HR⟩ := hrel
      have hn2 : n < 4294967296 := Nat.lt_of_lt_of_le hn (Nat.le_trans (Nat.pow_le_pow_right (by omega) (show i - 2 ≤ 32 by omega)) (by decide))
      obtain ⟨N, hN⟩ : ∃ N : Int, (n : Int) = N := ⟨_, rfl⟩
      have hN0 : 0 ≤ N := by omega
      have hN1 : N < 4294967296 := by omega
      rw [hN]
      by_cases hlt : i < s.size
      · have q5 : decide ((i : Int) < s.size) = true := decide_eq_true (by omega)
        have hlt' : (i : Int) < s.size := by omega
        have hr := HR.out
        rw [HDR.out i hlt] at hr
        obtain ⟨c, hc⟩ : ∃ c, (s[i]'hlt).toNat = c := ⟨_, rfl⟩
        by_cases hx : c = 48 ∨ c = 49
        · have hx2 : Sp.hexv (s[i]'hlt) < 2 := (hexv2 _).2 (by omega)
          have hstep := BasR_step hr hx2
          rw [hexv_digit _ (by omega) (by omega), hc] at hstep
          have hw := sub48 c (by omega) (by omega)
          obtain ⟨x, hxx⟩ : ∃ x, c - 48 = x := ⟨_, rfl⟩
          have hx1 : x < 2 := by omega
          rw [hxx] at hstep hw
          obtain ⟨X, hX⟩ : ∃ X : Int, (x : Int) = X := ⟨_, rfl⟩
          rw [hX] at hw
          have hX0 : 0 ≤ X := by omega
          have hX1 : X < 2 := by omega
          have q6 : ((c : Int) != 48 && (c : Int) != 49) = false := by
            rcases hx with rfl | rfl <;> decide
          have hE : 2 * N + X = ((2 * n + x : Nat) : Int) := by omega
          have hn3 : 2 * n + x < 2 ^ (i + 1 - 2) := by rw [show i + 1 - 2 = (i - 2) + 1 by omega, Nat.pow_succ]; omega
          have HE := Lib.hid hE
          have HS := Lib.hid hstep
          have HXX := Lib.hid hxx
          have HXI := Lib.hid hX
          rcases hx with rfl | rfl
          · have q7 : (((48 : Nat) : Int) != 48) = false := by decide
            clear hr hstep hx2 hxx hX hE hn hn2 q6
            have HN := Lib.hid hN
            clear hN
            go_wp2
            go_roundw
            case rel => exact ⟨by trivial, i + 1, 2 * n + x, by congr 1; have := HN.out; have := HXX.out; have := HXI.out; omega, by rfl, by omega, by omega, hn3, HS⟩
            case measure => simp [intOf]; omega
          · have q7 : (((49 : Nat) : Int) != 48) = true := by decide
            have q8 : (((49 : Nat) : Int) != 49) = false := by decide
            clear hr hstep hx2 hxx hX hE hn hn2 q6
            have HN := Lib.hid hN
            clear hN
            go_wp2
            go_roundw
            case rel => exact ⟨by trivial, i + 1, 2 * n + x, by congr 1; have := HN.out; have := HXX.out; have := HXI.out; omega, by rfl, by omega, by omega, hn3, HS⟩
            case measure => simp [intOf]; omega
        · have hbad := BasR_bad hr (fun h => hx (by have := (hexv2 _).1 h; omega))
          have q7 : ((c : Int) != 48) = true := by rw [bne_iff_ne]; omega
          have q8 : ((c : Int) != 49) = true := by rw [bne_iff_ne]; omega
          have HO := Lib.hid (optI_none hbad)
          clear hr hbad hx hN hn hn2
          go_wp2
          go_ret
          exact ⟨ret_int HO.out.symm, Below.refl _ _⟩
      · have q5 : decide ((i : Int) < s.size) = false := decide_eq_false (by omega)
        obtain rfl : i = s.size := by omega
        have hr := HR.out
        rw [HEND.out] at hr
        have he := optI_some (BasR_end hr)
        rw [hN] at he
        have HO := Lib.hid he
        clear hr he hN hn hn2
        go_wp2
        go_ret
        exact ⟨ret_int HO.out.symm, Below.refl _ _⟩

theorem ref3_number (s : ByteArray) (w : World) (hs : s.size ≤ 4611686018427387904) :
    Calls Tryd.prog 29 #[.string s] w fun e w' => e = .returned (.int .i64 (optI (Sp.numV s.data.toList))) ∧ Below w.heap.size w w' := by
  by_cases h : s.data.toList.all (fun x => decide (x ≠ 46)) = true
  · by_cases hx : 3 ≤ s.size ∧ s.size ≤ 10 ∧ s.data.toList.take 2 = [48, 120]
    · exact ref3_number_x s w hx.1 hx.2.1 h hx.2.2
    by_cases hb : 3 ≤ s.size ∧ s.size ≤ 34 ∧ s.data.toList.take 2 = [48, 98]
    · exact ref3_number_b s w hb.1 hb.2.1 h hb.2.2
    exact ref3_number_dec s w hs h hx hb
  · exact ref3_number_quad s w hs h
end Go.Proofs.YtjedoipbllcfdaaDoor
