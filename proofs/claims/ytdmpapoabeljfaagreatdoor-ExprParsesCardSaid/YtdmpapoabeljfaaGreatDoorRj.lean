/-
  THE WALKS of the reference's isSign and token (chapter 3).
-/
import Derived.Test.YtdmpapoabeljfaaGreatDoorRc
set_option linter.unusedVariables false
set_option linter.unusedSimpArgs false
set_option maxRecDepth 100000
set_option maxHeartbeats 6000000
namespace Go.Proofs.YtdmpapoabeljfaaGreatDoor
open Go.RowKit

def REFL : List (List UInt8) := SIGNL ++ [[]]
/-- The reference's signs too. -/
structure Gr (w : World) : Prop extends Gs w where
  refsigns : ∃ t fr, w.heap[(1 : Nat)]? = some (.cells (REFL.map fun b => Value.string ⟨b.toArray⟩).toArray t fr)
theorem Gr.below {w w' : World} (h : Gr w) (hb : Below w.heap.size w w') : Gr w' where
  toGs := h.toGs.below hb
  refsigns := by
    obtain ⟨t, fr, h1⟩ := h.refsigns
    refine ⟨t, fr, (hb.block _ ?_).trans h1⟩
    rcases Nat.lt_or_ge (1 : Nat) w.heap.size with hlt | hge
    · exact hlt
    · rw [Array.getElem?_eq_none hge] at h1; cases h1

theorem ref3_isSign (s : ByteArray) (w : World) (hG : Gr w) :
    Calls Tryz.prog 82 #[.string s] w fun e w' => e = .returned (.bool (SIGNL.contains s.data.toList)) ∧ w = w' := by
  obtain ⟨t, fr, hg⟩ := hG.refsigns
  have HG := Lib.hid hg
  clear hg hG
  go_enter Tryz.func82, Tryz.ntmps82
  go_wp2
  go_loopw [3] (fun v3 wr => wr = w ∧ ∃ k : Nat, v3 = .int .i64 (k : Int) ∧ k ≤ 16 ∧ Hid (SIGNL.contains s.data.toList = (SIGNL.drop k).contains s.data.toList)) (fun v3 _ => 16 - (intOf v3).toNat)
  case atStart => exact ⟨rfl, 0, rfl, by omega, rfl⟩
  case round =>
    obtain ⟨rfl, k, rfl, hk, HF⟩ := hrel
    by_cases hlt : k < 16
    · have q1 : decide ((k : Int) < 16) = true := decide_eq_true (by omega)
      have p1 : (k : Int) < 17 := by omega
      have p2 : (0 : Int) ≤ (k : Int) := by omega
      have hkl : k < SIGNL.length := hlt
      obtain ⟨p, hp⟩ : ∃ p, SIGNL[k]'hkl = p := ⟨_, rfl⟩
      have hf := HF.out
      rw [List.drop_eq_getElem_cons hkl, hp, List.contains_cons] at hf
      obtain ⟨B, hB⟩ : ∃ B : ByteArray, (⟨p.toArray⟩ : ByteArray) = B := ⟨_, rfl⟩
      have hBT : B.toList = p := by rw [Lib.toList_data, ← hB]
      have c0 : wr.cell? ⟨1, k, none⟩ = some (.string B) := by
        rw [Lib.cell_of_heap HG.out, ← hB]
        have h1 : REFL[k]? = some p := by
          unfold REFL
          rw [List.getElem?_append_left hkl, List.getElem?_eq_getElem hkl, hp]
        simp [h1]
      by_cases hm : s.data.toList = p
      · have q3 : (B.toList == s.toList) = true := by rw [hBT, Lib.toList_data, hm]; simp
        have hr : SIGNL.contains s.data.toList = true := by rw [hf, hm]; simp
        have HR := Lib.hid hr
        clear hf HF hp hB hBT hm hr
        go_wp2
        go_ret
        exact ⟨ret_bool HR.out.symm, rfl⟩
      · have q3 : (B.toList == s.toList) = false := by rw [hBT, Lib.toList_data, beq_eq_false_iff_ne]; exact fun e => hm e.symm
        have HF2 : Hid (SIGNL.contains s.data.toList = (SIGNL.drop (k + 1)).contains s.data.toList) := by
          show _ = _
          rw [hf, beq_eq_false_iff_ne.2 hm, Bool.false_or]
        clear hf HF hp hB hBT hm
        go_wp2
        go_roundw
        case rel => exact ⟨by trivial, k + 1, by rfl, by omega, HF2⟩
        case measure => simp [intOf]; omega
    · have q1 : decide ((k : Int) < 16) = false := decide_eq_false (by omega)
      have hr : SIGNL.contains s.data.toList = false := by rw [HF.out, List.drop_eq_nil_of_le (show SIGNL.length ≤ k by show 16 ≤ k; omega)]; rfl
      have HR := Lib.hid hr
      clear HF hr
      go_wp2
      go_ret
      exact ⟨ret_bool HR.out.symm, rfl⟩

theorem letter_no2 (c : UInt8) (h : Sp.classB c ≠ 5) : Sp.letterB c = false := by
  cases hh : Sp.letterB c with
  | false => rfl
  | true => exact absurd ((class_letter c).2 hh) h
theorem digit_no2 (c : UInt8) (h : Sp.classB c ≠ 6) : Sp.digitB c = false := by
  cases hh : Sp.digitB c with
  | false => rfl
  | true => exact absurd ((class_digit c).2 hh) h
theorem speakF_shift (lines : Bool) (d : Nat) : ∀ (f : Nat) (l : List UInt8) (i : Nat) (said : List UInt8), Sp.speakF lines f l (i + d) said = ((Sp.speakF lines f l i said).1, (Sp.speakF lines f l i said).2.1, (Sp.speakF lines f l i said).2.2 + d) := by
  intro f
  induction f with
  | zero => intro l i said; rfl
  | succ f ih =>
    intro l i said
    match l with
    | [] => rfl
    | c :: r =>
      rw [Sp.speakF, Sp.speakF]
      by_cases h1 : c = 34
      · rw [if_pos h1, if_pos h1]
        simp only [Prod.mk.injEq, true_and]
        omega
      rw [if_neg h1, if_neg h1]
      by_cases h2 : c = 92
      · rw [if_pos h2, if_pos h2]
        cases Sp.escV (c :: r) with
        | none => rfl
        | some kb =>
          obtain ⟨k, b⟩ := kb
          simp only []
          rw [show i + d + k = (i + k) + d by omega]
          exact ih _ _ _
      rw [if_neg h2, if_neg h2]
      by_cases h3 : c = 10 ∧ lines = true
      · rw [if_pos h3, if_pos h3]
      rw [if_neg h3, if_neg h3]
      by_cases h4 : c.toNat < 32 ∨ c.toNat = 127 ∨ Sp.looseB (c :: r) = true
      · rw [if_pos h4, if_pos h4]
      rw [if_neg h4, if_neg h4]
      rw [show i + d + (Sp.dec (c :: r)).2 = (i + (Sp.dec (c :: r)).2) + d by omega]
      exact ih _ _ _

/-- inside, at a place of a line, by what a quoted text says. -/
theorem ins_speak (s : ByteArray) (i : Nat) (hi : i < s.size) (hn : Sp.NoNl (s.data.toList.drop i)) {c p : Nat} {b : List UInt8} (h : Sp.speakV true (s.data.toList.drop i) = (c, b, p)) : insR s i = (c, b, p + i) := by
  rw [Sp.speakV_lines _ hn] at h
  unfold Sp.speakV at h
  rw [List.drop_drop] at h
  unfold insR
  rw [show i + 1 = 1 + i by omega, speakF_shift, show 1 + i = i + 1 by omega, Sp.speakF_enough s.size (s.data.toList.drop i).length false _ _ _ (by rw [List.length_drop, ← Lib.size_eq]; omega) (by rw [List.length_drop, List.length_drop]; omega), h]

theorem ref3_token_pat (s : ByteArray) (i : Nat) (w : World) (hi : i < s.size) (hs : s.size ≤ 1073741824) (h7 : Sp.classV (s.data.toList.drop i) = 7) :
    Calls Tryz.prog 64 #[.string s, .int .i64 i] w (RefTok i (Sp.pieceV (s.data.toList.drop i)) w) := by
  have hsl := Lib.size_eq s
  have hi' : (i : Int) < s.size := by omega
  have hd0 := Sp.drop_cons s i hi
  have h7b : Sp.classB (s[i]'hi) = 7 := by rw [hd0] at h7; exact h7
  have h37 := Sp.classB_7 h7b
  have q1 : (((s[i]'hi).toNat : Int) == 37) = true := beq_iff_eq.2 (by omega)
  have hl0 := fun W => ref3_letter (s[i]'hi) W
  rw [letter_no2 _ (by omega)] at hl0
  have HL0 := Lib.hid hl0
  have hg0 := fun W => ref3_digit (s[i]'hi) W
  rw [digit_no2 _ (by omega)] at hg0
  have HG0 := Lib.hid hg0
  obtain ⟨P, hP⟩ : ∃ P, Sp.pieceV (s.data.toList.drop i) = P := ⟨_, rfl⟩
  rw [hP]
  unfold Sp.pieceV at hP
  rw [h7, if_neg (by omega), if_neg (by omega), if_pos rfl, List.drop_drop] at hP
  simp only [] at hP
  have hle := Sp.wordRun_le (s.data.toList.drop (i + 1))
  rw [List.length_drop, ← hsl] at hle
  have hrun := fun W => ref3_run s (i + 1) W (by omega) hs
  obtain ⟨m, hm⟩ : ∃ m, Sp.wordRun (s.data.toList.drop (i + 1)) = m := ⟨_, rfl⟩
  rw [hm] at hP hle hrun
  rw [show 1 + m - 1 = m by omega] at hP
  obtain ⟨J, hJ⟩ : ∃ J, i + 1 + m = J := ⟨_, rfl⟩
  rw [hJ] at hrun
  have hrun' : ∀ W, Calls Tryz.prog 76 #[.string s, .int .i64 ((i : Int) + 1)] W fun e w' => e = .returned (.int .i64 (J : Int)) ∧ W = w' := hrun
  have HR := Lib.hid hrun'
  have hJs : J ≤ s.size := by omega
  have hex : (s.extract i J).data.toList = 37 :: (s.data.toList.drop (i + 1)).take m := by
    rw [Lib.extract_data, hd0, show J - i = m + 1 by omega, List.take_succ_cons, show s[i]'hi = 37 from UInt8.toNat_inj.1 h37]
  have hpat := fun W => ref3_isPattern (s.extract i J) _ W hex (by rw [ByteArray.size_extract]; omega)
  have HPT := Lib.hid hpat
  have bJ : (i : Int) ≤ (J : Int) := by omega
  have bJ2 : (J : Int) ≤ (s.size : Int) := by omega
  have b0 : (0 : Int) ≤ (i : Int) := by omega
  obtain ⟨M, hM⟩ : ∃ M, (s.data.toList.drop (i + 1)).take m = M := ⟨_, rfl⟩
  rw [hM] at hP
  simp only [hM] at hpat
  by_cases hc : Sp.patV M = true
  · rw [if_pos hc] at hP
    simp only [hc] at hpat
    have HPT := Lib.hid hpat
    have HP := Lib.hid hP
    clear hl0 hg0 hd0 h7b h7 h37 hrun hrun' hP hm hpat hc hex hM hsl
    go_enter Tryz.func64, Tryz.ntmps64
    go_wp2_with (first | (go_at_call 75; refine (HL0.out _).mono ?_; rintro e w1 ⟨rfl, rfl⟩) | (go_at_call 77; refine (HG0.out _).mono ?_; rintro e w1 ⟨rfl, rfl⟩) | (go_at_call 76; refine (HR.out _).mono ?_; rintro e w2 ⟨rfl, rfl⟩) | (go_at_call 80; refine (HPT.out _).mono ?_; rintro e w3 ⟨rfl, hb3⟩))
    go_ret3
    exact RefTok_ok HP.out.symm rfl (by omega) hb3
  · have hc' : Sp.patV M = false := by simpa using hc
    rw [if_neg hc] at hP
    simp only [hc'] at hpat
    have HPT := Lib.hid hpat
    have HP := Lib.hid hP
    clear hl0 hg0 hd0 h7b h7 h37 hrun hrun' hP hm hpat hc hc' hex hM hsl
    go_enter Tryz.func64, Tryz.ntmps64
    go_wp2_with (first | (go_at_call 75; refine (HL0.out _).mono ?_; rintro e w1 ⟨rfl, rfl⟩) | (go_at_call 77; refine (HG0.out _).mono ?_; rintro e w1 ⟨rfl, rfl⟩) | (go_at_call 76; refine (HR.out _).mono ?_; rintro e w2 ⟨rfl, rfl⟩) | (go_at_call 80; refine (HPT.out _).mono ?_; rintro e w3 ⟨rfl, hb3⟩))
    go_ret3
    exact RefTok_bad HP.out.symm (by omega) rfl rfl hb3

theorem ref3_token_text (s : ByteArray) (i : Nat) (w : World) (hi : i < s.size) (hs : s.size ≤ 1073741824) (hn : Sp.NoNl (s.data.toList.drop i)) (h8 : Sp.classV (s.data.toList.drop i) = 8) :
    Calls Tryz.prog 64 #[.string s, .int .i64 i] w (RefTok i (Sp.pieceV (s.data.toList.drop i)) w) := by
  have hi' : (i : Int) < s.size := by omega
  have hd0 := Sp.drop_cons s i hi
  have h8b : Sp.classB (s[i]'hi) = 8 := by rw [hd0] at h8; exact h8
  have h34 := Sp.classB_8 h8b
  have q1 : (((s[i]'hi).toNat : Int) == 37) = false := beq_eq_false_iff_ne.2 (by omega)
  have q2 : (((s[i]'hi).toNat : Int) == 34) = true := beq_iff_eq.2 (by omega)
  have hl0 := fun W => ref3_letter (s[i]'hi) W
  rw [letter_no2 _ (by omega)] at hl0
  have HL0 := Lib.hid hl0
  have hg0 := fun W => ref3_digit (s[i]'hi) W
  rw [digit_no2 _ (by omega)] at hg0
  have HG0 := Lib.hid hg0
  obtain ⟨P, hP⟩ : ∃ P, Sp.pieceV (s.data.toList.drop i) = P := ⟨_, rfl⟩
  rw [hP]
  unfold Sp.pieceV at hP
  rw [h8, if_neg (by omega), if_neg (by omega), if_neg (by omega), if_pos rfl] at hP
  obtain ⟨c, b, p, hsp⟩ : ∃ c b p, Sp.speakV true (s.data.toList.drop i) = (c, b, p) := ⟨_, _, _, rfl⟩
  have hins := ins_speak s i hi hn hsp
  have hI := fun W => ref3_inside s i W hi hs
  unfold insSpec at hI
  simp only [hins] at hI
  rw [hsp] at hP
  simp only [] at hP
  obtain ⟨T, hT⟩ : ∃ T : ByteArray, (⟨b.toArray⟩ : ByteArray) = T := ⟨_, rfl⟩
  have hTs : T.size = b.length := by rw [← hT, Lib.size_eq]
  rw [hT] at hI
  have HI := Lib.hid hI
  by_cases h0 : c ≠ 0
  · rw [if_pos h0] at hP
    have HP := Lib.hid hP
    have q3 : ((c : Int) != 0) = true := by rw [bne_iff_ne]; omega
    have HC := Lib.hid h0
    clear hl0 hg0 hd0 h8b h8 h34 hP hI hins hsp hT hn h0
    go_enter Tryz.func64, Tryz.ntmps64
    go_wp2_with (first | (go_at_call 75; refine (HL0.out _).mono ?_; rintro e w1 ⟨rfl, rfl⟩) | (go_at_call 77; refine (HG0.out _).mono ?_; rintro e w1 ⟨rfl, rfl⟩) | (go_at_call 81; refine (HI.out _).mono ?_; rintro e w3 ⟨rfl, hb3⟩))
    go_ret3
    exact RefTok_bad HP.out.symm HC.out (by push_cast; omega) rfl hb3
  have h0' : c = 0 := by omega
  subst h0'
  rw [if_neg h0] at hP
  by_cases h256 : 256 < b.length
  · rw [if_pos h256] at hP
    have HP := Lib.hid hP
    have q3 : decide ((T.size : Int) > 256) = true := decide_eq_true (by omega)
    clear hl0 hg0 hd0 h8b h8 h34 hP hI hins hsp hT hn h0
    go_enter Tryz.func64, Tryz.ntmps64
    go_wp2_with (first | (go_at_call 75; refine (HL0.out _).mono ?_; rintro e w1 ⟨rfl, rfl⟩) | (go_at_call 77; refine (HG0.out _).mono ?_; rintro e w1 ⟨rfl, rfl⟩) | (go_at_call 81; refine (HI.out _).mono ?_; rintro e w3 ⟨rfl, hb3⟩))
    go_ret3
    exact RefTok_bad HP.out.symm (by omega) rfl rfl hb3
  · rw [if_neg h256] at hP
    have HP := Lib.hid hP
    have q3 : decide ((T.size : Int) > 256) = false := decide_eq_false (by omega)
    clear hl0 hg0 hd0 h8b h8 h34 hP hI hins hsp hT hn h0
    go_enter Tryz.func64, Tryz.ntmps64
    go_wp2_with (first | (go_at_call 75; refine (HL0.out _).mono ?_; rintro e w1 ⟨rfl, rfl⟩) | (go_at_call 77; refine (HG0.out _).mono ?_; rintro e w1 ⟨rfl, rfl⟩) | (go_at_call 81; refine (HI.out _).mono ?_; rintro e w3 ⟨rfl, hb3⟩))
    go_ret3
    exact RefTok_ok HP.out.symm rfl (by push_cast; omega) hb3

theorem ext_take1 (s : ByteArray) (i n : Nat) : (s.extract i (i + n)).data.toList = (s.data.toList.drop i).take n := by
  rw [Lib.extract_data]
  congr 1
  omega

theorem ref3_token_sign (s : ByteArray) (i : Nat) (w : World) (hG : Gr w) (hi : i < s.size) (hs : s.size ≤ 1073741824) (h5 : Sp.classV (s.data.toList.drop i) ≠ 5) (h6 : Sp.classV (s.data.toList.drop i) ≠ 6) (h7 : Sp.classV (s.data.toList.drop i) ≠ 7) (h8 : Sp.classV (s.data.toList.drop i) ≠ 8) :
    Calls Tryz.prog 64 #[.string s, .int .i64 i] w (RefTok i (Sp.pieceV (s.data.toList.drop i)) w) := by
  have hi' : (i : Int) < s.size := by omega
  have hd0 := Sp.drop_cons s i hi
  obtain ⟨P, hP⟩ : ∃ P, Sp.pieceV (s.data.toList.drop i) = P := ⟨_, rfl⟩
  rw [hP]
  unfold Sp.pieceV at hP
  rw [if_neg h5, if_neg h6, if_neg h7, if_neg h8] at hP
  have hlen : (s.data.toList.drop i).length = s.size - i := by rw [List.length_drop, ← Lib.size_eq]
  have hcut := sign_cut (s[i]'hi) (s.data.toList.drop (i + 1))
  rw [← hd0, hlen] at hcut
  have htk1 : (s.data.toList.drop i).take 1 = [s[i]'hi] := by rw [hd0]; rfl
  rw [← htk1] at hcut
  rw [hd0] at h5 h6 h7 h8
  have q1 : (((s[i]'hi).toNat : Int) == 37) = false := beq_eq_false_iff_ne.2 (fun h => h7 (by
    show Sp.classB _ = 7
    have : s[i]'hi = 37 := UInt8.toNat_inj.1 (by show (s[i]'hi).toNat = 37; omega)
    rw [this]
    decide))
  have q2 : (((s[i]'hi).toNat : Int) == 34) = false := beq_eq_false_iff_ne.2 (fun h => h8 (by
    show Sp.classB _ = 8
    have : s[i]'hi = 34 := UInt8.toNat_inj.1 (by show (s[i]'hi).toNat = 34; omega)
    rw [this]
    decide))
  have hl0 := fun W => ref3_letter (s[i]'hi) W
  rw [letter_no2 _ h5] at hl0
  have HL0 := Lib.hid hl0
  have hg0 := fun W => ref3_digit (s[i]'hi) W
  rw [digit_no2 _ h6] at hg0
  have HG0 := Lib.hid hg0
  have hS2 := ref3_isSign (s.extract i (i + 2)) w hG
  have hS1 := ref3_isSign (s.extract i (i + 1)) w hG
  rw [ext_take1] at hS1 hS2
  obtain ⟨t2, ht2⟩ : ∃ t2, SIGNL.contains ((s.data.toList.drop i).take 2) = t2 := ⟨_, rfl⟩
  obtain ⟨t1, ht1⟩ : ∃ t1, SIGNL.contains ((s.data.toList.drop i).take 1) = t1 := ⟨_, rfl⟩
  rw [ht2] at hS2 hcut
  rw [ht1] at hS1 hcut
  have HS2 := Lib.hid hS2
  have HS1 := Lib.hid hS1
  have b0 : (0 : Int) ≤ (i : Int) := by omega
  have q4 : decide ((i : Int) + 1 ≤ s.size) = true := decide_eq_true (by omega)
  have b4 : (i : Int) + 1 ≤ s.size := by omega
  have b5 : ((i : Int) + 1).toNat = i + 1 := by omega
  have b6 : (i : Int) ≤ (i : Int) + 1 := by omega
  have b7 : (i : Int) ≤ (i : Int) + 2 := by omega
  have b8 : ((i : Int) + 2).toNat = i + 2 := by omega
  obtain ⟨g, hgs⟩ : ∃ g, Sp.signV (s.data.toList.drop i) = g := ⟨_, rfl⟩
  rw [hgs] at hP hcut
  clear hl0 hg0 hd0 h5 h6 h7 h8 htk1 ht1 ht2 hS1 hS2 hlen hgs
  by_cases c2 : i + 2 ≤ s.size
  · have q3 : decide ((i : Int) + 2 ≤ s.size) = true := decide_eq_true (by omega)
    have b9 : (i : Int) + 2 ≤ s.size := by omega
    cases t2 with
    | true =>
      rw [if_pos ⟨by omega, rfl⟩] at hcut
      subst hcut
      rw [if_neg (by omega)] at hP
      have HP := Lib.hid hP
      clear hP
      go_enter Tryz.func64, Tryz.ntmps64
      go_wp2_with (first | (go_at_call 75; refine (HL0.out _).mono ?_; rintro e w1 ⟨rfl, rfl⟩) | (go_at_call 77; refine (HG0.out _).mono ?_; rintro e w1 ⟨rfl, rfl⟩))
      go_loopw [15] (fun v15 wr => wr = w ∧ v15 = .int .i64 2) (fun v15 _ => (intOf v15).toNat)
      case atStart => exact ⟨rfl, rfl⟩
      case round =>
        obtain ⟨rfl, rfl⟩ := hrel
        go_wp2_with (go_at_call 82; refine HS2.out.mono ?_; rintro e w1 ⟨rfl, rfl⟩)
        go_ret3
        exact RefTok_ok HP.out.symm rfl (by omega) (Below.refl _ _)
    | false =>
      rw [if_neg (by rintro ⟨_, h⟩; cases h)] at hcut
      cases t1 with
      | true =>
        rw [if_pos rfl] at hcut
        subst hcut
        rw [if_neg (by omega)] at hP
        have HP := Lib.hid hP
        clear hP
        go_enter Tryz.func64, Tryz.ntmps64
        go_wp2_with (first | (go_at_call 75; refine (HL0.out _).mono ?_; rintro e w1 ⟨rfl, rfl⟩) | (go_at_call 77; refine (HG0.out _).mono ?_; rintro e w1 ⟨rfl, rfl⟩))
        go_loopw [15] (fun v15 wr => wr = w ∧ (v15 = .int .i64 2 ∨ v15 = .int .i64 1)) (fun v15 _ => (intOf v15).toNat)
        case atStart => exact ⟨rfl, Or.inl rfl⟩
        case round =>
          obtain ⟨rfl, rfl | rfl⟩ := hrel
          · go_wp2_with (go_at_call 82; refine HS2.out.mono ?_; rintro e w1 ⟨rfl, rfl⟩)
            go_roundw
            case rel => exact ⟨by trivial, Or.inr (by rfl)⟩
            case measure => simp [intOf]
          · go_wp2_with (go_at_call 82; refine HS1.out.mono ?_; rintro e w1 ⟨rfl, rfl⟩)
            go_ret3
            exact RefTok_ok HP.out.symm rfl (by omega) (Below.refl _ _)
      | false =>
        rw [if_neg (by simp)] at hcut
        subst hcut
        rw [if_pos rfl] at hP
        have HP := Lib.hid hP
        clear hP
        go_enter Tryz.func64, Tryz.ntmps64
        go_wp2_with (first | (go_at_call 75; refine (HL0.out _).mono ?_; rintro e w1 ⟨rfl, rfl⟩) | (go_at_call 77; refine (HG0.out _).mono ?_; rintro e w1 ⟨rfl, rfl⟩))
        go_loopw [15] (fun v15 wr => wr = w ∧ (v15 = .int .i64 2 ∨ v15 = .int .i64 1 ∨ v15 = .int .i64 0)) (fun v15 _ => (intOf v15).toNat)
        case atStart => exact ⟨rfl, Or.inl rfl⟩
        case round =>
          obtain ⟨rfl, rfl | rfl | rfl⟩ := hrel
          · go_wp2_with (go_at_call 82; refine HS2.out.mono ?_; rintro e w1 ⟨rfl, rfl⟩)
            go_roundw
            case rel => exact ⟨by trivial, Or.inr (Or.inl (by rfl))⟩
            case measure => simp [intOf]
          · go_wp2_with (go_at_call 82; refine HS1.out.mono ?_; rintro e w1 ⟨rfl, rfl⟩)
            go_roundw
            case rel => exact ⟨by trivial, Or.inr (Or.inr (by rfl))⟩
            case measure => simp [intOf]
          · go_wp2
            go_ret3
            exact RefTok_bad HP.out.symm (by omega) rfl rfl (Below.refl _ _)
  · have q3 : decide ((i : Int) + 2 ≤ s.size) = false := decide_eq_false (by omega)
    rw [if_neg (by rintro ⟨h, _⟩; exact c2 (by omega))] at hcut
    cases t1 with
    | true =>
      rw [if_pos rfl] at hcut
      subst hcut
      rw [if_neg (by omega)] at hP
      have HP := Lib.hid hP
      clear hP
      go_enter Tryz.func64, Tryz.ntmps64
      go_wp2_with (first | (go_at_call 75; refine (HL0.out _).mono ?_; rintro e w1 ⟨rfl, rfl⟩) | (go_at_call 77; refine (HG0.out _).mono ?_; rintro e w1 ⟨rfl, rfl⟩))
      go_loopw [15] (fun v15 wr => wr = w ∧ (v15 = .int .i64 2 ∨ v15 = .int .i64 1)) (fun v15 _ => (intOf v15).toNat)
      case atStart => exact ⟨rfl, Or.inl rfl⟩
      case round =>
        obtain ⟨rfl, rfl | rfl⟩ := hrel
        · go_wp2_with fail
          go_roundw
          case rel => exact ⟨by trivial, Or.inr (by rfl)⟩
          case measure => simp [intOf]
        · go_wp2_with (go_at_call 82; refine HS1.out.mono ?_; rintro e w1 ⟨rfl, rfl⟩)
          go_ret3
          exact RefTok_ok HP.out.symm rfl (by omega) (Below.refl _ _)
    | false =>
      rw [if_neg (by simp)] at hcut
      subst hcut
      rw [if_pos rfl] at hP
      have HP := Lib.hid hP
      clear hP
      go_enter Tryz.func64, Tryz.ntmps64
      go_wp2_with (first | (go_at_call 75; refine (HL0.out _).mono ?_; rintro e w1 ⟨rfl, rfl⟩) | (go_at_call 77; refine (HG0.out _).mono ?_; rintro e w1 ⟨rfl, rfl⟩))
      go_loopw [15] (fun v15 wr => wr = w ∧ (v15 = .int .i64 2 ∨ v15 = .int .i64 1 ∨ v15 = .int .i64 0)) (fun v15 _ => (intOf v15).toNat)
      case atStart => exact ⟨rfl, Or.inl rfl⟩
      case round =>
        obtain ⟨rfl, rfl | rfl | rfl⟩ := hrel
        · go_wp2_with fail
          go_roundw
          case rel => exact ⟨by trivial, Or.inr (Or.inl (by rfl))⟩
          case measure => simp [intOf]
        · go_wp2_with (go_at_call 82; refine HS1.out.mono ?_; rintro e w1 ⟨rfl, rfl⟩)
          go_roundw
          case rel => exact ⟨by trivial, Or.inr (Or.inr (by rfl))⟩
          case measure => simp [intOf]
        · go_wp2
          go_ret3
          exact RefTok_bad HP.out.symm (by omega) rfl rfl (Below.refl _ _)

end Go.Proofs.YtdmpapoabeljfaaGreatDoor
