/-
  THE WALKS of the reference's whole, sign (chapter 3).
-/
import Derived.Test.YtjedoipbllcfdaaGreatDoorSd
set_option linter.unusedVariables false
set_option linter.unusedSimpArgs false
set_option maxRecDepth 100000
set_option maxHeartbeats 8000000
namespace Go.Proofs.YtjedoipbllcfdaaGreatDoor
open Go.RowKit

theorem okT_noNl {k : Int} {l : List UInt8} (h1 : k ≠ 1) (h : Sp.okT (k, l) = true) : Sp.NoNl l := by
  obtain ⟨hne, pk, off, hp, _⟩ := Sp.okT_piece h h1
  simp only at hne hp
  match l, hne, hp with
  | c :: r, _, hp =>
    have hc : c ≠ 10 := (Sp.pieceV_at hp).ne
    have hz := (Sp.piece_noNl hc hp).1
    have hl : Sp.line1 (c :: r) = c :: r := by
      rcases Sp.line1_cut (c :: r) with h | ⟨b, h⟩
      · exact h.symm
      · exfalso
        obtain ⟨L, hL⟩ : ∃ L, Sp.line1 (c :: r) = L := ⟨_, rfl⟩
        rw [hL] at h hz
        have h9 := congrArg List.length h
        simp only [List.length_append, List.length_cons] at h9 hz
        omega
    rw [← hl]
    exact Sp.line1_no _

theorem ref3_whole_scan (k : Int) (s : ByteArray) (w : World) (hG : Gr w) (hs : s.size ≤ 1073741824) (hk : k ≠ 1) (hne : s.data.toList ≠ []) :
    Calls Tryz.prog 31 #[.int .i64 k, .string s] w fun e w' => e = .returned (.bool (Sp.okT (k, s.data.toList))) ∧ Below w.heap.size w w' := by
  have hsl := Lib.size_eq s
  have hpos : 0 < s.size := by
    rw [hsl]
    cases h : s.data.toList with
    | nil => exact absurd h hne
    | cons _ _ => simp
  have q0 : ((k : Int) == 1) = false := beq_eq_false_iff_ne.2 hk
  have q1 : (s.toList == []) = false := by rw [Lib.toList_data, beq_eq_false_iff_ne]; exact hne
  have q2 : s.toList.isEmpty = false := by rw [Lib.toList_data]; simpa using hne
  obtain ⟨R, hR⟩ : ∃ R, Sp.okT (k, s.data.toList) = R := ⟨_, rfl⟩
  rw [hR]
  have hd0 := Sp.drop_cons s 0 hpos
  rw [List.drop_zero] at hd0
  have hno : ∀ i (h : i < s.size), (s[i]'h).toNat = 10 → R = false := by
    intro i h h10
    cases R with
    | false => rfl
    | true =>
      exfalso
      have hl2 : i < s.data.toList.length := by rw [← hsl]; exact h
      exact okT_noNl hk hR (s[i]'h) (by rw [Sp.get_idx s i h hl2]; exact List.getElem_mem _) (UInt8.toNat_inj.1 h10)
  obtain ⟨pk, pn, po, pc, hp⟩ : ∃ pk pn po pc, Sp.pieceV s.data.toList = (pk, pn, po, pc) := ⟨_, _, _, _, rfl⟩
  have hbad : Sp.classB (s[0]'hpos) = 2 ∨ Sp.classB (s[0]'hpos) = 4 → R = false := by
    intro hc
    cases R with
    | false => rfl
    | true =>
      exfalso
      obtain ⟨_, pk, off, hp, _⟩ := Sp.okT_piece hR hk
      simp only at hp
      rw [hd0] at hp
      have := Sp.pieceV_at hp
      rcases hc with hc | hc
      · exact this.1 hc
      · exact this.2.2 hc
  have hRe : R = ((pc == 0) && ((pk : Int) == k) && (pn == s.size)) := by
    rw [← hR]
    unfold Sp.okT
    simp only []
    rw [if_neg hk, hp, hsl]
    have : s.data.toList.isEmpty = false := by simpa using hne
    rw [this]
    rfl
  have hnl : (∀ i (h : i < s.size), (s[i]'h).toNat ≠ 10) → Sp.NoNl s.data.toList := by
    intro h c hc e
    obtain ⟨i, hi, hic⟩ := List.getElem_of_mem hc
    have hi2 : i < s.size := by rw [hsl]; exact hi
    refine h i hi2 ?_
    rw [Sp.get_idx s i hi2 hi, hic, e]
    rfl
  have HNO := Lib.hid hno
  have HBAD := Lib.hid hbad
  have HRE := Lib.hid hRe
  have HNL := Lib.hid hnl
  have HG := Lib.hid hG
  have HP := Lib.hid hp
  have p0 : (0 : Int) < s.size := by omega
  clear hno hbad hRe hnl hG hp hR hsl hne hd0 hk
  go_enter Tryz.func31, Tryz.ntmps31
  go_wp2_with fail
  go_loopw [5] (fun v5 wr => wr = w ∧ ∃ i : Nat, v5 = .int .i64 (i : Int) ∧ i ≤ s.size ∧ Hid (∀ j (h : j < s.size), j < i → (s[j]'h).toNat ≠ 10)) (fun v5 _ => (s.size - intOf v5).toNat)
  case atStart => exact ⟨rfl, 0, rfl, by omega, fun j _ h => by omega⟩
  case round =>
    obtain ⟨rfl, i, rfl, hi, HF⟩ := hrel
    by_cases hlt : i < s.size
    · have q3 : decide ((i : Int) < s.size) = true := decide_eq_true (by omega)
      have p3 : (i : Int) < s.size := by omega
      by_cases h10 : (s[i]'hlt).toNat = 10
      · have q4 : (((s[i]'hlt).toNat : Int) == 10) = true := beq_iff_eq.2 (by omega)
        have HR := Lib.hid (HNO.out i hlt h10)
        clear h10 HF
        go_wp2_with fail
        go_ret
        exact ⟨ret_bool HR.out.symm, Below.refl _ _⟩
      · have q4 : (((s[i]'hlt).toNat : Int) == 10) = false := beq_eq_false_iff_ne.2 (by omega)
        have HF2 : Hid (∀ j (h : j < s.size), j < i + 1 → (s[j]'h).toNat ≠ 10) := by
          intro j hj hji
          rcases Nat.lt_or_ge j i with h | h
          · exact HF.out j hj h
          · obtain rfl : j = i := by omega
            exact h10
        clear h10 HF
        go_wp2_with fail
        go_roundw
        case rel => exact ⟨by trivial, i + 1, by rfl, by omega, HF2⟩
        case measure => simp [intOf]; omega
    · have q3 : decide ((i : Int) < s.size) = false := decide_eq_false (by omega)
      have hnn := HNL.out (fun j hj => HF.out j hj (by omega))
      have hbl := fun W => ref3_blank (s[0]'hpos) W
      by_cases c2 : Sp.blankB (s[0]'hpos) = true
      · have HR := Lib.hid (HBAD.out (Or.inl (by unfold Sp.classB; rw [if_pos c2])))
        rw [c2] at hbl
        have HBL := Lib.hid hbl
        clear hbl c2 hnn HF
        go_wp2_with (go_at_call 37; refine (HBL.out _).mono ?_; rintro e w1 ⟨rfl, rfl⟩)
        go_ret
        exact ⟨ret_bool HR.out.symm, Below.refl _ _⟩
      have c2' : Sp.blankB (s[0]'hpos) = false := by simpa using c2
      rw [c2'] at hbl
      have HBL := Lib.hid hbl
      by_cases c3 : (s[0]'hpos).toNat = 35
      · have q4 : (((s[0]'hpos).toNat : Int) == 35) = true := beq_iff_eq.2 (by omega)
        have HR := Lib.hid (HBAD.out (Or.inr (by rw [show s[0]'hpos = 35 from UInt8.toNat_inj.1 c3]; decide)))
        clear hbl c2 c2' c3 hnn HF
        go_wp2_with (go_at_call 37; refine (HBL.out _).mono ?_; rintro e w1 ⟨rfl, rfl⟩)
        go_ret
        exact ⟨ret_bool HR.out.symm, Below.refl _ _⟩
      have q4 : (((s[0]'hpos).toNat : Int) == 35) = false := beq_eq_false_iff_ne.2 (by omega)
      have htok := ref3_token s 0 wr HG.out hpos hs (by rw [List.drop_zero]; exact hnn)
      unfold RefTok at htok
      rw [List.drop_zero, HP.out] at htok
      simp only [Nat.zero_add] at htok
      have htok0 : Calls Tryz.prog 38 #[.string s, .int .i64 0] wr fun e w' => e = .returned (.tuple (if pc = 0 then #[.int .i64 (pk : Nat), .int .i64 (pn : Nat), .int .i64 0] else #[.int .i64 0, .int .i64 (po : Nat), .int .i64 (pc : Nat)])) ∧ Below wr.heap.size wr w' := htok
      by_cases e1 : pc = 0
      · rw [if_pos e1] at htok0
        have HTK := Lib.hid htok0
        by_cases e2 : (pk : Int) = k
        · have q5 : ((pk : Int) == k) = true := beq_iff_eq.2 e2
          by_cases e3 : pn = s.size
          · have q6 : ((pn : Int) == s.size) = true := beq_iff_eq.2 (by omega)
            have HR : Hid (true = R) := by show _ = _; rw [HRE.out, q5, beq_iff_eq.2 e1, beq_iff_eq.2 e3]; rfl
            clear hbl c2 c2' c3 hnn HF htok htok0 e1 e2 e3
            go_wp2_with (first | (go_at_call 37; refine (HBL.out _).mono ?_; rintro e w1 ⟨rfl, rfl⟩) | (go_at_call 38; refine HTK.out.mono ?_; rintro e w2 ⟨rfl, hb2⟩))
            go_ret
            exact ⟨ret_bool HR.out, hb2⟩
          · have q6 : ((pn : Int) == s.size) = false := beq_eq_false_iff_ne.2 (by omega)
            have HR : Hid (false = R) := by show _ = _; rw [HRE.out, beq_eq_false_iff_ne.2 e3, Bool.and_false]
            clear hbl c2 c2' c3 hnn HF htok htok0 e1 e2 e3
            go_wp2_with (first | (go_at_call 37; refine (HBL.out _).mono ?_; rintro e w1 ⟨rfl, rfl⟩) | (go_at_call 38; refine HTK.out.mono ?_; rintro e w2 ⟨rfl, hb2⟩))
            go_ret
            exact ⟨ret_bool HR.out, hb2⟩
        · have q5 : ((pk : Int) == k) = false := beq_eq_false_iff_ne.2 e2
          have HR : Hid (false = R) := by show _ = _; rw [HRE.out, q5, Bool.and_false, Bool.false_and]
          clear hbl c2 c2' c3 hnn HF htok htok0 e1 e2
          go_wp2_with (first | (go_at_call 37; refine (HBL.out _).mono ?_; rintro e w1 ⟨rfl, rfl⟩) | (go_at_call 38; refine HTK.out.mono ?_; rintro e w2 ⟨rfl, hb2⟩))
          go_ret
          exact ⟨ret_bool HR.out, hb2⟩
      · rw [if_neg e1] at htok0
        have HTK := Lib.hid htok0
        have q5 : ((pc : Int) == 0) = false := beq_eq_false_iff_ne.2 (by omega)
        have HR : Hid (false = R) := by show _ = _; rw [HRE.out, beq_eq_false_iff_ne.2 e1, Bool.false_and, Bool.false_and]
        clear hbl c2 c2' c3 hnn HF htok htok0 e1
        go_wp2_with (first | (go_at_call 37; refine (HBL.out _).mono ?_; rintro e w1 ⟨rfl, rfl⟩) | (go_at_call 38; refine HTK.out.mono ?_; rintro e w2 ⟨rfl, hb2⟩))
        go_ret
        exact ⟨ret_bool HR.out, hb2⟩

theorem ref3_whole (k : Int) (s : ByteArray) (w : World) (hG : Gr w) (hs : s.size ≤ 1073741824) :
    Calls Tryz.prog 31 #[.int .i64 k, .string s] w fun e w' => e = .returned (.bool (Sp.okT (k, s.data.toList))) ∧ Below w.heap.size w w' := by
  by_cases hk : k = 1
  · have q0 : ((k : Int) == 1) = true := beq_iff_eq.2 hk
    by_cases ht : s.data.toList = [10]
    · have q1 : (s.toList == [10]) = true := by rw [Lib.toList_data, ht]; simp
      have hr : Sp.okT (k, s.data.toList) = true := by unfold Sp.okT; rw [if_pos hk, ht]; rfl
      have HR := Lib.hid hr
      clear hr hk ht
      go_enter Tryz.func31, Tryz.ntmps31
      go_wp2_with fail
      go_ret
      exact ⟨ret_bool HR.out.symm, Below.refl _ _⟩
    · have q1 : (s.toList == [10]) = false := by rw [Lib.toList_data, beq_eq_false_iff_ne]; exact ht
      have hr : Sp.okT (k, s.data.toList) = false := by unfold Sp.okT; rw [if_pos hk]; exact beq_eq_false_iff_ne.2 ht
      have HR := Lib.hid hr
      clear hr hk ht
      go_enter Tryz.func31, Tryz.ntmps31
      go_wp2_with fail
      go_ret
      exact ⟨ret_bool HR.out.symm, Below.refl _ _⟩
  by_cases ht : s.data.toList = []
  · have q0 : ((k : Int) == 1) = false := beq_eq_false_iff_ne.2 hk
    have q1 : (s.toList == []) = true := by rw [Lib.toList_data, ht]; rfl
    have q2 : s.toList.isEmpty = true := by rw [Lib.toList_data, ht]; rfl
    have hr : Sp.okT (k, s.data.toList) = false := by unfold Sp.okT; rw [if_neg hk, ht]; rfl
    have HR := Lib.hid hr
    clear hr hk ht
    go_enter Tryz.func31, Tryz.ntmps31
    go_wp2_with fail
    go_ret
    exact ⟨ret_bool HR.out.symm, Below.refl _ _⟩
  exact ref3_whole_scan k s w hG hs hk ht

theorem ref3_sign (k l c : Int) (t : ByteArray) (x : List UInt8) (w : World) :
    Calls Tryz.prog 32 #[.agg #[.int .i64 k, .string t, .int .i64 l, .int .i64 c], .string ⟨x.toArray⟩] w fun e w' => e = .returned (.bool (Sp.sgn (k, t.data.toList) x)) ∧ Below w.heap.size w w' := by
  obtain ⟨W1, hW1⟩ : ∃ W1, w.alloc (.cells #[.int .i64 k, .string t, .int .i64 l, .int .i64 c] 25) = W1 := ⟨_, rfl⟩
  have c0 : W1.cell? ⟨w.heap.size, 0, none⟩ = some (.int .i64 k) := by rw [← hW1]; exact World.cell?_alloc_at _ _ _ _ rfl
  have c1 : W1.cell? ⟨w.heap.size, 1, none⟩ = some (.string t) := by rw [← hW1]; exact World.cell?_alloc_at _ _ _ _ rfl
  have hb1 : Below w.heap.size w W1 := by rw [← hW1]; exact (Below.refl _ _).alloc (Nat.le_refl _) _
  obtain ⟨X, hX⟩ : ∃ X : ByteArray, (⟨x.toArray⟩ : ByteArray) = X := ⟨_, rfl⟩
  have hXl : X.toList = x := by rw [Lib.toList_data, ← hX]
  rw [hX]
  have HW := Lib.hid hW1
  have HB := Lib.hid hb1
  clear hW1 hb1 hX
  by_cases hk : k = 7
  · have q0 : ((k : Int) == 7) = true := beq_iff_eq.2 hk
    by_cases ht : t.data.toList = x
    · have q1 : (t.toList == X.toList) = true := by rw [hXl, Lib.toList_data, ht]; simp
      have HR : Hid (Sp.sgn (k, t.data.toList) x = true) := by show _ = _; unfold Sp.sgn; rw [beq_iff_eq.2 hk, beq_iff_eq.2 ht]; rfl
      clear hk ht hXl
      go_enter Tryz.func32, Tryz.ntmps32
      go_wp2_with fail
      rw [HW.out]
      go_wp2_with fail
      go_ret
      exact ⟨ret_bool HR.out.symm, HB.out⟩
    · have q1 : (t.toList == X.toList) = false := by rw [hXl, Lib.toList_data, beq_eq_false_iff_ne]; exact ht
      have HR : Hid (Sp.sgn (k, t.data.toList) x = false) := by show _ = _; unfold Sp.sgn; rw [beq_eq_false_iff_ne.2 ht, Bool.and_false]
      clear hk ht hXl
      go_enter Tryz.func32, Tryz.ntmps32
      go_wp2_with fail
      rw [HW.out]
      go_wp2_with fail
      go_ret
      exact ⟨ret_bool HR.out.symm, HB.out⟩
  · have q0 : ((k : Int) == 7) = false := beq_eq_false_iff_ne.2 hk
    have HR : Hid (Sp.sgn (k, t.data.toList) x = false) := by show _ = _; unfold Sp.sgn; rw [beq_eq_false_iff_ne.2 hk, Bool.false_and]
    clear hk hXl
    go_enter Tryz.func32, Tryz.ntmps32
    go_wp2_with fail
    rw [HW.out]
    go_wp2_with fail
    go_ret
    exact ⟨ret_bool HR.out.symm, HB.out⟩
end Go.Proofs.YtjedoipbllcfdaaGreatDoor
