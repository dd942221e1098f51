/-
  THE WALK of scan.decimal (chapter 3).
-/
import Derived.Test.YtjedoipbllcfdaaDoorVd
import Derived.Test.YtjedoipbllcfdaaDoorWj
set_option linter.unusedVariables false
set_option linter.unusedSimpArgs false
set_option maxRecDepth 100000
set_option maxHeartbeats 2000000
namespace Go.Proofs.YtjedoipbllcfdaaDoor
open Go.RowKit

theorem decFrom_digits : ∀ (l : List UInt8) (n : Nat), l.all (fun c => decide (48 ≤ c.toNat ∧ c.toNat ≤ 57)) = true → Lib.decFrom n l = some (Sp.digitsV 10 n l)
  | [], n, _ => rfl
  | c :: r, n, h => by
    rw [List.all_cons, Bool.and_eq_true, decide_eq_true_eq] at h
    have hd : Lib.digitVal c = some (c.toNat - 48) := by unfold Lib.digitVal; rw [if_pos h.1]
    unfold Lib.decFrom Sp.digitsV
    rw [hd]
    simp only []
    rw [decFrom_digits r _ h.2, hexv_digit c h.1.1 h.1.2, Nat.mul_comm]
theorem atoi_digits {l : List UInt8} (h0 : l ≠ []) (h : l.all (fun c => decide (48 ≤ c.toNat ∧ c.toNat ≤ 57)) = true) : Lib.atoi l = some ((Sp.digitsV 10 0 l : Nat) : Int) := by
  match l, h0 with
  | c :: r, _ =>
    have hc : 48 ≤ c.toNat ∧ c.toNat ≤ 57 := by
      rw [List.all_cons, Bool.and_eq_true, decide_eq_true_eq] at h
      exact h.1
    have e1 : (c == 45) = false := by
      rw [beq_eq_false_iff_ne]
      rintro rfl
      exact absurd hc.1 (by decide)
    have e2 : (c == 43) = false := by
      rw [beq_eq_false_iff_ne]
      rintro rfl
      exact absurd hc.1 (by decide)
    simp only [Lib.atoi, Lib.decNat, e1, e2, List.isEmpty_cons, Bool.false_eq_true, if_false]
    rw [decFrom_digits _ _ h]
    rfl
theorem digits_10 {l : List UInt8} (h : l.all (fun c => decide (48 ≤ c.toNat ∧ c.toNat ≤ 57)) = true) (hl : l.length ≤ 10) : Sp.digitsV 10 0 l < 10000000000 := by
  have h2 : l.all (fun c => decide (Sp.hexv c < 10)) = true := by
    rw [List.all_eq_true] at h ⊢
    intro c hc
    have := h c hc
    simp only [decide_eq_true_eq] at this ⊢
    rw [hexv_digit c this.1 this.2]
    omega
  have := Sp.digitsV_lt 10 (by omega) l h2 10 hl
  have e : (10 : Nat) ^ 10 = 10000000000 := by decide
  omega

theorem scan_decimal (s : ByteArray) (top : Nat) (w : World) (hs : s.size ≤ 1073741824) (ht : top ≤ 4294967295) :
    Calls Tryd.prog 46 #[.string s, .int .i64 top] w fun e w' => e = .returned (okV (Sp.decV top s.data.toList)) ∧ Below w.heap.size w w' := by
  have hsl := Lib.size_eq s
  have hsT : s.toList = s.data.toList := Lib.toList_data s
  have hp := scan_plain s DIG w (by omega) (by decide) (by decide)
  rw [digits_all] at hp
  by_cases h0 : s.size = 0
  · have hv : Sp.decV top s.data.toList = none := by unfold Sp.decV; rw [if_pos (Or.inl (by omega))]
    rw [okV_none hv]
    have q0 : s.toList.isEmpty = true := by rw [hsT, List.isEmpty_iff]; exact List.length_eq_zero_iff.1 (by omega)
    clear hsl hsT hp hv h0
    go_enter Tryd.func46, Tryd.ntmps46
    go_wp2
    go_ret2
    exact ⟨rfl, Below.refl _ _⟩
  have q0 : s.toList.isEmpty = false := by
    rw [hsT, Bool.eq_false_iff]
    intro h
    rw [List.isEmpty_iff] at h
    rw [h] at hsl
    exact h0 hsl
  by_cases h1 : 10 < s.size
  · have hv : Sp.decV top s.data.toList = none := by unfold Sp.decV; rw [if_pos (Or.inr (Or.inl (by omega)))]
    rw [okV_none hv]
    have q1 : decide ((s.size : Int) > 10) = true := decide_eq_true (by omega)
    clear hsl hsT hp hv h0
    go_enter Tryd.func46, Tryd.ntmps46
    go_wp2
    go_ret2
    exact ⟨rfl, Below.refl _ _⟩
  have q1 : decide ((s.size : Int) > 10) = false := decide_eq_false (by omega)
  by_cases h2 : s.data.toList.all (fun c => decide (48 ≤ c.toNat ∧ c.toNat ≤ 57)) = true
  · rw [h2] at hp
    have HP := Lib.hid hp
    have hpos : 0 < s.size := by omega
    have hpos' : (0 : Int) < s.size := by omega
    have hhd : s.data.toList.head? = some (s[0]'hpos) := by
      have h2 := Sp.drop_cons s 0 hpos
      rw [List.drop_zero] at h2
      rw [h2]
      rfl
    have hat := atoi_digits (l := s.data.toList) (by intro e; rw [e] at hsl; exact h0 hsl) h2
    have h10 := digits_10 h2 (by omega)
    have hA := fun W => Tryd.strconv_Atoi s _ (by omega) hat W
    have hone : s.size = 1 → (s[0]'hpos).toNat = 48 → s.toList = [48] := by
      intro e1 e2
      rw [hsT]
      have h3 := Sp.drop_cons s 0 hpos
      rw [List.drop_zero] at h3
      rw [h3, List.drop_eq_nil_of_le (by omega), UInt8.toNat_inj.1 (show (s[0]'hpos).toNat = (48 : UInt8).toNat from e2)]
    have hmore : s.size ≠ 1 → s.toList ≠ [48] := by
      intro e1 e2
      rw [← hsT, e2] at hsl
      exact e1 hsl
    by_cases h3 : 1 < s.size ∧ (s[0]'hpos).toNat = 48
    · have hv : Sp.decV top s.data.toList = none := by
        unfold Sp.decV
        rw [if_pos (Or.inr (Or.inr (Or.inr ⟨by omega, by rw [hhd]; exact congrArg some (UInt8.toNat_inj.1 h3.2)⟩)))]
      rw [okV_none hv]
      have q2 : (((s[0]'hpos).toNat : Int) == 48) = true := beq_iff_eq.2 (by omega)
      have q3 : (s.toList != [48]) = true := by rw [bne_iff_ne]; exact hmore (by omega)
      have q4 : (s.toList == [48]) = false := by rw [beq_eq_false_iff_ne]; exact hmore (by omega)
      clear hsl hsT hp hv h0 h1 h2 hhd hat h10 hA hone hmore h3
      go_enter Tryd.func46, Tryd.ntmps46
      go_wp2_with (go_at_call 72; refine HP.out.mono ?_; rintro e w1 ⟨rfl, hb1⟩)
      go_ret2
      exact ⟨rfl, by assumption⟩
    have hd : Sp.decV top s.data.toList = if top < Sp.digitsV 10 0 s.data.toList then none else some (Sp.digitsV 10 0 s.data.toList) := dec_some (by
      rintro (h | h | h | h)
      · omega
      · omega
      · rw [h2] at h; cases h
      · refine h3 ⟨by omega, ?_⟩
        have h4 := h.2
        rw [hhd] at h4
        injection h4 with h4
        rw [h4]
        rfl)
    obtain ⟨N, hN⟩ : ∃ N : Nat, Sp.digitsV 10 0 s.data.toList = N := ⟨_, rfl⟩
    rw [hN] at hd h10 hA
    obtain ⟨V, hV⟩ : ∃ V : Int, (N : Int) = V := ⟨_, rfl⟩
    have hV0 : 0 ≤ V := by omega
    have hV1 : V < 10000000000 := by omega
    rw [hV] at hA
    have HA := Lib.hid hA
    by_cases ht2 : top < N
    · rw [if_pos ht2] at hd
      rw [okV_none hd]
      have q6 : decide (V > (top : Int)) = true := decide_eq_true (by omega)
      by_cases h5 : (s[0]'hpos).toNat = 48
      · have q2 : (((s[0]'hpos).toNat : Int) == 48) = true := beq_iff_eq.2 (by omega)
        have q4 : (s.toList == [48]) = true := by rw [beq_iff_eq]; exact hone (by omega) h5
        have q3 : (s.toList != [48]) = false := by rw [bne_eq_false_iff_eq]; exact hone (by omega) h5
        clear hsl hsT hp h0 h1 h2 hhd hat h10 hA hone hmore h3 hd hN hV h5
        go_enter Tryd.func46, Tryd.ntmps46
        go_wp2_with (first | (go_at_call 72; refine HP.out.mono ?_; rintro e w1 ⟨rfl, hb1⟩) | (go_at_call 74; refine (HA.out _).mono ?_; rintro e w2 ⟨rfl, t, rfl⟩))
        go_ret2
        exact ⟨rfl, hb1.trans ((Lib.bytesWorld_below _ _ _).mono hb1.size)⟩
      · have q2 : (((s[0]'hpos).toNat : Int) == 48) = false := beq_eq_false_iff_ne.2 (by omega)
        clear hsl hsT hp h0 h1 h2 hhd hat h10 hA hone hmore h3 hd hN hV h5
        go_enter Tryd.func46, Tryd.ntmps46
        go_wp2_with (first | (go_at_call 72; refine HP.out.mono ?_; rintro e w1 ⟨rfl, hb1⟩) | (go_at_call 74; refine (HA.out _).mono ?_; rintro e w2 ⟨rfl, t, rfl⟩))
        go_ret2
        exact ⟨rfl, hb1.trans ((Lib.bytesWorld_below _ _ _).mono hb1.size)⟩
    · rw [if_neg ht2] at hd
      rw [okV_some hd, hV]
      have q6 : decide (V > (top : Int)) = false := decide_eq_false (by omega)
      by_cases h5 : (s[0]'hpos).toNat = 48
      · have q2 : (((s[0]'hpos).toNat : Int) == 48) = true := beq_iff_eq.2 (by omega)
        have q4 : (s.toList == [48]) = true := by rw [beq_iff_eq]; exact hone (by omega) h5
        have q3 : (s.toList != [48]) = false := by rw [bne_eq_false_iff_eq]; exact hone (by omega) h5
        clear hsl hsT hp h0 h1 h2 hhd hat h10 hA hone hmore h3 hd hN hV h5
        go_enter Tryd.func46, Tryd.ntmps46
        go_wp2_with (first | (go_at_call 72; refine HP.out.mono ?_; rintro e w1 ⟨rfl, hb1⟩) | (go_at_call 74; refine (HA.out _).mono ?_; rintro e w2 ⟨rfl, t, rfl⟩))
        go_ret2
        exact ⟨rfl, hb1.trans ((Lib.bytesWorld_below _ _ _).mono hb1.size)⟩
      · have q2 : (((s[0]'hpos).toNat : Int) == 48) = false := beq_eq_false_iff_ne.2 (by omega)
        clear hsl hsT hp h0 h1 h2 hhd hat h10 hA hone hmore h3 hd hN hV h5
        go_enter Tryd.func46, Tryd.ntmps46
        go_wp2_with (first | (go_at_call 72; refine HP.out.mono ?_; rintro e w1 ⟨rfl, hb1⟩) | (go_at_call 74; refine (HA.out _).mono ?_; rintro e w2 ⟨rfl, t, rfl⟩))
        go_ret2
        exact ⟨rfl, hb1.trans ((Lib.bytesWorld_below _ _ _).mono hb1.size)⟩
  · have hv : Sp.decV top s.data.toList = none := by unfold Sp.decV; rw [if_pos (Or.inr (Or.inr (Or.inl (by simpa using h2))))]
    rw [okV_none hv]
    have h2' : s.data.toList.all (fun c => decide (48 ≤ c.toNat ∧ c.toNat ≤ 57)) = false := by simpa using h2
    rw [h2'] at hp
    have HP := Lib.hid hp
    clear hsl hsT hp hv h0 h1 h2 h2'
    go_enter Tryd.func46, Tryd.ntmps46
    go_wp2_with (go_at_call 72; refine HP.out.mono ?_; rintro e w1 ⟨rfl, hb1⟩)
    go_ret2
    exact ⟨rfl, by assumption⟩
end Go.Proofs.YtjedoipbllcfdaaDoor
