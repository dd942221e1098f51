/-
  THE WALK of reachref3.decimal (chapter 3).
-/
import Derived.Test.YtjedoipbllcfdaaDoorVa
import Derived.Test.YtjedoipbllcfdaaDoorSpB
set_option linter.unusedVariables false
set_option linter.unusedSimpArgs false
set_option maxRecDepth 100000
set_option maxHeartbeats 2000000
namespace Go.Proofs.YtjedoipbllcfdaaDoor
open Go.RowKit

def optI (o : Option Nat) : Int := match o with | none => -1 | some v => v

theorem digit_fin : ∀ n : Fin 256, [48, 49, 50, 51, 52, 53, 54, 55, 56, 57].contains (UInt8.ofNat n.1) = decide (48 ≤ (UInt8.ofNat n.1).toNat ∧ (UInt8.ofNat n.1).toNat ≤ 57) := by decide
theorem digit_in (c : UInt8) : [48, 49, 50, 51, 52, 53, 54, 55, 56, 57].contains c = decide (48 ≤ c.toNat ∧ c.toNat ≤ 57) := by
  have h := digit_fin ⟨c.toNat, c.toNat_lt⟩
  simpa using h
def DIG : ByteArray := ⟨#[48, 49, 50, 51, 52, 53, 54, 55, 56, 57]⟩
theorem digits_all (l : List UInt8) : l.all (DIG.data.toList.contains ·) = l.all (fun c => decide (48 ≤ c.toNat ∧ c.toNat ≤ 57)) := by
  congr 1
  funext c
  exact digit_in c
theorem hexv_digit (c : UInt8) (h1 : 48 ≤ c.toNat) (h2 : c.toNat ≤ 57) : Sp.hexv c = c.toNat - 48 := by
  unfold Sp.hexv
  rw [if_pos (by omega)]
theorem sub48 (c : Nat) (h1 : 48 ≤ c) (h2 : c ≤ 57) : IntKind.u8.wrap ((c : Int) - 48) = ((c - 48 : Nat) : Int) := by
  have : ∀ n : Fin 10, IntKind.u8.wrap (((48 + n.1 : Nat) : Int) - 48) = ((n.1 : Nat) : Int) := by decide
  have h := this ⟨c - 48, by omega⟩
  simp only [show 48 + (c - 48) = c by omega] at h
  exact h
theorem dec_none {top : Nat} {l : List UInt8} (h : l.length = 0 ∨ 10 < l.length ∨ l.all (fun c => decide (48 ≤ c.toNat ∧ c.toNat ≤ 57)) = false ∨ (1 < l.length ∧ l.head? = some 48)) : optI (Sp.decV top l) = -1 := by
  unfold Sp.decV
  rw [if_pos h]
  rfl
theorem dec_some {top : Nat} {l : List UInt8} (h : ¬ (l.length = 0 ∨ 10 < l.length ∨ l.all (fun c => decide (48 ≤ c.toNat ∧ c.toNat ≤ 57)) = false ∨ (1 < l.length ∧ l.head? = some 48))) : Sp.decV top l = if top < Sp.digitsV 10 0 l then none else some (Sp.digitsV 10 0 l) := by
  unfold Sp.decV
  rw [if_neg h]

theorem ref3_decimal (s : ByteArray) (top : Nat) (w : World) (hs : s.size ≤ 4611686018427387904) (ht : top ≤ 4294967295) :
    Calls Tryd.prog 50 #[.string s, .int .i64 top] w fun e w' => e = .returned (.int .i64 (optI (Sp.decV top s.data.toList))) ∧ Below w.heap.size w w' := by
  have hsl := Lib.size_eq s
  have hsT : s.toList = s.data.toList := Lib.toList_data s
  obtain ⟨res, hres⟩ : ∃ r, optI (Sp.decV top s.data.toList) = r := ⟨_, rfl⟩
  rw [hres]
  have hA := fun W => ref3_all s DIG W hs (by decide)
  simp only [digits_all] at hA
  by_cases h0 : s.size = 0
  · have q0 : s.toList.isEmpty = true := by rw [hsT, List.isEmpty_iff]; exact List.length_eq_zero_iff.1 (by omega)
    have HR : Hid ((-1 : Int) = res) := by show _ = _; rw [← hres]; exact (dec_none (Or.inl (by omega))).symm
    clear hsl hsT hA hres h0
    go_enter Tryd.func50, Tryd.ntmps50
    go_wp2
    go_ret
    exact ⟨ret_int HR.out, Below.refl _ _⟩
  have q0 : s.toList.isEmpty = false := by
    rw [hsT, Bool.eq_false_iff]
    intro h
    rw [List.isEmpty_iff] at h
    rw [h] at hsl
    exact h0 hsl
  by_cases h1 : s.data.toList.all (fun c => decide (48 ≤ c.toNat ∧ c.toNat ≤ 57)) = false
  · simp only [h1] at hA
    have HA := Lib.hid hA
    have HR : Hid ((-1 : Int) = res) := by show _ = _; rw [← hres]; exact (dec_none (Or.inr (Or.inr (Or.inl h1)))).symm
    clear hsl hsT hA hres h0 h1
    go_enter Tryd.func50, Tryd.ntmps50
    go_wp2_with (go_at_call 76; refine (HA.out _).mono ?_; rintro e w1 ⟨rfl, hb1⟩)
    go_ret
    exact ⟨ret_int HR.out, by assumption⟩
  have h1' : s.data.toList.all (fun c => decide (48 ≤ c.toNat ∧ c.toNat ≤ 57)) = true := by simpa using h1
  simp only [h1'] at hA
  have HA := Lib.hid hA
  have hpos : 0 < s.size := by omega
  have hpos' : (0 : Int) < s.size := by omega
  have hhd : s.data.toList.head? = some (s[0]'hpos) := by
    have h2 := Sp.drop_cons s 0 hpos
    rw [List.drop_zero] at h2
    rw [h2]
    rfl
  by_cases h2 : 1 < s.size ∧ (s[0]'hpos).toNat = 48
  · have q1 : decide ((s.size : Int) > 1) = true := decide_eq_true (by omega)
    have q2 : (((s[0]'hpos).toNat : Int) == 48) = true := beq_iff_eq.2 (by omega)
    have HR : Hid ((-1 : Int) = res) := by
      show _ = _
      rw [← hres]
      exact (dec_none (Or.inr (Or.inr (Or.inr ⟨by omega, by rw [hhd]; exact congrArg some (UInt8.toNat_inj.1 h2.2)⟩)))).symm
    clear hsl hsT hA hres h0 h1 h1' hhd
    go_enter Tryd.func50, Tryd.ntmps50
    go_wp2_with (go_at_call 76; refine (HA.out _).mono ?_; rintro e w1 ⟨rfl, hb1⟩)
    go_ret
    exact ⟨ret_int HR.out, by assumption⟩
  by_cases h3 : 10 < s.size
  · have q1 : decide ((s.size : Int) > 1) = true := decide_eq_true (by omega)
    have q2 : (((s[0]'hpos).toNat : Int) == 48) = false := beq_eq_false_iff_ne.2 (by omega)
    have q3 : decide ((s.size : Int) > 10) = true := decide_eq_true (by omega)
    have HR : Hid ((-1 : Int) = res) := by show _ = _; rw [← hres]; exact (dec_none (Or.inr (Or.inl (by omega)))).symm
    clear hsl hsT hA hres h0 h1 h1' hhd
    go_enter Tryd.func50, Tryd.ntmps50
    go_wp2_with (go_at_call 76; refine (HA.out _).mono ?_; rintro e w1 ⟨rfl, hb1⟩)
    go_ret
    exact ⟨ret_int HR.out, by assumption⟩
  have hd := dec_some (top := top) (l := s.data.toList) (by
    rintro (h | h | h | h)
    · omega
    · omega
    · exact h1 h
    · refine h2 ⟨by omega, ?_⟩
      have h4 := h.2
      rw [hhd] at h4
      injection h4 with h4
      rw [h4]
      rfl)
  have hdig : ∀ j, (hj : j < s.size) → 48 ≤ (s[j]'hj).toNat ∧ (s[j]'hj).toNat ≤ 57 := by
    intro j hj
    have h4 := List.all_eq_true.1 h1' (s[j]'hj) (by rw [Sp.get_idx s j hj (by omega)]; exact List.getElem_mem _)
    exact of_decide_eq_true h4
  have HDIG := Lib.hid hdig
  have HDR : Hid (∀ i, (hi : i < s.size) → s.data.toList.drop i = (s[i]'hi) :: s.data.toList.drop (i + 1)) := fun i hi => Sp.drop_cons s i hi
  have HEND : Hid (s.data.toList.drop s.size = []) := List.drop_eq_nil_of_le (by omega)
  have HRES : Hid (res = if top < Sp.digitsV 10 0 s.data.toList then -1 else (Sp.digitsV 10 0 s.data.toList : Int)) := by
    show _ = _
    rw [← hres, hd]
    split <;> rfl
  by_cases h5 : 1 < s.size
  · have q1 : decide ((s.size : Int) > 1) = true := decide_eq_true (by omega)
    have q2 : (((s[0]'hpos).toNat : Int) == 48) = false := beq_eq_false_iff_ne.2 (by omega)
    have q3 : decide ((s.size : Int) > 10) = false := decide_eq_false (by omega)
    clear hsl hsT hA hres h0 h1 h1' hhd hd hdig h2
    go_enter Tryd.func50, Tryd.ntmps50
    go_wp2_with (go_at_call 76; refine (HA.out _).mono ?_; rintro e w1 ⟨rfl, hb1⟩)
    go_loopw [5, 6] (fun v5 v6 wr => Below w.heap.size w wr ∧ ∃ (i n : Nat), v5 = .int .i64 (n : Int) ∧ v6 = .int .i64 (i : Int) ∧ i ≤ s.size ∧ n < 10 ^ i ∧ Hid (Sp.digitsV 10 n (s.data.toList.drop i) = Sp.digitsV 10 0 s.data.toList)) (fun _ v6 _ => (s.size - intOf v6).toNat)
    case atStart => exact ⟨hb1, 0, 0, rfl, rfl, by omega, by simp, rfl⟩
    case round =>
      obtain ⟨hbw, i, n, rfl, rfl, hi, hn, HD⟩ := hrel
      have hi10 : 10 ^ i ≤ 10 ^ 10 := Nat.pow_le_pow_right (by omega) (by omega)
      have hnb : n < 10000000000 := by
        have : (10 : Nat) ^ 10 = 10000000000 := by decide
        omega
      obtain ⟨N, hN⟩ : ∃ N : Int, (n : Int) = N := ⟨_, rfl⟩
      rw [hN]
      have hN0 : 0 ≤ N := by omega
      have hN1 : N < 10000000000 := by omega
      by_cases hlt : i < s.size
      · have q5 : decide ((i : Int) < s.size) = true := decide_eq_true (by omega)
        have hlt' : (i : Int) < s.size := by omega
        have hdg := HDIG.out i hlt
        obtain ⟨c, hc⟩ : ∃ c, (s[i]'hlt).toNat = c := ⟨_, rfl⟩
        rw [hc] at hdg
        have hw := sub48 c hdg.1 hdg.2
        have hx9 : c - 48 < 10 := by omega
        obtain ⟨x, hx⟩ : ∃ x, c - 48 = x := ⟨_, rfl⟩
        rw [hx] at hw hx9
        have hx9' : (x : Int) < 10 := by omega
        have HD2 : Hid (Sp.digitsV 10 (10 * n + x) (s.data.toList.drop (i + 1)) = Sp.digitsV 10 0 s.data.toList) := by
          show _ = _
          rw [← HD.out, HDR.out i hlt]
          simp only [Sp.digitsV]
          rw [hexv_digit _ (by omega) (by omega), hc, hx]
        have hn2 : 10 * n + x < 10 ^ (i + 1) := by rw [Nat.pow_succ]; omega
        clear hdg hx hi10 hn
        go_wp2
        go_roundw
        case rel => exact ⟨hbw, i + 1, 10 * n + x, by rw [← hN]; rfl, rfl, by omega, hn2, HD2⟩
        case measure => simp [intOf]; omega
      · have q5 : decide ((i : Int) < s.size) = false := decide_eq_false (by omega)
        obtain rfl : i = s.size := by omega
        have hval : Sp.digitsV 10 0 s.data.toList = n := by rw [← HD.out, HEND.out]; rfl
        have hr := HRES.out
        rw [hval] at hr
        by_cases ht2 : top < n
        · rw [if_pos ht2] at hr
          have q6 : decide (N > (top : Int)) = true := decide_eq_true (by omega)
          have HR := Lib.hid hr
          clear hr hval hn hi10 hi
          go_wp2
          go_ret
          exact ⟨ret_int HR.out.symm, hbw⟩
        · rw [if_neg ht2] at hr
          have q6 : decide (N > (top : Int)) = false := decide_eq_false (by omega)
          have HR : Hid (N = res) := by show _ = _; rw [hr, hN]
          clear hr hval hn hi10 hi
          go_wp2
          go_ret
          exact ⟨ret_int HR.out, hbw⟩
  · have q1 : decide ((s.size : Int) > 1) = false := decide_eq_false (by omega)
    have q3 : decide ((s.size : Int) > 10) = false := decide_eq_false (by omega)
    clear hsl hsT hA hres h0 h1 h1' hhd hd hdig h2
    go_enter Tryd.func50, Tryd.ntmps50
    go_wp2_with (go_at_call 76; refine (HA.out _).mono ?_; rintro e w1 ⟨rfl, hb1⟩)
    go_loopw [5, 6] (fun v5 v6 wr => Below w.heap.size w wr ∧ ∃ (i n : Nat), v5 = .int .i64 (n : Int) ∧ v6 = .int .i64 (i : Int) ∧ i ≤ s.size ∧ n < 10 ^ i ∧ Hid (Sp.digitsV 10 n (s.data.toList.drop i) = Sp.digitsV 10 0 s.data.toList)) (fun _ v6 _ => (s.size - intOf v6).toNat)
    case atStart => exact ⟨hb1, 0, 0, rfl, rfl, by omega, by simp, rfl⟩
    case round =>
      obtain ⟨hbw, i, n, rfl, rfl, hi, hn, HD⟩ := hrel
      have hi10 : 10 ^ i ≤ 10 ^ 10 := Nat.pow_le_pow_right (by omega) (by omega)
      have hnb : n < 10000000000 := by
        have : (10 : Nat) ^ 10 = 10000000000 := by decide
        omega
      obtain ⟨N, hN⟩ : ∃ N : Int, (n : Int) = N := ⟨_, rfl⟩
      rw [hN]
      have hN0 : 0 ≤ N := by omega
      have hN1 : N < 10000000000 := by omega
      by_cases hlt : i < s.size
      · have q5 : decide ((i : Int) < s.size) = true := decide_eq_true (by omega)
        have hlt' : (i : Int) < s.size := by omega
        have hdg := HDIG.out i hlt
        obtain ⟨c, hc⟩ : ∃ c, (s[i]'hlt).toNat = c := ⟨_, rfl⟩
        rw [hc] at hdg
        have hw := sub48 c hdg.1 hdg.2
        have hx9 : c - 48 < 10 := by omega
        obtain ⟨x, hx⟩ : ∃ x, c - 48 = x := ⟨_, rfl⟩
        rw [hx] at hw hx9
        have hx9' : (x : Int) < 10 := by omega
        have HD2 : Hid (Sp.digitsV 10 (10 * n + x) (s.data.toList.drop (i + 1)) = Sp.digitsV 10 0 s.data.toList) := by
          show _ = _
          rw [← HD.out, HDR.out i hlt]
          simp only [Sp.digitsV]
          rw [hexv_digit _ (by omega) (by omega), hc, hx]
        have hn2 : 10 * n + x < 10 ^ (i + 1) := by rw [Nat.pow_succ]; omega
        clear hdg hx hi10 hn
        go_wp2
        go_roundw
        case rel => exact ⟨hbw, i + 1, 10 * n + x, by rw [← hN]; rfl, rfl, by omega, hn2, HD2⟩
        case measure => simp [intOf]; omega
      · have q5 : decide ((i : Int) < s.size) = false := decide_eq_false (by omega)
        obtain rfl : i = s.size := by omega
        have hval : Sp.digitsV 10 0 s.data.toList = n := by rw [← HD.out, HEND.out]; rfl
        have hr := HRES.out
        rw [hval] at hr
        by_cases ht2 : top < n
        · rw [if_pos ht2] at hr
          have q6 : decide (N > (top : Int)) = true := decide_eq_true (by omega)
          have HR := Lib.hid hr
          clear hr hval hn hi10 hi
          go_wp2
          go_ret
          exact ⟨ret_int HR.out.symm, hbw⟩
        · rw [if_neg ht2] at hr
          have q6 : decide (N > (top : Int)) = false := decide_eq_false (by omega)
          have HR : Hid (N = res) := by show _ = _; rw [hr, hN]
          clear hr hval hn hi10 hi
          go_wp2
          go_ret
          exact ⟨ret_int HR.out, hbw⟩
end Go.Proofs.YtjedoipbllcfdaaDoor
