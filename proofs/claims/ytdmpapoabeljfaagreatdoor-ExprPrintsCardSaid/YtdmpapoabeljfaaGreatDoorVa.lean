/-
  Texts joined: Va Vb Vc Vd.
-/
import Derived.Test.YtdmpapoabeljfaaGreatDoorPa
import Derived.Test.YtdmpapoabeljfaaGreatDoorWg

/-
  THE WALKS of reachref3.dot and reachref3.all (chapter 3).
-/
set_option linter.unusedVariables false
set_option linter.unusedSimpArgs false
set_option maxRecDepth 100000
set_option maxHeartbeats 2000000
namespace Go.Proofs.YtdmpapoabeljfaaGreatDoor
open Go.RowKit

theorem index_first (c : UInt8) : ∀ (l : List UInt8) (i : Nat), (∀ j, j < i → l[j]? ≠ some c) → l[i]? = some c → Lib.indexByte l c = i
  | [], i, _, h => by simp at h
  | b :: l, 0, _, h => by
    simp at h
    subst h
    simp [Lib.indexByte]
  | b :: l, i + 1, h, h2 => by
    have hb : b ≠ c := by
      have := h 0 (by omega)
      simpa using this
    have ih := index_first c l i (fun j hj => by have := h (j + 1) (by omega); simpa using this) (by simpa using h2)
    rw [Sp.indexByte_tw] at ih ⊢
    by_cases ha : l.all (fun x => decide (x ≠ c)) = true
    · rw [if_pos ha] at ih
      omega
    · rw [if_neg ha] at ih
      rw [if_neg (by simp only [List.all_cons]; simp [hb]; simpa using ha), List.takeWhile_cons, if_pos (by simpa using hb), List.length_cons]
      omega
theorem index_no (c : UInt8) (l : List UInt8) (h : ∀ j, j < l.length → l[j]? ≠ some c) : Lib.indexByte l c = -1 := by
  rw [Sp.indexByte_tw, if_pos]
  rw [List.all_eq_true]
  intro x hx
  obtain ⟨j, hj, rfl⟩ := List.getElem_of_mem hx
  have := h j hj
  rw [List.getElem?_eq_getElem hj] at this
  simpa using this

theorem ref3_dot (s : ByteArray) (w : World) (hs : s.size ≤ 4611686018427387904) :
    Calls Tryz.prog 96 #[.string s] w fun e w' => e = .returned (.int .i64 (Lib.indexByte s.data.toList 46)) ∧ w' = w := by
  have hsl := Lib.size_eq s
  go_enter Tryz.func96, Tryz.ntmps96
  go_wp2
  go_loopw [3] (fun v3 wr => wr = w ∧ ∃ i : Nat, v3 = .int .i64 (i : Int) ∧ i ≤ s.size ∧ Hid (∀ j, j < i → s.data.toList[j]? ≠ some 46)) (fun v3 _ => (s.size - intOf v3).toNat)
  case atStart => exact ⟨rfl, 0, rfl, by omega, fun j hj => by omega⟩
  case round =>
    obtain ⟨hw, i, rfl, hi, HP⟩ := hrel
    by_cases hlt : i < s.size
    · have q1 : decide ((i : Int) < s.size) = true := decide_eq_true (by omega)
      have hlt' : (i : Int) < s.size := by omega
      have hg : s.data.toList[i]? = some (s[i]'hlt) := by
        rw [List.getElem?_eq_getElem (by omega), ← Sp.get_idx s i hlt (by omega)]
      by_cases hc : (s[i]'hlt).toNat = 46
      · have q2 : (((s[i]'hlt).toNat : Int) == 46) = true := beq_iff_eq.2 (by omega)
        have hF : Lib.indexByte s.data.toList 46 = i := index_first 46 _ i HP.out (by rw [hg]; exact congrArg some (UInt8.toNat_inj.1 hc))
        have HF := Lib.hid hF
        clear hF hg hsl
        go_wp2
        go_ret
        exact ⟨ret_int HF.out.symm, rfl⟩
      · have q2 : (((s[i]'hlt).toNat : Int) == 46) = false := beq_eq_false_iff_ne.2 (by omega)
        have HP2 : Hid (∀ j, j < i + 1 → s.data.toList[j]? ≠ some 46) := by
          intro j hj
          by_cases hji : j = i
          · subst hji
            rw [hg]
            intro e
            injection e with e
            exact hc (by rw [e]; rfl)
          · exact HP.out j (by omega)
        clear hg hsl
        go_wp2
        go_roundw
        case rel => exact ⟨by trivial, i + 1, by rfl, by omega, HP2⟩
        case measure => simp [intOf]; omega
    · have q1 : decide ((i : Int) < s.size) = false := decide_eq_false (by omega)
      have hF : Lib.indexByte s.data.toList 46 = -1 := index_no 46 _ (fun j hj => HP.out j (by omega))
      have HF := Lib.hid hF
      clear hF hsl
      go_wp2
      go_ret
      exact ⟨ret_int HF.out.symm, rfl⟩

theorem contains_snoc (l : List UInt8) (k : Nat) (hk : k < l.length) (c : UInt8) : (l.take (k + 1)).contains c = ((l.take k).contains c || (l[k]'hk == c)) := by
  rw [List.take_succ_eq_append_getElem hk]
  rw [Bool.eq_iff_iff]
  simp only [List.contains_iff_mem, Bool.or_eq_true, List.mem_append, List.mem_singleton, beq_iff_eq]
  constructor <;> (rintro (h | h); exact Or.inl h; exact Or.inr h.symm)

theorem ref3_all (s cs : ByteArray) (w : World) (hs : s.size ≤ 4611686018427387904) (hcs : cs.size ≤ 4611686018427387904) :
    Calls Tryz.prog 100 #[.string s, .string cs] w fun e w' => e = .returned (.bool (s.data.toList.all (cs.data.toList.contains ·))) ∧ Below w.heap.size w w' := by
  have HSL := Lib.hid (Lib.size_eq s)
  have HCL := Lib.hid (Lib.size_eq cs)
  go_enter Tryz.func100, Tryz.ntmps100
  go_wp2
  go_loopw [5, 6, 7] (fun v5 v6 v7 wr => Below w.heap.size w wr ∧ ∃ i : Nat, v5 = .int .i64 (i : Int) ∧ i ≤ s.size ∧ Hid (∀ j, (hj : j < s.data.toList.length) → j < i → cs.data.toList.contains (s.data.toList[j]'hj) = true)) (fun v5 _ _ _ => (s.size - intOf v5).toNat)
  case atStart => exact ⟨Below.refl _ _, 0, rfl, by omega, fun j _ hj => by omega⟩
  case round =>
    obtain ⟨hbw, i, rfl, hi, HP⟩ := hrel
    by_cases hlt : i < s.size
    · have q1 : decide ((i : Int) < s.size) = true := decide_eq_true (by omega)
      have hlt' : (i : Int) < s.size := by omega
      obtain ⟨c, hc⟩ : ∃ c, s[i]'hlt = c := ⟨_, rfl⟩
      have hgi : s.data.toList[i]'(by rw [← HSL.out]; exact hlt) = c := by rw [← hc, Sp.get_idx s i hlt (by rw [← HSL.out]; exact hlt)]
      have HGI := Lib.hid hgi
      clear hgi
      go_wp2
      go_loopw [6, 7] (fun v6 v7 wr2 => Below w.heap.size w wr2 ∧ ∃ k : Nat, v7 = .int .i64 (k : Int) ∧ k ≤ cs.size ∧ v6 = .bool ((cs.data.toList.take k).contains c)) (fun _ v7 _ => (cs.size - intOf v7).toNat)
      case atStart => exact ⟨hbw, 0, rfl, by omega, rfl⟩
      case round =>
        obtain ⟨hbw2, k, rfl, hk, rfl⟩ := hrel
        by_cases hklt : k < cs.size
        · have q2 : decide ((k : Int) < cs.size) = true := decide_eq_true (by omega)
          have hklt' : (k : Int) < cs.size := by omega
          obtain ⟨d, hd⟩ : ∃ d, cs[k]'hklt = d := ⟨_, rfl⟩
          have hsn := contains_snoc cs.data.toList k (by rw [← HCL.out]; exact hklt) c
          rw [← Sp.get_idx cs k hklt (by rw [← HCL.out]; exact hklt), hd] at hsn
          by_cases hcd : c.toNat = d.toNat
          · have q3 : ((c.toNat : Int) == (d.toNat : Int)) = true := beq_iff_eq.2 (by omega)
            have hT : (cs.data.toList.take (k + 1)).contains c = true := by rw [hsn, UInt8.toNat_inj.1 hcd]; simp
            have HT := Lib.hid hT
            clear hsn hT
            go_wp2
            go_region
            all_goals go_wp2
            all_goals refine ⟨⟨below_drewN' hbw2 1, k + 1, rfl, by omega, congrArg Value.bool HT.out.symm⟩, ?_⟩
            all_goals (simp [intOf]; omega)
          · have q3 : ((c.toNat : Int) == (d.toNat : Int)) = false := beq_eq_false_iff_ne.2 (by omega)
            have hT : (cs.data.toList.take (k + 1)).contains c = (cs.data.toList.take k).contains c := by
              rw [hsn]
              have : (d == c) = false := by
                rw [beq_eq_false_iff_ne]
                rintro rfl
                exact hcd rfl
              rw [this, Bool.or_false]
            have HT := Lib.hid hT
            clear hsn hT
            go_wp2
            go_region
            all_goals go_wp2
            all_goals refine ⟨⟨below_drewN' hbw2 1, k + 1, rfl, by omega, congrArg Value.bool HT.out.symm⟩, ?_⟩
            all_goals (simp [intOf]; omega)
        · have q2 : decide ((k : Int) < cs.size) = false := decide_eq_false (by omega)
          have htk : cs.data.toList.take k = cs.data.toList := List.take_of_length_le (by rw [← HCL.out]; omega)
          rw [htk]
          by_cases hin : cs.data.toList.contains c = true
          · have HP2 : Hid (∀ j, (hj : j < s.data.toList.length) → j < i + 1 → cs.data.toList.contains (s.data.toList[j]'hj) = true) := by
              intro j hj hji
              by_cases e : j = i
              · subst e
                rw [HGI.out]
                exact hin
              · exact HP.out j hj (by omega)
            rw [hin]
            clear htk hin
            go_wp2
            go_roundw
            case rel => exact ⟨hbw2, i + 1, rfl, by omega, HP2⟩
            case measure => simp [intOf]; omega
          · have hin2 : cs.data.toList.contains c = false := by simpa using hin
            have hall : s.data.toList.all (cs.data.toList.contains ·) = false := by
              rw [List.all_eq_false]
              refine ⟨c, ?_, hin⟩
              rw [← HGI.out]
              exact List.getElem_mem _
            have HALL := Lib.hid hall
            rw [hin2]
            clear htk hin hin2 hall
            go_wp2
            first | go_ret | (dsimp (config := { zetaDelta := true }) only [Exit.noGoto, Exit.inBlock, Exit.then]; go_ret)
            exact ⟨ret_bool HALL.out.symm, hbw2⟩
    · have q1 : decide ((i : Int) < s.size) = false := decide_eq_false (by omega)
      have hall : s.data.toList.all (cs.data.toList.contains ·) = true := by
        rw [List.all_eq_true]
        intro x hx
        obtain ⟨j, hj, rfl⟩ := List.getElem_of_mem hx
        exact HP.out j hj (by rw [← HSL.out] at hj; omega)
      have HALL := Lib.hid hall
      clear hall
      go_wp2
      go_ret
      exact ⟨ret_bool HALL.out.symm, hbw⟩
end Go.Proofs.YtdmpapoabeljfaaGreatDoor

/-
  THE WALK of reachref3.decimal (chapter 3).
-/
set_option linter.unusedVariables false
set_option linter.unusedSimpArgs false
set_option maxRecDepth 100000
set_option maxHeartbeats 2000000
namespace Go.Proofs.YtdmpapoabeljfaaGreatDoor
open Go.RowKit

def optI (o : Option Nat) : Int := match o with | none => -1 | some v => v

theorem digit_fin : ∀ n : Fin 256, [48, 49, 50, 51, 52, 53, 54, 55, 56, 57].contains (UInt8.ofNat n.1) = decide (48 ≤ (UInt8.ofNat n.1).toNat ∧ (UInt8.ofNat n.1).toNat ≤ 57) := by decide
theorem digit_in (c : UInt8) : [48, 49, 50, 51, 52, 53, 54, 55, 56, 57].contains c = decide (48 ≤ c.toNat ∧ c.toNat ≤ 57) := by
  have h := digit_fin ⟨c.toNat, c.toNat_lt⟩
  simpa using h
def DIG : ByteArray := ⟨#[48, 49, 50, 51, 52, 53, 54, 55, 56, 57]⟩
theorem digits_all (l : List UInt8) : l.all (DIG.data.toList.contains ·) = l.all (fun c => decide (48 ≤ c.toNat ∧ c.toNat ≤ 57)) := by
  congr 1
  funext c
  exact digit_in c
theorem hexv_digit (c : UInt8) (h1 : 48 ≤ c.toNat) (h2 : c.toNat ≤ 57) : Sp.hexv c = c.toNat - 48 := by
  unfold Sp.hexv
  rw [if_pos (by omega)]
theorem sub48 (c : Nat) (h1 : 48 ≤ c) (h2 : c ≤ 57) : IntKind.u8.wrap ((c : Int) - 48) = ((c - 48 : Nat) : Int) := by
  have : ∀ n : Fin 10, IntKind.u8.wrap (((48 + n.1 : Nat) : Int) - 48) = ((n.1 : Nat) : Int) := by decide
  have h := this ⟨c - 48, by omega⟩
  simp only [show 48 + (c - 48) = c by omega] at h
  exact h
theorem dec_none {top : Nat} {l : List UInt8} (h : l.length = 0 ∨ 10 < l.length ∨ l.all (fun c => decide (48 ≤ c.toNat ∧ c.toNat ≤ 57)) = false ∨ (1 < l.length ∧ l.head? = some 48)) : optI (Sp.decV top l) = -1 := by
  unfold Sp.decV
  rw [if_pos h]
  rfl
theorem dec_some {top : Nat} {l : List UInt8} (h : ¬ (l.length = 0 ∨ 10 < l.length ∨ l.all (fun c => decide (48 ≤ c.toNat ∧ c.toNat ≤ 57)) = false ∨ (1 < l.length ∧ l.head? = some 48))) : Sp.decV top l = if top < Sp.digitsV 10 0 l then none else some (Sp.digitsV 10 0 l) := by
  unfold Sp.decV
  rw [if_neg h]

theorem ref3_decimal (s : ByteArray) (top : Nat) (w : World) (hs : s.size ≤ 4611686018427387904) (ht : top ≤ 4294967295) :
    Calls Tryz.prog 99 #[.string s, .int .i64 top] w fun e w' => e = .returned (.int .i64 (optI (Sp.decV top s.data.toList))) ∧ Below w.heap.size w w' := by
  have hsl := Lib.size_eq s
  have hsT : s.toList = s.data.toList := Lib.toList_data s
  obtain ⟨res, hres⟩ : ∃ r, optI (Sp.decV top s.data.toList) = r := ⟨_, rfl⟩
  rw [hres]
  have hA := fun W => ref3_all s DIG W hs (by decide)
  simp only [digits_all] at hA
  by_cases h0 : s.size = 0
  · have q0 : s.toList.isEmpty = true := by rw [hsT, List.isEmpty_iff]; exact List.length_eq_zero_iff.1 (by omega)
    have HR : Hid ((-1 : Int) = res) := by show _ = _; rw [← hres]; exact (dec_none (Or.inl (by omega))).symm
    clear hsl hsT hA hres h0
    go_enter Tryz.func99, Tryz.ntmps99
    go_wp2
    go_ret
    exact ⟨ret_int HR.out, Below.refl _ _⟩
  have q0 : s.toList.isEmpty = false := by
    rw [hsT, Bool.eq_false_iff]
    intro h
    rw [List.isEmpty_iff] at h
    rw [h] at hsl
    exact h0 hsl
  by_cases h1 : s.data.toList.all (fun c => decide (48 ≤ c.toNat ∧ c.toNat ≤ 57)) = false
  · simp only [h1] at hA
    have HA := Lib.hid hA
    have HR : Hid ((-1 : Int) = res) := by show _ = _; rw [← hres]; exact (dec_none (Or.inr (Or.inr (Or.inl h1)))).symm
    clear hsl hsT hA hres h0 h1
    go_enter Tryz.func99, Tryz.ntmps99
    go_wp2_with (go_at_call 100; refine (HA.out _).mono ?_; rintro e w1 ⟨rfl, hb1⟩)
    go_ret
    exact ⟨ret_int HR.out, by assumption⟩
  have h1' : s.data.toList.all (fun c => decide (48 ≤ c.toNat ∧ c.toNat ≤ 57)) = true := by simpa using h1
  simp only [h1'] at hA
  have HA := Lib.hid hA
  have hpos : 0 < s.size := by omega
  have hpos' : (0 : Int) < s.size := by omega
  have hhd : s.data.toList.head? = some (s[0]'hpos) := by
    have h2 := Sp.drop_cons s 0 hpos
    rw [List.drop_zero] at h2
    rw [h2]
    rfl
  by_cases h2 : 1 < s.size ∧ (s[0]'hpos).toNat = 48
  · have q1 : decide ((s.size : Int) > 1) = true := decide_eq_true (by omega)
    have q2 : (((s[0]'hpos).toNat : Int) == 48) = true := beq_iff_eq.2 (by omega)
    have HR : Hid ((-1 : Int) = res) := by
      show _ = _
      rw [← hres]
      exact (dec_none (Or.inr (Or.inr (Or.inr ⟨by omega, by rw [hhd]; exact congrArg some (UInt8.toNat_inj.1 h2.2)⟩)))).symm
    clear hsl hsT hA hres h0 h1 h1' hhd
    go_enter Tryz.func99, Tryz.ntmps99
    go_wp2_with (go_at_call 100; refine (HA.out _).mono ?_; rintro e w1 ⟨rfl, hb1⟩)
    go_ret
    exact ⟨ret_int HR.out, by assumption⟩
  by_cases h3 : 10 < s.size
  · have q1 : decide ((s.size : Int) > 1) = true := decide_eq_true (by omega)
    have q2 : (((s[0]'hpos).toNat : Int) == 48) = false := beq_eq_false_iff_ne.2 (by omega)
    have q3 : decide ((s.size : Int) > 10) = true := decide_eq_true (by omega)
    have HR : Hid ((-1 : Int) = res) := by show _ = _; rw [← hres]; exact (dec_none (Or.inr (Or.inl (by omega)))).symm
    clear hsl hsT hA hres h0 h1 h1' hhd
    go_enter Tryz.func99, Tryz.ntmps99
    go_wp2_with (go_at_call 100; refine (HA.out _).mono ?_; rintro e w1 ⟨rfl, hb1⟩)
    go_ret
    exact ⟨ret_int HR.out, by assumption⟩
  have hd := dec_some (top := top) (l := s.data.toList) (by
    rintro (h | h | h | h)
    · omega
    · omega
    · exact h1 h
    · refine h2 ⟨by omega, ?_⟩
      have h4 := h.2
      rw [hhd] at h4
      injection h4 with h4
      rw [h4]
      rfl)
  have hdig : ∀ j, (hj : j < s.size) → 48 ≤ (s[j]'hj).toNat ∧ (s[j]'hj).toNat ≤ 57 := by
    intro j hj
    have h4 := List.all_eq_true.1 h1' (s[j]'hj) (by rw [Sp.get_idx s j hj (by omega)]; exact List.getElem_mem _)
    exact of_decide_eq_true h4
  have HDIG := Lib.hid hdig
  have HDR : Hid (∀ i, (hi : i < s.size) → s.data.toList.drop i = (s[i]'hi) :: s.data.toList.drop (i + 1)) := fun i hi => Sp.drop_cons s i hi
  have HEND : Hid (s.data.toList.drop s.size = []) := List.drop_eq_nil_of_le (by omega)
  have HRES : Hid (res = if top < Sp.digitsV 10 0 s.data.toList then -1 else (Sp.digitsV 10 0 s.data.toList : Int)) := by
    show _ = _
    rw [← hres, hd]
    split <;> rfl
  by_cases h5 : 1 < s.size
  · have q1 : decide ((s.size : Int) > 1) = true := decide_eq_true (by omega)
    have q2 : (((s[0]'hpos).toNat : Int) == 48) = false := beq_eq_false_iff_ne.2 (by omega)
    have q3 : decide ((s.size : Int) > 10) = false := decide_eq_false (by omega)
    clear hsl hsT hA hres h0 h1 h1' hhd hd hdig h2
    go_enter Tryz.func99, Tryz.ntmps99
    go_wp2_with (go_at_call 100; refine (HA.out _).mono ?_; rintro e w1 ⟨rfl, hb1⟩)
    go_loopw [5, 6] (fun v5 v6 wr => Below w.heap.size w wr ∧ ∃ (i n : Nat), v5 = .int .i64 (n : Int) ∧ v6 = .int .i64 (i : Int) ∧ i ≤ s.size ∧ n < 10 ^ i ∧ Hid (Sp.digitsV 10 n (s.data.toList.drop i) = Sp.digitsV 10 0 s.data.toList)) (fun _ v6 _ => (s.size - intOf v6).toNat)
    case atStart => exact ⟨hb1, 0, 0, rfl, rfl, by omega, by simp, rfl⟩
    case round =>
      obtain ⟨hbw, i, n, rfl, rfl, hi, hn, HD⟩ := hrel
      have hi10 : 10 ^ i ≤ 10 ^ 10 := Nat.pow_le_pow_right (by omega) (by omega)
      have hnb : n < 10000000000 := by
        have : (10 : Nat) ^ 10 = 10000000000 := by decide
        omega
      obtain ⟨N, hN⟩ : ∃ N : Int, (n : Int) = N := ⟨_, rfl⟩
      rw [hN]
      have hN0 : 0 ≤ N := by omega
      have hN1 : N < 10000000000 := by omega
      by_cases hlt : i < s.size
      · have q5 : decide ((i : Int) < s.size) = true := decide_eq_true (by omega)
        have hlt' : (i : Int) < s.size := by omega
        have hdg := HDIG.out i hlt
        obtain ⟨c, hc⟩ : ∃ c, (s[i]'hlt).toNat = c := ⟨_, rfl⟩
        rw [hc] at hdg
        have hw := sub48 c hdg.1 hdg.2
        have hx9 : c - 48 < 10 := by omega
        obtain ⟨x, hx⟩ : ∃ x, c - 48 = x := ⟨_, rfl⟩
        rw [hx] at hw hx9
        have hx9' : (x : Int) < 10 := by omega
        have HD2 : Hid (Sp.digitsV 10 (10 * n + x) (s.data.toList.drop (i + 1)) = Sp.digitsV 10 0 s.data.toList) := by
          show _ = _
          rw [← HD.out, HDR.out i hlt]
          simp only [Sp.digitsV]
          rw [hexv_digit _ (by omega) (by omega), hc, hx]
        have hn2 : 10 * n + x < 10 ^ (i + 1) := by rw [Nat.pow_succ]; omega
        clear hdg hx hi10 hn
        go_wp2
        go_roundw
        case rel => exact ⟨hbw, i + 1, 10 * n + x, by rw [← hN]; rfl, rfl, by omega, hn2, HD2⟩
        case measure => simp [intOf]; omega
      · have q5 : decide ((i : Int) < s.size) = false := decide_eq_false (by omega)
        obtain rfl : i = s.size := by omega
        have hval : Sp.digitsV 10 0 s.data.toList = n := by rw [← HD.out, HEND.out]; rfl
        have hr := HRES.out
        rw [hval] at hr
        by_cases ht2 : top < n
        · rw [if_pos ht2] at hr
          have q6 : decide (N > (top : Int)) = true := decide_eq_true (by omega)
          have HR := Lib.hid hr
          clear hr hval hn hi10 hi
          go_wp2
          go_ret
          exact ⟨ret_int HR.out.symm, hbw⟩
        · rw [if_neg ht2] at hr
          have q6 : decide (N > (top : Int)) = false := decide_eq_false (by omega)
          have HR : Hid (N = res) := by show _ = _; rw [hr, hN]
          clear hr hval hn hi10 hi
          go_wp2
          go_ret
          exact ⟨ret_int HR.out, hbw⟩
  · have q1 : decide ((s.size : Int) > 1) = false := decide_eq_false (by omega)
    have q3 : decide ((s.size : Int) > 10) = false := decide_eq_false (by omega)
    clear hsl hsT hA hres h0 h1 h1' hhd hd hdig h2
    go_enter Tryz.func99, Tryz.ntmps99
    go_wp2_with (go_at_call 100; refine (HA.out _).mono ?_; rintro e w1 ⟨rfl, hb1⟩)
    go_loopw [5, 6] (fun v5 v6 wr => Below w.heap.size w wr ∧ ∃ (i n : Nat), v5 = .int .i64 (n : Int) ∧ v6 = .int .i64 (i : Int) ∧ i ≤ s.size ∧ n < 10 ^ i ∧ Hid (Sp.digitsV 10 n (s.data.toList.drop i) = Sp.digitsV 10 0 s.data.toList)) (fun _ v6 _ => (s.size - intOf v6).toNat)
    case atStart => exact ⟨hb1, 0, 0, rfl, rfl, by omega, by simp, rfl⟩
    case round =>
      obtain ⟨hbw, i, n, rfl, rfl, hi, hn, HD⟩ := hrel
      have hi10 : 10 ^ i ≤ 10 ^ 10 := Nat.pow_le_pow_right (by omega) (by omega)
      have hnb : n < 10000000000 := by
        have : (10 : Nat) ^ 10 = 10000000000 := by decide
        omega
      obtain ⟨N, hN⟩ : ∃ N : Int, (n : Int) = N := ⟨_, rfl⟩
      rw [hN]
      have hN0 : 0 ≤ N := by omega
      have hN1 : N < 10000000000 := by omega
      by_cases hlt : i < s.size
      · have q5 : decide ((i : Int) < s.size) = true := decide_eq_true (by omega)
        have hlt' : (i : Int) < s.size := by omega
        have hdg := HDIG.out i hlt
        obtain ⟨c, hc⟩ : ∃ c, (s[i]'hlt).toNat = c := ⟨_, rfl⟩
        rw [hc] at hdg
        have hw := sub48 c hdg.1 hdg.2
        have hx9 : c - 48 < 10 := by omega
        obtain ⟨x, hx⟩ : ∃ x, c - 48 = x := ⟨_, rfl⟩
        rw [hx] at hw hx9
        have hx9' : (x : Int) < 10 := by omega
        have HD2 : Hid (Sp.digitsV 10 (10 * n + x) (s.data.toList.drop (i + 1)) = Sp.digitsV 10 0 s.data.toList) := by
          show _ = _
          rw [← HD.out, HDR.out i hlt]
          simp only [Sp.digitsV]
          rw [hexv_digit _ (by omega) (by omega), hc, hx]
        have hn2 : 10 * n + x < 10 ^ (i + 1) := by rw [Nat.pow_succ]; omega
        clear hdg hx hi10 hn
        go_wp2
        go_roundw
        case rel => exact ⟨hbw, i + 1, 10 * n + x, by rw [← hN]; rfl, rfl, by omega, hn2, HD2⟩
        case measure => simp [intOf]; omega
      · have q5 : decide ((i : Int) < s.size) = false := decide_eq_false (by omega)
        obtain rfl : i = s.size := by omega
        have hval : Sp.digitsV 10 0 s.data.toList = n := by rw [← HD.out, HEND.out]; rfl
        have hr := HRES.out
        rw [hval] at hr
        by_cases ht2 : top < n
        · rw [if_pos ht2] at hr
          have q6 : decide (N > (top : Int)) = true := decide_eq_true (by omega)
          have HR := Lib.hid hr
          clear hr hval hn hi10 hi
          go_wp2
          go_ret
          exact ⟨ret_int HR.out.symm, hbw⟩
        · rw [if_neg ht2] at hr
          have q6 : decide (N > (top : Int)) = false := decide_eq_false (by omega)
          have HR : Hid (N = res) := by show _ = _; rw [hr, hN]
          clear hr hval hn hi10 hi
          go_wp2
          go_ret
          exact ⟨ret_int HR.out, hbw⟩
end Go.Proofs.YtdmpapoabeljfaaGreatDoor

/-
  THE WALK of reachref3.quad (chapter 3).
-/
set_option linter.unusedVariables false
set_option linter.unusedSimpArgs false
set_option maxRecDepth 100000
set_option maxHeartbeats 2000000
namespace Go.Proofs.YtdmpapoabeljfaaGreatDoor
open Go.RowKit

theorem optI_some {o : Option Nat} {v : Nat} (h : o = some v) : optI o = v := by rw [h]; rfl
theorem optI_none {o : Option Nat} (h : o = none) : optI o = -1 := by rw [h]; rfl
theorem decV_le {top : Nat} {l : List UInt8} {v : Nat} (h : Sp.decV top l = some v) : v ≤ top := by
  unfold Sp.decV at h
  split at h
  · cases h
  split at h
  · cases h
  · injection h with h; omega
theorem ext_take (S : ByteArray) (p : Nat) : (S.extract 0 p).data.toList = S.data.toList.take p := by
  rw [Lib.extract_data, List.drop_zero, Nat.sub_zero]
theorem ext_drop (S : ByteArray) (p : Nat) : (S.extract p S.size).data.toList = S.data.toList.drop p := by
  rw [Lib.extract_data, List.take_of_length_le]
  rw [List.length_drop, ← Lib.size_eq]
  omega
theorem tw_take (q : UInt8 → Bool) : ∀ l : List UInt8, l.take (l.takeWhile q).length = l.takeWhile q
  | [] => rfl
  | c :: r => by
    rw [List.takeWhile_cons]
    by_cases h : q c = true
    · rw [if_pos h, List.length_cons, List.take_succ_cons, tw_take q r]
    · rw [if_neg h]; rfl

/-- So many parts are to come. -/
def QuadR (l : List UInt8) (k N : Nat) (r : List UInt8) : Prop := if k < 4 then Sp.quadF (3 - k) N r = Sp.quadF 3 0 l else Sp.quadF 3 0 l = some N

theorem ref3_quad (s : ByteArray) (w : World) (hs : s.size ≤ 4611686018427387904) :
    Calls Tryz.prog 97 #[.string s] w fun e w' => e = .returned (.int .i64 (optI (Sp.quadF 3 0 s.data.toList))) ∧ Below w.heap.size w w' := by
  obtain ⟨l, hl⟩ : ∃ l, s.data.toList = l := ⟨_, rfl⟩
  rw [hl]
  obtain ⟨res, hres⟩ : ∃ r, optI (Sp.quadF 3 0 l) = r := ⟨_, rfl⟩
  rw [hres]
  have HRES := Lib.hid hres
  have HL := Lib.hid hl
  clear hres hl
  go_enter Tryz.func97, Tryz.ntmps97
  go_wp2
  go_loopw [0, 3, 4, 5, 6, 7] (fun v0 v3 v4 _ _ _ wr => Below w.heap.size w wr ∧ ∃ (k N : Nat) (S : ByteArray), v0 = .string S ∧ v3 = .int .i64 (N : Int) ∧ v4 = .int .i64 (k : Int) ∧ k ≤ 4 ∧ S.size ≤ 4611686018427387904 ∧ N < 256 ^ k ∧ Hid (QuadR l k N S.data.toList)) (fun _ _ v4 _ _ _ _ => 4 - (intOf v4).toNat)
  case atStart => exact ⟨Below.refl _ _, 0, 0, s, rfl, rfl, rfl, by omega, hs, by simp, by show QuadR _ _ _ _; unfold QuadR; rw [if_pos (by omega), HL.out]⟩
  case round =>
    obtain ⟨hbw, k, N, S, rfl, rfl, rfl, hk, hS, hN, HQ⟩ := hrel
    have hN2 : N < 4294967296 := Nat.lt_of_lt_of_le hN (Nat.le_trans (Nat.pow_le_pow_right (by omega) hk) (by decide))
    obtain ⟨M, hM⟩ : ∃ M : Int, (N : Int) = M := ⟨_, rfl⟩
    have hM0 : 0 ≤ M := by omega
    have hM1 : M < 4294967296 := by omega
    rw [hM]
    have hdot := fun W => ref3_dot S W hS
    by_cases hk4 : k < 4
    · have q0 : decide ((k : Int) < 4) = true := decide_eq_true (by omega)
      have hq := HQ.out
      unfold QuadR at hq
      rw [if_pos hk4] at hq
      by_cases hk3 : k < 3
      · have q1 : decide ((k : Int) < 3) = true := decide_eq_true (by omega)
        rw [show 3 - k = (2 - k) + 1 by omega, Sp.quadF] at hq
        rw [Sp.indexByte_tw] at hdot
        by_cases ha : S.data.toList.all (fun x => decide (x ≠ 46)) = true
        · rw [if_pos ha] at hdot hq
          have hr : (-1 : Int) = res := by rw [← HRES.out, optI_none hq.symm]
          have HR := Lib.hid hr
          have HD := Lib.hid hdot
          clear hdot hq hr ha hM hN hN2
          go_wp2_with (go_at_call 96; refine (HD.out _).mono ?_; rintro e w1 ⟨rfl, rfl⟩)
          go_ret
          exact ⟨ret_int HR.out, hbw⟩
        · rw [if_neg ha] at hdot hq
          have hlt := Sp.tw_lt (fun x => decide (x ≠ 46)) _ ha
          have htk := tw_take (fun x => decide (x ≠ 46)) S.data.toList
          obtain ⟨p, hp⟩ : ∃ p, (S.data.toList.takeWhile (fun x => decide (x ≠ 46))).length = p := ⟨_, rfl⟩
          rw [hp] at hdot hq hlt htk
          rw [← Lib.size_eq] at hlt
          rw [← htk, ← ext_take] at hq
          have hsz1 : (S.extract 0 p).size ≤ 4611686018427387904 := by rw [ByteArray.size_extract]; omega
          have hsz2 : (S.extract (p + 1) S.size).size ≤ 4611686018427387904 := by rw [ByteArray.size_extract]; omega
          have hdec := fun W => ref3_decimal (S.extract 0 p) 255 W hsz1 (by omega)
          have hplt : (p : Int) < S.size := by omega
          cases hv : Sp.decV 255 (S.extract 0 p).data.toList with
          | none =>
            rw [hv] at hq
            simp only [optI_none hv] at hdec
            have hr : (-1 : Int) = res := by rw [← HRES.out, optI_none hq.symm]
            have HR := Lib.hid hr
            have HD := Lib.hid hdot
            have HE := Lib.hid hdec
            clear hdot hdec hq hr ha hM hN hN2 hv htk hp
            go_wp2_with (first | (go_at_call 96; refine (HD.out _).mono ?_; rintro e w1 ⟨rfl, rfl⟩) | (go_at_call 99; refine (HE.out _).mono ?_; rintro e w2 ⟨rfl, hb2⟩))
            go_ret
            exact ⟨ret_int HR.out, hbw.trans (hb2.mono hbw.size)⟩
          | some v =>
            have hv255 := decV_le hv
            rw [hv] at hq
            simp only [optI_some hv] at hdec
            have HQ2 : Hid (QuadR l (k + 1) (256 * N + v) (S.extract (p + 1) S.size).data.toList) := by
              show QuadR _ _ _ _
              unfold QuadR
              rw [if_pos (by omega), show 3 - (k + 1) = 2 - k by omega, ext_drop]
              exact hq
            have hN3 : 256 * N + v < 256 ^ (k + 1) := by rw [Nat.pow_succ]; omega
            obtain ⟨V, hV⟩ : ∃ V : Int, (v : Int) = V := ⟨_, rfl⟩
            have hV0 : 0 ≤ V := by omega
            have hV1 : V ≤ 255 := by omega
            have q2 : decide (V < 0) = false := decide_eq_false (by omega)
            simp only [hV] at hdec
            have hE : 256 * M + V = ((256 * N + v : Nat) : Int) := by omega
            have HE2 := Lib.hid hE
            have HD := Lib.hid hdot
            have HE := Lib.hid hdec
            clear hdot hdec hq ha hM hN hN2 hv htk hp hV hE
            go_wp2_with (first | (go_at_call 96; refine (HD.out _).mono ?_; rintro e w1 ⟨rfl, rfl⟩) | (go_at_call 99; refine (HE.out _).mono ?_; rintro e w2 ⟨rfl, hb2⟩))
            go_roundw
            case rel => exact ⟨hbw.trans (hb2.mono hbw.size), k + 1, 256 * N + v, _, rfl, by rw [HE2.out], by rfl, by omega, hsz2, hN3, HQ2⟩
            case measure => simp [intOf]; omega
      · obtain rfl : k = 3 := by omega
        rw [show 3 - 3 = 0 by omega, Sp.quadF] at hq
        have hdec := fun W => ref3_decimal S 255 W hS (by omega)
        obtain ⟨d, hd⟩ : ∃ d : Int, Lib.indexByte S.data.toList 46 = d := ⟨_, rfl⟩
        rw [hd] at hdot
        have HD := Lib.hid hdot
        clear hdot hd
        cases hv : Sp.decV 255 S.data.toList with
        | none =>
          rw [hv] at hq
          simp only [optI_none hv] at hdec
          have hr : (-1 : Int) = res := by rw [← HRES.out, optI_none hq.symm]
          have HR := Lib.hid hr
          have HE := Lib.hid hdec
          clear hdec hq hr hM hN hN2 hv
          go_wp2_with (first | (go_at_call 96; refine (HD.out _).mono ?_; rintro e w1 ⟨rfl, rfl⟩) | (go_at_call 99; refine (HE.out _).mono ?_; rintro e w2 ⟨rfl, hb2⟩))
          go_ret
          exact ⟨ret_int HR.out, hbw.trans (hb2.mono hbw.size)⟩
        | some v =>
          have hv255 := decV_le hv
          rw [hv] at hq
          simp only [optI_some hv] at hdec
          have HQ2 : Hid (QuadR l (3 + 1) (256 * N + v) S.data.toList) := by
            show QuadR _ _ _ _
            unfold QuadR
            rw [if_neg (by omega)]
            exact hq.symm
          have hN3 : 256 * N + v < 256 ^ (3 + 1) := by rw [Nat.pow_succ]; omega
          obtain ⟨V, hV⟩ : ∃ V : Int, (v : Int) = V := ⟨_, rfl⟩
          have hV0 : 0 ≤ V := by omega
          have hV1 : V ≤ 255 := by omega
          have q2 : decide (V < 0) = false := decide_eq_false (by omega)
          simp only [hV] at hdec
          have hE : 256 * M + V = ((256 * N + v : Nat) : Int) := by omega
          have HE2 := Lib.hid hE
          have HE := Lib.hid hdec
          clear hdec hq hM hN hN2 hv hV hE
          go_wp2_with (first | (go_at_call 96; refine (HD.out _).mono ?_; rintro e w1 ⟨rfl, rfl⟩) | (go_at_call 99; refine (HE.out _).mono ?_; rintro e w2 ⟨rfl, hb2⟩))
          go_roundw
          case rel => exact ⟨hbw.trans (hb2.mono hbw.size), 3 + 1, 256 * N + v, _, rfl, by rw [HE2.out], by rfl, by omega, hS, hN3, HQ2⟩
          case measure => simp [intOf]
    · obtain rfl : k = 4 := by omega
      have hq := HQ.out
      unfold QuadR at hq
      rw [if_neg hk4] at hq
      have hr : M = res := by rw [← HRES.out, optI_some hq, hM]
      have HR := Lib.hid hr
      clear hq hr hM hN hN2 hdot
      go_wp2
      go_ret
      exact ⟨ret_int HR.out, hbw⟩
end Go.Proofs.YtdmpapoabeljfaaGreatDoor

/-
  THE WALK of reachref3.number and reachref3.Value (chapter 3).
-/
set_option linter.unusedVariables false
set_option linter.unusedSimpArgs false
set_option maxRecDepth 100000
set_option maxHeartbeats 2000000
namespace Go.Proofs.YtdmpapoabeljfaaGreatDoor
open Go.RowKit

/-- So many digits are to come. -/
def BasR (base : Nat) (o : Option Nat) (n : Nat) (r : List UInt8) : Prop := if r.all (fun c => decide (Sp.hexv c < base)) = true then o = some (Sp.digitsV base n r) else o = none
theorem BasR_start {base most : Nat} {l : List UInt8} (h0 : l.length ≠ 0) (h1 : l.length ≤ most) : BasR base (Sp.basedV base most l) 0 l := by
  unfold BasR Sp.basedV
  by_cases h : l.all (fun c => decide (Sp.hexv c < base)) = true
  · rw [if_pos h, if_neg]
    rintro (h2 | h2 | h2)
    · exact h0 h2
    · omega
    · rw [h] at h2; cases h2
  · rw [if_neg h, if_pos]
    exact Or.inr (Or.inr (by simpa using h))
theorem BasR_step {base : Nat} {o : Option Nat} {n : Nat} {c : UInt8} {r : List UInt8} (h : BasR base o n (c :: r)) (hc : Sp.hexv c < base) : BasR base o (base * n + Sp.hexv c) r := by
  unfold BasR at h ⊢
  rw [List.all_cons, decide_eq_true hc, Bool.true_and] at h
  exact h
theorem BasR_bad {base : Nat} {o : Option Nat} {n : Nat} {c : UInt8} {r : List UInt8} (h : BasR base o n (c :: r)) (hc : ¬ Sp.hexv c < base) : o = none := by
  unfold BasR at h
  rw [List.all_cons, decide_eq_false hc, Bool.false_and, if_neg (by simp)] at h
  exact h
theorem BasR_end {base : Nat} {o : Option Nat} {n : Nat} (h : BasR base o n []) : o = some n := by
  unfold BasR at h
  rw [if_pos (by rfl)] at h
  exact h
theorem ext2 (s : ByteArray) : (s.extract 0 2).toList = s.data.toList.take 2 := by rw [Lib.toList_data, ext_take]
theorem hexv2 (c : UInt8) : Sp.hexv c < 2 ↔ c.toNat = 48 ∨ c.toNat = 49 := by
  unfold Sp.hexv
  split
  · omega
  split
  · omega
  split
  · omega
  · omega

theorem dot_none {l : List UInt8} (h : l.all (fun x => decide (x ≠ 46)) = true) : Lib.indexByte l 46 = -1 := by rw [Sp.indexByte_tw, if_pos h]
theorem dot_some {l : List UInt8} (h : ¬ l.all (fun x => decide (x ≠ 46)) = true) : 0 ≤ Lib.indexByte l 46 := by rw [Sp.indexByte_tw, if_neg h]; omega
theorem num_quad {l : List UInt8} (h : ¬ l.all (fun x => decide (x ≠ 46)) = true) : Sp.numV l = Sp.quadF 3 0 l := by
  unfold Sp.numV
  rw [if_pos (by simpa using h)]
theorem num_hex {l : List UInt8} (h : l.all (fun x => decide (x ≠ 46)) = true) (h2 : l.take 2 = [48, 120]) : Sp.numV l = Sp.basedV 16 8 (l.drop 2) := by
  unfold Sp.numV
  rw [if_neg (by rw [h]; simp), if_pos h2]
theorem num_bin {l : List UInt8} (h : l.all (fun x => decide (x ≠ 46)) = true) (h2 : l.take 2 = [48, 98]) : Sp.numV l = Sp.basedV 2 32 (l.drop 2) := by
  unfold Sp.numV
  rw [if_neg (by rw [h]; simp), if_neg (by rw [h2]; decide), if_pos h2]
theorem num_dec {l : List UInt8} (h : l.all (fun x => decide (x ≠ 46)) = true) (h1 : l.take 2 ≠ [48, 120]) (h2 : l.take 2 ≠ [48, 98]) : Sp.numV l = Sp.decV 4294967295 l := by
  unfold Sp.numV
  rw [if_neg (by rw [h]; simp), if_neg h1, if_neg h2]
theorem dec_letter {l : List UInt8} {c : UInt8} (h : l.take 2 = [48, c]) (hc : 57 < c.toNat) : Sp.decV 4294967295 l = none := by
  unfold Sp.decV
  rw [if_pos]
  refine Or.inr (Or.inr (Or.inl ?_))
  rw [List.all_eq_false]
  refine ⟨c, List.mem_of_mem_take (i := 2) (by rw [h]; simp), ?_⟩
  simp
  omega
theorem based_len {base most : Nat} {l : List UInt8} (h : l.length = 0 ∨ most < l.length) : Sp.basedV base most l = none := by
  unfold Sp.basedV
  rw [if_pos]
  rcases h with h | h
  · exact Or.inl h
  · exact Or.inr (Or.inl h)
theorem two_len {l : List UInt8} {a b : UInt8} (h : l.take 2 = [a, b]) : 2 ≤ l.length := by
  have := congrArg List.length h
  rw [List.length_take] at this
  simp at this
  omega

theorem ref3_number_quad (s : ByteArray) (w : World) (hs : s.size ≤ 4611686018427387904) (h : ¬ s.data.toList.all (fun x => decide (x ≠ 46)) = true) :
    Calls Tryz.prog 79 #[.string s] w fun e w' => e = .returned (.int .i64 (optI (Sp.numV s.data.toList))) ∧ Below w.heap.size w w' := by
  rw [num_quad h]
  have hdot := fun W => ref3_dot s W hs
  have hd0 := dot_some h
  have hquad := fun W => ref3_quad s W hs
  obtain ⟨d, hd⟩ : ∃ d : Int, Lib.indexByte s.data.toList 46 = d := ⟨_, rfl⟩
  rw [hd] at hdot hd0
  have q1 : decide (d ≥ 0) = true := decide_eq_true (by omega)
  have HD := Lib.hid hdot
  have HQ := Lib.hid hquad
  clear hdot hd hquad h
  go_enter Tryz.func79, Tryz.ntmps79
  go_wp2_with (first | (go_at_call 96; refine (HD.out _).mono ?_; rintro e w1 ⟨rfl, rfl⟩) | (go_at_call 97; refine (HQ.out _).mono ?_; rintro e w2 ⟨rfl, hb2⟩))
  go_ret
  exact ⟨rfl, by assumption⟩

theorem ref3_number_dec (s : ByteArray) (w : World) (hs : s.size ≤ 4611686018427387904) (h : s.data.toList.all (fun x => decide (x ≠ 46)) = true)
    (hx : ¬ (3 ≤ s.size ∧ s.size ≤ 10 ∧ s.data.toList.take 2 = [48, 120])) (hb : ¬ (3 ≤ s.size ∧ s.size ≤ 34 ∧ s.data.toList.take 2 = [48, 98])) :
    Calls Tryz.prog 79 #[.string s] w fun e w' => e = .returned (.int .i64 (optI (Sp.numV s.data.toList))) ∧ Below w.heap.size w w' := by
  have hlen := Lib.size_eq s
  have hnum : Sp.numV s.data.toList = Sp.decV 4294967295 s.data.toList := by
    by_cases t1 : s.data.toList.take 2 = [48, 120]
    · rw [num_hex h t1, dec_letter t1 (by decide)]
      have := two_len t1
      refine based_len ?_
      rw [List.length_drop]
      have : ¬ (3 ≤ s.size ∧ s.size ≤ 10) := fun hh => hx ⟨hh.1, hh.2, t1⟩
      omega
    by_cases t2 : s.data.toList.take 2 = [48, 98]
    · rw [num_bin h t2, dec_letter t2 (by decide)]
      have := two_len t2
      refine based_len ?_
      rw [List.length_drop]
      have : ¬ (3 ≤ s.size ∧ s.size ≤ 34) := fun hh => hb ⟨hh.1, hh.2, t2⟩
      omega
    exact num_dec h t1 t2
  rw [hnum]
  have hdot := fun W => ref3_dot s W hs
  have hdec := fun W => ref3_decimal s 4294967295 W hs (by omega)
  simp only [dot_none h] at hdot
  have HD := Lib.hid hdot
  have HE := Lib.hid hdec
  have hX := ext2 s
  have eX : 3 ≤ s.size → s.size ≤ 10 → ((s.extract 0 2).toList == [48, 120]) = false := fun a b => by
    rw [hX, beq_eq_false_iff_ne]
    exact fun e => hx ⟨a, b, e⟩
  have eB : 3 ≤ s.size → s.size ≤ 34 → ((s.extract 0 2).toList == [48, 98]) = false := fun a b => by
    rw [hX, beq_eq_false_iff_ne]
    exact fun e => hb ⟨a, b, e⟩
  clear hdot hdec hnum h hlen hX hx hb
  by_cases c1 : s.size < 3
  · have q1 : decide ((s.size : Int) ≥ 3) = false := decide_eq_false (by omega)
    clear eX eB
    go_enter Tryz.func79, Tryz.ntmps79
    go_wp2_with (first | (go_at_call 96; refine (HD.out _).mono ?_; rintro e w1 ⟨rfl, rfl⟩) | (go_at_call 99; refine (HE.out _).mono ?_; rintro e w2 ⟨rfl, hb2⟩))
    go_ret
    exact ⟨rfl, by assumption⟩
  have q1 : decide ((s.size : Int) ≥ 3) = true := decide_eq_true (by omega)
  by_cases c2 : s.size ≤ 10
  · have q2 : decide ((s.size : Int) ≤ 10) = true := decide_eq_true (by omega)
    have q3 : decide ((s.size : Int) ≤ 34) = true := decide_eq_true (by omega)
    have q4 := eX (by omega) c2
    have q5 := eB (by omega) (by omega)
    clear eX eB
    go_enter Tryz.func79, Tryz.ntmps79
    go_wp2_with (first | (go_at_call 96; refine (HD.out _).mono ?_; rintro e w1 ⟨rfl, rfl⟩) | (go_at_call 99; refine (HE.out _).mono ?_; rintro e w2 ⟨rfl, hb2⟩))
    go_ret
    exact ⟨rfl, by assumption⟩
  have q2 : decide ((s.size : Int) ≤ 10) = false := decide_eq_false (by omega)
  by_cases c3 : s.size ≤ 34
  · have q3 : decide ((s.size : Int) ≤ 34) = true := decide_eq_true (by omega)
    have q5 := eB (by omega) (by omega)
    clear eX eB
    go_enter Tryz.func79, Tryz.ntmps79
    go_wp2_with (first | (go_at_call 96; refine (HD.out _).mono ?_; rintro e w1 ⟨rfl, rfl⟩) | (go_at_call 99; refine (HE.out _).mono ?_; rintro e w2 ⟨rfl, hb2⟩))
    go_ret
    exact ⟨rfl, by assumption⟩
  have q3 : decide ((s.size : Int) ≤ 34) = false := decide_eq_false (by omega)
  clear eX eB
  go_enter Tryz.func79, Tryz.ntmps79
  go_wp2_with (first | (go_at_call 96; refine (HD.out _).mono ?_; rintro e w1 ⟨rfl, rfl⟩) | (go_at_call 99; refine (HE.out _).mono ?_; rintro e w2 ⟨rfl, hb2⟩))
  go_ret
  exact ⟨rfl, by assumption⟩

theorem ref3_number_x (s : ByteArray) (w : World) (h1 : 3 ≤ s.size) (h2 : s.size ≤ 10) (h : s.data.toList.all (fun x => decide (x ≠ 46)) = true) (hx : s.data.toList.take 2 = [48, 120]) :
    Calls Tryz.prog 79 #[.string s] w fun e w' => e = .returned (.int .i64 (optI (Sp.numV s.data.toList))) ∧ Below w.heap.size w w' := by
  have hlen := Lib.size_eq s
  have hdot := fun W => ref3_dot s W (by omega)
  simp only [dot_none h] at hdot
  have HD := Lib.hid hdot
  have q2 : decide ((s.size : Int) ≥ 3) = true := decide_eq_true (by omega)
  have q3 : decide ((s.size : Int) ≤ 10) = true := decide_eq_true (by omega)
  have q4 : ((s.extract 0 2).toList == [48, 120]) = true := by rw [ext2, hx]; decide
  obtain ⟨o, ho⟩ : ∃ o, Sp.numV s.data.toList = o := ⟨_, rfl⟩
  have hB : BasR 16 o 0 (s.data.toList.drop 2) := by
    rw [← ho, num_hex h hx]
    exact BasR_start (by rw [List.length_drop]; omega) (by rw [List.length_drop]; omega)
  rw [ho]
  have HB := Lib.hid hB
  have HDR : Hid (∀ i, (hi : i < s.size) → s.data.toList.drop i = (s[i]'hi) :: s.data.toList.drop (i + 1)) := fun i hi => Sp.drop_cons s i hi
  have HEND : Hid (s.data.toList.drop s.size = []) := List.drop_eq_nil_of_le (by omega)
  clear hdot hlen h hx ho hB
  go_enter Tryz.func79, Tryz.ntmps79
  go_wp2_with (go_at_call 96; refine (HD.out _).mono ?_; rintro e w1 ⟨rfl, rfl⟩)
  go_loopw [3, 4] (fun v3 v4 wr => wr = w1 ∧ ∃ (i n : Nat), v3 = .int .i64 (n : Int) ∧ v4 = .int .i64 (i : Int) ∧ 2 ≤ i ∧ i ≤ s.size ∧ n < 16 ^ (i - 2) ∧ Hid (BasR 16 o n (s.data.toList.drop i))) (fun _ v4 _ => (s.size - intOf v4).toNat)
  case atStart => exact ⟨rfl, 2, 0, rfl, rfl, by omega, by omega, by simp, HB.out⟩
  case round =>
    obtain ⟨rfl, i, n, rfl, rfl, hi2, hi, hn, HR⟩ := hrel
    have hn2 : n < 4294967296 := Nat.lt_of_lt_of_le hn (Nat.le_trans (Nat.pow_le_pow_right (by omega) (show i - 2 ≤ 8 by omega)) (by decide))
    obtain ⟨N, hN⟩ : ∃ N : Int, (n : Int) = N := ⟨_, rfl⟩
    have hN0 : 0 ≤ N := by omega
    have hN1 : N < 4294967296 := by omega
    rw [hN]
    by_cases hlt : i < s.size
    · have q5 : decide ((i : Int) < s.size) = true := decide_eq_true (by omega)
      have hlt' : (i : Int) < s.size := by omega
      have hr := HR.out
      rw [HDR.out i hlt] at hr
      obtain ⟨c, hc⟩ : ∃ c, s[i]'hlt = c := ⟨_, rfl⟩
      rw [hc] at hr
      have hhex := fun W => ref3_hex c W
      by_cases hx : Sp.hexv c < 16
      · have hstep := BasR_step hr hx
        simp only [Sp.hexZ_pos c hx] at hhex
        obtain ⟨x, hxx⟩ : ∃ x, Sp.hexv c = x := ⟨_, rfl⟩
        rw [hxx] at hstep hhex hx
        obtain ⟨X, hX⟩ : ∃ X : Int, (x : Int) = X := ⟨_, rfl⟩
        rw [hX] at hhex
        have hX0 : 0 ≤ X := by omega
        have hX1 : X < 16 := by omega
        have q6 : decide (X < 0) = false := decide_eq_false (by omega)
        have hE : 16 * N + X = ((16 * n + x : Nat) : Int) := by omega
        have hn3 : 16 * n + x < 16 ^ (i + 1 - 2) := by rw [show i + 1 - 2 = (i - 2) + 1 by omega, Nat.pow_succ]; omega
        have HE := Lib.hid hE
        have HH := Lib.hid hhex
        have HS := Lib.hid hstep
        clear hr hstep hhex hxx hX hx hE hN hn hn2
        go_wp2_with (go_at_call 98; refine (HH.out _).mono ?_; rintro e w2 ⟨rfl, rfl⟩)
        go_roundw
        case rel => exact ⟨by trivial, i + 1, 16 * n + x, by rw [HE.out], by rfl, by omega, by omega, hn3, HS⟩
        case measure => simp [intOf]; omega
      · have hbad := BasR_bad hr hx
        simp only [Sp.hexZ_neg c hx] at hhex
        have HO := Lib.hid (optI_none hbad)
        have HH := Lib.hid hhex
        clear hr hbad hhex hx hN hn hn2
        go_wp2_with (go_at_call 98; refine (HH.out _).mono ?_; rintro e w2 ⟨rfl, rfl⟩)
        go_ret
        exact ⟨ret_int HO.out.symm, Below.refl _ _⟩
    · have q5 : decide ((i : Int) < s.size) = false := decide_eq_false (by omega)
      obtain rfl : i = s.size := by omega
      have hr := HR.out
      rw [HEND.out] at hr
      have he := optI_some (BasR_end hr)
      rw [hN] at he
      have HO := Lib.hid he
      clear hr he hN hn hn2
      go_wp2
      go_ret
      exact ⟨ret_int HO.out.symm, Below.refl _ _⟩

theorem ref3_number_b (s : ByteArray) (w : World) (h1 : 3 ≤ s.size) (h2 : s.size ≤ 34) (h : s.data.toList.all (fun x => decide (x ≠ 46)) = true) (hx : s.data.toList.take 2 = [48, 98]) :
    Calls Tryz.prog 79 #[.string s] w fun e w' => e = .returned (.int .i64 (optI (Sp.numV s.data.toList))) ∧ Below w.heap.size w w' := by
  have hlen := Lib.size_eq s
  have hdot := fun W => ref3_dot s W (by omega)
  simp only [dot_none h] at hdot
  have HD := Lib.hid hdot
  have q2 : decide ((s.size : Int) ≥ 3) = true := decide_eq_true (by omega)
  have q3 : decide ((s.size : Int) ≤ 34) = true := decide_eq_true (by omega)
  have q4 : ((s.extract 0 2).toList == [48, 120]) = false := by rw [ext2, hx]; decide
  have q4' : ((s.extract 0 2).toList == [48, 98]) = true := by rw [ext2, hx]; decide
  obtain ⟨o, ho⟩ : ∃ o, Sp.numV s.data.toList = o := ⟨_, rfl⟩
  have hB : BasR 2 o 0 (s.data.toList.drop 2) := by
    rw [← ho, num_bin h hx]
    exact BasR_start (by rw [List.length_drop]; omega) (by rw [List.length_drop]; omega)
  rw [ho]
  have HB := Lib.hid hB
  have HDR : Hid (∀ i, (hi : i < s.size) → s.data.toList.drop i = (s[i]'hi) :: s.data.toList.drop (i + 1)) := fun i hi => Sp.drop_cons s i hi
  have HEND : Hid (s.data.toList.drop s.size = []) := List.drop_eq_nil_of_le (by omega)
  clear hdot hlen h hx ho hB
  by_cases c10 : s.size ≤ 10
  all_goals
    first
      | have q10 : decide ((s.size : Int) ≤ 10) = true := decide_eq_true (by omega)
      | have q10 : decide ((s.size : Int) ≤ 10) = false := decide_eq_false (by omega)
    go_enter Tryz.func79, Tryz.ntmps79
    go_wp2_with (go_at_call 96; refine (HD.out _).mono ?_; rintro e w1 ⟨rfl, rfl⟩)
    go_loopw [5, 6] (fun v3 v4 wr => wr = w1 ∧ ∃ (i n : Nat), v3 = .int .i64 (n : Int) ∧ v4 = .int .i64 (i : Int) ∧ 2 ≤ i ∧ i ≤ s.size ∧ n < 2 ^ (i - 2) ∧ Hid (BasR 2 o n (s.data.toList.drop i))) (fun _ v4 _ => (s.size - intOf v4).toNat)
    case atStart => exact ⟨rfl, 2, 0, rfl, rfl, by omega, by omega, by simp, HB.out⟩
    case round =>
      obtain ⟨rfl, i, n, rfl, rfl, hi2, hi, hn, HR⟩ := hrel
      have hn2 : n < 4294967296 := Nat.lt_of_lt_of_le hn (Nat.le_trans (Nat.pow_le_pow_right (by omega) (show i - 2 ≤ 32 by omega)) (by decide))
      obtain ⟨N, hN⟩ : ∃ N : Int, (n : Int) = N := ⟨_, rfl⟩
      have hN0 : 0 ≤ N := by omega
      have hN1 : N < 4294967296 := by omega
      rw [hN]
      by_cases hlt : i < s.size
      · have q5 : decide ((i : Int) < s.size) = true := decide_eq_true (by omega)
        have hlt' : (i : Int) < s.size := by omega
        have hr := HR.out
        rw [HDR.out i hlt] at hr
        obtain ⟨c, hc⟩ : ∃ c, (s[i]'hlt).toNat = c := ⟨_, rfl⟩
        by_cases hx : c = 48 ∨ c = 49
        · have hx2 : Sp.hexv (s[i]'hlt) < 2 := (hexv2 _).2 (by omega)
          have hstep := BasR_step hr hx2
          rw [hexv_digit _ (by omega) (by omega), hc] at hstep
          have hw := sub48 c (by omega) (by omega)
          obtain ⟨x, hxx⟩ : ∃ x, c - 48 = x := ⟨_, rfl⟩
          have hx1 : x < 2 := by omega
          rw [hxx] at hstep hw
          obtain ⟨X, hX⟩ : ∃ X : Int, (x : Int) = X := ⟨_, rfl⟩
          rw [hX] at hw
          have hX0 : 0 ≤ X := by omega
          have hX1 : X < 2 := by omega
          have q6 : ((c : Int) != 48 && (c : Int) != 49) = false := by
            rcases hx with rfl | rfl <;> decide
          have hE : 2 * N + X = ((2 * n + x : Nat) : Int) := by omega
          have hn3 : 2 * n + x < 2 ^ (i + 1 - 2) := by rw [show i + 1 - 2 = (i - 2) + 1 by omega, Nat.pow_succ]; omega
          have HE := Lib.hid hE
          have HS := Lib.hid hstep
          have HXX := Lib.hid hxx
          have HXI := Lib.hid hX
          rcases hx with rfl | rfl
          · have q7 : (((48 : Nat) : Int) != 48) = false := by decide
            clear hr hstep hx2 hxx hX hE hn hn2 q6
            have HN := Lib.hid hN
            clear hN
            go_wp2
            go_roundw
            case rel => exact ⟨by trivial, i + 1, 2 * n + x, by congr 1; have := HN.out; have := HXX.out; have := HXI.out; omega, by rfl, by omega, by omega, hn3, HS⟩
            case measure => simp [intOf]; omega
          · have q7 : (((49 : Nat) : Int) != 48) = true := by decide
            have q8 : (((49 : Nat) : Int) != 49) = false := by decide
            clear hr hstep hx2 hxx hX hE hn hn2 q6
            have HN := Lib.hid hN
            clear hN
            go_wp2
            go_roundw
            case rel => exact ⟨by trivial, i + 1, 2 * n + x, by congr 1; have := HN.out; have := HXX.out; have := HXI.out; omega, by rfl, by omega, by omega, hn3, HS⟩
            case measure => simp [intOf]; omega
        · have hbad := BasR_bad hr (fun h => hx (by have := (hexv2 _).1 h; omega))
          have q7 : ((c : Int) != 48) = true := by rw [bne_iff_ne]; omega
          have q8 : ((c : Int) != 49) = true := by rw [bne_iff_ne]; omega
          have HO := Lib.hid (optI_none hbad)
          clear hr hbad hx hN hn hn2
          go_wp2
          go_ret
          exact ⟨ret_int HO.out.symm, Below.refl _ _⟩
      · have q5 : decide ((i : Int) < s.size) = false := decide_eq_false (by omega)
        obtain rfl : i = s.size := by omega
        have hr := HR.out
        rw [HEND.out] at hr
        have he := optI_some (BasR_end hr)
        rw [hN] at he
        have HO := Lib.hid he
        clear hr he hN hn hn2
        go_wp2
        go_ret
        exact ⟨ret_int HO.out.symm, Below.refl _ _⟩

theorem ref3_number (s : ByteArray) (w : World) (hs : s.size ≤ 4611686018427387904) :
    Calls Tryz.prog 79 #[.string s] w fun e w' => e = .returned (.int .i64 (optI (Sp.numV s.data.toList))) ∧ Below w.heap.size w w' := by
  by_cases h : s.data.toList.all (fun x => decide (x ≠ 46)) = true
  · by_cases hx : 3 ≤ s.size ∧ s.size ≤ 10 ∧ s.data.toList.take 2 = [48, 120]
    · exact ref3_number_x s w hx.1 hx.2.1 h hx.2.2
    by_cases hb : 3 ≤ s.size ∧ s.size ≤ 34 ∧ s.data.toList.take 2 = [48, 98]
    · exact ref3_number_b s w hb.1 hb.2.1 h hb.2.2
    exact ref3_number_dec s w hs h hx hb
  · exact ref3_number_quad s w hs h
end Go.Proofs.YtdmpapoabeljfaaGreatDoor
