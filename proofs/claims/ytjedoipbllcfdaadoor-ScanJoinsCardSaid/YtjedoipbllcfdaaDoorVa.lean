/-
  THE WALKS of reachref3.dot and reachref3.all (chapter 3).
-/
import Derived.Test.YtjedoipbllcfdaaDoorSpG
import Derived.Test.YtjedoipbllcfdaaDoorSpR
import Derived.Test.YtjedoipbllcfdaaDoorWg
set_option linter.unusedVariables false
set_option linter.unusedSimpArgs false
set_option maxRecDepth 100000
set_option maxHeartbeats 2000000
namespace Go.Proofs.YtjedoipbllcfdaaDoor
open Go.RowKit

theorem index_first (c : UInt8) : ∀ (l : List UInt8) (i : Nat), (∀ j, j < i → l[j]? ≠ some c) → l[i]? = some c → Lib.indexByte l c = i
  | [], i, _, h => by simp at h
  | b :: l, 0, _, h => by
    simp at h
    subst h
    simp [Lib.indexByte]
  | b :: l, i + 1, h, h2 => by
    have hb : b ≠ c := by
      have := h 0 (by omega)
      simpa using this
    have ih := index_first c l i (fun j hj => by have := h (j + 1) (by omega); simpa using this) (by simpa using h2)
    rw [Sp.indexByte_tw] at ih ⊢
    by_cases ha : l.all (fun x => decide (x ≠ c)) = true
    · rw [if_pos ha] at ih
      omega
    · rw [if_neg ha] at ih
      rw [if_neg (by simp only [List.all_cons]; simp [hb]; simpa using ha), List.takeWhile_cons, if_pos (by simpa using hb), List.length_cons]
      omega
theorem index_no (c : UInt8) (l : List UInt8) (h : ∀ j, j < l.length → l[j]? ≠ some c) : Lib.indexByte l c = -1 := by
  rw [Sp.indexByte_tw, if_pos]
  rw [List.all_eq_true]
  intro x hx
  obtain ⟨j, hj, rfl⟩ := List.getElem_of_mem hx
  have := h j hj
  rw [List.getElem?_eq_getElem hj] at this
  simpa using this

theorem ref3_dot (s : ByteArray) (w : World) (hs : s.size ≤ 4611686018427387904) :
    Calls Tryd.prog 47 #[.string s] w fun e w' => e = .returned (.int .i64 (Lib.indexByte s.data.toList 46)) ∧ w' = w := by
  have hsl := Lib.size_eq s
  go_enter Tryd.func47, Tryd.ntmps47
  go_wp2
  go_loopw [3] (fun v3 wr => wr = w ∧ ∃ i : Nat, v3 = .int .i64 (i : Int) ∧ i ≤ s.size ∧ Hid (∀ j, j < i → s.data.toList[j]? ≠ some 46)) (fun v3 _ => (s.size - intOf v3).toNat)
  case atStart => exact ⟨rfl, 0, rfl, by omega, fun j hj => by omega⟩
  case round =>
    obtain ⟨hw, i, rfl, hi, HP⟩ := hrel
    by_cases hlt : i < s.size
    · have q1 : decide ((i : Int) < s.size) = true := decide_eq_true (by omega)
      have hlt' : (i : Int) < s.size := by omega
      have hg : s.data.toList[i]? = some (s[i]'hlt) := by
        rw [List.getElem?_eq_getElem (by omega), ← Sp.get_idx s i hlt (by omega)]
      by_cases hc : (s[i]'hlt).toNat = 46
      · have q2 : (((s[i]'hlt).toNat : Int) == 46) = true := beq_iff_eq.2 (by omega)
        have hF : Lib.indexByte s.data.toList 46 = i := index_first 46 _ i HP.out (by rw [hg]; exact congrArg some (UInt8.toNat_inj.1 hc))
        have HF := Lib.hid hF
        clear hF hg hsl
        go_wp2
        go_ret
        exact ⟨ret_int HF.out.symm, rfl⟩
      · have q2 : (((s[i]'hlt).toNat : Int) == 46) = false := beq_eq_false_iff_ne.2 (by omega)
        have HP2 : Hid (∀ j, j < i + 1 → s.data.toList[j]? ≠ some 46) := by
          intro j hj
          by_cases hji : j = i
          · subst hji
            rw [hg]
            intro e
            injection e with e
            exact hc (by rw [e]; rfl)
          · exact HP.out j (by omega)
        clear hg hsl
        go_wp2
        go_roundw
        case rel => exact ⟨by trivial, i + 1, by rfl, by omega, HP2⟩
        case measure => simp [intOf]; omega
    · have q1 : decide ((i : Int) < s.size) = false := decide_eq_false (by omega)
      have hF : Lib.indexByte s.data.toList 46 = -1 := index_no 46 _ (fun j hj => HP.out j (by omega))
      have HF := Lib.hid hF
      clear hF hsl
      go_wp2
      go_ret
      exact ⟨ret_int HF.out.symm, rfl⟩

theorem contains_snoc (l : List UInt8) (k : Nat) (hk : k < l.length) (c : UInt8) : (l.take (k + 1)).contains c = ((l.take k).contains c || (l[k]'hk == c)) := by
  rw [List.take_succ_eq_append_getElem hk]
  rw [Bool.eq_iff_iff]
  simp only [List.contains_iff_mem, Bool.or_eq_true, List.mem_append, List.mem_singleton, beq_iff_eq]
  constructor <;> (rintro (h | h); exact Or.inl h; exact Or.inr h.symm)

theorem ref3_all (s cs : ByteArray) (w : World) (hs : s.size ≤ 4611686018427387904) (hcs : cs.size ≤ 4611686018427387904) :
    Calls Tryd.prog 76 #[.string s, .string cs] w fun e w' => e = .returned (.bool (s.data.toList.all (cs.data.toList.contains ·))) ∧ Below w.heap.size w w' := by
  have HSL := Lib.hid (Lib.size_eq s)
  have HCL := Lib.hid (Lib.size_eq cs)
  go_enter Tryd.func76, Tryd.ntmps76
  go_wp2
  go_loopw [5, 6, 7] (fun v5 v6 v7 wr => Below w.heap.size w wr ∧ ∃ i : Nat, v5 = .int .i64 (i : Int) ∧ i ≤ s.size ∧ Hid (∀ j, (hj : j < s.data.toList.length) → j < i → cs.data.toList.contains (s.data.toList[j]'hj) = true)) (fun v5 _ _ _ => (s.size - intOf v5).toNat)
  case atStart => exact ⟨Below.refl _ _, 0, rfl, by omega, fun j _ hj => by omega⟩
  case round =>
    obtain ⟨hbw, i, rfl, hi, HP⟩ := hrel
    by_cases hlt : i < s.size
    · have q1 : decide ((i : Int) < s.size) = true := decide_eq_true (by omega)
      have hlt' : (i : Int) < s.size := by omega
      obtain ⟨c, hc⟩ : ∃ c, s[i]'hlt = c := ⟨_, rfl⟩
      have hgi : s.data.toList[i]'(by rw [← HSL.out]; exact hlt) = c := by rw [← hc, Sp.get_idx s i hlt (by rw [← HSL.out]; exact hlt)]
      have HGI := Lib.hid hgi
      clear hgi
      go_wp2
      go_loopw [6, 7] (fun v6 v7 wr2 => Below w.heap.size w wr2 ∧ ∃ k : Nat, v7 = .int .i64 (k : Int) ∧ k ≤ cs.size ∧ v6 = .bool ((cs.data.toList.take k).contains c)) (fun _ v7 _ => (cs.size - intOf v7).toNat)
      case atStart => exact ⟨hbw, 0, rfl, by omega, rfl⟩
      case round =>
        obtain ⟨hbw2, k, rfl, hk, rfl⟩ := hrel
        by_cases hklt : k < cs.size
        · have q2 : decide ((k : Int) < cs.size) = true := decide_eq_true (by omega)
          have hklt' : (k : Int) < cs.size := by omega
          obtain ⟨d, hd⟩ : ∃ d, cs[k]'hklt = d := ⟨_, rfl⟩
          have hsn := contains_snoc cs.data.toList k (by rw [← HCL.out]; exact hklt) c
          rw [← Sp.get_idx cs k hklt (by rw [← HCL.out]; exact hklt), hd] at hsn
          by_cases hcd : c.toNat = d.toNat
          · have q3 : ((c.toNat : Int) == (d.toNat : Int)) = true := beq_iff_eq.2 (by omega)
            have hT : (cs.data.toList.take (k + 1)).contains c = true := by rw [hsn, UInt8.toNat_inj.1 hcd]; simp
            have HT := Lib.hid hT
            clear hsn hT
            go_wp2
            go_region
            all_goals go_wp2
            all_goals refine ⟨⟨below_drewN' hbw2 1, k + 1, rfl, by omega, congrArg Value.bool HT.out.symm⟩, ?_⟩
            all_goals (simp [intOf]; omega)
          · have q3 : ((c.toNat : Int) == (d.toNat : Int)) = false := beq_eq_false_iff_ne.2 (by omega)
            have hT : (cs.data.toList.take (k + 1)).contains c = (cs.data.toList.take k).contains c := by
              rw [hsn]
              have : (d == c) = false := by
                rw [beq_eq_false_iff_ne]
                rintro rfl
                exact hcd rfl
              rw [this, Bool.or_false]
            have HT := Lib.hid hT
            clear hsn hT
            go_wp2
            go_region
            all_goals go_wp2
            all_goals refine ⟨⟨below_drewN' hbw2 1, k + 1, rfl, by omega, congrArg Value.bool HT.out.symm⟩, ?_⟩
            all_goals (simp [intOf]; omega)
        · have q2 : decide ((k : Int) < cs.size) = false := decide_eq_false (by omega)
          have htk : cs.data.toList.take k = cs.data.toList := List.take_of_length_le (by rw [← HCL.out]; omega)
          rw [htk]
          by_cases hin : cs.data.toList.contains c = true
          · have HP2 : Hid (∀ j, (hj : j < s.data.toList.length) → j < i + 1 → cs.data.toList.contains (s.data.toList[j]'hj) = true) := by
              intro j hj hji
              by_cases e : j = i
              · subst e
                rw [HGI.out]
                exact hin
              · exact HP.out j hj (by omega)
            rw [hin]
            clear htk hin
            go_wp2
            go_roundw
            case rel => exact ⟨hbw2, i + 1, rfl, by omega, HP2⟩
            case measure => simp [intOf]; omega
          · have hin2 : cs.data.toList.contains c = false := by simpa using hin
            have hall : s.data.toList.all (cs.data.toList.contains ·) = false := by
              rw [List.all_eq_false]
              refine ⟨c, ?_, hin⟩
              rw [← HGI.out]
              exact List.getElem_mem _
            have HALL := Lib.hid hall
            rw [hin2]
            clear htk hin hin2 hall
            go_wp2
            first | go_ret | (dsimp (config := { zetaDelta := true }) only [Exit.noGoto, Exit.inBlock, Exit.then]; go_ret)
            exact ⟨ret_bool HALL.out.symm, hbw2⟩
    · have q1 : decide ((i : Int) < s.size) = false := decide_eq_false (by omega)
      have hall : s.data.toList.all (cs.data.toList.contains ·) = true := by
        rw [List.all_eq_true]
        intro x hx
        obtain ⟨j, hj, rfl⟩ := List.getElem_of_mem hx
        exact HP.out j hj (by rw [← HSL.out] at hj; omega)
      have HALL := Lib.hid hall
      clear hall
      go_wp2
      go_ret
      exact ⟨ret_bool HALL.out.symm, hbw⟩
end Go.Proofs.YtjedoipbllcfdaaDoor
