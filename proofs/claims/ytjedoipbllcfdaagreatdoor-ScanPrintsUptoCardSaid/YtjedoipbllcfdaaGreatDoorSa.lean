/-
  THE WALKS of scan.isSign and scan.printable (chapter 3).
-/
import Derived.Test.YtjedoipbllcfdaaGreatDoorLa
import Derived.Test.YtjedoipbllcfdaaGreatDoorQd
set_option linter.unusedVariables false
set_option linter.unusedSimpArgs false
set_option maxRecDepth 100000
set_option maxHeartbeats 4000000
namespace Go.Proofs.YtjedoipbllcfdaaGreatDoor
open Go.RowKit

/-- A token in Go's memory, of whatever kind and place. -/
abbrev ZTok := Int × ByteArray × Int × Int
def zv (z : ZTok) : Value := .agg #[.int .i64 z.1, .string z.2.1, .int .i64 z.2.2.1, .int .i64 z.2.2.2]
def ptZ (z : ZTok) : Sp.Pt := (z.1, z.2.1.data.toList)
/-- Is it one of these signs? -/
def sgnL (k : Int) (t : List UInt8) (ls : List (List UInt8)) : Bool := k == 7 && ls.contains t

theorem scan_isSign (k l c : Int) (t : ByteArray) (ls : List (List UInt8)) (h n cap : Nat) (w : World) (hn : ls.length = n) (hnb : n ≤ 100) (hh : h < w.heap.size) (hc : ∀ i x, ls[i]? = some x → w.cell? ⟨h, i, none⟩ = some (.string ⟨x.toArray⟩)) :
    Calls Tryz.prog 29 #[.agg #[.int .i64 k, .string t, .int .i64 l, .int .i64 c], .slice (some ⟨h, 0, none⟩) n cap] w fun e w' => e = .returned (.bool (sgnL k t.data.toList ls)) ∧ Below w.heap.size w w' := by
  obtain ⟨W1, hW1⟩ : ∃ W1, w.alloc (.cells #[.int .i64 k, .string t, .int .i64 l, .int .i64 c] 25) = W1 := ⟨_, rfl⟩
  have c0 : W1.cell? ⟨w.heap.size, 0, none⟩ = some (.int .i64 k) := by rw [← hW1]; exact World.cell?_alloc_at _ _ _ _ rfl
  have c1 : W1.cell? ⟨w.heap.size, 1, none⟩ = some (.string t) := by rw [← hW1]; exact World.cell?_alloc_at _ _ _ _ rfl
  have hb1 : Below w.heap.size w W1 := by rw [← hW1]; exact (Below.refl _ _).alloc (Nat.le_refl _) _
  have hc1 : ∀ i x, ls[i]? = some x → W1.cell? ⟨h, i, none⟩ = some (.string ⟨x.toArray⟩) := fun i x hi => (hb1.cell (p := ⟨h, i, none⟩) hh).trans (hc i x hi)
  have HW := Lib.hid hW1
  have HC := Lib.hid hc1
  have HB := Lib.hid hb1
  have HN := Lib.hid hn
  clear hW1 hb1 hc hc1 hn
  by_cases hk : k = 7
  · have q0 : ((k : Int) != 7) = false := by rw [bne_eq_false_iff_eq]; exact hk
    have HK := Lib.hid hk
    clear hk
    go_enter Tryz.func29, Tryz.ntmps29
    go_wp2_with fail
    rw [HW.out]
    go_wp2_with fail
    go_loopw [6, 12] (fun _ v12 wr => wr = W1 ∧ ∃ i : Nat, v12 = .int .i64 (i : Int) ∧ i ≤ n ∧ Hid (ls.contains t.data.toList = (ls.drop i).contains t.data.toList)) (fun _ v12 _ => n - (intOf v12).toNat)
    case atStart => exact ⟨rfl, 0, rfl, by omega, rfl⟩
    case round =>
      obtain ⟨rfl, i, rfl, hi, HF⟩ := hrel
      by_cases hlt : i < n
      · have q1 : decide ((i : Int) < n) = true := decide_eq_true (by omega)
        have p1 : (i : Int) < n := by omega
        have p2 : (0 : Int) ≤ (i : Int) := by omega
        have hil : i < ls.length := by rw [HN.out]; exact hlt
        obtain ⟨x, hx⟩ : ∃ x, ls[i]'hil = x := ⟨_, rfl⟩
        have hg : ls[i]? = some x := by rw [List.getElem?_eq_getElem hil, hx]
        have hf := HF.out
        rw [List.drop_eq_getElem_cons hil, hx, List.contains_cons] at hf
        have d0 := HC.out i x hg
        obtain ⟨B, hB⟩ : ∃ B : ByteArray, (⟨x.toArray⟩ : ByteArray) = B := ⟨_, rfl⟩
        have hBT : B.toList = x := by rw [Lib.toList_data, ← hB]
        rw [hB] at d0
        by_cases hm : t.data.toList = x
        · have q3 : (t.toList == B.toList) = true := by rw [hBT, Lib.toList_data, hm]; simp
          have hr : sgnL k t.data.toList ls = true := by unfold sgnL; rw [hf, hm, HK.out]; simp
          have HR := Lib.hid hr
          clear hf HF hx hg hB hBT hm hr
          go_wp2
          go_ret
          exact ⟨ret_bool HR.out.symm, HB.out⟩
        · have q3 : (t.toList == B.toList) = false := by rw [hBT, Lib.toList_data, beq_eq_false_iff_ne]; exact hm
          have HF2 : Hid (ls.contains t.data.toList = (ls.drop (i + 1)).contains t.data.toList) := by
            show _ = _
            rw [hf, beq_eq_false_iff_ne.2 hm, Bool.false_or]
          clear hf HF hx hg hB hBT hm
          go_wp2
          go_roundw
          case rel => exact ⟨by trivial, i + 1, by rfl, by omega, HF2⟩
          case measure => simp [intOf]; omega
      · have q1 : decide ((i : Int) < n) = false := decide_eq_false (by omega)
        have hr : sgnL k t.data.toList ls = false := by unfold sgnL; rw [HF.out, List.drop_eq_nil_of_le (by rw [HN.out]; omega)]; simp
        have HR := Lib.hid hr
        clear HF hr
        go_wp2
        go_ret
        exact ⟨ret_bool HR.out.symm, HB.out⟩
  · have q0 : ((k : Int) != 7) = true := by rw [bne_iff_ne]; exact hk
    have hr : sgnL k t.data.toList ls = false := by unfold sgnL; rw [beq_eq_false_iff_ne.2 hk]; rfl
    have HR := Lib.hid hr
    clear hr hk
    go_enter Tryz.func29, Tryz.ntmps29
    go_wp2_with fail
    rw [HW.out]
    go_wp2_with fail
    go_ret
    exact ⟨ret_bool HR.out.symm, HB.out⟩

theorem scan_printable (k l c : Int) (t : ByteArray) (w : World) (hG : Gs w) (hs : t.size ≤ 1073741824) :
    Calls Tryz.prog 17 #[.agg #[.int .i64 k, .string t, .int .i64 l, .int .i64 c]] w fun e w' => e = .returned (.bool (Sp.okT (k, t.data.toList))) ∧ Below w.heap.size w w' := by
  have hsl := Lib.size_eq t
  obtain ⟨W1, hW1⟩ : ∃ W1, w.alloc (.cells #[.int .i64 k, .string t, .int .i64 l, .int .i64 c] 25) = W1 := ⟨_, rfl⟩
  have c0 : W1.cell? ⟨w.heap.size, 0, none⟩ = some (.int .i64 k) := by rw [← hW1]; exact World.cell?_alloc_at _ _ _ _ rfl
  have c1 : W1.cell? ⟨w.heap.size, 1, none⟩ = some (.string t) := by rw [← hW1]; exact World.cell?_alloc_at _ _ _ _ rfl
  have hz1 : w.heap.size < W1.heap.size := by rw [← hW1]; simp
  have hb1 : Below w.heap.size w W1 := by rw [← hW1]; exact (Below.refl _ _).alloc (Nat.le_refl _) _
  have hG1 : Gs W1 := hG.below hb1
  have HW := Lib.hid hW1
  have HB := Lib.hid hb1
  clear hW1 hb1 hG
  by_cases hk : k = 1
  · have q0 : ((k : Int) == 1) = true := beq_iff_eq.2 hk
    by_cases ht : t.data.toList = [10]
    · have q1 : (t.toList == [10]) = true := by rw [Lib.toList_data, ht]; simp
      have hr : Sp.okT (k, t.data.toList) = true := by unfold Sp.okT; rw [if_pos hk, ht]; rfl
      have HR := Lib.hid hr
      clear hr hk ht hsl
      go_enter Tryz.func17, Tryz.ntmps17
      go_wp2_with fail
      rw [HW.out]
      go_wp2_with fail
      go_ret
      exact ⟨ret_bool HR.out.symm, HB.out⟩
    · have q1 : (t.toList == [10]) = false := by rw [Lib.toList_data, beq_eq_false_iff_ne]; exact ht
      have hr : Sp.okT (k, t.data.toList) = false := by unfold Sp.okT; rw [if_pos hk]; exact beq_eq_false_iff_ne.2 ht
      have HR := Lib.hid hr
      clear hr hk ht hsl
      go_enter Tryz.func17, Tryz.ntmps17
      go_wp2_with fail
      rw [HW.out]
      go_wp2_with fail
      go_ret
      exact ⟨ret_bool HR.out.symm, HB.out⟩
  have q0 : ((k : Int) == 1) = false := beq_eq_false_iff_ne.2 hk
  by_cases ht : t.data.toList = []
  · have q1 : (t.toList == []) = true := by rw [Lib.toList_data, ht]; rfl
    have q2 : t.toList.isEmpty = true := by rw [Lib.toList_data, ht]; rfl
    have hr : Sp.okT (k, t.data.toList) = false := by unfold Sp.okT; rw [if_neg hk, ht]; rfl
    have HR := Lib.hid hr
    clear hr hk ht hsl
    go_enter Tryz.func17, Tryz.ntmps17
    go_wp2_with fail
    rw [HW.out]
    go_wp2_with fail
    go_ret
    exact ⟨ret_bool HR.out.symm, HB.out⟩
  have q1 : (t.toList == []) = false := by rw [Lib.toList_data, beq_eq_false_iff_ne]; exact ht
  have q2 : t.toList.isEmpty = false := by rw [Lib.toList_data]; simpa using ht
  have hpc := scan_piece t W1 hG1 hs
  unfold PieceEnd at hpc
  obtain ⟨pk, pn, po, pc, hp⟩ : ∃ pk pn po pc, Sp.pieceV t.data.toList = (pk, pn, po, pc) := ⟨_, _, _, _, rfl⟩
  rw [hp] at hpc
  simp only [] at hpc
  have HP := Lib.hid hpc
  have hr : Sp.okT (k, t.data.toList) = ((pc == 0) && ((pk : Int) == k) && (pn == t.size)) := by
    unfold Sp.okT
    simp only []
    rw [if_neg hk, hp, hsl]
    have : t.data.toList.isEmpty = false := by simpa using ht
    rw [this]
    rfl
  clear hp hpc ht hsl hk
  have hw0 : w.heap.size ≤ W1.heap.size := by omega
  by_cases e1 : pc = 0
  · have q3 : ((pc : Int) == 0) = true := beq_iff_eq.2 (by omega)
    rw [e1] at hr
    by_cases e2 : (pk : Int) = k
    · have q4 : ((pk : Int) == k) = true := beq_iff_eq.2 e2
      rw [q4] at hr
      by_cases e3 : pn = t.size
      · have q5 : ((pn : Int) == t.size) = true := beq_iff_eq.2 (by omega)
        have HR := Lib.hid hr
        have HE3 := Lib.hid e3
        clear hr e1 e2 e3
        go_enter Tryz.func17, Tryz.ntmps17
        go_wp2_with fail
        rw [HW.out]
        go_wp2_with (go_at_call 28; refine HP.out.mono ?_; rintro e w2 ⟨rfl, hb2⟩; have c0 : w2.cell? ⟨w.heap.size, 0, none⟩ = some (.int .i64 k) := (hb2.cell (p := ⟨w.heap.size, 0, none⟩) hz1).trans c0; have c1 : w2.cell? ⟨w.heap.size, 1, none⟩ = some (.string t) := (hb2.cell (p := ⟨w.heap.size, 1, none⟩) hz1).trans c1)
        go_ret
        exact ⟨ret_bool (by rw [HR.out, beq_iff_eq.2 HE3.out]; rfl), HB.out.trans (hb2.mono hw0)⟩
      · have q5 : ((pn : Int) == t.size) = false := beq_eq_false_iff_ne.2 (by omega)
        have HR := Lib.hid hr
        have HE3 := Lib.hid e3
        clear hr e1 e2 e3
        go_enter Tryz.func17, Tryz.ntmps17
        go_wp2_with fail
        rw [HW.out]
        go_wp2_with (go_at_call 28; refine HP.out.mono ?_; rintro e w2 ⟨rfl, hb2⟩; have c0 : w2.cell? ⟨w.heap.size, 0, none⟩ = some (.int .i64 k) := (hb2.cell (p := ⟨w.heap.size, 0, none⟩) hz1).trans c0; have c1 : w2.cell? ⟨w.heap.size, 1, none⟩ = some (.string t) := (hb2.cell (p := ⟨w.heap.size, 1, none⟩) hz1).trans c1)
        go_ret
        exact ⟨ret_bool (by rw [HR.out, beq_eq_false_iff_ne.2 HE3.out]; simp), HB.out.trans (hb2.mono hw0)⟩
    · have q4 : ((pk : Int) == k) = false := beq_eq_false_iff_ne.2 e2
      rw [q4] at hr
      have HR := Lib.hid hr
      clear hr e1 e2
      go_enter Tryz.func17, Tryz.ntmps17
      go_wp2_with fail
      rw [HW.out]
      go_wp2_with (go_at_call 28; refine HP.out.mono ?_; rintro e w2 ⟨rfl, hb2⟩; have c0 : w2.cell? ⟨w.heap.size, 0, none⟩ = some (.int .i64 k) := (hb2.cell (p := ⟨w.heap.size, 0, none⟩) hz1).trans c0; have c1 : w2.cell? ⟨w.heap.size, 1, none⟩ = some (.string t) := (hb2.cell (p := ⟨w.heap.size, 1, none⟩) hz1).trans c1)
      go_ret
      exact ⟨ret_bool (by rw [HR.out]; simp), HB.out.trans (hb2.mono hw0)⟩
  · have q3 : ((pc : Int) == 0) = false := beq_eq_false_iff_ne.2 (by omega)
    rw [beq_eq_false_iff_ne.2 e1] at hr
    have HR := Lib.hid hr
    clear hr e1
    go_enter Tryz.func17, Tryz.ntmps17
    go_wp2_with fail
    rw [HW.out]
    go_wp2_with (go_at_call 28; refine HP.out.mono ?_; rintro e w2 ⟨rfl, hb2⟩; have c0 : w2.cell? ⟨w.heap.size, 0, none⟩ = some (.int .i64 k) := (hb2.cell (p := ⟨w.heap.size, 0, none⟩) hz1).trans c0; have c1 : w2.cell? ⟨w.heap.size, 1, none⟩ = some (.string t) := (hb2.cell (p := ⟨w.heap.size, 1, none⟩) hz1).trans c1)
    go_ret
    exact ⟨ret_bool (by rw [HR.out]; simp), HB.out.trans (hb2.mono hw0)⟩
end Go.Proofs.YtjedoipbllcfdaaGreatDoor
