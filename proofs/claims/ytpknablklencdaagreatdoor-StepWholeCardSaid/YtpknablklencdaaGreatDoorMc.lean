/-
  THE WALKS of step.write, slices.Index, slices.Contains on lists of numbers (chapter 10).
-/
import Derived.Test.YtpknablklencdaaGreatDoorMb
import Derived.Laws.IdiomStrings
set_option linter.unusedVariables false
set_option linter.unusedSimpArgs false
set_option maxRecDepth 100000
set_option maxHeartbeats 4000000
namespace Go.Proofs.YtpknablklencdaaGreatDoor
open Go.RowKit

namespace Sp
def wrB (a b : UInt8) : UInt8 := if a = 120 then b else a
def wrL : List UInt8 → List UInt8 → List UInt8
  | a :: r, b :: s => wrB a b :: wrL r s
  | _, s => s
/-- A rewriting word over a header. -/
def wordV (word h : ByteArray) : ByteArray := ⟨(wrL word.data.toList h.data.toList).toArray⟩
theorem wrL_len : ∀ a b : List UInt8, (wrL a b).length = b.length
  | [], b => by cases b <;> rfl
  | _ :: _, [] => rfl
  | a :: r, b :: s => by rw [wrL, List.length_cons, List.length_cons, wrL_len r s]
theorem wrL_at : ∀ (a b : List UInt8) (i : Nat) (x y : UInt8), a[i]? = some x → b[i]? = some y → (wrL a b)[i]? = some (wrB x y)
  | [], b, i, x, y, h, _ => by simp at h
  | _ :: _, [], i, x, y, _, h => by simp at h
  | a :: r, b :: s, 0, x, y, h1, h2 => by
    simp at h1 h2
    subst h1 h2
    rfl
  | a :: r, b :: s, i + 1, x, y, h1, h2 => by
    rw [wrL, List.getElem?_cons_succ]
    exact wrL_at r s i x y (by simpa using h1) (by simpa using h2)
end Sp
/-- Bytes of the call's own. -/
def BV (w : World) (B n : Nat) (f : Nat → UInt8) : Prop := B < w.heap.size ∧ ∀ j, j < n → w.cell? ⟨B, j, none⟩ = some (.int .u8 ((f j).toNat : Int)) ∧ w.frozen? ⟨B, j, none⟩ = false
theorem BV.set {w : World} {B n i : Nat} {f : Nat → UInt8} (h : BV w B n f) (hi : i < n) (c : UInt8) : BV (w.setCell ⟨B, i, none⟩ (.int .u8 (c.toNat : Int))) B n (fun j => if j = i then c else f j) := by
  refine ⟨by rw [World.size_setCell]; exact h.1, fun j hj => ⟨?_, by rw [World.frozen?_setCell]; exact (h.2 j hj).2⟩⟩
  by_cases hji : j = i
  · subst hji
    show _ = some (Value.int .u8 (((if j = j then c else f j).toNat : Nat) : Int))
    rw [if_pos rfl]
    exact World.cell?_setCell_same' _ _ _ (by rw [(h.2 j hj).1]; rfl)
  · show _ = some (Value.int .u8 (((if j = i then c else f j).toNat : Nat) : Int))
    rw [if_neg hji, World.cell?_setCell_other _ _ _ _ (show (⟨B, i, none⟩ : Addr) ≠ ⟨B, j, none⟩ from fun e => hji (by injection e with _ e _; exact e.symm))]
    exact (h.2 j hj).1
theorem bv_new (w : World) (s : ByteArray) (cap : Nat) (hc : s.size ≤ cap) (hs : s.size ≤ 1000000) :
    BV (w.alloc (.cells (bytesRow s cap) 5 ((bytesRow s cap).size, (bytesRow s cap).size + 1))).drew w.heap.size s.size (fun j => s.data.toList.getD j 0) := by
  have hsz : (bytesRow s cap).size = cap := by
    unfold bytesRow
    rw [Array.size_append, Array.size_map, Array.size_replicate]
    show s.data.size + _ = _
    have : s.data.size = s.size := rfl
    omega
  have hh := heap_alloc_new w (.cells (bytesRow s cap) 5 ((bytesRow s cap).size, (bytesRow s cap).size + 1))
  refine ⟨by show w.heap.size < (w.alloc _).heap.size; rw [World.size_alloc]; omega, fun j hj => ⟨?_, ?_⟩⟩
  · have hjs : j < s.data.size := hj
    have := World.news_of_block hh j (.int .u8 ((s.data.toList.getD j 0).toNat : Int)) (by
      rw [Array.getElem?_toList]
      unfold bytesRow
      rw [Array.getElem?_append_left (by rw [Array.size_map]; exact hjs), Array.getElem?_map, Array.getElem?_eq_getElem hjs, List.getD_eq_getElem?_getD, Array.getElem?_toList, Array.getElem?_eq_getElem hjs]
      rfl)
    rw [xadd_plain, Nat.zero_add] at this
    exact this
  · have := World.frozen?_alloc_mark w (bytesRow s cap) 5 (bytesRow s cap).size ((bytesRow s cap).size + 1) j
    show World.frozen? (w.alloc _) ⟨w.heap.size, j, none⟩ = false
    rw [this, hsz, decide_eq_false (by omega)]
    rfl
theorem bv_string {w : World} {B n cap : Nat} {f : Nat → UInt8} (h : BV w B n f) (l : List UInt8) (hl : l.length = n) (hf : ∀ j x, l[j]? = some x → f j = x) :
    (convert 96 9 (.slice (some ⟨B, 0, none⟩) n cap)).run Tryz.prog w = .ok (.string ⟨l.toArray⟩) w := by
  subst hl
  refine run_convert_bytes_back w 96 9 5 ⟨B, 0, none⟩ cap l Tryz.underlying96 Tryz.underlying5 Tryz.underlying9 ?_
  intro j hj
  rw [xadd_plain, Nat.zero_add, (h.2 j hj).1, hf j _ (List.getElem?_eq_getElem hj)]
theorem step_write (word h : ByteArray) (w : World) (hw : word.size = h.size) (hh : h.size ≤ 1000000) :
    Calls Tryz.prog 39 #[.string word, .string h] w fun e w' => e = .returned (.string (Sp.wordV word h)) ∧ Below w.heap.size w w' := by
  have hcv := run_bytes_of_string (P := Tryz.prog) w 9 96 5 h Tryz.underlying9 Tryz.underlying96 Tryz.underlying5
  obtain ⟨cap, hcap⟩ : ∃ cap, grownCap w h.size 0 5 = cap := ⟨_, rfl⟩
  rw [hcap] at hcv
  have hge : h.size ≤ cap := by rw [← hcap]; exact grownCap_ge w _ _ _
  clear hcap
  have hbv := bv_new w h cap hge hh
  have hbl : Below w.heap.size w (w.alloc (.cells (bytesRow h cap) 5 ((bytesRow h cap).size, (bytesRow h cap).size + 1))).drew := ((Below.refl _ _).alloc (Nat.le_refl _) _).drew
  have HBV := Lib.hid hbv
  have HBL := Lib.hid hbl
  obtain ⟨n, hn⟩ : ∃ n, h.size = n := ⟨_, rfl⟩
  rw [hn] at hw hh
  have HN := Lib.hid hn
  have HW := Lib.hid hw
  have n0 : (0 : Int) ≤ (n : Int) := by omega
  clear hbv hbl hge hw
  go_enter Tryz.func39, Tryz.ntmps39
  go_wp2
  clear hcv
  clear hn
  go_loopw [11] (fun v11 wr => ∃ i : Nat, v11 = .int .i64 (i : Int) ∧ i ≤ n ∧ Below w.heap.size w wr ∧ ∃ f, BV wr w.heap.size n f ∧ Hid (∀ j, j < n → f j = if j < i then Sp.wrB (word.data.toList.getD j 0) (h.data.toList.getD j 0) else h.data.toList.getD j 0)) (fun v11 _ => n - (intOf v11).toNat)
  case atStart => exact ⟨0, rfl, Nat.zero_le _, HBL.out, _, by have := HBV.out; rw [HN.out] at this; exact this, Lib.hid (fun j hj => by rw [if_neg (by omega)])⟩
  case round =>
    obtain ⟨i, rfl, hi, hb, f, hbv, hf⟩ := hrel
    have HB := Lib.hid hb
    have i0 : (0 : Int) ≤ (i : Int) := by omega
    have hwz := HW.out
    have hnz := HN.out
    by_cases hlt : i < n
    · have p1 : decide ((i : Int) < (n : Int)) = true := decide_eq_true (by omega)
      have p2 : decide (i < n) = true := decide_eq_true hlt
      have p3 : (i : Int) < (n : Int) := by omega
      have hiw : i < word.size := by omega
      have hih : i < h.size := by omega
      have p4 : (i : Int) < (word.size : Int) := by omega
      have z1 : IntKind.i64.wrap ((i : Int) + 1) = (i : Int) + 1 := by rw [IntKind.wrap_i64]; omega
      have gw : word.data.toList.getD i 0 = word[i]'hiw := by rw [List.getD_eq_getElem?_getD, List.getElem?_eq_getElem (by simpa using hiw)]; rfl
      have gh : h.data.toList.getD i 0 = h[i]'hih := by rw [List.getD_eq_getElem?_getD, List.getElem?_eq_getElem (by simpa using hih)]; rfl
      obtain ⟨q0, q1⟩ := hbv.2 i hlt
      have HBV3 := Lib.hid hbv
      have b1 := UInt8.toNat_lt (word[i]'hiw)
      by_cases hx : word[i]'hiw = 120
      · have x1 : (((word[i]'hiw).toNat : Int) != 120) = false := by rw [hx]; rfl
        have hnx : ∀ j, j < n → f j = if j < i + 1 then Sp.wrB (word.data.toList.getD j 0) (h.data.toList.getD j 0) else h.data.toList.getD j 0 := by
          intro j hj
          rw [hf.out j hj]
          by_cases hji : j = i
          · subst hji
            rw [if_neg (by omega), if_pos (by omega), gw, hx]
            rfl
          · by_cases hj2 : j < i
            · rw [if_pos hj2, if_pos (by omega)]
            · rw [if_neg hj2, if_neg (by omega)]
        have HNX := Lib.hid hnx
        have HI := Lib.hid (show i + 1 ≤ n by omega)
        clear hb hi hlt hbv hf hnx gw gh hx hwz hnz
        go_wp2
        go_roundw
        case rel => exact ⟨i + 1, by rfl, HI.out, HB.out, f, HBV3.out, HNX⟩
        case measure => have := HI.out; simp [intOf]; omega
      · have x1 : (((word[i]'hiw).toNat : Int) != 120) = true := by rw [bne_iff_ne]; intro e; exact hx (UInt8.toNat_inj.1 (by rw [show (120 : UInt8).toNat = 120 from rfl]; omega))
        have hnx : ∀ j, j < n → (fun j => if j = i then word[i]'hiw else f j) j = if j < i + 1 then Sp.wrB (word.data.toList.getD j 0) (h.data.toList.getD j 0) else h.data.toList.getD j 0 := by
          intro j hj
          show (if j = i then word[i]'hiw else f j) = _
          by_cases hji : j = i
          · subst hji
            rw [if_pos rfl, if_pos (by omega), gw, Sp.wrB, if_neg hx]
          · rw [if_neg hji, hf.out j hj]
            by_cases hj2 : j < i
            · rw [if_pos hj2, if_pos (by omega)]
            · rw [if_neg hj2, if_neg (by omega)]
        have HNX := Lib.hid hnx
        have HI := Lib.hid (show i + 1 ≤ n by omega)
        have HIL := Lib.hid hlt
        clear hb hi hlt hbv hf hnx gw gh hx hwz hnz
        go_wp2
        go_roundw
        case rel => exact ⟨i + 1, by rfl, HI.out, HB.out.setCell (p := ⟨w.heap.size, i, none⟩) (Nat.le_refl _) _, _, HBV3.out.set HIL.out _, HNX⟩
        case measure => have := HI.out; simp [intOf]; omega
    · have p1 : decide ((i : Int) < (n : Int)) = false := decide_eq_false (by omega)
      have p2 : decide (i < n) = false := decide_eq_false hlt
      have hst := bv_string (cap := cap) hbv (Sp.wrL word.data.toList h.data.toList) (by rw [Sp.wrL_len]; exact hnz) (by
        intro j x hx
        have hj : j < n := by
          have := (List.getElem?_eq_some_iff.1 hx).1
          rw [Sp.wrL_len] at this
          have e : h.data.toList.length = h.size := rfl
          omega
        have hjw : j < word.data.toList.length := by show j < word.size; omega
        have hjh : j < h.data.toList.length := by show j < h.size; omega
        rw [Sp.wrL_at _ _ j _ _ (List.getElem?_eq_getElem hjw) (List.getElem?_eq_getElem hjh)] at hx
        injection hx with hx
        rw [hf.out j hj, if_pos (by omega), List.getD_eq_getElem?_getD, List.getElem?_eq_getElem hjw, List.getD_eq_getElem?_getD, List.getElem?_eq_getElem hjh, ← hx]
        rfl)
      clear hb hi hlt hbv hf hwz hnz
      go_wp2
      go_ret
      exact ⟨by rfl, HB.out⟩
end Go.Proofs.YtpknablklencdaaGreatDoor
