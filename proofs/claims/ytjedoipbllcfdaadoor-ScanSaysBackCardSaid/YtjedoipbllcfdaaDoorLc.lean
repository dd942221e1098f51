/-
  THE WALK of the law ScanSaysBack (chapter 3).
-/
import Derived.Test.YtjedoipbllcfdaaDoorLa
import Derived.Test.YtjedoipbllcfdaaDoorPc
import Derived.Test.YtjedoipbllcfdaaDoorWt
import Derived.Test.YtjedoipbllcfdaaDoorWo
set_option linter.unusedVariables false
set_option linter.unusedSimpArgs false
set_option maxRecDepth 100000
set_option maxHeartbeats 2000000
namespace Go.Proofs.YtjedoipbllcfdaaDoor
open Go.RowKit

theorem law_saysBack (s : ByteArray) (w : World) (hG : Gs w) (hs : s.size ≤ 140737488351232) :
    Calls Tryd.prog 10 #[.string s] w fun e w' => e = .returned (.bool true) ∧ Below w.heap.size w w' := by
  have hsl := Lib.size_eq s
  have hq := fun W (hW : Gl W) => scan_quote s W hW (by omega)
  unfold QuoEnd at hq
  by_cases h1 : 256 < s.size
  · have hv : Sp.quoteV s.data.toList = ([], 37) := by unfold Sp.quoteV; rw [if_pos (by omega)]
    rw [hv] at hq
    have q1 : decide ((s.size : Int) > 256) = true := decide_eq_true (by omega)
    have HQ := Lib.hid hq
    have HG := Lib.hid hG
    have q2 : ((⟨#[]⟩ : ByteArray).toList.isEmpty) = true := by rw [Lib.toList_data]; rfl
    clear hq hG hv hsl
    go_enter Tryd.func10, Tryd.ntmps10
    go_wp2_with (go_at_call 13; refine (HQ.out _ HG.out.toGl).mono ?_; rintro e w1 ⟨rfl, hb1⟩)
    go_ret
    exact ⟨ret_bool (by simp), by assumption⟩
  have hv : Sp.quoteV s.data.toList = ([34] ++ Sp.bodyV s.data.toList ++ [34], 0) := by unfold Sp.quoteV; rw [if_neg (by omega)]
  have hbl := (Sp.bodyV_le _ s.data.toList (Nat.le_refl _)).2
  have hun := Sp.unquote_quote s.data.toList (by omega)
  have hcl := Sp.quote_clean s.data.toList
  rw [hv] at hq
  obtain ⟨q, hqq⟩ : ∃ q, [34] ++ Sp.bodyV s.data.toList ++ [34] = q := ⟨_, rfl⟩
  have hql : q.length ≤ 2562 := by
    rw [← hqq, List.length_append, List.length_append, List.length_singleton]
    omega
  simp only [hqq] at hq
  rw [hqq] at hun hcl
  obtain ⟨col, hsc⟩ := Sp.scan_one_quote hun (by omega) hcl
  obtain ⟨Q, hQ⟩ : ∃ Q : ByteArray, (⟨q.toArray⟩ : ByteArray) = Q := ⟨_, rfl⟩
  have hQl : Q.data.toList = q := by rw [← hQ]
  have hQs : Q.size ≤ 2562 := by rw [Lib.size_eq, hQl]; exact hql
  simp only [hQ] at hq
  have hu := fun W (hW : Gl W) => scan_unquote Q W hW (by omega)
  unfold UnqEnd at hu
  rw [hQl, hun] at hu
  have hss : (⟨s.data.toList.toArray⟩ : ByteArray) = s := rfl
  simp only [hss] at hu
  have hS : ScanSays Q [(6, q, 1, 1), (1, [10], 1, col)] 0 0 0 := scan_says Q (by omega) (by rw [hQl]; exact hsc)
  have hcl2 : ∀ i, (hi : i < Q.size) → 32 ≤ (Q[i]'hi).toNat ∧ (Q[i]'hi).toNat ≠ 127 := by
    intro i hi
    rw [Sp.get_idx Q i hi (by rw [← Lib.size_eq]; exact hi)]
    exact hcl _ (by rw [← hQl]; exact List.getElem_mem _)
  have q1 : decide ((s.size : Int) > 256) = false := decide_eq_false (by omega)
  have q2 : (s.toList != s.toList) = false := by simp
  have q3 : (Q.toList == Q.toList) = true := by simp
  have HQ := Lib.hid hq
  have HU := Lib.hid hu
  have HS := Lib.hid hS
  have HG := Lib.hid hG
  have HC := Lib.hid hcl2
  have HQ2 := Lib.hid hQ
  clear hq hu hS hG hcl2 hv hbl hun hcl hqq hql hsc hQl hss hsl hQ
  go_enter Tryd.func10, Tryd.ntmps10
  go_wp2_with (first
    | (go_at_call 13; refine (HQ.out _ HG.out.toGl).mono ?_; rintro e w1 ⟨rfl, hb1⟩; have hg1 := HG.out.below hb1)
    | (go_at_call 11; refine (HU.out _ hg1.toGl).mono ?_; rintro e w2 ⟨rfl, hb2⟩))
  have hg2 := hg1.below hb2
  have HG2 := Lib.hid hg2
  go_loopw [8] (fun v8 wr => wr = w2 ∧ ∃ i : Nat, v8 = .int .i64 (i : Int) ∧ i ≤ Q.size) (fun v8 _ => Q.size - (intOf v8).toNat)
  case atStart => exact ⟨rfl, 0, rfl, by omega⟩
  case round =>
    obtain ⟨rfl, i, rfl, hi⟩ := hrel
    by_cases hlt : i < Q.size
    · have p1 : decide ((i : Int) < Q.size) = true := decide_eq_true (by omega)
      have p2 : (i : Int) < Q.size := by omega
      obtain ⟨k1, k2⟩ := HC.out i hlt
      have p3 : decide (((Q[i]'hlt).toNat : Int) < 32) = false := decide_eq_false (by omega)
      have p4 : (((Q[i]'hlt).toNat : Int) == 127) = false := beq_eq_false_iff_ne.2 (by omega)
      clear k1 k2
      go_wp2
      go_roundw
      case rel => exact ⟨by trivial, i + 1, by rfl, by omega⟩
      case measure => simp [intOf]; omega
    · have p1 : decide ((i : Int) < Q.size) = false := decide_eq_false (by omega)
      go_wp2_with (go_at_call 16; refine (HS.out _ HG2.out).mono ?_; rintro e w3 ⟨A, cap, rfl, hv3, hb3⟩; obtain ⟨g, rfl, hg, x1, x2, x3, x4⟩ := hv3 0 _ rfl; simp only [HQ2.out, Nat.zero_mul, Nat.zero_add] at x1 x2 x3 x4)
      go_ret
      exact ⟨ret_bool (by simp), (hb1.trans (hb2.mono hb1.size)).trans (hb3.mono (by have := hb1.size; have := hb2.size; omega))⟩
end Go.Proofs.YtjedoipbllcfdaaDoor
