/-
  THE WALK of the law ScanSaysAlike (chapter 3).
-/
import Derived.Test.YtjedoipbllcfdaaDoorWv
set_option linter.unusedVariables false
set_option linter.unusedSimpArgs false
set_option maxRecDepth 100000
set_option maxHeartbeats 1000000
namespace Go.Proofs.YtjedoipbllcfdaaDoor
open Go.RowKit

theorem unq_err {l : List UInt8} (h : (Sp.unquoteV l).2.1 ≠ 0) : (Sp.unquoteV l).1 = [] := by
  unfold Sp.unquoteV at h ⊢
  split
  · rfl
  split
  · rfl
  simp only
  split
  · rfl
  split
  · rfl
  split
  · rfl
  · rename_i h1 h2 h3 h4 h5
    rw [if_neg h1, if_neg h2] at h
    simp only at h
    rw [if_neg h3, if_neg h4, if_neg h5] at h
    exact absurd rfl h
theorem unq_fine {l : List UInt8} (h : (Sp.unquoteV l).2.1 = 0) : (Sp.unquoteV l).1.length ≤ 256 := by
  unfold Sp.unquoteV at h ⊢
  split
  · simp
  split
  · simp
  simp only
  split
  · simp
  split
  · simp
  split
  · simp
  · rename_i h5
    simp only
    omega
theorem unq_x41 : Sp.unquoteV [34, 92, 120, 52, 49, 34] = ([65], 0, 0) := by decide
theorem quo_A : Sp.quoteV [65] = ([34, 65, 34], 0) := by decide

theorem law_saysAlike (s : ByteArray) (w : World) (hG : Gl w) (hs : s.size ≤ 9223372036854775807) :
    Calls Tryd.prog 4 #[.string s] w fun e w' => e = .returned (.bool true) ∧ Below w.heap.size w w' := by
  have h1 := fun W (hW : Gl W) => scan_unquote ⟨#[34, 92, 120, 52, 49, 34]⟩ W hW (by decide)
  have h2 := fun W (hW : Gl W) => scan_quote ⟨#[65]⟩ W hW (by decide)
  unfold UnqEnd at h1
  unfold QuoEnd at h2
  rw [unq_x41] at h1
  rw [quo_A] at h2
  have H1 := Lib.hid h1
  have H2 := Lib.hid h2
  have HG := Lib.hid hG
  have h3 := fun W (hW : Gl W) => scan_unquote s W hW hs
  unfold UnqEnd at h3
  by_cases c0 : (Sp.unquoteV s.data.toList).2.1 = 0
  · have hlen := unq_fine c0
    obtain ⟨l, hl⟩ : ∃ l, (Sp.unquoteV s.data.toList).1 = l := ⟨_, rfl⟩
    obtain ⟨p, hp⟩ : ∃ p : Int, ((Sp.unquoteV s.data.toList).2.2 : Int) = p := ⟨_, rfl⟩
    rw [hl] at hlen
    simp only [c0, hl, hp] at h3
    have h4 := fun W (hW : Gl W) => scan_quote ⟨l.toArray⟩ W hW (by show l.toArray.size ≤ _; simp; omega)
    unfold QuoEnd at h4
    have hq : Sp.quoteV l = ([34] ++ Sp.bodyV l ++ [34], 0) := by unfold Sp.quoteV; rw [if_neg (by omega)]
    have hbl := (Sp.bodyV_le l.length l (Nat.le_refl _)).2
    have he : (⟨l.toArray⟩ : ByteArray).data.toList = l := by simp
    rw [he, hq] at h4
    obtain ⟨q, hqq⟩ : ∃ q, [34] ++ Sp.bodyV l ++ [34] = q := ⟨_, rfl⟩
    have h5 := fun W (hW : Gl W) => scan_unquote ⟨q.toArray⟩ W hW (by show q.toArray.size ≤ _; rw [← hqq]; simp; omega)
    unfold UnqEnd at h5
    have he2 : (⟨q.toArray⟩ : ByteArray).data.toList = q := by simp
    rw [he2, ← hqq, Sp.unquote_quote l hlen, hqq] at h5
    rw [hqq] at h4
    simp only at h4 h5
    obtain ⟨u, hu⟩ : ∃ u : ByteArray, (⟨l.toArray⟩ : ByteArray) = u := ⟨_, rfl⟩
    obtain ⟨z, hz⟩ : ∃ z : ByteArray, (⟨q.toArray⟩ : ByteArray) = z := ⟨_, rfl⟩
    simp only [hu, hz] at h3 h4 h5
    have H3 := Lib.hid h3
    have H4 := Lib.hid h4
    have H5 := Lib.hid h5
    clear h1 h2 h3 h4 h5 hG hlen hl hp hq hbl he he2 hqq hu hz c0
    go_enter Tryd.func4, Tryd.ntmps4
    go_wp2_with (first
      | (go_at_call 11; have hg5 := hg4.below hb4; refine (H5.out _ hg5).mono ?_; rintro e w5 ⟨rfl, hb5⟩)
      | (go_at_call 11; have hg3 := hg2.below hb2; refine (H3.out _ hg3).mono ?_; rintro e w3 ⟨rfl, hb3⟩)
      | (go_at_call 11; refine (H1.out _ HG.out).mono ?_; rintro e w1 ⟨rfl, hb1⟩)
      | (go_at_call 13; have hg4 := hg3.below hb3; refine (H4.out _ hg4).mono ?_; rintro e w4 ⟨rfl, hb4⟩)
      | (go_at_call 13; have hg2 := HG.out.below hb1; refine (H2.out _ hg2).mono ?_; rintro e w2 ⟨rfl, hb2⟩))
    go_ret
    refine ⟨rfl, ?_⟩
    have s1 := hb1.size; have s2 := hb2.size; have s3 := hb3.size; have s4 := hb4.size
    exact (((hb1.trans (hb2.mono (by omega))).trans (hb3.mono (by omega))).trans (hb4.mono (by omega))).trans (hb5.mono (by omega))
  · have hl := unq_err c0
    obtain ⟨c, hc⟩ : ∃ c : Int, ((Sp.unquoteV s.data.toList).2.1 : Int) = c := ⟨_, rfl⟩
    obtain ⟨p, hp⟩ : ∃ p : Int, ((Sp.unquoteV s.data.toList).2.2 : Int) = p := ⟨_, rfl⟩
    simp only [hl, hc, hp] at h3
    have qc : (c != 0) = true := by rw [bne_iff_ne]; omega
    have H3 := Lib.hid h3
    clear h1 h2 h3 hG hl hc hp c0
    go_enter Tryd.func4, Tryd.ntmps4
    go_wp2_with (first
      | (go_at_call 11; have hg3 := hg2.below hb2; refine (H3.out _ hg3).mono ?_; rintro e w3 ⟨rfl, hb3⟩)
      | (go_at_call 11; refine (H1.out _ HG.out).mono ?_; rintro e w1 ⟨rfl, hb1⟩)
      | (go_at_call 13; have hg2 := HG.out.below hb1; refine (H2.out _ hg2).mono ?_; rintro e w2 ⟨rfl, hb2⟩))
    go_ret
    refine ⟨rfl, ?_⟩
    have s1 := hb1.size; have s2 := hb2.size
    exact (hb1.trans (hb2.mono (by omega))).trans (hb3.mono (by omega))
end Go.Proofs.YtjedoipbllcfdaaDoor
