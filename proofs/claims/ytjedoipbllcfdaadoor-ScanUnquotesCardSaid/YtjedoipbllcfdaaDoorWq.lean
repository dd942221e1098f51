/-
  THE WALK of the law ScanUnquotes (chapter 3).
-/
import Derived.Test.YtjedoipbllcfdaaDoorWo
set_option linter.unusedVariables false
set_option linter.unusedSimpArgs false
set_option maxRecDepth 100000
set_option maxHeartbeats 800000
namespace Go.Proofs.YtjedoipbllcfdaaDoor
open Go.RowKit

theorem unquote_head : Sp.unquoteV [34, 97, 34] = ([97], 0, 0) := by decide

theorem law_unquotes (s : ByteArray) (w : World) (hG : Gl w) (hs : s.size ≤ 9223372036854775807) :
    Calls Tryd.prog 3 #[.string s] w fun e w' => e = .returned (.bool true) ∧ Below w.heap.size w w' := by
  obtain ⟨u, hu⟩ : ∃ u : ByteArray, (⟨(Sp.unquoteV s.data.toList).1.toArray⟩ : ByteArray) = u := ⟨_, rfl⟩
  obtain ⟨c, hc⟩ : ∃ c : Int, ((Sp.unquoteV s.data.toList).2.1 : Int) = c := ⟨_, rfl⟩
  obtain ⟨p, hp⟩ : ∃ p : Int, ((Sp.unquoteV s.data.toList).2.2 : Int) = p := ⟨_, rfl⟩
  have h1 := fun W (hW : Gl W) => scan_unquote s W hW hs
  have h2 := fun W => ref3_unquote s W hs
  have h3 := fun W (hW : Gl W) => scan_unquote ⟨#[34, 97, 34]⟩ W hW (by decide)
  unfold UnqEnd at h1 h2 h3
  rw [unquote_head] at h3
  simp only [hu, hc, hp] at h1 h2
  have HG := Lib.hid hG
  have H1 := Lib.hid h1
  have H2 := Lib.hid h2
  have H3 := Lib.hid h3
  clear h1 h2 h3 hG hu hc hp
  go_enter Tryd.func3, Tryd.ntmps3
  go_wp2_with (first
    | (go_at_call 11; have hg3 := (HG.out.below hb1).below hb2; refine (H3.out _ hg3).mono ?_; rintro e w3 ⟨rfl, hb3⟩)
    | (go_at_call 11; refine (H1.out _ HG.out).mono ?_; rintro e w1 ⟨rfl, hb1⟩)
    | (go_at_call 12; refine (H2.out _).mono ?_; rintro e w2 ⟨rfl, hb2⟩))
  go_ret
  refine ⟨rfl, ?_⟩
  exact (hb1.trans (hb2.mono hb1.size)).trans (hb3.mono (by have := hb1.size; have := hb2.size; omega))
end Go.Proofs.YtjedoipbllcfdaaDoor
