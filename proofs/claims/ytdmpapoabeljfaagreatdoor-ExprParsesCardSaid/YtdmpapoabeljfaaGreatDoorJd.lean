/-
  THE WALK of the law ExprParses (chapter 5).
-/
import Derived.Test.YtdmpapoabeljfaaGreatDoorJc
import Derived.Test.YtdmpapoabeljfaaGreatDoorFn
set_option linter.unusedVariables false
set_option linter.unusedSimpArgs false
set_option maxRecDepth 100000
set_option maxHeartbeats 4000000
namespace Go.Proofs.YtdmpapoabeljfaaGreatDoor
open Go.RowKit

theorem law_parses (s : ByteArray) (w : World) (hG : Gr w) (hs : s.size ≤ 140737488351232) :
    Calls Tryz.prog 4 #[.string s] w fun e w' => e = .returned (.bool true) ∧ Below w.heap.size w w' := by
  have hs2 : s.size ≤ 9223372036854775807 := by omega
  obtain ⟨R, hR⟩ : ∃ R, Sp.parseV s.data.toList = R := ⟨_, rfl⟩
  have HE := Lib.hid (expr_parse s w hG.toGs hs2)
  have HRF := Lib.hid (fun (W : World) (hb : Below w.heap.size w W) => ref5_parse s W (hG.below hb) hs2)
  rw [hR] at HE HRF
  clear hR hG hs hs2
  cases R with
  | bad c col =>
    have q5 : ((c : Int) == (c : Int)) = true := by rw [beq_iff_eq]
    have q6 : ((col : Int) == (col : Int)) = true := by rw [beq_iff_eq]
    go_enter Tryz.func4, Tryz.ntmps4
    go_wp2_with fail
    refine HE.out.mono ?_
    rintro e w1 ⟨rfl, h1⟩
    have HB1 := Lib.hid h1
    clear h1
    go_wp2_with fail
    refine (HRF.out w1 HB1.out).mono ?_
    rintro e w2 ⟨rfl, h2⟩
    have HB2 := Lib.hid (HB1.out.trans (h2.mono HB1.out.size))
    have HAL := Lib.hid (fun W (h : w2 = W) => law5_alike (.slice none 0 0) (.slice none 0 0) 0 0 [] W (World.ownsRow_nil _ _ _ _) (World.ownsRow_nil _ _ _ _) (by simp))
    clear h2
    go_wp2_with fail
    refine (law5_num _ _).mono ?_
    rintro e w3 ⟨rfl, hw3⟩
    go_wp2_with fail
    refine (HAL.out _ hw3).mono ?_
    rintro e w4 ⟨rfl, h4⟩
    subst hw3
    have HB4 := Lib.hid (HB2.out.trans (h4.mono HB2.out.size))
    clear h4
    go_wp2_with fail
    go_ret
    exact ⟨by rfl, HB4.out⟩
  | ok ns =>
    go_enter Tryz.func4, Tryz.ntmps4
    go_wp2_with fail
    refine HE.out.mono ?_
    rintro e w1 ⟨va, rfl, hna, h1, hl⟩
    have HB1 := Lib.hid h1
    obtain ⟨Aa, ca, rfl, _⟩ := nds_form hna
    have HNA := Lib.hid hna
    have HLN := Lib.hid hl
    clear hna hl
    clear h1
    go_wp2_with fail
    refine (HRF.out w1 HB1.out).mono ?_
    rintro e w2 ⟨vb, rfl, hnb, h2, _⟩
    have HB2 := Lib.hid (HB1.out.trans (h2.mono HB1.out.size))
    obtain ⟨Ab, cb, rfl, _⟩ := nds_form hnb
    have HNA2 := Lib.hid (nds_below HNA.out h2)
    have HNB := Lib.hid hnb
    clear hnb
    have HAL := Lib.hid (fun W (h : w2 = W) => law5_alike _ _ _ _ ns W (h ▸ HNA2.out) (h ▸ HNB.out) (by have := HLN.out; omega))
    clear h2
    go_wp2_with fail
    refine (law5_num _ _).mono ?_
    rintro e w3 ⟨rfl, hw3⟩
    go_wp2_with fail
    refine (HAL.out _ hw3).mono ?_
    rintro e w4 ⟨rfl, h4⟩
    subst hw3
    have HB4 := Lib.hid (HB2.out.trans (h4.mono HB2.out.size))
    clear h4
    go_wp2_with fail
    go_ret
    exact ⟨by rfl, HB4.out⟩
end Go.Proofs.YtdmpapoabeljfaaGreatDoor
