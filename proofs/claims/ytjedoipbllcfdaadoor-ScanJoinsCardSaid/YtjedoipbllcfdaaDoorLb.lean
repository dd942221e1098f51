/-
  THE WALK of the law ScanJoins (chapter 3).
-/
import Derived.Test.YtjedoipbllcfdaaDoorLa
import Derived.Test.YtjedoipbllcfdaaDoorSpM
import Derived.Laws.Concat
set_option linter.unusedVariables false
set_option linter.unusedSimpArgs false
set_option maxRecDepth 100000
set_option maxHeartbeats 4000000
namespace Go.Proofs.YtjedoipbllcfdaaDoor
open Go.RowKit

theorem law_joins_long (a b : ByteArray) (w : World) (ha : a.size ≤ 140737488351232) (hb : b.size ≤ 140737488351232) (h : 16384 < a.size + b.size + 1) :
    Calls Tryd.prog 7 #[.string a, .string b] w fun e w' => e = .returned (.bool true) ∧ Below w.heap.size w w' := by
  have q1 : decide ((a.size : Int) + b.size + 1 > 16384) = true := decide_eq_true (by omega)
  go_enter Tryd.func7, Tryd.ntmps7
  go_wp2
  go_ret
  exact ⟨rfl, Below.refl _ _⟩

theorem keep8 {w w5 : World} {g1 g2 i j : Nat} {x1 x2 x3 x4 y1 y2 y3 y4 : Value} (hb : Below w.drew.heap.size w.drew w5) (h1 : g1 < w.heap.size) (h2 : g2 < w.heap.size)
    (h : w.cell? ⟨g1, i * 4, none⟩ = some x1 ∧ w.cell? ⟨g1, i * 4 + 1, none⟩ = some x2 ∧ w.cell? ⟨g1, i * 4 + 2, none⟩ = some x3 ∧ w.cell? ⟨g1, i * 4 + 3, none⟩ = some x4 ∧ w.cell? ⟨g2, j * 4, none⟩ = some y1 ∧ w.cell? ⟨g2, j * 4 + 1, none⟩ = some y2 ∧ w.cell? ⟨g2, j * 4 + 2, none⟩ = some y3 ∧ w.cell? ⟨g2, j * 4 + 3, none⟩ = some y4) :
    w5.cell? ⟨g1, i * 4, none⟩ = some x1 ∧ w5.cell? ⟨g1, i * 4 + 1, none⟩ = some x2 ∧ w5.cell? ⟨g1, i * 4 + 2, none⟩ = some x3 ∧ w5.cell? ⟨g1, i * 4 + 3, none⟩ = some x4 ∧ w5.cell? ⟨g2, j * 4, none⟩ = some y1 ∧ w5.cell? ⟨g2, j * 4 + 1, none⟩ = some y2 ∧ w5.cell? ⟨g2, j * 4 + 2, none⟩ = some y3 ∧ w5.cell? ⟨g2, j * 4 + 3, none⟩ = some y4 := by
  obtain ⟨a1, a2, a3, a4, b1, b2, b3, b4⟩ := h
  exact ⟨(hb.cell (p := ⟨g1, i * 4, none⟩) h1).trans a1, (hb.cell (p := ⟨g1, i * 4 + 1, none⟩) h1).trans a2, (hb.cell (p := ⟨g1, i * 4 + 2, none⟩) h1).trans a3, (hb.cell (p := ⟨g1, i * 4 + 3, none⟩) h1).trans a4,
    (hb.cell (p := ⟨g2, j * 4, none⟩) h2).trans b1, (hb.cell (p := ⟨g2, j * 4 + 1, none⟩) h2).trans b2, (hb.cell (p := ⟨g2, j * 4 + 2, none⟩) h2).trans b3, (hb.cell (p := ⟨g2, j * 4 + 3, none⟩) h2).trans b4⟩

theorem joins_text (a b : ByteArray) : (a ++ (⟨#[10]⟩ : ByteArray) ++ b).data.toList = a.data.toList ++ 10 :: b.data.toList := by
  simp

theorem law_joins_a (a b : ByteArray) (w : World) (hG : Gs w) (h : a.size + b.size + 1 ≤ 16384) (c n m : Nat) (hc : c ≠ 0) (hA : Sp.scanV a.data.toList = ([], c, n, m)) :
    Calls Tryd.prog 7 #[.string a, .string b] w fun e w' => e = .returned (.bool true) ∧ Below w.heap.size w w' := by
  have hla := Lib.size_eq a
  have hlb := Lib.size_eq b
  have hj := (Sp.scan_join a.data.toList b.data.toList (by omega)).1 (by rw [hA]; exact hc)
  rw [hA] at hj
  obtain ⟨tb, cb, nb, mb, hB⟩ : ∃ tb cb nb mb, Sp.scanV b.data.toList = (tb, cb, nb, mb) := ⟨_, _, _, _, rfl⟩
  have hSs : (a ++ (⟨#[10]⟩ : ByteArray) ++ b).size = a.size + 1 + b.size := by rw [ByteArray.size_append, ByteArray.size_append]; rfl
  have hS : ScanSays (a ++ (⟨#[10]⟩ : ByteArray) ++ b) [] c n m := scan_says _ (by omega) (by rw [joins_text]; exact hj)
  have hA2 := scan_says a (by omega) hA
  have hB2 := scan_says b (by omega) hB
  have hH := scan_says ⟨#[97]⟩ (by decide) Sp.scan_head_a
  have hL := fun W => law3_lines a W (by omega)
  have r1 := fun W => run_string_add_sum (P := Tryd.prog) (w := W) a ⟨#[10]⟩ (show a.size + 1 ≤ _ by omega)
  have r2 := fun W => run_string_add_sum (P := Tryd.prog) (w := W) (a ++ (⟨#[10]⟩ : ByteArray)) b (by rw [ByteArray.size_append]; show a.size + 1 + b.size ≤ _; omega)
  have q1 : decide ((a.size : Int) + b.size + 1 > 16384) = false := decide_eq_false (by omega)
  have q2 : ((c : Int) != 0) = true := by rw [bne_iff_ne]; omega
  have hnl : Sp.nlV a.data.toList ≤ a.size := by rw [hla]; exact List.length_filter_le _ _
  have HS := Lib.hid hS
  have HA := Lib.hid hA2
  have HB := Lib.hid hB2
  have HH := Lib.hid hH
  have HL := Lib.hid hL
  have HG := Lib.hid hG
  have tok1 : True := trivial
  clear hla hlb hj hS hA2 hB2 hH hL hG hA hB hSs hc
  go_enter Tryd.func7, Tryd.ntmps7
  go_wp2_with (first  | (go_at_call 16; have _t := tok4; refine (HH.out _ hg3).mono ?_; clear tok4 _t; rintro e w4 ⟨A4, cap4, rfl, hv4, hb4⟩)  | (go_at_call 16; have _t := tok3; refine (HB.out _ hg2).mono ?_; clear tok3 _t; rintro e w3 ⟨A3, cap3, rfl, hv3, hb3⟩; have hg3 := hg2.below hb3; have tok4 : True := trivial)  | (go_at_call 16; have _t := tok2; refine (HA.out _ hg1).mono ?_; clear tok2 _t; rintro e w2 ⟨A2, cap2, rfl, hv2, hb2⟩; have hg2 := hg1.below hb2; have tok3 : True := trivial)  | (go_at_call 16; have _t := tok1; refine (HS.out _ HG.out).mono ?_; clear tok1 _t; rintro e w1 ⟨A1, cap1, rfl, hv1, hb1⟩; have hg1 := HG.out.below hb1; have tok2 : True := trivial)  | (go_at_call 18; refine (HL.out _).mono ?_; rintro e wl ⟨rfl, rfl⟩))
  go_ret
  exact ⟨by simp, ((hb1.trans (hb2.mono hb1.size)).trans (hb3.mono (by have := hb1.size; have := hb2.size; omega))).trans (hb4.mono (by have := hb1.size; have := hb2.size; have := hb3.size; omega))⟩

theorem law_joins_b (a b : ByteArray) (w : World) (hG : Gs w) (h : a.size + b.size + 1 ≤ 16384) (ta : List Sp.Tok) (c n m : Nat) (hc : c ≠ 0) (hA : Sp.scanV a.data.toList = (ta, 0, 0, 0)) (hB : Sp.scanV b.data.toList = ([], c, n, m)) (hn : n ≤ 1073741824) :
    Calls Tryd.prog 7 #[.string a, .string b] w fun e w' => e = .returned (.bool true) ∧ Below w.heap.size w w' := by
  have hla := Lib.size_eq a
  have hlb := Lib.size_eq b
  have hj := (Sp.scan_join a.data.toList b.data.toList (by omega)).2.1 (by rw [hA]) (by rw [hB]; exact hc)
  rw [hB] at hj
  have hSs : (a ++ (⟨#[10]⟩ : ByteArray) ++ b).size = a.size + 1 + b.size := by rw [ByteArray.size_append, ByteArray.size_append]; rfl
  have hS : ScanSays (a ++ (⟨#[10]⟩ : ByteArray) ++ b) [] c ((n : Int) + ((Sp.nlV a.data.toList : Int) + 1)) m := by
    have := scan_says (a ++ (⟨#[10]⟩ : ByteArray) ++ b) (by omega) (ts := []) (c := c) (n := n + (Sp.nlV a.data.toList + 1)) (m := m) (by rw [joins_text]; exact hj)
    exact this
  have hA2 := scan_says a (by omega) hA
  have hB2 := scan_says b (by omega) hB
  have hH := scan_says ⟨#[97]⟩ (by decide) Sp.scan_head_a
  have hL := fun W => law3_lines a W (by omega)
  have r1 := fun W => run_string_add_sum (P := Tryd.prog) (w := W) a ⟨#[10]⟩ (show a.size + 1 ≤ _ by omega)
  have r2 := fun W => run_string_add_sum (P := Tryd.prog) (w := W) (a ++ (⟨#[10]⟩ : ByteArray)) b (by rw [ByteArray.size_append]; show a.size + 1 + b.size ≤ _; omega)
  have q1 : decide ((a.size : Int) + b.size + 1 > 16384) = false := decide_eq_false (by omega)
  have q2 : ((c : Int) != 0) = true := by rw [bne_iff_ne]; omega
  have hnl : Sp.nlV a.data.toList ≤ a.size := by rw [hla]; exact List.length_filter_le _ _
  obtain ⟨nl, hnn⟩ : ∃ nl, Sp.nlV a.data.toList = nl := ⟨_, rfl⟩
  rw [hnn] at hnl hS
  simp only [hnn] at hL
  have HS := Lib.hid hS
  have HA := Lib.hid hA2
  have HB := Lib.hid hB2
  have HH := Lib.hid hH
  have HL := Lib.hid hL
  have HG := Lib.hid hG
  have tok1 : True := trivial
  clear hla hlb hj hS hA2 hB2 hH hL hG hA hB hSs hc hnn
  go_enter Tryd.func7, Tryd.ntmps7
  go_wp2_with (first  | (go_at_call 16; have _t := tok4; refine (HH.out _ hg3).mono ?_; clear tok4 _t; rintro e w4 ⟨A4, cap4, rfl, hv4, hb4⟩)  | (go_at_call 16; have _t := tok3; refine (HB.out _ hg2).mono ?_; clear tok3 _t; rintro e w3 ⟨A3, cap3, rfl, hv3, hb3⟩; have hg3 := hg2.below hb3; have tok4 : True := trivial)  | (go_at_call 16; have _t := tok2; refine (HA.out _ hg1).mono ?_; clear tok2 _t; rintro e w2 ⟨A2, cap2, rfl, hv2, hb2⟩; have hg2 := hg1.below hb2; have tok3 : True := trivial)  | (go_at_call 16; have _t := tok1; refine (HS.out _ HG.out).mono ?_; clear tok1 _t; rintro e w1 ⟨A1, cap1, rfl, hv1, hb1⟩; have hg1 := HG.out.below hb1; have tok2 : True := trivial)  | (go_at_call 18; refine (HL.out _).mono ?_; rintro e wl ⟨rfl, rfl⟩))
  go_ret
  exact ⟨by simp, ((hb1.trans (hb2.mono hb1.size)).trans (hb3.mono (by have := hb1.size; have := hb2.size; omega))).trans (hb4.mono (by have := hb1.size; have := hb2.size; have := hb3.size; omega))⟩

theorem law_joins_ok (a b : ByteArray) (w : World) (hG : Gs w) (h : a.size + b.size + 1 ≤ 16384) (ta tb : List Sp.Tok) (hA : Sp.scanV a.data.toList = (ta, 0, 0, 0)) (hB : Sp.scanV b.data.toList = (tb, 0, 0, 0))
    (hta : ta.length ≤ 1073741824) (htb : tb.length ≤ 1073741824) (hln : ∀ t ∈ tb, t.2.2.1 ≤ 1073741824) :
    Calls Tryd.prog 7 #[.string a, .string b] w fun e w' => e = .returned (.bool true) ∧ Below w.heap.size w w' := by
  have hla := Lib.size_eq a
  have hlb := Lib.size_eq b
  have hj := (Sp.scan_join a.data.toList b.data.toList (by omega)).2.2 (by rw [hA]) (by rw [hB])
  rw [hA, hB] at hj
  obtain ⟨nl, hnn⟩ : ∃ nl, Sp.nlV a.data.toList = nl := ⟨_, rfl⟩
  have hSs : (a ++ (⟨#[10]⟩ : ByteArray) ++ b).size = a.size + 1 + b.size := by rw [ByteArray.size_append, ByteArray.size_append]; rfl
  have hS : ScanSays (a ++ (⟨#[10]⟩ : ByteArray) ++ b) (ta ++ tb.map (Sp.downT (nl + 1))) 0 0 0 := scan_says _ (by omega) (by rw [joins_text]; rw [hnn] at hj; exact hj)
  have hA2 := scan_says a (by omega) hA
  have hB2 := scan_says b (by omega) hB
  have hH := scan_says ⟨#[97]⟩ (by decide) Sp.scan_head_a
  have hL := fun W => law3_lines a W (by omega)
  have r1 := fun W => run_string_add_sum (P := Tryd.prog) (w := W) a ⟨#[10]⟩ (show a.size + 1 ≤ _ by omega)
  have r2 := fun W => run_string_add_sum (P := Tryd.prog) (w := W) (a ++ (⟨#[10]⟩ : ByteArray)) b (by rw [ByteArray.size_append]; show a.size + 1 + b.size ≤ _; omega)
  have q1 : decide ((a.size : Int) + b.size + 1 > 16384) = false := decide_eq_false (by omega)
  have hnl : Sp.nlV a.data.toList ≤ a.size := by rw [hla]; exact List.length_filter_le _ _
  have hSl : (ta ++ tb.map (Sp.downT (nl + 1))).length = ta.length + tb.length := by simp
  rw [hnn] at hnl
  simp only [hnn] at hL
  obtain ⟨na, hna⟩ : ∃ na, ta.length = na := ⟨_, rfl⟩
  obtain ⟨nb, hnb⟩ : ∃ nb, tb.length = nb := ⟨_, rfl⟩
  have hS' : ∀ W, Gs W → Calls Tryd.prog 16 #[.string (a ++ (⟨#[10]⟩ : ByteArray) ++ b)] W fun e w' => ∃ A cap, e = .returned (.tuple #[.slice A (na + nb) cap, .int .i64 0, .int .i64 0, .int .i64 0]) ∧ View w' w'.heap.size A (ta ++ tb.map (Sp.downT (nl + 1))) ∧ Below W.heap.size W w' := by
    intro W hW
    have := hS W hW
    rw [hSl, hna, hnb] at this
    exact this
  have hA' : ∀ W, Gs W → Calls Tryd.prog 16 #[.string a] W fun e w' => ∃ A cap, e = .returned (.tuple #[.slice A na cap, .int .i64 0, .int .i64 0, .int .i64 0]) ∧ View w' w'.heap.size A ta ∧ Below W.heap.size W w' := by
    intro W hW
    have := hA2 W hW
    rw [hna] at this
    exact this
  have hB' : ∀ W, Gs W → Calls Tryd.prog 16 #[.string b] W fun e w' => ∃ A cap, e = .returned (.tuple #[.slice A nb cap, .int .i64 0, .int .i64 0, .int .i64 0]) ∧ View w' w'.heap.size A tb ∧ Below W.heap.size W w' := by
    intro W hW
    have := hB2 W hW
    rw [hnb] at this
    exact this
  have hna' : na ≤ 1073741824 := by omega
  have hnb' : nb ≤ 1073741824 := by omega
  have q5 : (((na : Int) + nb) != ((na : Int) + nb)) = false := by simp
  have HS := Lib.hid hS'
  have HA := Lib.hid hA'
  have HB := Lib.hid hB'
  have HH := Lib.hid hH
  have HL := Lib.hid hL
  have HG := Lib.hid hG
  have HNA := Lib.hid hna
  have HNB := Lib.hid hnb
  have HLN := Lib.hid hln
  have tok1 : True := trivial
  clear hla hlb hj hS hA2 hB2 hH hL hG hA hB hSs hnn hSl hna hnb hS' hA' hB' hta htb hln
  go_enter Tryd.func7, Tryd.ntmps7
  go_wp2_with (first  | (go_at_call 16; have _t := tok4; refine (HH.out _ hg3).mono ?_; clear tok4 _t; rintro e w4 ⟨A4, cap4, rfl, hv4, hb4⟩)  | (go_at_call 16; have _t := tok3; refine (HB.out _ hg2).mono ?_; clear tok3 _t; rintro e w3 ⟨A3, cap3, rfl, hv3, hb3⟩; have hg3 := hg2.below hb3; have tok4 : True := trivial)  | (go_at_call 16; have _t := tok2; refine (HA.out _ hg1).mono ?_; clear tok2 _t; rintro e w2 ⟨A2, cap2, rfl, hv2, hb2⟩; have hg2 := hg1.below hb2; have tok3 : True := trivial)  | (go_at_call 16; have _t := tok1; refine (HS.out _ HG.out).mono ?_; clear tok1 _t; rintro e w1 ⟨A1, cap1, rfl, hv1, hb1⟩; have hg1 := HG.out.below hb1; have tok2 : True := trivial)  | (go_at_call 18; refine (HL.out _).mono ?_; rintro e wl ⟨rfl, rfl⟩))
  have hb14 : Below w1.heap.size w1 w4 := (hb2.trans (hb3.mono hb2.size)).trans (hb4.mono (by have := hb2.size; have := hb3.size; omega))
  have V1 : View w4 w4.heap.size A1 (ta ++ tb.map (Sp.downT (nl + 1))) := (hv1.below hb14 (Nat.le_refl _)).more hb14.size
  have hb24 : Below w2.heap.size w2 w4 := hb3.trans (hb4.mono hb3.size)
  have V2 : View w4 w4.heap.size A2 ta := (hv2.below hb24 (Nat.le_refl _)).more hb24.size
  have V3 : View w4 w4.heap.size A3 tb := (hv3.below hb4 (Nat.le_refl _)).more hb4.size
  have hbw4 : Below w.heap.size w w4 := hb1.trans (hb14.mono hb1.size)
  clear hv1 hv2 hv3 hb14 hb24 hg1 hg2 hg3 hb1 hb2 hb3 hb4 hv4 r1 r2
  have HV1 := Lib.hid V1
  have HV2 := Lib.hid V2
  have HV3 := Lib.hid V3
  clear V1 V2 V3
  go_loopw [22] (fun v22 wr => Below w4.heap.size w4 wr ∧ ∃ i : Nat, v22 = .int .i64 (i : Int) ∧ i ≤ na) (fun v22 _ => na - (intOf v22).toNat)
  case atStart => exact ⟨Below.refl _ _, 0, rfl, by omega⟩
  case round =>
    obtain ⟨hbr, i, rfl, hi⟩ := hrel
    by_cases hlt : i < na
    · have p1 : decide ((i : Int) < na) = true := decide_eq_true (by omega)
      have p2 : (i : Int) < na := by omega
      have p3 : (i : Int) < ((na + nb : Nat) : Int) := by omega
      have p4 : (i : Int) < (na : Int) + nb := by omega
      have p5 : (0 : Int) ≤ (i : Int) := by omega
      obtain ⟨t, ht⟩ : ∃ t, ta[i]? = some t := ⟨_, List.getElem?_eq_getElem (by rw [HNA.out]; exact hlt)⟩
      have ht1 : (ta ++ tb.map (Sp.downT (nl + 1)))[i]? = some t := by rw [List.getElem?_append_left (by rw [HNA.out]; exact hlt)]; exact ht
      obtain ⟨g1, rfl, hg1, x1⟩ := HV1.out i t ht1
      obtain ⟨g2, rfl, hg2, x2⟩ := HV2.out i t ht
      obtain ⟨a1, a2, a3, a4⟩ := x1.below hbr hg1
      obtain ⟨b1, b2, b3, b4⟩ := x2.below hbr hg2
      obtain ⟨k, l, ln, cl⟩ := t
      simp only [] at a1 a2 a3 a4 b1 b2 b3 b4
      obtain ⟨T, hT⟩ : ∃ T : ByteArray, (⟨l.toArray⟩ : ByteArray) = T := ⟨_, rfl⟩
      rw [hT] at a2 b2
      have hl1 : g1 < wr.heap.size := by have := hbr.size; omega
      have hl2 : g2 < wr.heap.size := by have := hbr.size; omega
      have hS8 : wr.cell? ⟨g1, i * 4, none⟩ = some (.int .i64 (k : Nat)) ∧ wr.cell? ⟨g1, i * 4 + 1, none⟩ = some (.string T) ∧ wr.cell? ⟨g1, i * 4 + 2, none⟩ = some (.int .i64 (ln : Nat)) ∧ wr.cell? ⟨g1, i * 4 + 3, none⟩ = some (.int .i64 (cl : Nat)) ∧ wr.cell? ⟨g2, i * 4, none⟩ = some (.int .i64 (k : Nat)) ∧ wr.cell? ⟨g2, i * 4 + 1, none⟩ = some (.string T) ∧ wr.cell? ⟨g2, i * 4 + 2, none⟩ = some (.int .i64 (ln : Nat)) ∧ wr.cell? ⟨g2, i * 4 + 3, none⟩ = some (.int .i64 (cl : Nat)) := ⟨a1, a2, a3, a4, b1, b2, b3, b4⟩
      have hbr2 := hbr.drew
      clear x1 x2 ht ht1 hT a1 a2 a3 a4 b1 b2 b3 b4
      go_wp2_with fail
      go_region_held3 (fun w' => w'.cell? ⟨g1, i * 4, none⟩ = some (.int .i64 (k : Nat)) ∧ w'.cell? ⟨g1, i * 4 + 1, none⟩ = some (.string T) ∧ w'.cell? ⟨g1, i * 4 + 2, none⟩ = some (.int .i64 (ln : Nat)) ∧ w'.cell? ⟨g1, i * 4 + 3, none⟩ = some (.int .i64 (cl : Nat)) ∧ w'.cell? ⟨g2, i * 4, none⟩ = some (.int .i64 (k : Nat)) ∧ w'.cell? ⟨g2, i * 4 + 1, none⟩ = some (.string T) ∧ w'.cell? ⟨g2, i * 4 + 2, none⟩ = some (.int .i64 (ln : Nat)) ∧ w'.cell? ⟨g2, i * 4 + 3, none⟩ = some (.int .i64 (cl : Nat)))
        (first | go_keep | exact hS8 | exact ks)
        ((go_at_call 19; refine (same_refl _ _ _ _ _).mono ?_; rintro e w5 ⟨rfl, hb5⟩; have ks := keep8 hb5 hl1 hl2 hS8))
      go_wp2
      go_roundw
      case rel => exact ⟨hbr2.trans (hb5.mono hbr2.size), i + 1, by rfl, by omega⟩
      case measure => simp [intOf]; omega
    · have p1 : decide ((i : Int) < na) = false := decide_eq_false (by omega)
      have HBR := Lib.hid hbr
      clear hbr
      obtain ⟨wo, rfl⟩ : ∃ wo : World, wo = wr := ⟨_, rfl⟩
      go_wp2
      go_loopw [23, 24] (fun v23 _ wr => Below w4.heap.size w4 wr ∧ ∃ i : Nat, v23 = .int .i64 (i : Int) ∧ i ≤ nb) (fun v23 _ _ => nb - (intOf v23).toNat)
      case atStart => exact ⟨HBR.out, 0, rfl, by omega⟩
      case round =>
        obtain ⟨hbr, j, rfl, hj⟩ := hrel
        by_cases hlt2 : j < nb
        · have p1 : decide ((j : Int) < nb) = true := decide_eq_true (by omega)
          have p2 : (j : Int) < nb := by omega
          have p5 : (0 : Int) ≤ (j : Int) := by omega
          have p6 : (0 : Int) ≤ (na : Int) + j := by omega
          have p7 : (na : Int) + j < ((na + nb : Nat) : Int) := by omega
          have p8 : (na : Int) + j < (na : Int) + nb := by omega
          have p9 : ((na : Int) + j).toNat = na + j := by omega
          have pw : IntKind.i64.wrap ((na : Int) + j) = (na : Int) + j := by rw [IntKind.wrap_i64]; omega
          obtain ⟨t, ht⟩ : ∃ t, tb[j]? = some t := ⟨_, List.getElem?_eq_getElem (by rw [HNB.out]; exact hlt2)⟩
          have ht1 : (ta ++ tb.map (Sp.downT (nl + 1)))[na + j]? = some (Sp.downT (nl + 1) t) := by
            rw [List.getElem?_append_right (by rw [HNA.out]; omega), HNA.out, Nat.add_sub_cancel_left, List.getElem?_map, ht]
            rfl
          have hlnt := HLN.out t (List.mem_of_getElem? ht)
          obtain ⟨g1, rfl, hg1, x1⟩ := HV1.out (na + j) _ ht1
          obtain ⟨g3, rfl, hg3, x3⟩ := HV3.out j t ht
          obtain ⟨a1, a2, a3, a4⟩ := x1.below hbr hg1
          obtain ⟨b1, b2, b3, b4⟩ := x3.below hbr hg3
          obtain ⟨k, l, ln, cl⟩ := t
          simp only [Sp.downT] at a1 a2 a3 a4 b1 b2 b3 b4 hlnt
          obtain ⟨T, hT⟩ : ∃ T : ByteArray, (⟨l.toArray⟩ : ByteArray) = T := ⟨_, rfl⟩
          rw [hT] at a2 b2
          have hl1 : g1 < wr.heap.size := by have := hbr.size; omega
          have hl3 : g3 < wr.heap.size := by have := hbr.size; omega
          have a3' : wr.cell? ⟨g1, (na + j) * 4 + 2, none⟩ = some (.int .i64 ((ln : Int) + ((nl : Int) + 1))) := a3
          obtain ⟨W5, hW5⟩ : ∃ W5, wr.alloc (.cells #[.int .i64 (k : Nat), .string T, .int .i64 ((ln : Int) + ((nl : Int) + 1)), .int .i64 (cl : Nat)] 41) = W5 := ⟨_, rfl⟩
          have hcell : ∀ i, W5.cell? ⟨wr.heap.size, i, none⟩ = (#[.int .i64 (k : Nat), .string T, .int .i64 ((ln : Int) + ((nl : Int) + 1)), .int .i64 (cl : Nat)] : Array Value)[i]? := by
            intro i
            rw [← hW5]
            exact World.cell?_alloc_at _ _ _ _ rfl
          have hkeep : ∀ i, W5.cell? ⟨g1, i, none⟩ = wr.cell? ⟨g1, i, none⟩ := fun i => by rw [← hW5]; exact World.cell?_alloc_lt _ _ _ hl1
          have hz5 : wr.heap.size < W5.heap.size := by rw [← hW5]; simp
          have hbr5 : Below w4.heap.size w4 W5 := by rw [← hW5]; exact hbr.alloc hbr.size _
          have hS8 : W5.cell? ⟨g1, (na + j) * 4, none⟩ = some (.int .i64 (k : Nat)) ∧ W5.cell? ⟨g1, (na + j) * 4 + 1, none⟩ = some (.string T) ∧ W5.cell? ⟨g1, (na + j) * 4 + 2, none⟩ = some (.int .i64 ((ln : Int) + ((nl : Int) + 1))) ∧ W5.cell? ⟨g1, (na + j) * 4 + 3, none⟩ = some (.int .i64 (cl : Nat)) ∧ W5.cell? ⟨wr.heap.size, 0, none⟩ = some (.int .i64 (k : Nat)) ∧ W5.cell? ⟨wr.heap.size, 1, none⟩ = some (.string T) ∧ W5.cell? ⟨wr.heap.size, 2, none⟩ = some (.int .i64 ((ln : Int) + ((nl : Int) + 1))) ∧ W5.cell? ⟨wr.heap.size, 3, none⟩ = some (.int .i64 (cl : Nat)) :=
            ⟨(hkeep _).trans a1, (hkeep _).trans a2, (hkeep _).trans a3', (hkeep _).trans a4, hcell 0, hcell 1, hcell 2, hcell 3⟩
          have H8 := Lib.hid hS8
          have HW5 := Lib.hid hW5
          clear x1 x3 ht ht1 hT a1 a2 a3 a3' a4 hS8 hW5 hcell hkeep
          go_wp2_with fail
          rw [HW5.out]
          have hS8 := H8.out
          have hl1' : g1 < W5.heap.size := by omega
          have hbr6 := hbr5.drew
          go_region_held3 (fun w' => w'.cell? ⟨g1, (na + j) * 4, none⟩ = some (.int .i64 (k : Nat)) ∧ w'.cell? ⟨g1, (na + j) * 4 + 1, none⟩ = some (.string T) ∧ w'.cell? ⟨g1, (na + j) * 4 + 2, none⟩ = some (.int .i64 ((ln : Int) + ((nl : Int) + 1))) ∧ w'.cell? ⟨g1, (na + j) * 4 + 3, none⟩ = some (.int .i64 (cl : Nat)) ∧ w'.cell? ⟨wr.heap.size, 0, none⟩ = some (.int .i64 (k : Nat)) ∧ w'.cell? ⟨wr.heap.size, 1, none⟩ = some (.string T) ∧ w'.cell? ⟨wr.heap.size, 2, none⟩ = some (.int .i64 ((ln : Int) + ((nl : Int) + 1))) ∧ w'.cell? ⟨wr.heap.size, 3, none⟩ = some (.int .i64 (cl : Nat)))
            (first | go_keep | exact hS8 | exact ks)
            ((go_at_call 19; refine (same_refl _ _ _ _ _).mono ?_; rintro e w6 ⟨rfl, hb6⟩; have ks := keep8 (j := 0) hb6 hl1' hz5 H8.out))
          go_wp2
          go_roundw
          case rel => exact ⟨hbr6.trans (hb6.mono hbr6.size), j + 1, by rfl, by omega⟩
          case measure => simp [intOf]; omega
        · have p2 : decide ((j : Int) < nb) = false := decide_eq_false (by omega)
          go_wp2
          go_ret
          exact ⟨rfl, hbw4.trans (hbr.mono hbw4.size)⟩

theorem law_joins (a b : ByteArray) (w : World) (hG : Gs w) (ha : a.size ≤ 140737488351232) (hb : b.size ≤ 140737488351232) :
    Calls Tryd.prog 7 #[.string a, .string b] w fun e w' => e = .returned (.bool true) ∧ Below w.heap.size w w' := by
  by_cases h : 16384 < a.size + b.size + 1
  · exact law_joins_long a b w ha hb h
  have hla := Lib.size_eq a
  have hlb := Lib.size_eq b
  obtain ⟨ta, ca, na, ma, hA⟩ : ∃ ta ca na ma, Sp.scanV a.data.toList = (ta, ca, na, ma) := ⟨_, _, _, _, rfl⟩
  obtain ⟨tb, cb, nb, mb, hB⟩ : ∃ tb cb nb mb, Sp.scanV b.data.toList = (tb, cb, nb, mb) := ⟨_, _, _, _, rfl⟩
  have kA := Sp.scanV_code a.data.toList
  have kB := Sp.scanV_code b.data.toList
  have bA := Sp.scanV_bound a.data.toList (by omega)
  have bB := Sp.scanV_bound b.data.toList (by omega)
  rw [hA] at kA bA
  rw [hB] at kB bB
  simp only [] at kA kB bA bB
  by_cases h1 : ca = 0
  · have e1 := kA.1 h1
    simp only [Prod.mk.injEq] at e1
    obtain ⟨rfl, rfl⟩ := e1
    subst h1
    by_cases h2 : cb = 0
    · have e2 := kB.1 h2
      simp only [Prod.mk.injEq] at e2
      obtain ⟨rfl, rfl⟩ := e2
      subst h2
      exact law_joins_ok a b w hG (by omega) ta tb hA hB (by omega) (by omega) (fun t ht => by have := bB.2.2 t ht; omega)
    · have e2 := kB.2 h2
      subst e2
      exact law_joins_b a b w hG (by omega) ta cb nb mb h2 hA hB (by omega)
  · have e1 := kA.2 h1
    subst e1
    exact law_joins_a a b w hG (by omega) ca na ma h1 hA
end Go.Proofs.YtjedoipbllcfdaaDoor

