/-
  THE WALK of reachref3.Scan (chapter 3).
-/
import Derived.Test.YtdmpapoabeljfaaGreatDoorRe
set_option linter.unusedVariables false
set_option linter.unusedSimpArgs false
set_option maxRecDepth 100000
set_option maxHeartbeats 4000000
namespace Go.Proofs.YtdmpapoabeljfaaGreatDoor
open Go.RowKit

/-- What the reference's Scan hands back. -/
def RefScan (s : ByteArray) (W : World) (e : Ending) (w' : World) : Prop :=
  ∃ tv, e = .returned (.tuple #[tv, .int .i64 ((Sp.scanV s.data.toList).2.1 : Nat), .int .i64 ((Sp.scanV s.data.toList).2.2.1 : Nat), .int .i64 ((Sp.scanV s.data.toList).2.2.2 : Nat)]) ∧ Toks w' W.heap.size tv (Sp.scanV s.data.toList).1 ∧ Below W.heap.size W w'
theorem RefScan_of {s : ByteArray} {W w' : World} {ts : List Sp.Tok} {c n m : Nat} (h : Sp.scanV s.data.toList = (ts, c, n, m)) {tv : Value} {x y z : Int} (hx : x = c) (hy : y = n) (hz : z = m) (ht : Toks w' W.heap.size tv ts) (hb : Below W.heap.size W w') :
    RefScan s W (.returned (.tuple #[tv, .int .i64 x, .int .i64 y, .int .i64 z])) w' := by
  subst hx; subst hy; subst hz
  unfold RefScan
  rw [h]
  exact ⟨tv, rfl, ht, hb⟩

theorem noNl_snoc (l : List UInt8) (a b : Nat) (h : Sp.NoNl ((l.drop a).take (b - a))) (hab : a ≤ b) {c : UInt8} (hc : l[b]? = some c) (h10 : c ≠ 10) : Sp.NoNl ((l.drop a).take (b + 1 - a)) := by
  have hlt : b < l.length := (List.getElem?_eq_some_iff.1 hc).1
  have e : (l.drop a).take (b + 1 - a) = (l.drop a).take (b - a) ++ [c] := by
    rw [show b + 1 - a = (b - a) + 1 by omega, List.take_succ_eq_append_getElem (by rw [List.length_drop]; omega)]
    congr 2
    rw [List.getElem_drop]
    have := (List.getElem?_eq_some_iff.1 hc).2
    rw [← this]
    congr 1
    omega
  rw [e]
  intro x hx
  rcases List.mem_append.1 hx with hx | hx
  · exact h x hx
  · rw [List.mem_singleton] at hx
    rw [hx]
    exact h10

theorem ref3_scan (s : ByteArray) (w : World) (hG : Gr w) (hs : s.size ≤ 9223372036854775807) :
    Calls Tryz.prog 23 #[.string s] w (RefScan s w) := by
  have hsl := Lib.size_eq s
  by_cases h1 : 16384 < s.size
  · have hv : Sp.scanV s.data.toList = ([], 2, 0, 0) := by unfold Sp.scanV; rw [if_pos (by omega)]
    have HU := Lib.hid hv
    have q1 : decide ((s.size : Int) > 16384) = true := decide_eq_true (by omega)
    clear hsl hv hG
    go_enter Tryz.func23, Tryz.ntmps23
    go_wp2
    refine bodyPost_ret (results_tmp4 rfl _ _ _) rfl ?_
    exact RefScan_of HU.out rfl rfl rfl (World.ownsRow_nil _ _ _ _) (Below.refl _ _)
  have q1 : decide ((s.size : Int) > 16384) = false := decide_eq_false (by omega)
  obtain ⟨R, hR⟩ : ∃ R, Sp.scanV s.data.toList = R := ⟨_, rfl⟩
  have hV := Sp.scanV_run s.data.toList (by omega)
  rw [hR] at hV
  have hbnd := (Sp.scanV_bound s.data.toList (by omega)).1
  rw [hR] at hbnd
  have hs2 : s.size ≤ 16384 := by omega
  rw [← hsl] at hbnd
  have HR := Lib.hid hR
  have HV := Lib.hid hV
  have HG := Lib.hid hG
  have HSL := Lib.hid hsl
  clear hR hV hG hsl h1 hs
  go_enter Tryz.func23, Tryz.ntmps23
  go_wp2
  go_loopw [6, 7, 8, 9, 10, 11, 12, 13] (fun v6 v7 v8 v9 _ _ _ _ wr => ∃ (fr i no : Nat) (acc : List Sp.Tok) (tv : Value), tv = v6 ∧ v7 = .int .i64 (no : Int) ∧ v8 = .int .i64 (fr : Int) ∧ v9 = .int .i64 (i : Int) ∧ i ≤ s.size + 1 ∧ fr ≤ i ∧ no ≤ fr + 1 ∧ acc.length ≤ fr ∧ Toks wr w.heap.size tv acc ∧ Below w.heap.size w wr ∧ (i ≤ s.size → Hid (Sp.runV (s.data.toList.drop fr) no 1 false acc = R ∧ Sp.NoNl ((s.data.toList.drop fr).take (i - fr)))) ∧ (i = s.size + 1 → Hid (R = (acc, 0, 0, 0)))) (fun _ _ _ v9 _ _ _ _ _ => (s.size + 1 - intOf v9).toNat)
  case atStart => exact ⟨0, 0, 1, [], _, rfl, rfl, rfl, rfl, by omega, by omega, by omega, by simp, World.ownsRow_nil _ _ _ _, Below.refl _ _, fun _ => ⟨HV.out.symm, by intro x hx; simp at hx⟩, fun h => by omega⟩
  case round =>
    obtain ⟨fr, i, no, acc, tv, rfl, rfl, rfl, rfl, hi, hfr, hno, hal, ht, hb, HA, HZ⟩ := hrel
    have HT := Lib.hid ht
    have HB := Lib.hid hb
    have hBw := hb.size
    clear ht hb
    by_cases hle : i ≤ s.size
    · have q2 : decide ((i : Int) ≤ s.size) = true := decide_eq_true (by omega)
      have HF := HA hle
      clear HA HZ
      by_cases hgo : ∃ hlt : i < s.size, (s[i]'hlt).toNat ≠ 10
      · obtain ⟨hlt, hne⟩ := hgo
        have q3 : decide ((i : Int) < s.size) = true := decide_eq_true (by omega)
        have q3' : (i : Int) < s.size := by omega
        have q4 : (((s[i]'hlt).toNat : Int) != 10) = true := by rw [bne_iff_ne]; omega
        have HF2 : Hid (Sp.runV (s.data.toList.drop fr) no 1 false acc = R ∧ Sp.NoNl ((s.data.toList.drop fr).take (i + 1 - fr))) := by
          refine ⟨HF.out.1, noNl_snoc _ _ _ HF.out.2 hfr (c := s[i]'hlt) ?_ (fun e => hne (by rw [e]; rfl))⟩
          have hl2 : i < s.data.toList.length := by rw [← HSL.out]; exact hlt
          rw [List.getElem?_eq_getElem hl2, Sp.get_idx s i hlt hl2]
        clear hne HF
        go_wp2
        go_roundw
        case rel => exact ⟨fr, i + 1, no, acc, _, rfl, rfl, rfl, by rfl, by omega, by omega, by omega, hal, HT.out, HB.out, fun _ => HF2, fun h => by omega⟩
        case measure => simp [intOf]; omega
      have hline : i = s.size ∨ s.data.toList[i]? = some 10 := by
        rcases Nat.lt_or_ge i s.size with hlt | hge
        · refine Or.inr ?_
          have hl2 : i < s.data.toList.length := by rw [← HSL.out]; exact hlt
          rw [List.getElem?_eq_getElem hl2, ← Sp.get_idx s i hlt hl2]
          have : (s[i]'hlt).toNat = 10 := by
            rcases Nat.decEq (s[i]'hlt).toNat 10 with h | h
            · exact absurd ⟨hlt, h⟩ hgo
            · exact h
          rw [show s[i]'hlt = 10 from UInt8.toNat_inj.1 this]
        · exact Or.inl (by omega)
      have hskip : (¬ i < s.size) ∨ (∃ hlt : i < s.size, (s[i]'hlt).toNat = 10) := by
        rcases Nat.lt_or_ge i s.size with hlt | hge
        · refine Or.inr ⟨hlt, ?_⟩
          rcases Nat.decEq (s[i]'hlt).toNat 10 with h | h
          · exact absurd ⟨hlt, h⟩ hgo
          · exact h
        · exact Or.inl (by omega)
      obtain ⟨ts, c, n, m, hrun⟩ : ∃ ts c n m, Sp.runV ((s.data.toList.drop fr).take (i - fr)) no 1 false [] = (ts, c, n, m) := ⟨_, _, _, _, rfl⟩
      have hsc := Sp.scan_line HF.out.1 hfr HF.out.2 hrun
      have hex : (s.extract fr i).data.toList = (s.data.toList.drop fr).take (i - fr) := by rw [Lib.extract_data]
      have hcut := ref3_cut (s.extract fr i) no wr (HG.out.below HB.out) (by rw [ByteArray.size_extract]; omega) (by rw [hex]; exact HF.out.2) ts c n m (by rw [hex]; exact hrun)
      have HC := Lib.hid hcut
      have htl : ts.length ≤ (i - fr) + 1 := by
        have := (Sp.runV_bound _ ((s.data.toList.drop fr).take (i - fr)) no 1 false [] (Nat.le_refl _)).1
        rw [hrun, List.length_take, List.length_drop] at this
        simp only [List.length_nil] at this
        omega
      have b1 : (fr : Int) ≤ (i : Int) := by omega
      have b2 : (i : Int) ≤ (s.size : Int) := by omega
      have b0 : (0 : Int) ≤ (fr : Int) := by omega
      by_cases hc : c = 0
      · subst hc
        have q5 : ((0 : Int) != 0) = false := by decide
        have HN : Hid ((i = s.size → R = (acc ++ ts, 0, 0, 0)) ∧ (s.data.toList[i]? = some 10 → Sp.runV (s.data.toList.drop (i + 1)) (no + 1) 1 false (acc ++ ts) = R)) := ⟨fun h => (hsc.1 (by rw [← HSL.out]; exact h)).2 rfl, fun h => (hsc.2 h).2 rfl⟩
        have HL := Lib.hid hline
        clear hsc hcut hrun hex HF hgo hline
        rcases hskip with q3 | ⟨hlt, h10⟩
        · have q3' : decide ((i : Int) < s.size) = false := decide_eq_false (by omega)
          go_wp2_with (go_at_call 44; go_loud (refine HC.out.mono ?_; rintro e w1 ⟨tv1, rfl, ht1, hb1⟩; obtain ⟨A1, cap1, rfl, hv1⟩ := toks_view ht1))
          have hT1 : Toks w1 w.heap.size tv acc := toks_below HT.out hb1
          have hB1 : Below w.heap.size w w1 := HB.out.trans (hb1.mono hBw)
          have hown : ∀ g, A1 = some ⟨g, 0, none⟩ → tv.ownBlock ≠ some g ∧ g < w1.heap.size := by
            rintro g rfl
            have h1 := World.ownsRow.lt ht1 g rfl
            refine ⟨fun e => ?_, h1.2⟩
            have h2 := World.ownsRow.lt HT.out g e
            omega
          have hw1 := hB1.size
          obtain ⟨nt, hnt⟩ : ∃ nt, ts.length = nt := ⟨_, rfl⟩
          rw [hnt] at htl
          have HNT := Lib.hid hnt
          have HV1 := Lib.hid hv1
          have HOWN := Lib.hid hown
          have HT1 := Lib.hid hT1
          have HB1 := Lib.hid hB1
          clear hT1 hB1 hown hv1 ht1 HC
          rw [hnt]
          clear hnt
          go_wp2
          go_loopw [6, 13] (fun v6 v13 wr2 => ∃ (k : Nat) (tk : Value), tk = v6 ∧ v13 = .int .i64 (k : Int) ∧ k ≤ nt ∧ Toks wr2 w.heap.size tk (acc ++ ts.take k) ∧ Below w.heap.size w wr2 ∧ w1.heap.size ≤ wr2.heap.size ∧ Hid (∀ g, A1 = some ⟨g, 0, none⟩ → tk.ownBlock ≠ some g ∧ ∀ x, wr2.cell? ⟨g, x, none⟩ = w1.cell? ⟨g, x, none⟩)) (fun _ v13 _ => nt - (intOf v13).toNat)
          case atStart => exact ⟨0, _, rfl, rfl, by omega, by rw [List.take_zero, List.append_nil]; exact HT1.out, HB1.out, Nat.le_refl _, fun g hg => ⟨(HOWN.out g hg).1, fun _ => rfl⟩⟩
          case round =>
            obtain ⟨k, tk, rfl, rfl, hk, htk, hbk, hsk, HK⟩ := hrel
            have HTK := Lib.hid htk
            have HBK := Lib.hid hbk
            have hbks := hbk.size
            clear htk hbk
            by_cases hkn : k < nt
            · have p1 : decide ((k : Int) < nt) = true := decide_eq_true (by omega)
              have p2 : (k : Int) < nt := by omega
              have p5 : (0 : Int) ≤ (k : Int) := by omega
              have hkl : k < ts.length := by rw [HNT.out]; exact hkn
              obtain ⟨t, ht⟩ : ∃ t, ts[k]? = some t := ⟨_, List.getElem?_eq_getElem hkl⟩
              have hsnoc : acc ++ ts.take (k + 1) = (acc ++ ts.take k) ++ [t] := by
                have := (List.getElem?_eq_some_iff.1 ht).2
                rw [List.take_succ_eq_append_getElem hkl, this, List.append_assoc]
              have HSN := Lib.hid hsnoc
              obtain ⟨g, hA, hg, x0, x1, x2, x3⟩ := HV1.out k t ht
              obtain ⟨hne, hcell⟩ := HK.out g hA
              subst hA
              have a0 := (hcell (k * 4)).trans x0
              have a1 := (hcell (k * 4 + 1)).trans x1
              have a2 := (hcell (k * 4 + 2)).trans x2
              have a3 := (hcell (k * 4 + 3)).trans x3
              have HCELL := Lib.hid hcell
              have HNE := Lib.hid hne
              obtain ⟨kk, l, ln, cl⟩ := t
              simp only [] at a0 a1 a2 a3
              have hal2 : (acc ++ ts.take k).length ≤ 1073741824 := by
                rw [List.length_append, List.length_take]
                omega
              clear x0 x1 x2 x3 hcell hsnoc ht HK hne
              go_wp2_with (at_builtin; go_loud (refine wpList_tok rfl _ _ rfl w.heap.size tk (acc ++ ts.take k) rfl (World.ownsRow.alloc HTK.out _) ⟨wr.heap.size, 0, none⟩ 1 (kk, l, ln, cl) rfl (World.news_of_block (cs := #[.int .i64 kk, .string ⟨l.toArray⟩, .int .i64 ln, .int .i64 cl]) (t := 24) (fr := (0, 0)) (heap_alloc_new _ _)) hal2 (by simp; omega) _ rfl ?_; intro gg cap6 w6 hT6 hgrow hat hlt6; have hB6 := below_tok (HBK.out.alloc hbks (.cells #[.int .i64 kk, .string ⟨l.toArray⟩, .int .i64 ln, .int .i64 cl] 24)) (by simp; omega) (World.ownsRow.alloc HTK.out _) hgrow; have HT6 := Lib.hid hT6; have HB6 := Lib.hid hB6; have HGR := Lib.hid hgrow; have HAT := Lib.hid hat; clear hT6 hB6 hgrow hat))
              have hsz6 := HGR.out.size
              have HK2 : Hid (∀ g', (some ⟨g, 0, none⟩ : Option Addr) = some ⟨g', 0, none⟩ → Value.ownBlock (.slice (some ⟨gg, 0, none⟩) ((acc ++ ts.take k).length + 1) cap6) ≠ some g' ∧ ∀ x, w6.cell? ⟨g', x, none⟩ = w1.cell? ⟨g', x, none⟩) := by
                intro g' hg'
                injection hg' with hg'
                injection hg' with hg'
                subst hg'
                refine ⟨?_, fun x => ?_⟩
                · show some gg ≠ some g
                  intro e
                  injection e with e
                  subst e
                  rcases HAT.out with h | h
                  · exact HNE.out h
                  · simp at h; omega
                · rw [HGR.out.cell_far ⟨g, x, none⟩ (by simp; omega) (Ne.symm HNE.out), World.cell?_alloc_lt _ _ _ (by show g < _; omega)]
                  exact HCELL.out x
              have hsz7 : w1.heap.size ≤ w6.heap.size := by
                have : wr.heap.size + 1 ≤ w6.heap.size := by simpa using hsz6
                omega
              go_roundw
              case rel => exact ⟨k + 1, _, rfl, by rfl, by omega, by rw [HSN.out]; have h9 := HT6.out; simp only [List.length_append, List.length_take] at h9; exact h9, HB6.out, hsz7, by simpa only [List.length_append, List.length_take] using HK2⟩
              case measure => simp [intOf]; omega
            · have p1 : decide ((k : Int) < nt) = false := decide_eq_false (by omega)
              have htk2 : acc ++ ts.take k = acc ++ ts := by rw [List.take_of_length_le (by rw [HNT.out]; omega)]
              have hTF : Toks wr w.heap.size tk (acc ++ ts) := by rw [← htk2]; exact HTK.out
              have HTF := Lib.hid hTF
              have htl2 : (acc ++ ts).length ≤ i + 1 := by rw [List.length_append, HNT.out]; omega
              clear htk2 hTF HTK HK
              go_wp2
              go_roundw
              case rel => exact ⟨i + 1, i + 1, no + 1, acc ++ ts, _, rfl, by rfl, by rfl, by rfl, by omega, by omega, by omega, htl2, HTF.out, HBK.out, fun h => ⟨HN.out.2 (HL.out.resolve_left (by omega)), by rw [Nat.sub_self, List.take_zero]; intro x hx; cases hx⟩, fun h => HN.out.1 (by omega)⟩
              case measure => simp [intOf]; omega
        · have q3 : decide ((i : Int) < s.size) = true := decide_eq_true (by omega)
          have q3' : (i : Int) < s.size := by omega
          have q4 : (((s[i]'hlt).toNat : Int) != 10) = false := by rw [bne_eq_false_iff_eq]; omega
          go_wp2_with (go_at_call 44; go_loud (refine HC.out.mono ?_; rintro e w1 ⟨tv1, rfl, ht1, hb1⟩; obtain ⟨A1, cap1, rfl, hv1⟩ := toks_view ht1))
          have hT1 : Toks w1 w.heap.size tv acc := toks_below HT.out hb1
          have hB1 : Below w.heap.size w w1 := HB.out.trans (hb1.mono hBw)
          have hown : ∀ g, A1 = some ⟨g, 0, none⟩ → tv.ownBlock ≠ some g ∧ g < w1.heap.size := by
            rintro g rfl
            have h1 := World.ownsRow.lt ht1 g rfl
            refine ⟨fun e => ?_, h1.2⟩
            have h2 := World.ownsRow.lt HT.out g e
            omega
          have hw1 := hB1.size
          obtain ⟨nt, hnt⟩ : ∃ nt, ts.length = nt := ⟨_, rfl⟩
          rw [hnt] at htl
          have HNT := Lib.hid hnt
          have HV1 := Lib.hid hv1
          have HOWN := Lib.hid hown
          have HT1 := Lib.hid hT1
          have HB1 := Lib.hid hB1
          clear hT1 hB1 hown hv1 ht1 HC
          rw [hnt]
          clear hnt
          go_wp2
          go_loopw [6, 13] (fun v6 v13 wr2 => ∃ (k : Nat) (tk : Value), tk = v6 ∧ v13 = .int .i64 (k : Int) ∧ k ≤ nt ∧ Toks wr2 w.heap.size tk (acc ++ ts.take k) ∧ Below w.heap.size w wr2 ∧ w1.heap.size ≤ wr2.heap.size ∧ Hid (∀ g, A1 = some ⟨g, 0, none⟩ → tk.ownBlock ≠ some g ∧ ∀ x, wr2.cell? ⟨g, x, none⟩ = w1.cell? ⟨g, x, none⟩)) (fun _ v13 _ => nt - (intOf v13).toNat)
          case atStart => exact ⟨0, _, rfl, rfl, by omega, by rw [List.take_zero, List.append_nil]; exact HT1.out, HB1.out, Nat.le_refl _, fun g hg => ⟨(HOWN.out g hg).1, fun _ => rfl⟩⟩
          case round =>
            obtain ⟨k, tk, rfl, rfl, hk, htk, hbk, hsk, HK⟩ := hrel
            have HTK := Lib.hid htk
            have HBK := Lib.hid hbk
            have hbks := hbk.size
            clear htk hbk
            by_cases hkn : k < nt
            · have p1 : decide ((k : Int) < nt) = true := decide_eq_true (by omega)
              have p2 : (k : Int) < nt := by omega
              have p5 : (0 : Int) ≤ (k : Int) := by omega
              have hkl : k < ts.length := by rw [HNT.out]; exact hkn
              obtain ⟨t, ht⟩ : ∃ t, ts[k]? = some t := ⟨_, List.getElem?_eq_getElem hkl⟩
              have hsnoc : acc ++ ts.take (k + 1) = (acc ++ ts.take k) ++ [t] := by
                have := (List.getElem?_eq_some_iff.1 ht).2
                rw [List.take_succ_eq_append_getElem hkl, this, List.append_assoc]
              have HSN := Lib.hid hsnoc
              obtain ⟨g, hA, hg, x0, x1, x2, x3⟩ := HV1.out k t ht
              obtain ⟨hne, hcell⟩ := HK.out g hA
              subst hA
              have a0 := (hcell (k * 4)).trans x0
              have a1 := (hcell (k * 4 + 1)).trans x1
              have a2 := (hcell (k * 4 + 2)).trans x2
              have a3 := (hcell (k * 4 + 3)).trans x3
              have HCELL := Lib.hid hcell
              have HNE := Lib.hid hne
              obtain ⟨kk, l, ln, cl⟩ := t
              simp only [] at a0 a1 a2 a3
              have hal2 : (acc ++ ts.take k).length ≤ 1073741824 := by
                rw [List.length_append, List.length_take]
                omega
              clear x0 x1 x2 x3 hcell hsnoc ht HK hne
              go_wp2_with (at_builtin; go_loud (refine wpList_tok rfl _ _ rfl w.heap.size tk (acc ++ ts.take k) rfl (World.ownsRow.alloc HTK.out _) ⟨wr.heap.size, 0, none⟩ 1 (kk, l, ln, cl) rfl (World.news_of_block (cs := #[.int .i64 kk, .string ⟨l.toArray⟩, .int .i64 ln, .int .i64 cl]) (t := 24) (fr := (0, 0)) (heap_alloc_new _ _)) hal2 (by simp; omega) _ rfl ?_; intro gg cap6 w6 hT6 hgrow hat hlt6; have hB6 := below_tok (HBK.out.alloc hbks (.cells #[.int .i64 kk, .string ⟨l.toArray⟩, .int .i64 ln, .int .i64 cl] 24)) (by simp; omega) (World.ownsRow.alloc HTK.out _) hgrow; have HT6 := Lib.hid hT6; have HB6 := Lib.hid hB6; have HGR := Lib.hid hgrow; have HAT := Lib.hid hat; clear hT6 hB6 hgrow hat))
              have hsz6 := HGR.out.size
              have HK2 : Hid (∀ g', (some ⟨g, 0, none⟩ : Option Addr) = some ⟨g', 0, none⟩ → Value.ownBlock (.slice (some ⟨gg, 0, none⟩) ((acc ++ ts.take k).length + 1) cap6) ≠ some g' ∧ ∀ x, w6.cell? ⟨g', x, none⟩ = w1.cell? ⟨g', x, none⟩) := by
                intro g' hg'
                injection hg' with hg'
                injection hg' with hg'
                subst hg'
                refine ⟨?_, fun x => ?_⟩
                · show some gg ≠ some g
                  intro e
                  injection e with e
                  subst e
                  rcases HAT.out with h | h
                  · exact HNE.out h
                  · simp at h; omega
                · rw [HGR.out.cell_far ⟨g, x, none⟩ (by simp; omega) (Ne.symm HNE.out), World.cell?_alloc_lt _ _ _ (by show g < _; omega)]
                  exact HCELL.out x
              have hsz7 : w1.heap.size ≤ w6.heap.size := by
                have : wr.heap.size + 1 ≤ w6.heap.size := by simpa using hsz6
                omega
              go_roundw
              case rel => exact ⟨k + 1, _, rfl, by rfl, by omega, by rw [HSN.out]; have h9 := HT6.out; simp only [List.length_append, List.length_take] at h9; exact h9, HB6.out, hsz7, by simpa only [List.length_append, List.length_take] using HK2⟩
              case measure => simp [intOf]; omega
            · have p1 : decide ((k : Int) < nt) = false := decide_eq_false (by omega)
              have htk2 : acc ++ ts.take k = acc ++ ts := by rw [List.take_of_length_le (by rw [HNT.out]; omega)]
              have hTF : Toks wr w.heap.size tk (acc ++ ts) := by rw [← htk2]; exact HTK.out
              have HTF := Lib.hid hTF
              have htl2 : (acc ++ ts).length ≤ i + 1 := by rw [List.length_append, HNT.out]; omega
              clear htk2 hTF HTK HK
              go_wp2
              go_roundw
              case rel => exact ⟨i + 1, i + 1, no + 1, acc ++ ts, _, rfl, by rfl, by rfl, by rfl, by omega, by omega, by omega, htl2, HTF.out, HBK.out, fun h => ⟨HN.out.2 (HL.out.resolve_left (by omega)), by rw [Nat.sub_self, List.take_zero]; intro x hx; cases hx⟩, fun h => HN.out.1 (by omega)⟩
              case measure => simp [intOf]; omega
      · have q5 : ((c : Int) != 0) = true := by rw [bne_iff_ne]; omega
        have hRR : R = ([], c, no, m) := by
          rcases hline with h | h
          · exact (hsc.1 (by rw [← HSL.out]; exact h)).1 hc
          · exact (hsc.2 h).1 hc
        have HRR := Lib.hid hRR
        clear hsc hcut hrun hex HF hgo hline hRR
        rcases hskip with q3 | ⟨hlt, h10⟩
        · have q3' : decide ((i : Int) < s.size) = false := decide_eq_false (by omega)
          go_wp2_with (go_at_call 44; refine HC.out.mono ?_; rintro e w1 ⟨tv1, rfl, ht1, hb1⟩)
          refine bodyPost_ret (results_tmp4 rfl _ _ _) rfl ?_
          exact RefScan_of (HR.out.trans HRR.out) rfl rfl rfl (World.ownsRow_nil _ _ _ _) (HB.out.trans (hb1.mono hBw))
        · have q3 : decide ((i : Int) < s.size) = true := decide_eq_true (by omega)
          have q3' : (i : Int) < s.size := by omega
          have q4 : (((s[i]'hlt).toNat : Int) != 10) = false := by rw [bne_eq_false_iff_eq]; omega
          go_wp2_with (go_at_call 44; refine HC.out.mono ?_; rintro e w1 ⟨tv1, rfl, ht1, hb1⟩)
          refine bodyPost_ret (results_tmp4 rfl _ _ _) rfl ?_
          exact RefScan_of (HR.out.trans HRR.out) rfl rfl rfl (World.ownsRow_nil _ _ _ _) (HB.out.trans (hb1.mono hBw))
    · have q2 : decide ((i : Int) ≤ s.size) = false := decide_eq_false (by omega)
      have HRR := HZ (by omega)
      clear HA HZ
      go_wp2
      refine bodyPost_ret (results_tmp4 rfl _ _ _) rfl ?_
      exact RefScan_of (HR.out.trans HRR.out) rfl rfl rfl HT.out HB.out
end Go.Proofs.YtdmpapoabeljfaaGreatDoor
