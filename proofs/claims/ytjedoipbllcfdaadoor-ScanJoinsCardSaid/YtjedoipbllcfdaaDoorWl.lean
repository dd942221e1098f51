/-
  THE WALK of scan.escape (chapter 3): the piece with braces; every piece.
-/
import Derived.Test.YtjedoipbllcfdaaDoorWk
set_option linter.unusedVariables false
set_option linter.unusedSimpArgs false
set_option maxRecDepth 100000
set_option maxHeartbeats 4000000
namespace Go.Proofs.YtjedoipbllcfdaaDoor
open Go.RowKit

theorem ownsRowF_some {w : World} {B : Nat} {v : Value} {n : Nat} {xs : List Value} (h : w.ownsRowF B 5 1 v n xs) (hn : 0 < n) :
    ∃ g cap, v = .slice (some ⟨g, 0, none⟩) n cap ∧ B ≤ g ∧ ∀ j u, xs[j]? = some u → w.cell? ((⟨g, 0, none⟩ : Addr).add j) = some u := by
  rcases h.2 with ⟨rfl, rfl⟩ | ⟨g, cap, cur, fz, rfl, hbg, _⟩
  · have := h.1
    simp at this
    omega
  · exact ⟨g, cap, rfl, hbg, h.cells (g := g) rfl⟩

/-- utf8.AppendRune onto nil. -/
theorem app_nil (v : Nat) (hv : v ≤ 1114111) (w : World) :
    Calls Tryd.prog 36 #[.slice none 0 0, .int .i32 v] w fun e w' => ∃ g cap, e = .returned (.slice (some ⟨g, 0, none⟩) (Lib.encodeRune (v : Nat)).length cap) ∧ w.heap.size ≤ g ∧
      (∀ j u, (Lib.byteCells (Lib.encodeRune (v : Nat)))[j]? = some u → w'.cell? ((⟨g, 0, none⟩ : Addr).add j) = some u) ∧ Below w.heap.size w w' := by
  refine (Tryd.utf8_AppendRune_row w.heap.size (.slice none 0 0) 0 [] (v : Int) (by omega) (by omega) w (World.ownsRowF_nil _ _ _ _) (by omega) (Nat.le_refl _)).mono ?_
  rintro e w' ⟨v', rfl, hown, o, hg⟩
  have hl := Lib.runeCells_le (v : Nat)
  obtain ⟨g, cap, rfl, h1, h2⟩ := ownsRowF_some hown (by omega)
  rw [Nat.zero_add, Lib.runeCells_length]
  rw [List.nil_append, ← Lib.byteCells_encodeRune] at h2
  refine ⟨g, cap, rfl, h1, h2, ?_⟩
  exact ((Below.refl _ _).alloc (Nat.le_refl _) o).grown hg (by simp) (fun k hk => by simp [Value.ownBlock] at hk)

theorem scan_escape_u (s : ByteArray) (w : World) (hG : Gl w) (hs : s.size ≤ 1073741824) (h1 : 1 < s.size) (h0 : Sp.bt s.data.toList 0 = 92) (hc : (s[1]'h1).toNat = 117) (h2 : 3 ≤ s.size) (hc2 : Sp.bt s.data.toList 2 = 123) :
    Calls Tryd.prog 35 #[.string s] w (EscEnd s.data.toList w) := by
  have hO : Sp.brO s.data.toList = Sp.bracedV (s.data.toList.drop 3) := by
    unfold Sp.brO
    rw [if_pos ⟨by rw [← Lib.size_eq]; omega, hc2⟩]
  have hE : Sp.escV s.data.toList = match Sp.bracedV (s.data.toList.drop 3) with | none => none | some (k, v) => some (k, Lib.encodeRune (v : Nat)) := by
    have hl : ¬ s.data.toList.length < 2 := by rw [← Lib.size_eq]; omega
    have hb : Sp.bt s.data.toList 1 = 117 := by rw [← Sp.bt_idx s 1 h1]; exact hc
    rw [Sp.escV_eq, if_neg hl, hb, hO]
    simp only [Nat.reduceEqDiff, if_false, if_true]
    cases Sp.bracedV (s.data.toList.drop 3) <;> rfl
  have hi := fun W => idx_let (s[1]'h1) W
  have hv := idx_none (c := s[1]'h1) (by omega) (by omega) (by omega) (by omega) (by omega)
  simp only [hv] at hi
  have HI := Lib.hid hi
  have hp := fun W => hasP s W true (decide_eq_true ⟨by omega, h0, by rw [← Sp.bt_idx s 1 h1]; exact hc, hc2⟩)
  have HP := Lib.hid hp
  have q1 : (((s[1]'h1).toNat : Int) == 120) = false := beq_eq_false_iff_ne.2 (by omega)
  have h1' : (1 : Int) < s.size := by omega
  have h3' : (3 : Int) ≤ s.size := by omega
  obtain ⟨m, hm⟩ : ∃ m, s.data.toList.drop 3 = m := ⟨_, rfl⟩
  rw [hm] at hE
  have hsz : (s.extract 3 s.size).size = s.size - 3 := by rw [ByteArray.size_extract]; omega
  have hml : m.length = s.size - 3 := by rw [← hm, List.length_drop, ← Lib.size_eq]
  have hdat : (s.extract 3 s.size).data.toList = m := by
    rw [Lib.extract_data, List.take_of_length_le (by rw [List.length_drop, ← Lib.size_eq]; omega), hm]
  obtain ⟨mx, hmx⟩ := hG.maxLen
  have hcut := Tryd.strings_Cut (s.extract 3 s.size) ⟨#[125]⟩ mx w (by omega) hmx
  have hcut1 : Lib.cut (s.extract 3 s.size).data.toList (⟨#[125]⟩ : ByteArray).data.toList = Lib.cut m [125] := by rw [hdat]
  rw [hcut1, Sp.cut_one] at hcut
  by_cases hall : m.all (fun x => decide (x ≠ 125)) = true
  · rw [if_pos hall] at hcut
    have hB : Sp.bracedV m = none := by unfold Sp.bracedV; rw [if_pos hall]
    rw [hB] at hE
    refine Calls.mono ?_ (EscEnd_none hE)
    have HC := Lib.hid hcut
    clear hcut hcut1 hall hE hB hO hi hv hp h0 hc hc2 hm hml hdat hmx hsz hG
    go_enter Tryd.func35, Tryd.ntmps35
    go_wp2_with (first | (go_at_call 58; refine (HI.out _).mono ?_; rintro e w' ⟨rfl, rfl⟩) | (go_at_call 59; refine (HP.out _).mono ?_; rintro e w' ⟨rfl, rfl⟩) | (go_at_call 60; refine HC.out.mono ?_; rintro e w1 ⟨rfl, nd, rfl⟩))
    go_ret2
    exact ⟨rfl, below_drewN' (Below.refl _ _) _⟩
  · rw [if_neg hall] at hcut
    obtain ⟨tw, htw⟩ : ∃ tw, m.takeWhile (fun x => decide (x ≠ 125)) = tw := ⟨_, rfl⟩
    have htl : tw.length ≤ m.length := by rw [← htw]; exact (List.takeWhile_sublist _).length_le
    rw [htw] at hcut
    have hbas := fun W hW => scan_based ⟨tw.toArray⟩ 16 6 W hW (by show tw.toArray.size ≤ _; simp; omega) (by omega) (Or.inl ⟨rfl, by omega⟩)
    have hbe : (⟨tw.toArray⟩ : ByteArray).data.toList = tw := by simp
    simp only [hbe] at hbas
    have hB : Sp.bracedV m = match Sp.basedV 16 6 tw with | none => none | some v => if Sp.validRune v then some (tw.length + 4, v) else none := by
      unfold Sp.bracedV
      rw [if_neg hall, htw]
      cases Sp.basedV 16 6 tw <;> rfl
    have hbb : ∀ n, Below w.heap.size w (w.drewN n) := fun n => below_drewN' (Below.refl _ _) n
    have HBB := Lib.hid hbb
    rcases hv6 : Sp.basedV 16 6 tw with _ | v
    · rw [hv6] at hB
      rw [hB] at hE
      refine Calls.mono ?_ (EscEnd_none hE)
      have hk : ∀ W, Gl W → Calls Tryd.prog 45 #[.string ⟨tw.toArray⟩, .int .i64 16, .int .i64 6] W fun e w' => e = .returned (.tuple #[.int .i64 0, .bool false]) ∧ Below W.heap.size W w' := by
        intro W hW
        have h := hbas W hW
        rw [okV_none (by exact hv6)] at h
        exact h
      have HC := Lib.hid hcut
      have HK := Lib.hid hk
      have HG := Lib.hid hG
      clear hcut hcut1 hall hE hB hO hi hv hp h0 hc hc2 hm hml hdat hmx hsz hG hk hbas hbe hv6 htw htl hbb
      go_enter Tryd.func35, Tryd.ntmps35
      go_wp2_with (first | (go_at_call 58; refine (HI.out _).mono ?_; rintro e w' ⟨rfl, rfl⟩) | (go_at_call 59; refine (HP.out _).mono ?_; rintro e w' ⟨rfl, rfl⟩) | (go_at_call 60; refine HC.out.mono ?_; rintro e w1 ⟨rfl, nd, rfl⟩) | (go_at_call 45; refine (HK.out _ (HG.out.below (HBB.out _))).mono ?_; rintro e w2 ⟨rfl, hb2⟩))
      go_ret2
      exact ⟨rfl, (HBB.out _).trans hb2⟩
    · rw [hv6] at hB
      have hlt := Sp.basedV_lt (by omega) hv6
      have h16 : (16 : Nat) ^ 6 = 16777216 := by decide
      rw [h16] at hlt
      have hk : ∀ W, Gl W → Calls Tryd.prog 45 #[.string ⟨tw.toArray⟩, .int .i64 16, .int .i64 6] W fun e w' => e = .returned (.tuple #[.int .i64 v, .bool true]) ∧ Below W.heap.size W w' := by
        intro W hW
        have h := hbas W hW
        rw [okV_some (by exact hv6)] at h
        exact h
      have hvr := fun W => Tryd.utf8_ValidRune (v : Int) W
      simp only [Sp.valid_rune] at hvr
      obtain ⟨z, hz⟩ : ∃ z : Int, (v : Int) = z := ⟨_, rfl⟩
      have hz0 : 0 ≤ z := by omega
      have hz1 : z < 16777216 := by omega
      have hB : Sp.bracedV m = if Sp.validRune v = true then some (tw.length + 4, v) else none := hB
      rcases hval : Sp.validRune v with _ | _
      · rw [hval] at hB hvr
        rw [show (if false = true then some (tw.length + 4, v) else none) = (none : Option (Nat × Nat)) from rfl] at hB
        rw [hB] at hE
        refine Calls.mono ?_ (EscEnd_none hE)
        simp only [hz] at hk hvr
        have HC := Lib.hid hcut
        have HK := Lib.hid hk
        have HG := Lib.hid hG
        have HV := Lib.hid hvr
        clear hcut hcut1 hall hE hB hO hi hv hp h0 hc hc2 hm hml hdat hmx hsz hG hk hbas hbe hv6 htw htl hbb hvr hlt hz hval
        go_enter Tryd.func35, Tryd.ntmps35
        go_wp2_with (first | (go_at_call 58; refine (HI.out _).mono ?_; rintro e w' ⟨rfl, rfl⟩) | (go_at_call 59; refine (HP.out _).mono ?_; rintro e w' ⟨rfl, rfl⟩) | (go_at_call 60; refine HC.out.mono ?_; rintro e w1 ⟨rfl, nd, rfl⟩) | (go_at_call 45; refine (HK.out _ (HG.out.below (HBB.out _))).mono ?_; rintro e w2 ⟨rfl, hb2⟩) | (go_at_call 61; refine (HV.out _).mono ?_; rintro e w' ⟨rfl, rfl⟩))
        go_ret2
        exact ⟨rfl, (HBB.out _).trans hb2⟩
      · rw [hval] at hB hvr
        rw [show (if true = true then some (tw.length + 4, v) else none) = some (tw.length + 4, v) from rfl] at hB
        rw [hB] at hE
        have hvm : v ≤ 1114111 := by have := of_decide_eq_true hval; omega
        have happ := fun W => app_nil v hvm W
        simp only [hz] at hk hvr happ
        unfold EscEnd
        rw [hE]
        have HC := Lib.hid hcut
        have HK := Lib.hid hk
        have HG := Lib.hid hG
        have HV := Lib.hid hvr
        have HA := Lib.hid happ
        have hz2 : z ≤ 1114111 := by omega
        have HZ := Lib.hid hz
        clear hcut hcut1 hall hE hB hO hi hv hp h0 hc hc2 hm hdat hmx hsz hG hk hbas hbe hv6 htw hbb hvr hlt hz hval happ
        have htl2 : (tw.length : Int) ≤ 1073741824 := by omega
        clear htl hml
        go_enter Tryd.func35, Tryd.ntmps35
        go_wp2_with (first | (go_at_call 58; refine (HI.out _).mono ?_; rintro e w' ⟨rfl, rfl⟩) | (go_at_call 59; refine (HP.out _).mono ?_; rintro e w' ⟨rfl, rfl⟩) | (go_at_call 60; refine HC.out.mono ?_; rintro e w1 ⟨rfl, nd, rfl⟩) | (go_at_call 45; refine (HK.out _ (HG.out.below (HBB.out _))).mono ?_; rintro e w2 ⟨rfl, hb2⟩) | (go_at_call 61; refine (HV.out _).mono ?_; rintro e w' ⟨rfl, rfl⟩) | (go_at_call 36; refine (HA.out _).mono ?_; rintro e w3 ⟨g, cap, rfl, hg1, hg2, hb3⟩))
        go_ret2
        obtain rfl := HZ.out
        exact ⟨_, ret_pair rfl (congrArg (Value.int .i64) (by simp)), ⟨g, cap, rfl, Nat.le_trans ((HBB.out nd).trans hb2).size hg1, hg2⟩, ((HBB.out _).trans hb2).trans (hb3.mono ((HBB.out nd).trans hb2).size)⟩

theorem EscEnd_of (s : ByteArray) (w : World) {k : Nat} {y : UInt8} (hE : Sp.escV s.data.toList = some (k, [y])) {z kk : Int} (hz : z = y.toNat) (hk : kk = k)
    (h : Calls Tryd.prog 35 #[.string s] w fun e w' => ∃ g cap, e = .returned (.tuple #[.slice (some ⟨g, 0, none⟩) 1 cap, .int .i64 kk]) ∧ w.heap.size ≤ g ∧ w'.cell? ⟨g, 0, none⟩ = some (.int .u8 z) ∧ Below w.heap.size w w') :
    Calls Tryd.prog 35 #[.string s] w (EscEnd s.data.toList w) := by
  refine h.mono ?_
  rintro e w' ⟨g, cap, rfl, hg, hc, hb⟩
  exact EscEnd_one hE hz kk hk hb hg hc

theorem scan_escape (s : ByteArray) (w : World) (hG : Gl w) (hs : s.size ≤ 1073741824) (h0 : Sp.bt s.data.toList 0 = 92) :
    Calls Tryd.prog 35 #[.string s] w (EscEnd s.data.toList w) := by
  have hE := Sp.escV_eq s.data.toList
  rw [← Lib.size_eq] at hE
  by_cases h1 : 1 < s.size
  · have hb := Sp.bt_idx s 1 h1
    rw [if_neg (by omega), ← hb] at hE
    by_cases c1 : (s[1]'h1).toNat = 34
    · rw [if_pos c1] at hE
      exact EscEnd_of s w hE rfl rfl (scan_escape_34 s w h1 c1)
    rw [if_neg c1] at hE
    by_cases c2 : (s[1]'h1).toNat = 92
    · rw [if_pos c2] at hE
      exact EscEnd_of s w hE rfl rfl (scan_escape_92 s w h1 c2)
    rw [if_neg c2] at hE
    by_cases c3 : (s[1]'h1).toNat = 110
    · rw [if_pos c3] at hE
      exact EscEnd_of s w hE rfl rfl (scan_escape_110 s w h1 c3)
    rw [if_neg c3] at hE
    by_cases c4 : (s[1]'h1).toNat = 114
    · rw [if_pos c4] at hE
      exact EscEnd_of s w hE rfl rfl (scan_escape_114 s w h1 c4)
    rw [if_neg c4] at hE
    by_cases c5 : (s[1]'h1).toNat = 116
    · rw [if_pos c5] at hE
      exact EscEnd_of s w hE rfl rfl (scan_escape_116 s w h1 c5)
    rw [if_neg c5] at hE
    by_cases c6 : (s[1]'h1).toNat = 120
    · rw [if_pos c6] at hE
      have g2 : ∀ h2 : 2 < s.size, s.data.toList.getD 2 0 = s[2]'h2 := fun h2 => by
        rw [Sp.get_idx s 2 h2 (by rw [← Lib.size_eq]; exact h2), List.getD_eq_getElem?_getD, List.getElem?_eq_getElem]; rfl
      have g3 : ∀ h3 : 3 < s.size, s.data.toList.getD 3 0 = s[3]'h3 := fun h3 => by
        rw [Sp.get_idx s 3 h3 (by rw [← Lib.size_eq]; exact h3), List.getD_eq_getElem?_getD, List.getElem?_eq_getElem]; rfl
      by_cases hx : 3 < s.size ∧ Sp.hexv (s.data.toList.getD 2 0) < 16 ∧ Sp.hexv (s.data.toList.getD 3 0) < 16
      · rw [if_pos hx] at hE
        obtain ⟨h3, ha, hb'⟩ := hx
        have h2 : 2 < s.size := by omega
        rw [g2 h2] at ha hE
        rw [g3 h3] at hb' hE
        exact EscEnd_of s w hE (by rw [UInt8.toNat_ofNat']; congr 1; omega) rfl (scan_escape_x s w hG hs h1 c6 h3 h2 ha hb')
      · rw [if_neg hx] at hE
        refine (scan_escape_x_no s w hG hs h1 c6 ?_).mono (EscEnd_none hE)
        rintro h3 ⟨ha, hb'⟩
        exact hx ⟨h3, by rw [g2 (by omega)]; exact ha, by rw [g3 h3]; exact hb'⟩
    rw [if_neg c6] at hE
    by_cases c7 : 3 ≤ s.size ∧ (s[1]'h1).toNat = 117 ∧ Sp.bt s.data.toList 2 = 123
    · exact scan_escape_u s w hG hs h1 h0 c7.2.1 c7.1 c7.2.2
    · have hE2 : Sp.escV s.data.toList = none := by
        rw [hE]
        by_cases c8 : (s[1]'h1).toNat = 117
        · rw [if_pos c8]
          have hO : Sp.brO s.data.toList = none := by
            unfold Sp.brO
            rw [if_neg]
            rintro ⟨a, b⟩
            rw [← Lib.size_eq] at a
            exact c7 ⟨a, c8, b⟩
          rw [hO]
        · rw [if_neg c8]
      exact (scan_escape_no s w h1 c1 c2 c3 c4 c5 c6 c7).mono (EscEnd_none hE2)
  · rw [if_pos (by omega)] at hE
    exact (scan_escape_end s w h1).mono (EscEnd_none hE)
end Go.Proofs.YtjedoipbllcfdaaDoor
