/-
  THE WALK of lower.token (chapter 9).
-/
import Derived.Test.YtpknablklencdaaGreatDoorMi
import Derived.Shelf.Strings.TrimSpaceAny
import Derived.Lib.AppendIntMem
set_option linter.unusedVariables false
set_option linter.unusedSimpArgs false
set_option maxRecDepth 100000
set_option maxHeartbeats 4000000
namespace Go.Proofs.YtpknablklencdaaGreatDoor
open Go.RowKit

/-- The package variables that the walks of chapter 10 read. -/
structure Gn (w : World) : Prop extends Gs w where
  space : Lib.TabIs Tryz.prog w "strings.asciiSpace" .u8 Lib.asciiSpaceTab
  white : Lib.WhiteTab 1 w
theorem Gn.below {w w' : World} (h : Gn w) (hb : Below w.heap.size w w') : Gn w' where
  toGs := h.toGs.below hb
  space := Lib.tabBelow_of_tabIs h.space w' hb
  white := by
    obtain ⟨T, oT, R, oR, h1, h2, h3, h4, h5⟩ := h.white
    exact ⟨T, oT, R, oR, cell_below hb h1, cell_below hb h2, cell_below hb h3, cell_below hb h4, fun i hi => cell_below hb (h5 i hi)⟩
theorem ba_ext {a b : ByteArray} (h : a.data.toList = b.data.toList) : a = b := by
  cases a with | mk a => cases b with | mk b => cases a; cases b; simp at h; rw [h]
theorem lower_token (s : ByteArray) (w : World) (hG : Gn w) (hs : s.size ≤ 9223372036854775807) :
    Calls Tryz.prog 45 #[.string s] w fun r w' => r = .returned (.bool (Sp.tb (Sp.TokenOk s))) ∧ Below w.heap.size w w' := by
  obtain ⟨n, hn⟩ : ∃ n, s.size = n := ⟨_, rfl⟩
  obtain ⟨P, hP⟩ : ∃ P, Sp.tb (Sp.TokenOk s) = P := ⟨_, rfl⟩
  rw [hP]
  have HP := Lib.hid hP
  have HN := Lib.hid hn
  have HG := Lib.hid hG
  have HTR := Lib.hid (Tryz.strings_TrimSpace_any s w hs hG.space hG.tabs hG.white)
  have HCO := Lib.hid (fun W => Tryz.strings_Contains_one s 35 W)
  have HSC := Lib.hid (fun (ts : List Sp.Tok) (c n m : Nat) (h : Sp.scanV s.data.toList = (ts, c, n, m)) => scan_says s hs h)
  clear hP hG hs
  by_cases h1 : 49 < n
  · have p1 : decide ((n : Int) > 49) = true := decide_eq_true (by omega)
    have p2 : decide (49 < n) = true := decide_eq_true h1
    have hf := HP.out
    rw [Sp.tb_no (fun h => by have := h.1; have := HN.out; omega)] at hf
    subst hf
    clear h1 HP
    go_enter Tryz.func45, Tryz.ntmps45
    go_wp2
    go_ret
    exact ⟨rfl, Below.refl _ _⟩
  have p1 : decide ((n : Int) > 49) = false := decide_eq_false (by omega)
  have p2 : decide (49 < n) = false := decide_eq_false h1
  have H49 := Lib.hid (show s.size ≤ 49 by omega)
  by_cases h2 : Lib.trimSpaceD s.data.toList = s.data.toList
  case neg =>
    obtain ⟨t, ht⟩ : ∃ t : ByteArray, (⟨(Lib.trimSpaceD s.data.toList).toArray⟩ : ByteArray) = t := ⟨_, rfl⟩
    have htr := HTR.out
    rw [ht] at htr
    have HT := Lib.hid htr
    have x1 : (t.toList != s.toList) = true := by
      rw [Lib.toList_data, Lib.toList_data, ← ht, bne_iff_ne]
      intro e
      exact h2 (by simpa using e)
    have x2 : (t.toList == s.toList) = false := by
      rw [Lib.toList_data, Lib.toList_data, ← ht, beq_eq_false_iff_ne]
      intro e
      exact h2 (by simpa using e)
    have hf := HP.out
    rw [Sp.tb_no (fun h => h2 h.2.1)] at hf
    subst hf
    clear h1 h2 HP ht htr HTR
    go_enter Tryz.func45, Tryz.ntmps45
    go_wp2_with (go_at_call 48; refine HT.out.mono ?_; rintro r w1 ⟨rfl, hb1⟩; have HB1 := Lib.hid hb1; clear hb1)
    go_ret
    exact ⟨rfl, HB1.out⟩
  have htr := HTR.out
  rw [h2, show (⟨s.data.toList.toArray⟩ : ByteArray) = s from ba_ext (by simp)] at htr
  have HT := Lib.hid htr
  have x1 : (s.toList != s.toList) = false := by simp
  clear htr HTR
  by_cases h3 : 0 ≤ Lib.indexByte s.data.toList 35
  · have hco := HCO.out
    rw [decide_eq_true h3] at hco
    have HC := Lib.hid hco
    have hf := HP.out
    rw [Sp.tb_no (fun h => h.2.2.1 h3)] at hf
    subst hf
    clear h1 h2 h3 HP hco HCO
    go_enter Tryz.func45, Tryz.ntmps45
    go_wp2_with (first | (go_at_call 48; refine HT.out.mono ?_; rintro r w1 ⟨rfl, hb1⟩; have HB1 := Lib.hid hb1; clear hb1) | (go_at_call 49; refine (HC.out _).mono ?_; rintro r w2 ⟨rfl, rfl⟩))
    go_ret
    exact ⟨rfl, HB1.out⟩
  have hco := HCO.out
  rw [decide_eq_false h3] at hco
  have HC := Lib.hid hco
  have H2 := Lib.hid h2
  have H3 := Lib.hid h3
  clear hco HCO h1 h2 h3
  obtain ⟨ts, c, nn, mm, hv⟩ : ∃ ts c nn mm, Sp.scanV s.data.toList = (ts, c, nn, mm) := ⟨_, _, _, _, rfl⟩
  have HS := Lib.hid (HSC.out _ _ _ _ hv)
  have HV := Lib.hid hv
  clear HSC hv
  by_cases h4 : c = 0
  case neg =>
    have y1 : ((c : Int) == 0) = false := beq_eq_false_iff_ne.2 (by omega)
    have hf := HP.out
    rw [Sp.tb_no (fun h => h4 (by have := h.2.2.2.1; rw [HV.out] at this; exact this))] at hf
    subst hf
    clear h4 HP
    go_enter Tryz.func45, Tryz.ntmps45
    go_wp2_with (first | (go_at_call 48; refine HT.out.mono ?_; rintro r w1 ⟨rfl, hb1⟩; have HB1 := Lib.hid hb1; clear hb1) | (go_at_call 49; refine (HC.out _).mono ?_; rintro r w2 ⟨rfl, rfl⟩) | (go_at_call 50; refine (HS.out _ (HG.out.below HB1.out).toGs).mono ?_; rintro r w3 ⟨A, cap, rfl, hv3, hb3⟩; have HB3 := Lib.hid (HB1.out.trans (hb3.mono HB1.out.size)); clear hv3 hb3))
    go_ret
    exact ⟨rfl, HB3.out⟩
  subst h4
  have y1 : (((0 : Nat) : Int) == 0) = true := rfl
  obtain ⟨lt, hlt⟩ : ∃ lt, ts.length = lt := ⟨_, rfl⟩
  have HLT := Lib.hid hlt
  by_cases h5 : lt = 2
  case neg =>
    have y2 : ((lt : Int) == 2) = false := beq_eq_false_iff_ne.2 (by omega)
    have hf := HP.out
    rw [Sp.tb_no (fun h => h5 (by obtain ⟨t, ln, cl, he⟩ := h.2.2.2.2; rw [HV.out] at he; rw [← HLT.out]; show ts.length = 2; rw [show ts = _ from he]; rfl))] at hf
    subst hf
    clear h5 HP
    go_enter Tryz.func45, Tryz.ntmps45
    go_wp2_with (first | (go_at_call 48; refine HT.out.mono ?_; rintro r w1 ⟨rfl, hb1⟩; have HB1 := Lib.hid hb1; clear hb1) | (go_at_call 49; refine (HC.out _).mono ?_; rintro r w2 ⟨rfl, rfl⟩) | (go_at_call 50; refine (HS.out _ (HG.out.below HB1.out).toGs).mono ?_; rintro r w3 ⟨A, cap, rfl, hv3, hb3⟩; have HB3 := Lib.hid (HB1.out.trans (hb3.mono HB1.out.size)); clear hv3 hb3))
    go_ret
    exact ⟨rfl, HB3.out⟩
  subst h5
  obtain ⟨⟨k, X, ln, cl⟩, t1, rfl⟩ : ∃ a b, ts = [a, b] := by
    match ts, hlt with
    | [a, b], _ => exact ⟨a, b, rfl⟩
  have y2 : (((2 : Nat) : Int) == 2) = true := rfl
  clear hlt HLT
  obtain ⟨x, hx⟩ : ∃ x : ByteArray, (⟨X.toArray⟩ : ByteArray) = x := ⟨_, rfl⟩
  have HX := Lib.hid hx
  clear hx
  have hpost : (Sp.TokenOk s ↔ k = 3 ∧ x.toList = s.toList) := by
    rw [Lib.toList_data, Lib.toList_data, ← HX.out]
    constructor
    · intro h
      obtain ⟨t, ln', cl', he⟩ := h.2.2.2.2
      rw [HV.out] at he
      injection he with he _
      injection he with h1 h2
      injection h2 with h2 _
      exact ⟨h1, by rw [h2]⟩
    · rintro ⟨rfl, he⟩
      refine ⟨H49.out, H2.out, H3.out, by rw [HV.out], t1, ln, cl, ?_⟩
      rw [HV.out]
      have : X = s.data.toList := by simpa using he
      rw [this]
  have HPO := Lib.hid hpost
  clear hpost
  by_cases h6 : k = 3
  case neg =>
    have y3 : ((k : Int) == 3) = false := beq_eq_false_iff_ne.2 (by omega)
    have hf := HP.out
    rw [Sp.tb_no (fun h => h6 (HPO.out.1 h).1)] at hf
    subst hf
    clear h6 HP
    go_enter Tryz.func45, Tryz.ntmps45
    go_wp2_with (first | (go_at_call 48; refine HT.out.mono ?_; rintro r w1 ⟨rfl, hb1⟩; have HB1 := Lib.hid hb1; clear hb1) | (go_at_call 49; refine (HC.out _).mono ?_; rintro r w2 ⟨rfl, rfl⟩) | (go_at_call 50; refine (HS.out _ (HG.out.below HB1.out).toGs).mono ?_; rintro r w3 ⟨A, cap, rfl, hv3, hb3⟩; obtain ⟨g, rfl, hg, k0, k1, k2, k3⟩ := hv3 0 _ rfl; simp only [Nat.zero_mul, Nat.zero_add] at k0 k1 k2 k3; have HB3 := Lib.hid (HB1.out.trans (hb3.mono HB1.out.size)); clear hv3 hb3))
    go_ret
    exact ⟨rfl, HB3.out⟩
  subst h6
  have y3 : (((3 : Nat) : Int) == 3) = true := rfl
  by_cases h7 : x.toList = s.toList
  · have y4 : (x.toList == s.toList) = true := beq_iff_eq.2 h7
    have hf := HP.out
    rw [Sp.tb_yes (HPO.out.2 ⟨rfl, h7⟩)] at hf
    subst hf
    clear h7 HP HPO
    go_enter Tryz.func45, Tryz.ntmps45
    go_wp2_with (first | (go_at_call 48; refine HT.out.mono ?_; rintro r w1 ⟨rfl, hb1⟩; have HB1 := Lib.hid hb1; clear hb1) | (go_at_call 49; refine (HC.out _).mono ?_; rintro r w2 ⟨rfl, rfl⟩) | (go_at_call 50; refine (HS.out _ (HG.out.below HB1.out).toGs).mono ?_; rintro r w3 ⟨A, cap, rfl, hv3, hb3⟩; obtain ⟨g, rfl, hg, k0, k1, k2, k3⟩ := hv3 0 _ rfl; simp only [Nat.zero_mul, Nat.zero_add] at k0 k1 k2 k3; rw [show (⟨X.toArray⟩ : ByteArray) = x from HX.out] at k1; have HB3 := Lib.hid (HB1.out.trans (hb3.mono HB1.out.size)); clear hv3 hb3))
    go_ret
    exact ⟨rfl, HB3.out⟩
  · have y4 : (x.toList == s.toList) = false := beq_eq_false_iff_ne.2 h7
    have hf := HP.out
    rw [Sp.tb_no (fun h => h7 (HPO.out.1 h).2)] at hf
    subst hf
    clear h7 HP HPO
    go_enter Tryz.func45, Tryz.ntmps45
    go_wp2_with (first | (go_at_call 48; refine HT.out.mono ?_; rintro r w1 ⟨rfl, hb1⟩; have HB1 := Lib.hid hb1; clear hb1) | (go_at_call 49; refine (HC.out _).mono ?_; rintro r w2 ⟨rfl, rfl⟩) | (go_at_call 50; refine (HS.out _ (HG.out.below HB1.out).toGs).mono ?_; rintro r w3 ⟨A, cap, rfl, hv3, hb3⟩; obtain ⟨g, rfl, hg, k0, k1, k2, k3⟩ := hv3 0 _ rfl; simp only [Nat.zero_mul, Nat.zero_add] at k0 k1 k2 k3; rw [show (⟨X.toArray⟩ : ByteArray) = x from HX.out] at k1; have HB3 := Lib.hid (HB1.out.trans (hb3.mono HB1.out.size)); clear hv3 hb3))
    go_ret
    exact ⟨rfl, HB3.out⟩
end Go.Proofs.YtpknablklencdaaGreatDoor
