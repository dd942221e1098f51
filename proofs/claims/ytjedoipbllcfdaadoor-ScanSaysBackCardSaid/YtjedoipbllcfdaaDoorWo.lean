/-
  THE WALK of scan.Unquote, of reachref3.Unquote and of the law ScanUnquotes (chapter 3).
-/
import Derived.Test.YtjedoipbllcfdaaDoorPa
import Derived.Test.YtjedoipbllcfdaaDoorWk
import Derived.Test.YtjedoipbllcfdaaDoorWb
set_option linter.unusedVariables false
set_option linter.unusedSimpArgs false
set_option maxRecDepth 100000
set_option maxHeartbeats 4000000
namespace Go.Proofs.YtjedoipbllcfdaaDoor
open Go.RowKit

/-- A row of bytes lies in a slice of its length. -/
theorem own_slice {w : World} {B : Nat} {v : Value} {n : Nat} {xs : List Value} (h : w.ownsRowF B 5 1 v n xs) : ∃ o cap, v = .slice o n cap := by
  rcases h.2 with ⟨rfl, rfl⟩ | ⟨g, cap, cur, fz, rfl, hbg, _⟩
  · have := h.1
    simp at this
    subst this
    exact ⟨_, _, rfl⟩
  · exact ⟨_, _, rfl⟩
/-- Such a row's text. -/
theorem own_string {w : World} {B : Nat} {v : Value} {b : List UInt8} (h : w.ownsRowF B 5 1 v b.length (Lib.byteCells b)) :
    (convert 50 9 v).run Tryd.prog w = .ok (.string ⟨b.toArray⟩) w := by
  rcases h.2 with ⟨rfl, hx⟩ | ⟨g, cap, cur, fz, rfl, hbg, _⟩
  · have hb : b = [] := by
      exact List.length_eq_zero_iff.1 hx
    subst hb
    exact run_convert_bytes_nil (P := Tryd.prog) (w := w) 50 5 Tryd.underlying50 Tryd.underlying5 0 0 9 Tryd.underlying9
  · refine run_convert_bytes_back w 50 9 5 ⟨g, 0, none⟩ cap b Tryd.underlying50 Tryd.underlying5 Tryd.underlying9 ?_
    intro j hj
    refine (h.cells (g := g) rfl) j _ ?_
    simp [Lib.byteCells, hj]

/-- What Unquote hands back. -/
def UnqEnd (s : ByteArray) (W : World) (e : Ending) (w' : World) : Prop :=
  e = .returned (.tuple #[.string ⟨(Sp.unquoteV s.data.toList).1.toArray⟩, .int .i64 (Sp.unquoteV s.data.toList).2.1, .int .i64 (Sp.unquoteV s.data.toList).2.2]) ∧ Below W.heap.size W w'
theorem UnqEnd_of {s : ByteArray} {W w' : World} {c p : Nat} {b : List UInt8} (h : Sp.unquoteV s.data.toList = (b, c, p)) {x : ByteArray} {y z : Int} (hx : x = ⟨b.toArray⟩) (hy : y = c) (hz : z = p) (hb : Below W.heap.size W w') :
    UnqEnd s W (.returned (.tuple #[.string x, .int .i64 y, .int .i64 z])) w' := by
  subst hx; subst hy; subst hz
  unfold UnqEnd
  rw [h]
  exact ⟨rfl, hb⟩
theorem insR_zero (s : ByteArray) : insR s 0 = Sp.speakV false s.data.toList := by
  unfold insR Sp.speakV
  rw [Lib.size_eq]


theorem unq_long {l : List UInt8} (h : 16384 < l.length) : Sp.unquoteV l = ([], 2, 0) := by unfold Sp.unquoteV; rw [if_pos h]
theorem unq_head {l : List UInt8} (h : ¬ 16384 < l.length) (h2 : l.head? ≠ some 34) : Sp.unquoteV l = ([], 32, 0) := by unfold Sp.unquoteV; rw [if_neg h, if_pos h2]
theorem unq_rest {l : List UInt8} (h : ¬ 16384 < l.length) (h2 : l.head? = some 34) {c p : Nat} {b : List UInt8} (hs : Sp.speakV false l = (c, b, p)) :
    Sp.unquoteV l = if c ≠ 0 then ([], c, p) else if p < l.length then ([], 32, p) else if 256 < b.length then ([], 37, 0) else (b, 0, 0) := by
  unfold Sp.unquoteV
  rw [if_neg h, if_neg (by rw [h2]; simp)]
  simp only [hs]
theorem head_at (s : ByteArray) (h : 0 < s.size) : s.data.toList.head? = some (s[0]'h) := by
  have h2 := Sp.drop_cons s 0 h
  rw [List.drop_zero] at h2
  rw [h2]
  rfl

theorem scan_unquote (s : ByteArray) (w : World) (hG : Gl w) (hs : s.size ≤ 9223372036854775807) :
    Calls Tryd.prog 11 #[.string s] w (UnqEnd s w) := by
  have hsl := Lib.size_eq s
  by_cases h1 : 16384 < s.size
  · have HU := Lib.hid (unq_long (l := s.data.toList) (by omega))
    have q1 : decide ((s.size : Int) > 16384) = true := decide_eq_true (by omega)
    clear hG hsl
    go_enter Tryd.func11, Tryd.ntmps11
    go_wp2
    go_ret3
    exact UnqEnd_of HU.out rfl rfl rfl (Below.refl _ _)
  have q1 : decide ((s.size : Int) > 16384) = false := decide_eq_false (by omega)
  have hsT : s.toList = s.data.toList := Lib.toList_data s
  by_cases h2 : s.toList.isEmpty = true
  · have HU := Lib.hid (unq_head (l := s.data.toList) (by omega) (by rw [← hsT, List.isEmpty_iff.1 h2]; simp))
    clear hG hsl hsT
    go_enter Tryd.func11, Tryd.ntmps11
    go_wp2
    go_ret3
    exact UnqEnd_of HU.out rfl rfl rfl (Below.refl _ _)
  have q2 : s.toList.isEmpty = false := Bool.eq_false_iff.2 h2
  have h3 : 0 < s.size := by
    rcases Nat.eq_zero_or_pos s.size with h | h
    · exfalso; apply h2
      rw [hsT, List.isEmpty_iff]
      exact List.length_eq_zero_iff.1 (by omega)
    · exact h
  have h3' : (0 : Int) < s.size := by omega
  by_cases h4 : (s[0]'h3).toNat = 34
  · have q3 : (((s[0]'h3).toNat : Int) != 34) = false := by simp; omega
    have hd : s.data.toList.head? = some 34 := by rw [head_at s h3]; exact congrArg some (UInt8.toNat_inj.1 h4)
    obtain ⟨c, b, p, hsp⟩ : ∃ c b p, Sp.speakV false s.data.toList = (c, b, p) := ⟨_, _, _, rfl⟩
    have hU := unq_rest (by omega) hd hsp
    rw [← hsl] at hU
    have hc := scan_speak s false w hG (by omega) (by omega)
    have hp := Sp.speakV_le hsp
    rw [← hsl] at hp
    by_cases c0 : c = 0
    · subst c0
      have hc2 : Calls Tryd.prog 23 #[.string s, .bool false] w (fun e w' => ∃ o cap, e = .returned (.tuple #[.slice o b.length cap, .int .i64 (p : Nat), .int .i64 0]) ∧ (convert 50 9 (.slice o b.length cap)).run Tryd.prog w' = .ok (.string ⟨b.toArray⟩) w' ∧ Below w.heap.size w w') := hc.mono (fun e w' h => by
        unfold SpkEnd at h
        rw [hsp] at h
        obtain ⟨v, rfl, h5, h6⟩ := h.1 rfl
        obtain ⟨o, cap, rfl⟩ := own_slice h5
        exact ⟨o, cap, rfl, own_string h5, h6⟩)
      rw [if_neg (by simp)] at hU
      by_cases c1 : p < s.size
      · rw [if_pos c1] at hU
        have q4 : decide ((p : Int) < s.size) = true := decide_eq_true (by omega)
        have HU := Lib.hid hU
        have HC := Lib.hid hc2
        clear hc hc2 hsl hU hd hsp h2 hsT hG
        go_enter Tryd.func11, Tryd.ntmps11
        go_wp2_with (go_at_call 23; refine HC.out.mono ?_; rintro e w1 ⟨o, cap, rfl, hcv, hb1⟩)
        go_ret3
        exact UnqEnd_of HU.out rfl (by omega) (by omega) (by assumption)
      rw [if_neg c1] at hU
      have q4 : decide ((p : Int) < s.size) = false := decide_eq_false (by omega)
      by_cases c2 : 256 < b.length
      · rw [if_pos c2] at hU
        have q5 : decide ((b.length : Int) > 256) = true := decide_eq_true (by omega)
        have HU := Lib.hid hU
        have HC := Lib.hid hc2
        clear hc hc2 hsl hU hd hsp h2 hsT hG
        go_enter Tryd.func11, Tryd.ntmps11
        go_wp2_with (go_at_call 23; refine HC.out.mono ?_; rintro e w1 ⟨o, cap, rfl, hcv, hb1⟩)
        go_ret3
        exact UnqEnd_of HU.out rfl (by omega) (by omega) (by assumption)
      · rw [if_neg c2] at hU
        have q5 : decide ((b.length : Int) > 256) = false := decide_eq_false (by omega)
        have HU := Lib.hid hU
        have HC := Lib.hid hc2
        clear hc hc2 hsl hU hd hsp h2 hsT hG
        go_enter Tryd.func11, Tryd.ntmps11
        go_wp2_with (go_at_call 23; refine HC.out.mono ?_; rintro e w1 ⟨o, cap, rfl, hcv, hb1⟩)
        go_ret3
        exact UnqEnd_of HU.out rfl (by omega) (by omega) (by assumption)
    · rw [if_pos c0] at hU
      have q4 : ((c : Int) == 0) = false := beq_eq_false_iff_ne.2 (by omega)
      have q5 : ((c : Int) != 0) = true := by simp; omega
      have hc2 : Calls Tryd.prog 23 #[.string s, .bool false] w (fun e w' => e = .returned (.tuple #[.slice none 0 0, .int .i64 (p : Nat), .int .i64 (c : Nat)]) ∧ Below w.heap.size w w') := hc.mono (fun e w' h => by
        unfold SpkEnd at h
        rw [hsp] at h
        exact h.2 c0)
      have HU := Lib.hid hU
      have HC := Lib.hid hc2
      clear hc hc2 hsl hU hd hsp h2 hsT hG
      go_enter Tryd.func11, Tryd.ntmps11
      go_wp2_with (go_at_call 23; refine HC.out.mono ?_; rintro e w1 ⟨rfl, hb1⟩)
      go_ret3
      exact UnqEnd_of HU.out rfl (by omega) (by omega) (by assumption)
  · have q3 : (((s[0]'h3).toNat : Int) != 34) = true := by simp; omega
    have HU := Lib.hid (unq_head (l := s.data.toList) (by omega) (by rw [head_at s h3]; intro e; injection e with e; exact h4 (by rw [e]; rfl)))
    clear hG hsl hsT h2
    go_enter Tryd.func11, Tryd.ntmps11
    go_wp2
    go_ret3
    exact UnqEnd_of HU.out rfl rfl rfl (Below.refl _ _)

theorem ref3_unquote (s : ByteArray) (w : World) (hs : s.size ≤ 9223372036854775807) :
    Calls Tryd.prog 12 #[.string s] w (UnqEnd s w) := by
  have hsl := Lib.size_eq s
  by_cases h1 : 16384 < s.size
  · have HU := Lib.hid (unq_long (l := s.data.toList) (by omega))
    have q1 : decide ((s.size : Int) > 16384) = true := decide_eq_true (by omega)
    clear hsl
    go_enter Tryd.func12, Tryd.ntmps12
    go_wp2
    go_ret3
    exact UnqEnd_of HU.out rfl rfl rfl (Below.refl _ _)
  have q1 : decide ((s.size : Int) > 16384) = false := decide_eq_false (by omega)
  have hsT : s.toList = s.data.toList := Lib.toList_data s
  by_cases h2 : s.toList.isEmpty = true
  · have HU := Lib.hid (unq_head (l := s.data.toList) (by omega) (by rw [← hsT, List.isEmpty_iff.1 h2]; simp))
    clear hsl hsT
    go_enter Tryd.func12, Tryd.ntmps12
    go_wp2
    go_ret3
    exact UnqEnd_of HU.out rfl rfl rfl (Below.refl _ _)
  have q2 : s.toList.isEmpty = false := Bool.eq_false_iff.2 h2
  have h3 : 0 < s.size := by
    rcases Nat.eq_zero_or_pos s.size with h | h
    · exfalso; apply h2
      rw [hsT, List.isEmpty_iff]
      exact List.length_eq_zero_iff.1 (by omega)
    · exact h
  have h3' : (0 : Int) < s.size := by omega
  by_cases h4 : (s[0]'h3).toNat = 34
  · have q3 : (((s[0]'h3).toNat : Int) != 34) = false := by simp; omega
    have hd : s.data.toList.head? = some 34 := by rw [head_at s h3]; exact congrArg some (UInt8.toNat_inj.1 h4)
    obtain ⟨c, b, p, hsp⟩ : ∃ c b p, Sp.speakV false s.data.toList = (c, b, p) := ⟨_, _, _, rfl⟩
    have hU := unq_rest (by omega) hd hsp
    rw [← hsl] at hU
    have hc := ref3_inside s 0 w h3 (by omega)
    unfold insSpec at hc
    rw [insR_zero, hsp] at hc
    have hp := Sp.speakV_le hsp
    rw [← hsl] at hp
    by_cases c0 : c = 0
    · subst c0
      have hc2 := hc
      rw [if_neg (by simp)] at hU
      by_cases c1 : p < s.size
      · rw [if_pos c1] at hU
        have q4 : decide ((p : Int) < s.size) = true := decide_eq_true (by omega)
        have HU := Lib.hid hU
        have HC := Lib.hid hc2
        clear hc hc2 hsl hU hd hsp h2 hsT
        go_enter Tryd.func12, Tryd.ntmps12
        go_wp2_with (go_at_call 24; refine HC.out.mono ?_; rintro e w1 ⟨rfl, hb1⟩)
        go_ret3
        exact UnqEnd_of HU.out rfl (by omega) (by omega) (by assumption)
      rw [if_neg c1] at hU
      have q4 : decide ((p : Int) < s.size) = false := decide_eq_false (by omega)
      by_cases c2 : 256 < b.length
      · rw [if_pos c2] at hU
        have q5 : decide ((b.length : Int) > 256) = true := decide_eq_true (by omega)
        have HU := Lib.hid hU
        have HC := Lib.hid hc2
        clear hc hc2 hsl hU hd hsp h2 hsT
        go_enter Tryd.func12, Tryd.ntmps12
        go_wp2_with (go_at_call 24; refine HC.out.mono ?_; rintro e w1 ⟨rfl, hb1⟩)
        go_ret3
        exact UnqEnd_of HU.out rfl (by omega) (by omega) (by assumption)
      · rw [if_neg c2] at hU
        have q5 : decide ((b.length : Int) > 256) = false := decide_eq_false (by omega)
        have HU := Lib.hid hU
        have HC := Lib.hid hc2
        clear hc hc2 hsl hU hd hsp h2 hsT
        go_enter Tryd.func12, Tryd.ntmps12
        go_wp2_with (go_at_call 24; refine HC.out.mono ?_; rintro e w1 ⟨rfl, hb1⟩)
        go_ret3
        exact UnqEnd_of HU.out rfl (by omega) (by omega) (by assumption)
    · rw [if_pos c0] at hU
      have q4 : ((c : Int) == 0) = false := beq_eq_false_iff_ne.2 (by omega)
      have q5 : ((c : Int) != 0) = true := by simp; omega
      have hc2 := hc
      have HU := Lib.hid hU
      have HC := Lib.hid hc2
      clear hc hc2 hsl hU hd hsp h2 hsT
      go_enter Tryd.func12, Tryd.ntmps12
      go_wp2_with (go_at_call 24; refine HC.out.mono ?_; rintro e w1 ⟨rfl, hb1⟩)
      go_ret3
      exact UnqEnd_of HU.out rfl (by omega) (by omega) (by assumption)
  · have q3 : (((s[0]'h3).toNat : Int) != 34) = true := by simp; omega
    have HU := Lib.hid (unq_head (l := s.data.toList) (by omega) (by rw [head_at s h3]; intro e; injection e with e; exact h4 (by rw [e]; rfl)))
    clear hsl hsT h2
    go_enter Tryd.func12, Tryd.ntmps12
    go_wp2
    go_ret3
    exact UnqEnd_of HU.out rfl rfl rfl (Below.refl _ _)
end Go.Proofs.YtjedoipbllcfdaaDoor
