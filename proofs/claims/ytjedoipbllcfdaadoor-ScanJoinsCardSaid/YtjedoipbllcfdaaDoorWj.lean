/-
  THE WALK of scan.based (chapter 3).
-/
import Derived.Test.YtjedoipbllcfdaaDoorWi
import Derived.Deep.QuietTactic
import Derived.BigQuiet
set_option linter.unusedVariables false
set_option linter.unusedSimpArgs false
set_option maxRecDepth 100000
set_option maxHeartbeats 4000000
namespace Go.Proofs.YtjedoipbllcfdaaDoor
open Go.RowKit

/-- strconv.ParseUint at 1 to 8 hexadecimal digits, base 16. -/
theorem pub_uint_16 (t : ByteArray) (hne : t.size ≠ 0) (hmax : t.size ≤ 8) (hx : t.data.toList.all (fun c => decide (Sp.hexv c < 16)) = true) (w : World) :
    Calls Tryd.prog 73 #[.string t, .int .i64 16, .int .i64 64] w fun e w' => e = .returned (.tuple #[.int .u64 (Sp.digitsV 16 0 t.data.toList : Nat), .nilIface]) ∧ Below w.heap.size w w' := by
  have hI := parse_uint_16 t hne hmax hx w
  rw [puV_ok hx] at hI
  have HI := Lib.hid hI
  clear hI hx
  go_enter Tryd.func73, Tryd.ntmps73
  go_wp2_with (go_at_call 89; refine HI.out.mono ?_; rintro e w1 ⟨rfl, hw⟩)
  go_ret2
  exact ⟨rfl, Lib.bytesWorld_below _ _ _⟩

theorem pub_uint_2 (t : ByteArray) (hne : t.size ≠ 0) (hmax : t.size ≤ 32) (hx : t.data.toList.all (fun c => decide (Sp.hexv c < 16)) = true) (hb : t.data.toList.all (fun c => decide (Sp.hexv c < 2)) = true) (w : World) :
    Calls Tryd.prog 73 #[.string t, .int .i64 2, .int .i64 64] w fun e w' => e = .returned (.tuple #[.int .u64 (Sp.digitsV 2 0 t.data.toList : Nat), .nilIface]) ∧ Below w.heap.size w w' := by
  have hI := parse_uint_2 t hne hmax hx w
  rw [puV_ok hb] at hI
  have HI := Lib.hid hI
  clear hI hx hb
  go_enter Tryd.func73, Tryd.ntmps73
  go_wp2_with (go_at_call 89; refine HI.out.mono ?_; rintro e w1 ⟨rfl, hw⟩)
  go_ret2
  exact ⟨rfl, Lib.bytesWorld_below _ _ _⟩

theorem pub_uint_2_bad (t : ByteArray) (hne : t.size ≠ 0) (hmax : t.size ≤ 32) (hx : t.data.toList.all (fun c => decide (Sp.hexv c < 16)) = true) (hb : ¬ t.data.toList.all (fun c => decide (Sp.hexv c < 2)) = true) (w : World) (hG : Gl w) :
    Calls Tryd.prog 73 #[.string t, .int .i64 2, .int .i64 64] w fun e w' => ∃ N, e = .returned (.tuple #[.int .u64 0, .iface 131 (.pointer (some ⟨N, 0, none⟩))]) ∧ Below w.heap.size w w' := by
  have hI := parse_uint_2 t hne hmax hx w
  have hv : puV 2 t.data.toList = .tuple #[.int .u64 0, .iface 129 (.int .i64 2)] := by
    unfold puV
    rw [if_neg hb]
  rw [hv] at hI
  have HI := Lib.hid hI
  have hb1 := Lib.bytesWorld_below w 5 t
  obtain ⟨ev, hev, hev2⟩ := (hG.below hb1).syn
  have hT := Tryd.strconv_toError_syntax ⟨#[80, 97, 114, 115, 101, 85, 105, 110, 116]⟩ t 2 64 ev (Lib.bytesWorld w 5 t) (by omega) hev hev2
  have HT := Lib.hid hT
  clear hI hx hb hv hT hev hev2
  go_enter Tryd.func73, Tryd.ntmps73
  go_wp2_with (first | (go_at_call 89; refine HI.out.mono ?_; rintro e w1 ⟨rfl, rfl⟩) | (go_at_call 90; refine HT.out.mono ?_; rintro e w2 ⟨N, rfl, h1, h2, h3⟩))
  go_ret2
  exact ⟨N, rfl, hb1.trans (h3.mono hb1.size)⟩

def HEXD : ByteArray := ⟨#[48, 49, 50, 51, 52, 53, 54, 55, 56, 57, 97, 98, 99, 100, 101, 102, 65, 66, 67, 68, 69, 70]⟩
theorem hexd_mem (c : UInt8) : HEXD.data.toList.contains c = decide (Sp.hexv c < 16) := by
  have h : ∀ n, n < 256 → HEXD.data.toList.contains (UInt8.ofNat n) = decide (Sp.hexv (UInt8.ofNat n) < 16) := by decide +kernel
  have := h c.toNat c.toNat_lt
  rw [UInt8.ofNat_toNat] at this
  exact this

def okV (o : Option Nat) : Value := .tuple #[.int .i64 (o.getD 0 : Nat), .bool o.isSome]
theorem okV_none {o : Option Nat} (h : o = none) : okV o = .tuple #[.int .i64 0, .bool false] := by rw [h]; rfl
theorem okV_some {o : Option Nat} {v : Nat} (h : o = some v) : okV o = .tuple #[.int .i64 v, .bool true] := by rw [h]; rfl

theorem scan_based_no (t : ByteArray) (base most : Int) (w : World) (hs : t.size ≤ 1073741824) (hm0 : 0 ≤ most) (hm : most ≤ 1000) (hno : t.size = 0 ∨ most < t.size ∨ ¬ t.data.toList.all (fun c => decide (Sp.hexv c < 16)) = true) :
    Calls Tryd.prog 45 #[.string t, .int .i64 base, .int .i64 most] w fun e w' => e = .returned (.tuple #[.int .i64 0, .bool false]) ∧ Below w.heap.size w w' := by
  have hp := scan_plain t HEXD w (by omega) (by decide) (by decide)
  have hpl : t.data.toList.all (HEXD.data.toList.contains ·) = t.data.toList.all (fun c => decide (Sp.hexv c < 16)) := by
    congr 1; funext c; exact hexd_mem c
  rw [hpl] at hp
  have HP := Lib.hid hp
  clear hp hpl
  by_cases h0 : t.size = 0
  · have hemp : t.toList.isEmpty = true := by
      rw [← decide_eq_emptyBytes]
      exact decide_eq_true (by apply ByteArray.ext; exact Array.eq_empty_of_size_eq_zero h0)
    clear hno h0
    go_enter Tryd.func45, Tryd.ntmps45
    go_wp2_with fail
    go_ret2
    exact ⟨rfl, Below.refl _ _⟩
  · have hemp : t.toList.isEmpty = false := by
      rw [← decide_eq_emptyBytes]
      exact decide_eq_false (fun h => h0 (by rw [h]; rfl))
    by_cases h1 : most < t.size
    · have q1 : decide (most < (t.size : Int)) = true := decide_eq_true h1
      clear hno h0 h1
      go_enter Tryd.func45, Tryd.ntmps45
      go_wp2_with fail
      go_ret2
      exact ⟨rfl, Below.refl _ _⟩
    · have q1 : decide (most < (t.size : Int)) = false := decide_eq_false h1
      have h2 : t.data.toList.all (fun c => decide (Sp.hexv c < 16)) = false := by
        rcases hno with h | h | h
        · exact absurd h h0
        · exact absurd h h1
        · simpa using h
      have hp := HP.out
      rw [h2] at hp
      have HP2 := Lib.hid hp
      clear hno h0 h1 h2 hp HP
      go_enter Tryd.func45, Tryd.ntmps45
      go_wp2_with (go_at_call 72; refine HP2.out.mono ?_; rintro e w1 ⟨rfl, hb1⟩)
      go_ret2
      exact ⟨rfl, by assumption⟩

theorem scan_based_16 (t : ByteArray) (most : Int) (w : World) (hm0 : 0 ≤ most) (hm : most ≤ 8) (h0 : t.size ≠ 0) (h1 : t.size ≤ most) (hx : t.data.toList.all (fun c => decide (Sp.hexv c < 16)) = true) :
    Calls Tryd.prog 45 #[.string t, .int .i64 16, .int .i64 most] w fun e w' => e = .returned (.tuple #[.int .i64 (Sp.digitsV 16 0 t.data.toList : Nat), .bool true]) ∧ Below w.heap.size w w' := by
  have hp := scan_plain t HEXD w (by omega) (by decide) (by decide)
  have hpl : t.data.toList.all (HEXD.data.toList.contains ·) = t.data.toList.all (fun c => decide (Sp.hexv c < 16)) := by
    congr 1; funext c; exact hexd_mem c
  rw [hpl, hx] at hp
  have HP := Lib.hid hp
  have hemp : t.toList.isEmpty = false := by
    rw [← decide_eq_emptyBytes]
    exact decide_eq_false (fun h => h0 (by rw [h]; rfl))
  have q1 : decide (most < (t.size : Int)) = false := decide_eq_false (by omega)
  have hu := fun W => pub_uint_16 t h0 (by omega) hx W
  have hlt := Sp.digitsV_lt 16 (by omega) t.data.toList hx 8 (by rw [← Lib.size_eq]; omega)
  have h8 : (16 : Nat) ^ 8 = 4294967296 := by decide
  rw [h8] at hlt
  obtain ⟨v, hv⟩ : ∃ v : Int, ((Sp.digitsV 16 0 t.data.toList : Nat) : Int) = v := ⟨_, rfl⟩
  have hv0 : 0 ≤ v := by omega
  have hv1 : v < 4294967296 := by omega
  simp only [hv] at hu ⊢
  have HU := Lib.hid hu
  clear hp hpl h0 hx hu hlt h8 hv
  go_enter Tryd.func45, Tryd.ntmps45
  go_wp2_with (first | (go_at_call 72; refine HP.out.mono ?_; rintro e w1 ⟨rfl, hb1⟩) | (go_at_call 73; refine (HU.out _).mono ?_; rintro e w2 ⟨rfl, hb2⟩))
  go_quiet (fail)
  go_wp2
  go_ret2
  exact ⟨rfl, below_drewN' (hb1.trans (hb2.mono hb1.size)) _⟩

theorem scan_based_2 (t : ByteArray) (most : Int) (w : World) (hm0 : 0 ≤ most) (hm : most ≤ 32) (h0 : t.size ≠ 0) (h1 : t.size ≤ most) (hx : t.data.toList.all (fun c => decide (Sp.hexv c < 16)) = true) (hx2 : t.data.toList.all (fun c => decide (Sp.hexv c < 2)) = true) :
    Calls Tryd.prog 45 #[.string t, .int .i64 2, .int .i64 most] w fun e w' => e = .returned (.tuple #[.int .i64 (Sp.digitsV 2 0 t.data.toList : Nat), .bool true]) ∧ Below w.heap.size w w' := by
  have hp := scan_plain t HEXD w (by omega) (by decide) (by decide)
  have hpl : t.data.toList.all (HEXD.data.toList.contains ·) = t.data.toList.all (fun c => decide (Sp.hexv c < 16)) := by
    congr 1; funext c; exact hexd_mem c
  rw [hpl, hx] at hp
  have HP := Lib.hid hp
  have hemp : t.toList.isEmpty = false := by
    rw [← decide_eq_emptyBytes]
    exact decide_eq_false (fun h => h0 (by rw [h]; rfl))
  have q1 : decide (most < (t.size : Int)) = false := decide_eq_false (by omega)
  have hu := fun W => pub_uint_2 t h0 (by omega) hx hx2 W
  have hlt := Sp.digitsV_lt 2 (by omega) t.data.toList hx2 32 (by rw [← Lib.size_eq]; omega)
  have h8 : (2 : Nat) ^ 32 = 4294967296 := by decide
  rw [h8] at hlt
  obtain ⟨v, hv⟩ : ∃ v : Int, ((Sp.digitsV 2 0 t.data.toList : Nat) : Int) = v := ⟨_, rfl⟩
  have hv0 : 0 ≤ v := by omega
  have hv1 : v < 4294967296 := by omega
  simp only [hv] at hu ⊢
  have HU := Lib.hid hu
  clear hp hpl h0 hx hx2 hu hlt h8 hv
  go_enter Tryd.func45, Tryd.ntmps45
  go_wp2_with (first | (go_at_call 72; refine HP.out.mono ?_; rintro e w1 ⟨rfl, hb1⟩) | (go_at_call 73; refine (HU.out _).mono ?_; rintro e w2 ⟨rfl, hb2⟩))
  go_quiet (fail)
  go_wp2
  go_ret2
  exact ⟨rfl, below_drewN' (hb1.trans (hb2.mono hb1.size)) _⟩

theorem scan_based_2_bad (t : ByteArray) (most : Int) (w : World) (hG : Gl w) (hm0 : 0 ≤ most) (hm : most ≤ 32) (h0 : t.size ≠ 0) (h1 : t.size ≤ most) (hx : t.data.toList.all (fun c => decide (Sp.hexv c < 16)) = true) (hx2 : ¬ t.data.toList.all (fun c => decide (Sp.hexv c < 2)) = true) :
    Calls Tryd.prog 45 #[.string t, .int .i64 2, .int .i64 most] w fun e w' => e = .returned (.tuple #[.int .i64 0, .bool false]) ∧ Below w.heap.size w w' := by
  have hp := scan_plain t HEXD w (by omega) (by decide) (by decide)
  have hpl : t.data.toList.all (HEXD.data.toList.contains ·) = t.data.toList.all (fun c => decide (Sp.hexv c < 16)) := by
    congr 1; funext c; exact hexd_mem c
  rw [hpl, hx] at hp
  have HP := Lib.hid hp
  have hemp : t.toList.isEmpty = false := by
    rw [← decide_eq_emptyBytes]
    exact decide_eq_false (fun h => h0 (by rw [h]; rfl))
  have q1 : decide (most < (t.size : Int)) = false := decide_eq_false (by omega)
  have hu := fun W hW => pub_uint_2_bad t h0 (by omega) hx hx2 W hW
  have HU := Lib.hid hu
  have HG := Lib.hid hG
  clear hp hpl h0 hx hx2 hu hG
  go_enter Tryd.func45, Tryd.ntmps45
  go_wp2_with (first | (go_at_call 72; refine HP.out.mono ?_; rintro e w1 ⟨rfl, hb1⟩) | (go_at_call 73; refine (HU.out _ (HG.out.below hb1)).mono ?_; rintro e w2 ⟨N, rfl, hb2⟩))
  go_quiet (fail)
  go_wp2
  go_ret2
  exact ⟨rfl, below_drewN' (hb1.trans (hb2.mono hb1.size)) _⟩

theorem scan_based (t : ByteArray) (base : Nat) (most : Int) (w : World) (hG : Gl w) (hs : t.size ≤ 1073741824) (hm0 : 0 ≤ most) (hm : (base = 16 ∧ most ≤ 8) ∨ (base = 2 ∧ most ≤ 32)) :
    Calls Tryd.prog 45 #[.string t, .int .i64 base, .int .i64 most] w fun e w' => e = .returned (okV (Sp.basedV base most.toNat t.data.toList)) ∧ Below w.heap.size w w' := by
  have hlen : t.data.toList.length = t.size := (Lib.size_eq t).symm
  by_cases hno : t.size = 0 ∨ most < t.size ∨ ¬ t.data.toList.all (fun c => decide (Sp.hexv c < 16)) = true
  · have hv : Sp.basedV base most.toNat t.data.toList = none := by
      unfold Sp.basedV
      rw [if_pos]
      rw [hlen]
      rcases hno with h | h | h
      · exact Or.inl h
      · exact Or.inr (Or.inl (by omega))
      · refine Or.inr (Or.inr ?_)
        have hb : base ≤ 16 := by omega
        rw [List.all_eq_false]
        have h' : t.data.toList.all (fun c => decide (Sp.hexv c < 16)) = false := by simpa using h
        rw [List.all_eq_false] at h'
        obtain ⟨c, hc1, hc2⟩ := h'
        refine ⟨c, hc1, ?_⟩
        simp only [decide_eq_true_eq] at hc2 ⊢
        omega
    rw [okV_none hv]
    exact scan_based_no t base most w hs hm0 (by omega) hno
  · have h0 : t.size ≠ 0 := fun h => hno (Or.inl h)
    have h1 : t.size ≤ most := by
      by_cases h : most < t.size
      · exact absurd (Or.inr (Or.inl h)) hno
      · omega
    have hx : t.data.toList.all (fun c => decide (Sp.hexv c < 16)) = true := by
      by_cases h : t.data.toList.all (fun c => decide (Sp.hexv c < 16)) = true
      · exact h
      · exact absurd (Or.inr (Or.inr h)) hno
    rcases hm with ⟨rfl, hm⟩ | ⟨rfl, hm⟩
    · have hv : Sp.basedV 16 most.toNat t.data.toList = some (Sp.digitsV 16 0 t.data.toList) := by
        unfold Sp.basedV
        rw [if_neg]
        rw [hlen, hx]
        rintro (h | h | h)
        · exact h0 h
        · omega
        · cases h
      rw [okV_some hv]
      exact scan_based_16 t most w hm0 hm h0 h1 hx
    · by_cases hx2 : t.data.toList.all (fun c => decide (Sp.hexv c < 2)) = true
      · have hv : Sp.basedV 2 most.toNat t.data.toList = some (Sp.digitsV 2 0 t.data.toList) := by
          unfold Sp.basedV
          rw [if_neg]
          rw [hlen, hx2]
          rintro (h | h | h)
          · exact h0 h
          · omega
          · cases h
        rw [okV_some hv]
        exact scan_based_2 t most w hm0 hm h0 h1 hx hx2
      · have hv : Sp.basedV 2 most.toNat t.data.toList = none := by
          unfold Sp.basedV
          rw [if_pos]
          exact Or.inr (Or.inr (by simpa using hx2))
        rw [okV_none hv]
        exact scan_based_2_bad t most w hG hm0 hm h0 h1 hx hx2
end Go.Proofs.YtjedoipbllcfdaaDoor
